/- The walk of the law ParseBack. -/
import Derived.Test.YtljgmbpfeajmhaaDoorPlain
import Derived.Test.YtljgmbpfeajmhaaDoorFixed
set_option linter.unusedVariables false
set_option linter.unusedSimpArgs false
namespace Go.Proofs.YtljgmbpfeajmhaaDoor
open Go.Proofs Go.Shelf Go.RowKit Go.Proofs.YtljgmbpfeajmhaaDoorW.PrintWords Go.Proofs.YtljgmbpfeajmhaaDoorW.PrintLast
attribute [local go_sem high] P.eqA24
theorem printL_len (c : Call7) (hf : c.Fits) : (printL c).length ≤ 281474976710656 := by
  have := speltL_len c hf
  unfold printL
  split
  · omega
  · simp
theorem unlike_x (c0 c1 c2 c3 c4 c5 d0 d1 d2 d3 d4 d5 : Int) (c6 d6 : List UInt8) (hc : mayL (⟨c0, c1, c2, c3, c4, c5, c6⟩ : Call7) = true) (hd : mayL (⟨d0, d1, d2, d3, d4, d5, d6⟩ : Call7) = true) : (printL (⟨c0, c1, c2, c3, c4, c5, c6⟩ : Call7) == printL (⟨d0, d1, d2, d3, d4, d5, d6⟩ : Call7)) = (c0 == d0 && (c1 == d1 && (c2 == d2 && (c3 == d3 && (c4 == d4 && (c5 == d5 && c6 == d6)))))) := by
  rw [unlike hc hd, Bool.eq_iff_iff]
  simp [Call7.mk.injEq]
section
variable (c0 c1 c2 c3 c4 c5 : Int) (c6 : List UInt8) (w : World)
theorem print_x (hf : (⟨c0, c1, c2, c3, c4, c5, c6⟩ : Call7).Fits) (ht : Tens w) (he : Errs w) : Calls Tryd.prog 13 #[.agg #[.int .i64 c0, .int .u64 c1, .int .u64 c2, .int .i64 c3, .int .i64 c4, .int .i64 c5, .string ⟨c6.toArray⟩]] w fun e w' => e = .returned (.string ⟨(printL (⟨c0, c1, c2, c3, c4, c5, c6⟩ : Call7)).toArray⟩) ∧ Below w.heap.size w w' := print_q (⟨c0, c1, c2, c3, c4, c5, c6⟩ : Call7) hf w ht he
theorem may_x (hf : (⟨c0, c1, c2, c3, c4, c5, c6⟩ : Call7).Fits) (ht : Tens w) (he : Errs w) : Calls Tryd.prog 11 #[.agg #[.int .i64 c0, .int .u64 c1, .int .u64 c2, .int .i64 c3, .int .i64 c4, .int .i64 c5, .string ⟨c6.toArray⟩]] w fun e w' => e = .returned (.bool (mayL (⟨c0, c1, c2, c3, c4, c5, c6⟩ : Call7))) ∧ Below w.heap.size w w' := may_q (⟨c0, c1, c2, c3, c4, c5, c6⟩ : Call7) hf w ht he
theorem back_yes (hf : (⟨c0, c1, c2, c3, c4, c5, c6⟩ : Call7).Fits) (ht : Tens w) (he : Errs w) (hm : mayL (⟨c0, c1, c2, c3, c4, c5, c6⟩ : Call7) = true) : Calls Tryd.prog 8 #[.string ⟨(printL (⟨c0, c1, c2, c3, c4, c5, c6⟩ : Call7)).toArray⟩] w fun e w' => e = .returned (.tuple #[.agg #[.int .i64 c0, .int .u64 c1, .int .u64 c2, .int .i64 c3, .int .i64 c4, .int .i64 c5, .string ⟨c6.toArray⟩], .int .i64 0]) ∧ Below w.heap.size w w' := by
  have := parse_q (printL (⟨c0, c1, c2, c3, c4, c5, c6⟩ : Call7)) w (printL_len _ hf) ht he
  rw [back_e, back_c, hm] at this
  exact this
theorem back_not (hf : (⟨c0, c1, c2, c3, c4, c5, c6⟩ : Call7).Fits) (ht : Tens w) (he : Errs w) (hm : mayL (⟨c0, c1, c2, c3, c4, c5, c6⟩ : Call7) = false) : Calls Tryd.prog 8 #[.string ⟨(printL (⟨c0, c1, c2, c3, c4, c5, c6⟩ : Call7)).toArray⟩] w fun e w' => e = .returned (.tuple #[.agg #[.int .i64 0, .int .u64 0, .int .u64 0, .int .i64 0, .int .i64 0, .int .i64 0, .string ⟨#[]⟩], .int .i64 210]) ∧ Below w.heap.size w w' := by
  have := parse_q (printL (⟨c0, c1, c2, c3, c4, c5, c6⟩ : Call7)) w (printL_len _ hf) ht he
  rw [back_e, back_c, hm] at this
  exact this
end
theorem parse_no (s : List UInt8) (hl : s.length ≤ 281474976710656) (w : World) (ht : Tens w) (he : Errs w) (hc : callP s = none) : Calls Tryd.prog 8 #[.string ⟨s.toArray⟩] w fun e w' => e = .returned (.tuple #[.agg #[.int .i64 0, .int .u64 0, .int .u64 0, .int .i64 0, .int .i64 0, .int .i64 0, .string ⟨#[]⟩], .int .i64 210]) ∧ Below w.heap.size w w' := parse_none s w hl ht he hc
theorem parse_yes (s : List UInt8) (hl : s.length ≤ 281474976710656) (b0 b1 b2 b3 b4 b5 : Int) (b6 : List UInt8) (w : World) (ht : Tens w) (he : Errs w) (hc : callP s = some (⟨b0, b1, b2, b3, b4, b5, b6⟩ : Call7)) : Calls Tryd.prog 8 #[.string ⟨s.toArray⟩] w fun e w' => e = .returned (.tuple #[.agg #[.int .i64 b0, .int .u64 b1, .int .u64 b2, .int .i64 b3, .int .i64 b4, .int .i64 b5, .string ⟨b6.toArray⟩], .int .i64 0]) ∧ Below w.heap.size w w' := parse_some s w hl ht he (⟨b0, b1, b2, b3, b4, b5, b6⟩ : Call7) hc
set_option maxRecDepth 100000 in
set_option maxHeartbeats 8000000 in
theorem back_nnn (c0 c1 c2 c3 c4 c5 d0 d1 d2 d3 d4 d5 : Int) (c6 d6 s : List UInt8) (hs : s.length ≤ 281474976710656) (w : World) (ht : Tens w) (he : Errs w) (hfc : (⟨c0, c1, c2, c3, c4, c5, c6⟩ : Call7).Fits) (hfd : (⟨d0, d1, d2, d3, d4, d5, d6⟩ : Call7).Fits)
    (hm : mayL (⟨c0, c1, c2, c3, c4, c5, c6⟩ : Call7) = false) (hm2 : mayL (⟨d0, d1, d2, d3, d4, d5, d6⟩ : Call7) = false) (hy : callP s = none) :
    Calls Tryd.prog 5 #[.agg #[.int .i64 c0, .int .u64 c1, .int .u64 c2, .int .i64 c3, .int .i64 c4, .int .i64 c5, .string ⟨c6.toArray⟩], .agg #[.int .i64 d0, .int .u64 d1, .int .u64 d2, .int .i64 d3, .int .i64 d4, .int .i64 d5, .string ⟨d6.toArray⟩], .string ⟨s.toArray⟩] w fun e w' => e = .returned (.bool true) ∧ Below w.heap.size w w' := by
  have HT := Aside0.mk ht
  have HE := Aside0.mk he
  have HS := Aside0.mk hs
  have HFC := Aside0.mk hfc
  have HFD := Aside0.mk hfd
  have HM := Aside0.mk hm
  have HM2 := Aside0.mk hm2
  have HY := Aside0.mk hy
  have MC := Aside0.mk (fun w1 h1 h2 => may_x c0 c1 c2 c3 c4 c5 c6 w1 hfc h1 h2)
  rw [hm] at MC
  have MD := Aside0.mk (fun w1 h1 h2 => may_x d0 d1 d2 d3 d4 d5 d6 w1 hfd h1 h2)
  rw [hm2] at MD
  clear ht he hs hfc hfd hm hm2 hy
  have D0 := Aside0.mk (below_alloc (below_alloc (Below.refl w.heap.size w) (.cells #[.int .i64 c0, .int .u64 c1, .int .u64 c2, .int .i64 c3, .int .i64 c4, .int .i64 c5, .string ⟨c6.toArray⟩] 24)) (.cells #[.int .i64 d0, .int .u64 d1, .int .u64 d2, .int .i64 d3, .int .i64 d4, .int .i64 d5, .string ⟨d6.toArray⟩] 24))
  have XC := Aside0.mk (blk_alloc (blk_new w (.cells #[.int .i64 c0, .int .u64 c1, .int .u64 c2, .int .i64 c3, .int .i64 c4, .int .i64 c5, .string ⟨c6.toArray⟩] 24)) (.cells #[.int .i64 d0, .int .u64 d1, .int .u64 d2, .int .i64 d3, .int .i64 d4, .int .i64 d5, .string ⟨d6.toArray⟩] 24))
  have XD := Aside0.mk (blk_new (w.alloc (.cells #[.int .i64 c0, .int .u64 c1, .int .u64 c2, .int .i64 c3, .int .i64 c4, .int .i64 c5, .string ⟨c6.toArray⟩] 24)) (.cells #[.int .i64 d0, .int .u64 d1, .int .u64 d2, .int .i64 d3, .int .i64 d4, .int .i64 d5, .string ⟨d6.toArray⟩] 24))
  rw [World.size_alloc] at XD
  go_enter Tryd.func5, Tryd.ntmps5
  go_wp2_with fail
  refine (print_x c0 c1 c2 c3 c4 c5 c6 _ HFC.out (HT.out.below D0.out) (HE.out.below D0.out)).mono ?_
  rintro e w1 ⟨rfl, hb⟩
  replace XC := Aside0.mk ((hb.block _ (blk_lt XC.out)).trans XC.out)
  replace XD := Aside0.mk ((hb.block _ (blk_lt XD.out)).trans XD.out)
  have D1 := Aside0.mk (below_then D0.out D0.out.size hb)
  clear hb D0
  go_wp2_with fail
  refine (back_not c0 c1 c2 c3 c4 c5 c6 _ HFC.out (HT.out.below D1.out) (HE.out.below D1.out) HM.out).mono ?_
  rintro e w2 ⟨rfl, hb⟩
  replace XC := Aside0.mk ((hb.block _ (blk_lt XC.out)).trans XC.out)
  replace XD := Aside0.mk ((hb.block _ (blk_lt XD.out)).trans XD.out)
  have D2 := Aside0.mk (below_then D1.out D1.out.size hb)
  clear hb D1
  have XA := Aside0.mk (blk_new w2 (.cells #[.int .i64 0, .int .u64 0, .int .u64 0, .int .i64 0, .int .i64 0, .int .i64 0, .string ⟨#[]⟩] 24))
  replace XC := Aside0.mk (blk_alloc XC.out (.cells #[.int .i64 0, .int .u64 0, .int .u64 0, .int .i64 0, .int .i64 0, .int .i64 0, .string ⟨#[]⟩] 24))
  replace XD := Aside0.mk (blk_alloc XD.out (.cells #[.int .i64 0, .int .u64 0, .int .u64 0, .int .i64 0, .int .i64 0, .int .i64 0, .string ⟨#[]⟩] 24))
  have E2 := Aside0.mk (below_alloc D2.out (.cells #[.int .i64 0, .int .u64 0, .int .u64 0, .int .i64 0, .int .i64 0, .int .i64 0, .string ⟨#[]⟩] 24))
  obtain ⟨ba, hba⟩ : ∃ ba, ba = w2.heap.size := ⟨_, rfl⟩
  rw [← hba] at XA
  clear D2
  go_wp2_with fail
  rw [← hba]
  clear hba
  generalize w2.alloc (.cells #[.int .i64 0, .int .u64 0, .int .u64 0, .int .i64 0, .int .i64 0, .int .i64 0, .string ⟨#[]⟩] 24) = v2 at XC XD XA E2 ⊢
  refine (parse_no s HS.out _ (HT.out.below E2.out) (HE.out.below E2.out) HY.out).mono ?_
  rintro e w3 ⟨rfl, hb⟩
  replace XC := Aside0.mk ((hb.block _ (blk_lt XC.out)).trans XC.out)
  replace XD := Aside0.mk ((hb.block _ (blk_lt XD.out)).trans XD.out)
  replace XA := Aside0.mk ((hb.block _ (blk_lt XA.out)).trans XA.out)
  have D3 := Aside0.mk (below_then E2.out E2.out.size hb)
  clear hb E2
  have XB := Aside0.mk (blk_new w3 (.cells #[.int .i64 0, .int .u64 0, .int .u64 0, .int .i64 0, .int .i64 0, .int .i64 0, .string ⟨#[]⟩] 24))
  replace XC := Aside0.mk (blk_alloc XC.out (.cells #[.int .i64 0, .int .u64 0, .int .u64 0, .int .i64 0, .int .i64 0, .int .i64 0, .string ⟨#[]⟩] 24))
  replace XD := Aside0.mk (blk_alloc XD.out (.cells #[.int .i64 0, .int .u64 0, .int .u64 0, .int .i64 0, .int .i64 0, .int .i64 0, .string ⟨#[]⟩] 24))
  replace XA := Aside0.mk (blk_alloc XA.out (.cells #[.int .i64 0, .int .u64 0, .int .u64 0, .int .i64 0, .int .i64 0, .int .i64 0, .string ⟨#[]⟩] 24))
  have E3 := Aside0.mk (below_alloc D3.out (.cells #[.int .i64 0, .int .u64 0, .int .u64 0, .int .i64 0, .int .i64 0, .int .i64 0, .string ⟨#[]⟩] 24))
  obtain ⟨bb, hbb⟩ : ∃ bb, bb = w3.heap.size := ⟨_, rfl⟩
  rw [← hbb] at XB
  clear D3
  go_wp2_with fail
  rw [← hbb]
  clear hbb
  generalize w3.alloc (.cells #[.int .i64 0, .int .u64 0, .int .u64 0, .int .i64 0, .int .i64 0, .int .i64 0, .string ⟨#[]⟩] 24) = v3 at XC XD XA XB E3 ⊢
  refine (fixed_q _ (HT.out.below E3.out) (HE.out.below E3.out)).mono ?_
  rintro e w4 ⟨rfl, hb⟩
  replace XC := Aside0.mk ((hb.block _ (blk_lt XC.out)).trans XC.out)
  replace XD := Aside0.mk ((hb.block _ (blk_lt XD.out)).trans XD.out)
  replace XA := Aside0.mk ((hb.block _ (blk_lt XA.out)).trans XA.out)
  replace XB := Aside0.mk ((hb.block _ (blk_lt XB.out)).trans XB.out)
  have D4 := Aside0.mk (below_then E3.out E3.out.size hb)
  clear hb E3
  have x0 := (blk_cell XC.out 0).trans (show _ = some (.int .i64 c0) from rfl)
  have x1 := (blk_cell XC.out 1).trans (show _ = some (.int .u64 c1) from rfl)
  have x2 := (blk_cell XC.out 2).trans (show _ = some (.int .u64 c2) from rfl)
  have x3 := (blk_cell XC.out 3).trans (show _ = some (.int .i64 c3) from rfl)
  have x4 := (blk_cell XC.out 4).trans (show _ = some (.int .i64 c4) from rfl)
  have x5 := (blk_cell XC.out 5).trans (show _ = some (.int .i64 c5) from rfl)
  have x6 := (blk_cell XC.out 6).trans (show _ = some (.string ⟨c6.toArray⟩) from rfl)
  go_wp2_with fail
  clear x0 x1 x2 x3 x4 x5 x6
  refine (MC.out _ (HT.out.below D4.out) (HE.out.below D4.out)).mono ?_
  rintro e w5 ⟨rfl, hb⟩
  replace XC := Aside0.mk ((hb.block _ (blk_lt XC.out)).trans XC.out)
  replace XD := Aside0.mk ((hb.block _ (blk_lt XD.out)).trans XD.out)
  replace XA := Aside0.mk ((hb.block _ (blk_lt XA.out)).trans XA.out)
  replace XB := Aside0.mk ((hb.block _ (blk_lt XB.out)).trans XB.out)
  have D5 := Aside0.mk (below_then D4.out D4.out.size hb)
  clear hb D4
  go_wp2_with fail
  have p0 : w5.drew.cell? ⟨w.heap.size, 0, none⟩ = some (.int .i64 c0) := (blk_cell XC.out 0).trans rfl
  have p1 : w5.drew.cell? ⟨w.heap.size, 1, none⟩ = some (.int .u64 c1) := (blk_cell XC.out 1).trans rfl
  have p2 : w5.drew.cell? ⟨w.heap.size, 2, none⟩ = some (.int .u64 c2) := (blk_cell XC.out 2).trans rfl
  have p3 : w5.drew.cell? ⟨w.heap.size, 3, none⟩ = some (.int .i64 c3) := (blk_cell XC.out 3).trans rfl
  have p4 : w5.drew.cell? ⟨w.heap.size, 4, none⟩ = some (.int .i64 c4) := (blk_cell XC.out 4).trans rfl
  have p5 : w5.drew.cell? ⟨w.heap.size, 5, none⟩ = some (.int .i64 c5) := (blk_cell XC.out 5).trans rfl
  have p6 : w5.drew.cell? ⟨w.heap.size, 6, none⟩ = some (.string ⟨c6.toArray⟩) := (blk_cell XC.out 6).trans rfl
  have q0 : w5.drew.cell? ⟨w.heap.size + 1, 0, none⟩ = some (.int .i64 d0) := (blk_cell XD.out 0).trans rfl
  have q1 : w5.drew.cell? ⟨w.heap.size + 1, 1, none⟩ = some (.int .u64 d1) := (blk_cell XD.out 1).trans rfl
  have q2 : w5.drew.cell? ⟨w.heap.size + 1, 2, none⟩ = some (.int .u64 d2) := (blk_cell XD.out 2).trans rfl
  have q3 : w5.drew.cell? ⟨w.heap.size + 1, 3, none⟩ = some (.int .i64 d3) := (blk_cell XD.out 3).trans rfl
  have q4 : w5.drew.cell? ⟨w.heap.size + 1, 4, none⟩ = some (.int .i64 d4) := (blk_cell XD.out 4).trans rfl
  have q5 : w5.drew.cell? ⟨w.heap.size + 1, 5, none⟩ = some (.int .i64 d5) := (blk_cell XD.out 5).trans rfl
  have q6 : w5.drew.cell? ⟨w.heap.size + 1, 6, none⟩ = some (.string ⟨d6.toArray⟩) := (blk_cell XD.out 6).trans rfl
  have XBd : w5.drew.heap[bb]? = some (.cells #[.int .i64 0, .int .u64 0, .int .u64 0, .int .i64 0, .int .i64 0, .int .i64 0, .string ⟨#[]⟩] 24 (0, 0)) := XB.out
  have DDr := below_drew D5.out
  clear XC XD XA XB D5
  refine start_ (n := 17) (S := fun w' => w'.cell? ⟨w.heap.size, 0, none⟩ = some (.int .i64 c0) ∧ w'.cell? ⟨w.heap.size, 1, none⟩ = some (.int .u64 c1) ∧ w'.cell? ⟨w.heap.size, 2, none⟩ = some (.int .u64 c2) ∧ w'.cell? ⟨w.heap.size, 3, none⟩ = some (.int .i64 c3) ∧ w'.cell? ⟨w.heap.size, 4, none⟩ = some (.int .i64 c4) ∧ w'.cell? ⟨w.heap.size, 5, none⟩ = some (.int .i64 c5) ∧ w'.cell? ⟨w.heap.size, 6, none⟩ = some (.string ⟨c6.toArray⟩) ∧ w'.cell? ⟨w.heap.size + 1, 0, none⟩ = some (.int .i64 d0) ∧ w'.cell? ⟨w.heap.size + 1, 1, none⟩ = some (.int .u64 d1) ∧ w'.cell? ⟨w.heap.size + 1, 2, none⟩ = some (.int .u64 d2) ∧ w'.cell? ⟨w.heap.size + 1, 3, none⟩ = some (.int .i64 d3) ∧ w'.cell? ⟨w.heap.size + 1, 4, none⟩ = some (.int .i64 d4) ∧ w'.cell? ⟨w.heap.size + 1, 5, none⟩ = some (.int .i64 d5) ∧ w'.cell? ⟨w.heap.size + 1, 6, none⟩ = some (.string ⟨d6.toArray⟩) ∧ Below w.heap.size w w' ∧ w'.heap[bb]? = some (.cells #[.int .i64 0, .int .u64 0, .int .u64 0, .int .i64 0, .int .i64 0, .int .i64 0, .string ⟨#[]⟩] 24 (0, 0))) (ds := []) #[false, false, false, false, false, false, false, false, false, false, false, false, false, false, false, false, false] (by kernel_rfl) rfl rfl ⟨p0, p1, p2, p3, p4, p5, p6, q0, q1, q2, q3, q4, q5, q6, DDr, XBd⟩ (fun hHeld => ?_)
  refine take_ (i := 0) (N := some 40) (v := ?_) (a' := ?_) #[true, false, false, false, false, false, false, false, false, false, false, false, false, false, false, false, false] rfl rfl (by kernel_rfl) (fun _ _ _ h => h) (Or.inl ⟨by rfl, ?_⟩) hHeld ?_ ?_
  rotate_left
  · rintro w' ⟨s0, s1, s2, s3, s4, s5, s6, s7, s8, s9, s10, s11, s12, s13, s14, s15⟩
    go_simp
    with_reducible rfl
  rotate_left
  · simp only [Act.put, List.setIfInBounds_toArray, List.set_cons_zero, List.set_cons_succ, i64_w, i32_w]
    rfl
  refine one_ (i := 1) (N := some 41) #[true, true, false, false, false, false, false, false, false, false, false, false, false, false, false, false, false] rfl rfl (by kernel_rfl) (by decide) (fun K hK => ?_)
  refine goes_ Tryd.func11 (by kernel_rfl) rfl #[.agg #[.int .i64 c0, .int .u64 c1, .int .u64 c2, .int .i64 c3, .int .i64 c4, .int .i64 c5, .string ⟨c6.toArray⟩]] (by rfl) rfl rfl (by simp only [List.map_toArray, List.map_cons, List.map_nil]; rfl) ?_
  with_reducible refine (MC.out _ (HT.out.below (hHeld.2.2.2.2.2.2.2.2.2.2.2.2.2.2.1)) (HE.out.below (hHeld.2.2.2.2.2.2.2.2.2.2.2.2.2.2.1))).mono ?_
  rintro e w8 ⟨rfl, hb3⟩
  refine ⟨_, rfl, ?_⟩
  refine hK.out _ _ ⟨pw_cell_below hb3 (hHeld.1), pw_cell_below hb3 (hHeld.2.1), pw_cell_below hb3 (hHeld.2.2.1), pw_cell_below hb3 (hHeld.2.2.2.1), pw_cell_below hb3 (hHeld.2.2.2.2.1), pw_cell_below hb3 (hHeld.2.2.2.2.2.1), pw_cell_below hb3 (hHeld.2.2.2.2.2.2.1), pw_cell_below hb3 (hHeld.2.2.2.2.2.2.2.1), pw_cell_below hb3 (hHeld.2.2.2.2.2.2.2.2.1), pw_cell_below hb3 (hHeld.2.2.2.2.2.2.2.2.2.1), pw_cell_below hb3 (hHeld.2.2.2.2.2.2.2.2.2.2.1), pw_cell_below hb3 (hHeld.2.2.2.2.2.2.2.2.2.2.2.1), pw_cell_below hb3 (hHeld.2.2.2.2.2.2.2.2.2.2.2.2.1), pw_cell_below hb3 (hHeld.2.2.2.2.2.2.2.2.2.2.2.2.2.1), below_then (hHeld.2.2.2.2.2.2.2.2.2.2.2.2.2.2.1) (hHeld.2.2.2.2.2.2.2.2.2.2.2.2.2.2.1).size hb3, (hb3.block _ (blk_lt (hHeld.2.2.2.2.2.2.2.2.2.2.2.2.2.2.2))).trans (hHeld.2.2.2.2.2.2.2.2.2.2.2.2.2.2.2)⟩ (fun hHeld => ?_)
  clear hK K
  refine norm_ (a' := ?_) ?_ ?_
  rotate_left
  · show Act.put _ (some 41) _ = _
    simp only [Act.put, List.setIfInBounds_toArray, List.set_cons_zero, List.set_cons_succ, i64_w, i32_w]
    rfl
  refine pure_ (i := 2) (N := some 42) (v := ?_) (a' := ?_) #[true, true, true, false, false, false, false, false, false, false, false, false, false, false, false, false, false] rfl rfl (by kernel_rfl) (fun _ _ _ h => h) (Or.inl ⟨by rfl, ?_⟩) ?_ ?_
  rotate_left
  · intro w'
    go_simp
    with_reducible rfl
  rotate_left
  · simp only [Act.put, List.setIfInBounds_toArray, List.set_cons_zero, List.set_cons_succ, i64_w, i32_w]
    rfl
  refine pure_ (i := 3) (N := some 43) (v := undef) (a' := ?_) #[true, true, true, true, false, false, false, false, false, false, false, false, false, false, false, false, false] rfl rfl (by kernel_rfl) (fun _ _ _ h => h) (Or.inr ⟨by rfl, rfl⟩) ?_ ?_
  rotate_left
  · simp only [Act.put, List.setIfInBounds_toArray, List.set_cons_zero, List.set_cons_succ, i64_w, i32_w]
    rfl
  refine pure_ (i := 4) (N := some 44) (v := undef) (a' := ?_) #[true, true, true, true, true, false, false, false, false, false, false, false, false, false, false, false, false] rfl rfl (by kernel_rfl) (fun _ _ _ h => h) (Or.inr ⟨by rfl, rfl⟩) ?_ ?_
  rotate_left
  · simp only [Act.put, List.setIfInBounds_toArray, List.set_cons_zero, List.set_cons_succ, i64_w, i32_w]
    rfl
  refine pure_ (i := 5) (N := some 45) (v := ?_) (a' := ?_) #[true, true, true, true, true, true, false, false, false, false, false, false, false, false, false, false, false] rfl rfl (by kernel_rfl) (fun _ _ _ h => h) (Or.inl ⟨by rfl, ?_⟩) ?_ ?_
  rotate_left
  · intro w'
    go_simp
    with_reducible rfl
  rotate_left
  · simp only [Act.put, List.setIfInBounds_toArray, List.set_cons_zero, List.set_cons_succ, i64_w, i32_w]
    rfl
  refine pure_ (i := 6) (N := some 46) (v := ?_) (a' := ?_) #[true, true, true, true, true, true, true, false, false, false, false, false, false, false, false, false, false] rfl rfl (by kernel_rfl) (fun _ _ _ h => h) (Or.inl ⟨by rfl, ?_⟩) ?_ ?_
  rotate_left
  · intro w'
    go_simp
    with_reducible rfl
  rotate_left
  · simp only [Act.put, List.setIfInBounds_toArray, List.set_cons_zero, List.set_cons_succ, i64_w, i32_w]
    rfl
  refine pure_ (i := 7) (N := some 47) (v := undef) (a' := ?_) #[true, true, true, true, true, true, true, true, false, false, false, false, false, false, false, false, false] rfl rfl (by kernel_rfl) (fun _ _ _ h => h) (Or.inr ⟨by rfl, rfl⟩) ?_ ?_
  rotate_left
  · simp only [Act.put, List.setIfInBounds_toArray, List.set_cons_zero, List.set_cons_succ, i64_w, i32_w]
    rfl
  refine pure_ (i := 8) (N := some 48) (v := undef) (a' := ?_) #[true, true, true, true, true, true, true, true, true, false, false, false, false, false, false, false, false] rfl rfl (by kernel_rfl) (fun _ _ _ h => h) (Or.inr ⟨by rfl, rfl⟩) ?_ ?_
  rotate_left
  · simp only [Act.put, List.setIfInBounds_toArray, List.set_cons_zero, List.set_cons_succ, i64_w, i32_w]
    rfl
  refine pure_ (i := 9) (N := some 49) (v := undef) (a' := ?_) #[true, true, true, true, true, true, true, true, true, true, false, false, false, false, false, false, false] rfl rfl (by kernel_rfl) (fun _ _ _ h => h) (Or.inr ⟨by rfl, rfl⟩) ?_ ?_
  rotate_left
  · simp only [Act.put, List.setIfInBounds_toArray, List.set_cons_zero, List.set_cons_succ, i64_w, i32_w]
    rfl
  refine pure_ (i := 10) (N := some 50) (v := undef) (a' := ?_) #[true, true, true, true, true, true, true, true, true, true, true, false, false, false, false, false, false] rfl rfl (by kernel_rfl) (fun _ _ _ h => h) (Or.inr ⟨by rfl, rfl⟩) ?_ ?_
  rotate_left
  · simp only [Act.put, List.setIfInBounds_toArray, List.set_cons_zero, List.set_cons_succ, i64_w, i32_w]
    rfl
  refine pure_ (i := 11) (N := some 51) (v := undef) (a' := ?_) #[true, true, true, true, true, true, true, true, true, true, true, true, false, false, false, false, false] rfl rfl (by kernel_rfl) (fun _ _ _ h => h) (Or.inr ⟨by rfl, rfl⟩) ?_ ?_
  rotate_left
  · simp only [Act.put, List.setIfInBounds_toArray, List.set_cons_zero, List.set_cons_succ, i64_w, i32_w]
    rfl
  refine pure_ (i := 12) (N := some 52) (v := undef) (a' := ?_) #[true, true, true, true, true, true, true, true, true, true, true, true, true, false, false, false, false] rfl rfl (by kernel_rfl) (fun _ _ _ h => h) (Or.inr ⟨by rfl, rfl⟩) ?_ ?_
  rotate_left
  · simp only [Act.put, List.setIfInBounds_toArray, List.set_cons_zero, List.set_cons_succ, i64_w, i32_w]
    rfl
  refine pure_ (i := 13) (N := some 53) (v := undef) (a' := ?_) #[true, true, true, true, true, true, true, true, true, true, true, true, true, true, false, false, false] rfl rfl (by kernel_rfl) (fun _ _ _ h => h) (Or.inr ⟨by rfl, rfl⟩) ?_ ?_
  rotate_left
  · simp only [Act.put, List.setIfInBounds_toArray, List.set_cons_zero, List.set_cons_succ, i64_w, i32_w]
    rfl
  refine pure_ (i := 14) (N := some 54) (v := undef) (a' := ?_) #[true, true, true, true, true, true, true, true, true, true, true, true, true, true, true, false, false] rfl rfl (by kernel_rfl) (fun _ _ _ h => h) (Or.inr ⟨by rfl, rfl⟩) ?_ ?_
  rotate_left
  · simp only [Act.put, List.setIfInBounds_toArray, List.set_cons_zero, List.set_cons_succ, i64_w, i32_w]
    rfl
  refine pure_ (i := 15) (N := some 55) (v := undef) (a' := ?_) #[true, true, true, true, true, true, true, true, true, true, true, true, true, true, true, true, false] rfl rfl (by kernel_rfl) (fun _ _ _ h => h) (Or.inr ⟨by rfl, rfl⟩) ?_ ?_
  rotate_left
  · simp only [Act.put, List.setIfInBounds_toArray, List.set_cons_zero, List.set_cons_succ, i64_w, i32_w]
    rfl
  refine pure_ (i := 16) (N := some 56) (v := ?_) (a' := ?_) #[true, true, true, true, true, true, true, true, true, true, true, true, true, true, true, true, true] rfl rfl (by kernel_rfl) (fun _ _ _ h => h) (Or.inl ⟨by rfl, ?_⟩) ?_ ?_
  rotate_left
  · intro w'
    go_simp
    with_reducible rfl
  rotate_left
  · simp only [Act.put, List.setIfInBounds_toArray, List.set_cons_zero, List.set_cons_succ, i64_w, i32_w]
    rfl
  refine done_ (by kernel_rfl) ?_
  have DD := Aside0.mk (hHeld.2.2.2.2.2.2.2.2.2.2.2.2.2.2.1)
  have XB := Aside0.mk (hHeld.2.2.2.2.2.2.2.2.2.2.2.2.2.2.2)
  clear hHeld p0 q0 p1 q1 p2 q2 p3 q3 p4 q4 p5 q5 p6 q6
  --BEHIND
  clear XBd DDr
  have x0 := (blk_cell XB.out 0).trans (show _ = some (.int .i64 0) from rfl)
  have x1 := (blk_cell XB.out 1).trans (show _ = some (.int .u64 0) from rfl)
  have x2 := (blk_cell XB.out 2).trans (show _ = some (.int .u64 0) from rfl)
  have x3 := (blk_cell XB.out 3).trans (show _ = some (.int .i64 0) from rfl)
  have x4 := (blk_cell XB.out 4).trans (show _ = some (.int .i64 0) from rfl)
  have x5 := (blk_cell XB.out 5).trans (show _ = some (.int .i64 0) from rfl)
  have x6 := (blk_cell XB.out 6).trans (show _ = some (.string ⟨#[]⟩) from rfl)
  go_wp2
  go_ret
  exact ⟨rfl, DD.out⟩
set_option maxRecDepth 100000 in
set_option maxHeartbeats 8000000 in
theorem back_nnt (c0 c1 c2 c3 c4 c5 d0 d1 d2 d3 d4 d5 b0 b1 b2 b3 b4 b5 : Int) (c6 d6 b6 s : List UInt8) (hs : s.length ≤ 281474976710656) (w : World) (ht : Tens w) (he : Errs w) (hfc : (⟨c0, c1, c2, c3, c4, c5, c6⟩ : Call7).Fits) (hfd : (⟨d0, d1, d2, d3, d4, d5, d6⟩ : Call7).Fits)
    (hm : mayL (⟨c0, c1, c2, c3, c4, c5, c6⟩ : Call7) = false) (hm2 : mayL (⟨d0, d1, d2, d3, d4, d5, d6⟩ : Call7) = false) (hy : callP s = some (⟨b0, b1, b2, b3, b4, b5, b6⟩ : Call7)) :
    Calls Tryd.prog 5 #[.agg #[.int .i64 c0, .int .u64 c1, .int .u64 c2, .int .i64 c3, .int .i64 c4, .int .i64 c5, .string ⟨c6.toArray⟩], .agg #[.int .i64 d0, .int .u64 d1, .int .u64 d2, .int .i64 d3, .int .i64 d4, .int .i64 d5, .string ⟨d6.toArray⟩], .string ⟨s.toArray⟩] w fun e w' => e = .returned (.bool true) ∧ Below w.heap.size w w' := by
  have HT := Aside0.mk ht
  have HE := Aside0.mk he
  have HS := Aside0.mk hs
  have HFC := Aside0.mk hfc
  have HFD := Aside0.mk hfd
  have HM := Aside0.mk hm
  have HM2 := Aside0.mk hm2
  have HY := Aside0.mk hy
  have HFB := Aside0.mk (said_of hy).fits
  have HMB := Aside0.mk (may_of hy)
  have HPB := Aside0.mk (print_of hy)
  have MC := Aside0.mk (fun w1 h1 h2 => may_x c0 c1 c2 c3 c4 c5 c6 w1 hfc h1 h2)
  rw [hm] at MC
  have MD := Aside0.mk (fun w1 h1 h2 => may_x d0 d1 d2 d3 d4 d5 d6 w1 hfd h1 h2)
  rw [hm2] at MD
  have MB := Aside0.mk (fun w1 h1 h2 => may_x b0 b1 b2 b3 b4 b5 b6 w1 HFB.out h1 h2)
  rw [HMB.out] at MB
  have PB := Aside0.mk (fun w1 h1 h2 => print_x b0 b1 b2 b3 b4 b5 b6 w1 HFB.out h1 h2)
  rw [HPB.out] at PB
  clear ht he hs hfc hfd hm hm2 hy
  have D0 := Aside0.mk (below_alloc (below_alloc (Below.refl w.heap.size w) (.cells #[.int .i64 c0, .int .u64 c1, .int .u64 c2, .int .i64 c3, .int .i64 c4, .int .i64 c5, .string ⟨c6.toArray⟩] 24)) (.cells #[.int .i64 d0, .int .u64 d1, .int .u64 d2, .int .i64 d3, .int .i64 d4, .int .i64 d5, .string ⟨d6.toArray⟩] 24))
  have XC := Aside0.mk (blk_alloc (blk_new w (.cells #[.int .i64 c0, .int .u64 c1, .int .u64 c2, .int .i64 c3, .int .i64 c4, .int .i64 c5, .string ⟨c6.toArray⟩] 24)) (.cells #[.int .i64 d0, .int .u64 d1, .int .u64 d2, .int .i64 d3, .int .i64 d4, .int .i64 d5, .string ⟨d6.toArray⟩] 24))
  have XD := Aside0.mk (blk_new (w.alloc (.cells #[.int .i64 c0, .int .u64 c1, .int .u64 c2, .int .i64 c3, .int .i64 c4, .int .i64 c5, .string ⟨c6.toArray⟩] 24)) (.cells #[.int .i64 d0, .int .u64 d1, .int .u64 d2, .int .i64 d3, .int .i64 d4, .int .i64 d5, .string ⟨d6.toArray⟩] 24))
  rw [World.size_alloc] at XD
  go_enter Tryd.func5, Tryd.ntmps5
  go_wp2_with fail
  refine (print_x c0 c1 c2 c3 c4 c5 c6 _ HFC.out (HT.out.below D0.out) (HE.out.below D0.out)).mono ?_
  rintro e w1 ⟨rfl, hb⟩
  replace XC := Aside0.mk ((hb.block _ (blk_lt XC.out)).trans XC.out)
  replace XD := Aside0.mk ((hb.block _ (blk_lt XD.out)).trans XD.out)
  have D1 := Aside0.mk (below_then D0.out D0.out.size hb)
  clear hb D0
  go_wp2_with fail
  refine (back_not c0 c1 c2 c3 c4 c5 c6 _ HFC.out (HT.out.below D1.out) (HE.out.below D1.out) HM.out).mono ?_
  rintro e w2 ⟨rfl, hb⟩
  replace XC := Aside0.mk ((hb.block _ (blk_lt XC.out)).trans XC.out)
  replace XD := Aside0.mk ((hb.block _ (blk_lt XD.out)).trans XD.out)
  have D2 := Aside0.mk (below_then D1.out D1.out.size hb)
  clear hb D1
  have XA := Aside0.mk (blk_new w2 (.cells #[.int .i64 0, .int .u64 0, .int .u64 0, .int .i64 0, .int .i64 0, .int .i64 0, .string ⟨#[]⟩] 24))
  replace XC := Aside0.mk (blk_alloc XC.out (.cells #[.int .i64 0, .int .u64 0, .int .u64 0, .int .i64 0, .int .i64 0, .int .i64 0, .string ⟨#[]⟩] 24))
  replace XD := Aside0.mk (blk_alloc XD.out (.cells #[.int .i64 0, .int .u64 0, .int .u64 0, .int .i64 0, .int .i64 0, .int .i64 0, .string ⟨#[]⟩] 24))
  have E2 := Aside0.mk (below_alloc D2.out (.cells #[.int .i64 0, .int .u64 0, .int .u64 0, .int .i64 0, .int .i64 0, .int .i64 0, .string ⟨#[]⟩] 24))
  obtain ⟨ba, hba⟩ : ∃ ba, ba = w2.heap.size := ⟨_, rfl⟩
  rw [← hba] at XA
  clear D2
  go_wp2_with fail
  rw [← hba]
  clear hba
  generalize w2.alloc (.cells #[.int .i64 0, .int .u64 0, .int .u64 0, .int .i64 0, .int .i64 0, .int .i64 0, .string ⟨#[]⟩] 24) = v2 at XC XD XA E2 ⊢
  refine (parse_yes s HS.out b0 b1 b2 b3 b4 b5 b6 _ (HT.out.below E2.out) (HE.out.below E2.out) HY.out).mono ?_
  rintro e w3 ⟨rfl, hb⟩
  replace XC := Aside0.mk ((hb.block _ (blk_lt XC.out)).trans XC.out)
  replace XD := Aside0.mk ((hb.block _ (blk_lt XD.out)).trans XD.out)
  replace XA := Aside0.mk ((hb.block _ (blk_lt XA.out)).trans XA.out)
  have D3 := Aside0.mk (below_then E2.out E2.out.size hb)
  clear hb E2
  have XB := Aside0.mk (blk_new w3 (.cells #[.int .i64 b0, .int .u64 b1, .int .u64 b2, .int .i64 b3, .int .i64 b4, .int .i64 b5, .string ⟨b6.toArray⟩] 24))
  replace XC := Aside0.mk (blk_alloc XC.out (.cells #[.int .i64 b0, .int .u64 b1, .int .u64 b2, .int .i64 b3, .int .i64 b4, .int .i64 b5, .string ⟨b6.toArray⟩] 24))
  replace XD := Aside0.mk (blk_alloc XD.out (.cells #[.int .i64 b0, .int .u64 b1, .int .u64 b2, .int .i64 b3, .int .i64 b4, .int .i64 b5, .string ⟨b6.toArray⟩] 24))
  replace XA := Aside0.mk (blk_alloc XA.out (.cells #[.int .i64 b0, .int .u64 b1, .int .u64 b2, .int .i64 b3, .int .i64 b4, .int .i64 b5, .string ⟨b6.toArray⟩] 24))
  have E3 := Aside0.mk (below_alloc D3.out (.cells #[.int .i64 b0, .int .u64 b1, .int .u64 b2, .int .i64 b3, .int .i64 b4, .int .i64 b5, .string ⟨b6.toArray⟩] 24))
  obtain ⟨bb, hbb⟩ : ∃ bb, bb = w3.heap.size := ⟨_, rfl⟩
  rw [← hbb] at XB
  clear D3
  go_wp2_with fail
  rw [← hbb]
  clear hbb
  generalize w3.alloc (.cells #[.int .i64 b0, .int .u64 b1, .int .u64 b2, .int .i64 b3, .int .i64 b4, .int .i64 b5, .string ⟨b6.toArray⟩] 24) = v3 at XC XD XA XB E3 ⊢
  refine (fixed_q _ (HT.out.below E3.out) (HE.out.below E3.out)).mono ?_
  rintro e w4 ⟨rfl, hb⟩
  replace XC := Aside0.mk ((hb.block _ (blk_lt XC.out)).trans XC.out)
  replace XD := Aside0.mk ((hb.block _ (blk_lt XD.out)).trans XD.out)
  replace XA := Aside0.mk ((hb.block _ (blk_lt XA.out)).trans XA.out)
  replace XB := Aside0.mk ((hb.block _ (blk_lt XB.out)).trans XB.out)
  have D4 := Aside0.mk (below_then E3.out E3.out.size hb)
  clear hb E3
  have x0 := (blk_cell XC.out 0).trans (show _ = some (.int .i64 c0) from rfl)
  have x1 := (blk_cell XC.out 1).trans (show _ = some (.int .u64 c1) from rfl)
  have x2 := (blk_cell XC.out 2).trans (show _ = some (.int .u64 c2) from rfl)
  have x3 := (blk_cell XC.out 3).trans (show _ = some (.int .i64 c3) from rfl)
  have x4 := (blk_cell XC.out 4).trans (show _ = some (.int .i64 c4) from rfl)
  have x5 := (blk_cell XC.out 5).trans (show _ = some (.int .i64 c5) from rfl)
  have x6 := (blk_cell XC.out 6).trans (show _ = some (.string ⟨c6.toArray⟩) from rfl)
  go_wp2_with fail
  clear x0 x1 x2 x3 x4 x5 x6
  refine (MC.out _ (HT.out.below D4.out) (HE.out.below D4.out)).mono ?_
  rintro e w5 ⟨rfl, hb⟩
  replace XC := Aside0.mk ((hb.block _ (blk_lt XC.out)).trans XC.out)
  replace XD := Aside0.mk ((hb.block _ (blk_lt XD.out)).trans XD.out)
  replace XA := Aside0.mk ((hb.block _ (blk_lt XA.out)).trans XA.out)
  replace XB := Aside0.mk ((hb.block _ (blk_lt XB.out)).trans XB.out)
  have D5 := Aside0.mk (below_then D4.out D4.out.size hb)
  clear hb D4
  go_wp2_with fail
  have p0 : w5.drew.cell? ⟨w.heap.size, 0, none⟩ = some (.int .i64 c0) := (blk_cell XC.out 0).trans rfl
  have p1 : w5.drew.cell? ⟨w.heap.size, 1, none⟩ = some (.int .u64 c1) := (blk_cell XC.out 1).trans rfl
  have p2 : w5.drew.cell? ⟨w.heap.size, 2, none⟩ = some (.int .u64 c2) := (blk_cell XC.out 2).trans rfl
  have p3 : w5.drew.cell? ⟨w.heap.size, 3, none⟩ = some (.int .i64 c3) := (blk_cell XC.out 3).trans rfl
  have p4 : w5.drew.cell? ⟨w.heap.size, 4, none⟩ = some (.int .i64 c4) := (blk_cell XC.out 4).trans rfl
  have p5 : w5.drew.cell? ⟨w.heap.size, 5, none⟩ = some (.int .i64 c5) := (blk_cell XC.out 5).trans rfl
  have p6 : w5.drew.cell? ⟨w.heap.size, 6, none⟩ = some (.string ⟨c6.toArray⟩) := (blk_cell XC.out 6).trans rfl
  have q0 : w5.drew.cell? ⟨w.heap.size + 1, 0, none⟩ = some (.int .i64 d0) := (blk_cell XD.out 0).trans rfl
  have q1 : w5.drew.cell? ⟨w.heap.size + 1, 1, none⟩ = some (.int .u64 d1) := (blk_cell XD.out 1).trans rfl
  have q2 : w5.drew.cell? ⟨w.heap.size + 1, 2, none⟩ = some (.int .u64 d2) := (blk_cell XD.out 2).trans rfl
  have q3 : w5.drew.cell? ⟨w.heap.size + 1, 3, none⟩ = some (.int .i64 d3) := (blk_cell XD.out 3).trans rfl
  have q4 : w5.drew.cell? ⟨w.heap.size + 1, 4, none⟩ = some (.int .i64 d4) := (blk_cell XD.out 4).trans rfl
  have q5 : w5.drew.cell? ⟨w.heap.size + 1, 5, none⟩ = some (.int .i64 d5) := (blk_cell XD.out 5).trans rfl
  have q6 : w5.drew.cell? ⟨w.heap.size + 1, 6, none⟩ = some (.string ⟨d6.toArray⟩) := (blk_cell XD.out 6).trans rfl
  have XBd : w5.drew.heap[bb]? = some (.cells #[.int .i64 b0, .int .u64 b1, .int .u64 b2, .int .i64 b3, .int .i64 b4, .int .i64 b5, .string ⟨b6.toArray⟩] 24 (0, 0)) := XB.out
  have DDr := below_drew D5.out
  clear XC XD XA XB D5
  refine start_ (n := 17) (S := fun w' => w'.cell? ⟨w.heap.size, 0, none⟩ = some (.int .i64 c0) ∧ w'.cell? ⟨w.heap.size, 1, none⟩ = some (.int .u64 c1) ∧ w'.cell? ⟨w.heap.size, 2, none⟩ = some (.int .u64 c2) ∧ w'.cell? ⟨w.heap.size, 3, none⟩ = some (.int .i64 c3) ∧ w'.cell? ⟨w.heap.size, 4, none⟩ = some (.int .i64 c4) ∧ w'.cell? ⟨w.heap.size, 5, none⟩ = some (.int .i64 c5) ∧ w'.cell? ⟨w.heap.size, 6, none⟩ = some (.string ⟨c6.toArray⟩) ∧ w'.cell? ⟨w.heap.size + 1, 0, none⟩ = some (.int .i64 d0) ∧ w'.cell? ⟨w.heap.size + 1, 1, none⟩ = some (.int .u64 d1) ∧ w'.cell? ⟨w.heap.size + 1, 2, none⟩ = some (.int .u64 d2) ∧ w'.cell? ⟨w.heap.size + 1, 3, none⟩ = some (.int .i64 d3) ∧ w'.cell? ⟨w.heap.size + 1, 4, none⟩ = some (.int .i64 d4) ∧ w'.cell? ⟨w.heap.size + 1, 5, none⟩ = some (.int .i64 d5) ∧ w'.cell? ⟨w.heap.size + 1, 6, none⟩ = some (.string ⟨d6.toArray⟩) ∧ Below w.heap.size w w' ∧ w'.heap[bb]? = some (.cells #[.int .i64 b0, .int .u64 b1, .int .u64 b2, .int .i64 b3, .int .i64 b4, .int .i64 b5, .string ⟨b6.toArray⟩] 24 (0, 0))) (ds := []) #[false, false, false, false, false, false, false, false, false, false, false, false, false, false, false, false, false] (by kernel_rfl) rfl rfl ⟨p0, p1, p2, p3, p4, p5, p6, q0, q1, q2, q3, q4, q5, q6, DDr, XBd⟩ (fun hHeld => ?_)
  refine take_ (i := 0) (N := some 40) (v := ?_) (a' := ?_) #[true, false, false, false, false, false, false, false, false, false, false, false, false, false, false, false, false] rfl rfl (by kernel_rfl) (fun _ _ _ h => h) (Or.inl ⟨by rfl, ?_⟩) hHeld ?_ ?_
  rotate_left
  · rintro w' ⟨s0, s1, s2, s3, s4, s5, s6, s7, s8, s9, s10, s11, s12, s13, s14, s15⟩
    go_simp
    with_reducible rfl
  rotate_left
  · simp only [Act.put, List.setIfInBounds_toArray, List.set_cons_zero, List.set_cons_succ, i64_w, i32_w]
    rfl
  refine one_ (i := 1) (N := some 41) #[true, true, false, false, false, false, false, false, false, false, false, false, false, false, false, false, false] rfl rfl (by kernel_rfl) (by decide) (fun K hK => ?_)
  refine goes_ Tryd.func11 (by kernel_rfl) rfl #[.agg #[.int .i64 c0, .int .u64 c1, .int .u64 c2, .int .i64 c3, .int .i64 c4, .int .i64 c5, .string ⟨c6.toArray⟩]] (by rfl) rfl rfl (by simp only [List.map_toArray, List.map_cons, List.map_nil]; rfl) ?_
  with_reducible refine (MC.out _ (HT.out.below (hHeld.2.2.2.2.2.2.2.2.2.2.2.2.2.2.1)) (HE.out.below (hHeld.2.2.2.2.2.2.2.2.2.2.2.2.2.2.1))).mono ?_
  rintro e w8 ⟨rfl, hb3⟩
  refine ⟨_, rfl, ?_⟩
  refine hK.out _ _ ⟨pw_cell_below hb3 (hHeld.1), pw_cell_below hb3 (hHeld.2.1), pw_cell_below hb3 (hHeld.2.2.1), pw_cell_below hb3 (hHeld.2.2.2.1), pw_cell_below hb3 (hHeld.2.2.2.2.1), pw_cell_below hb3 (hHeld.2.2.2.2.2.1), pw_cell_below hb3 (hHeld.2.2.2.2.2.2.1), pw_cell_below hb3 (hHeld.2.2.2.2.2.2.2.1), pw_cell_below hb3 (hHeld.2.2.2.2.2.2.2.2.1), pw_cell_below hb3 (hHeld.2.2.2.2.2.2.2.2.2.1), pw_cell_below hb3 (hHeld.2.2.2.2.2.2.2.2.2.2.1), pw_cell_below hb3 (hHeld.2.2.2.2.2.2.2.2.2.2.2.1), pw_cell_below hb3 (hHeld.2.2.2.2.2.2.2.2.2.2.2.2.1), pw_cell_below hb3 (hHeld.2.2.2.2.2.2.2.2.2.2.2.2.2.1), below_then (hHeld.2.2.2.2.2.2.2.2.2.2.2.2.2.2.1) (hHeld.2.2.2.2.2.2.2.2.2.2.2.2.2.2.1).size hb3, (hb3.block _ (blk_lt (hHeld.2.2.2.2.2.2.2.2.2.2.2.2.2.2.2))).trans (hHeld.2.2.2.2.2.2.2.2.2.2.2.2.2.2.2)⟩ (fun hHeld => ?_)
  clear hK K
  refine norm_ (a' := ?_) ?_ ?_
  rotate_left
  · show Act.put _ (some 41) _ = _
    simp only [Act.put, List.setIfInBounds_toArray, List.set_cons_zero, List.set_cons_succ, i64_w, i32_w]
    rfl
  refine pure_ (i := 2) (N := some 42) (v := ?_) (a' := ?_) #[true, true, true, false, false, false, false, false, false, false, false, false, false, false, false, false, false] rfl rfl (by kernel_rfl) (fun _ _ _ h => h) (Or.inl ⟨by rfl, ?_⟩) ?_ ?_
  rotate_left
  · intro w'
    go_simp
    with_reducible rfl
  rotate_left
  · simp only [Act.put, List.setIfInBounds_toArray, List.set_cons_zero, List.set_cons_succ, i64_w, i32_w]
    rfl
  refine pure_ (i := 3) (N := some 43) (v := undef) (a' := ?_) #[true, true, true, true, false, false, false, false, false, false, false, false, false, false, false, false, false] rfl rfl (by kernel_rfl) (fun _ _ _ h => h) (Or.inr ⟨by rfl, rfl⟩) ?_ ?_
  rotate_left
  · simp only [Act.put, List.setIfInBounds_toArray, List.set_cons_zero, List.set_cons_succ, i64_w, i32_w]
    rfl
  refine pure_ (i := 4) (N := some 44) (v := undef) (a' := ?_) #[true, true, true, true, true, false, false, false, false, false, false, false, false, false, false, false, false] rfl rfl (by kernel_rfl) (fun _ _ _ h => h) (Or.inr ⟨by rfl, rfl⟩) ?_ ?_
  rotate_left
  · simp only [Act.put, List.setIfInBounds_toArray, List.set_cons_zero, List.set_cons_succ, i64_w, i32_w]
    rfl
  refine pure_ (i := 5) (N := some 45) (v := ?_) (a' := ?_) #[true, true, true, true, true, true, false, false, false, false, false, false, false, false, false, false, false] rfl rfl (by kernel_rfl) (fun _ _ _ h => h) (Or.inl ⟨by rfl, ?_⟩) ?_ ?_
  rotate_left
  · intro w'
    go_simp
    with_reducible rfl
  rotate_left
  · simp only [Act.put, List.setIfInBounds_toArray, List.set_cons_zero, List.set_cons_succ, i64_w, i32_w]
    rfl
  refine pure_ (i := 6) (N := some 46) (v := ?_) (a' := ?_) #[true, true, true, true, true, true, true, false, false, false, false, false, false, false, false, false, false] rfl rfl (by kernel_rfl) (fun _ _ _ h => h) (Or.inl ⟨by rfl, ?_⟩) ?_ ?_
  rotate_left
  · intro w'
    go_simp
    with_reducible rfl
  rotate_left
  · simp only [Act.put, List.setIfInBounds_toArray, List.set_cons_zero, List.set_cons_succ, i64_w, i32_w]
    rfl
  refine pure_ (i := 7) (N := some 47) (v := undef) (a' := ?_) #[true, true, true, true, true, true, true, true, false, false, false, false, false, false, false, false, false] rfl rfl (by kernel_rfl) (fun _ _ _ h => h) (Or.inr ⟨by rfl, rfl⟩) ?_ ?_
  rotate_left
  · simp only [Act.put, List.setIfInBounds_toArray, List.set_cons_zero, List.set_cons_succ, i64_w, i32_w]
    rfl
  refine pure_ (i := 8) (N := some 48) (v := undef) (a' := ?_) #[true, true, true, true, true, true, true, true, true, false, false, false, false, false, false, false, false] rfl rfl (by kernel_rfl) (fun _ _ _ h => h) (Or.inr ⟨by rfl, rfl⟩) ?_ ?_
  rotate_left
  · simp only [Act.put, List.setIfInBounds_toArray, List.set_cons_zero, List.set_cons_succ, i64_w, i32_w]
    rfl
  refine pure_ (i := 9) (N := some 49) (v := undef) (a' := ?_) #[true, true, true, true, true, true, true, true, true, true, false, false, false, false, false, false, false] rfl rfl (by kernel_rfl) (fun _ _ _ h => h) (Or.inr ⟨by rfl, rfl⟩) ?_ ?_
  rotate_left
  · simp only [Act.put, List.setIfInBounds_toArray, List.set_cons_zero, List.set_cons_succ, i64_w, i32_w]
    rfl
  refine pure_ (i := 10) (N := some 50) (v := undef) (a' := ?_) #[true, true, true, true, true, true, true, true, true, true, true, false, false, false, false, false, false] rfl rfl (by kernel_rfl) (fun _ _ _ h => h) (Or.inr ⟨by rfl, rfl⟩) ?_ ?_
  rotate_left
  · simp only [Act.put, List.setIfInBounds_toArray, List.set_cons_zero, List.set_cons_succ, i64_w, i32_w]
    rfl
  refine pure_ (i := 11) (N := some 51) (v := undef) (a' := ?_) #[true, true, true, true, true, true, true, true, true, true, true, true, false, false, false, false, false] rfl rfl (by kernel_rfl) (fun _ _ _ h => h) (Or.inr ⟨by rfl, rfl⟩) ?_ ?_
  rotate_left
  · simp only [Act.put, List.setIfInBounds_toArray, List.set_cons_zero, List.set_cons_succ, i64_w, i32_w]
    rfl
  refine pure_ (i := 12) (N := some 52) (v := undef) (a' := ?_) #[true, true, true, true, true, true, true, true, true, true, true, true, true, false, false, false, false] rfl rfl (by kernel_rfl) (fun _ _ _ h => h) (Or.inr ⟨by rfl, rfl⟩) ?_ ?_
  rotate_left
  · simp only [Act.put, List.setIfInBounds_toArray, List.set_cons_zero, List.set_cons_succ, i64_w, i32_w]
    rfl
  refine pure_ (i := 13) (N := some 53) (v := undef) (a' := ?_) #[true, true, true, true, true, true, true, true, true, true, true, true, true, true, false, false, false] rfl rfl (by kernel_rfl) (fun _ _ _ h => h) (Or.inr ⟨by rfl, rfl⟩) ?_ ?_
  rotate_left
  · simp only [Act.put, List.setIfInBounds_toArray, List.set_cons_zero, List.set_cons_succ, i64_w, i32_w]
    rfl
  refine pure_ (i := 14) (N := some 54) (v := undef) (a' := ?_) #[true, true, true, true, true, true, true, true, true, true, true, true, true, true, true, false, false] rfl rfl (by kernel_rfl) (fun _ _ _ h => h) (Or.inr ⟨by rfl, rfl⟩) ?_ ?_
  rotate_left
  · simp only [Act.put, List.setIfInBounds_toArray, List.set_cons_zero, List.set_cons_succ, i64_w, i32_w]
    rfl
  refine pure_ (i := 15) (N := some 55) (v := undef) (a' := ?_) #[true, true, true, true, true, true, true, true, true, true, true, true, true, true, true, true, false] rfl rfl (by kernel_rfl) (fun _ _ _ h => h) (Or.inr ⟨by rfl, rfl⟩) ?_ ?_
  rotate_left
  · simp only [Act.put, List.setIfInBounds_toArray, List.set_cons_zero, List.set_cons_succ, i64_w, i32_w]
    rfl
  refine pure_ (i := 16) (N := some 56) (v := ?_) (a' := ?_) #[true, true, true, true, true, true, true, true, true, true, true, true, true, true, true, true, true] rfl rfl (by kernel_rfl) (fun _ _ _ h => h) (Or.inl ⟨by rfl, ?_⟩) ?_ ?_
  rotate_left
  · intro w'
    go_simp
    with_reducible rfl
  rotate_left
  · simp only [Act.put, List.setIfInBounds_toArray, List.set_cons_zero, List.set_cons_succ, i64_w, i32_w]
    rfl
  refine done_ (by kernel_rfl) ?_
  have DD := Aside0.mk (hHeld.2.2.2.2.2.2.2.2.2.2.2.2.2.2.1)
  have XB := Aside0.mk (hHeld.2.2.2.2.2.2.2.2.2.2.2.2.2.2.2)
  clear hHeld p0 q0 p1 q1 p2 q2 p3 q3 p4 q4 p5 q5 p6 q6
  --BEHIND
  clear XBd DDr
  have x0 := (blk_cell XB.out 0).trans (show _ = some (.int .i64 b0) from rfl)
  have x1 := (blk_cell XB.out 1).trans (show _ = some (.int .u64 b1) from rfl)
  have x2 := (blk_cell XB.out 2).trans (show _ = some (.int .u64 b2) from rfl)
  have x3 := (blk_cell XB.out 3).trans (show _ = some (.int .i64 b3) from rfl)
  have x4 := (blk_cell XB.out 4).trans (show _ = some (.int .i64 b4) from rfl)
  have x5 := (blk_cell XB.out 5).trans (show _ = some (.int .i64 b5) from rfl)
  have x6 := (blk_cell XB.out 6).trans (show _ = some (.string ⟨b6.toArray⟩) from rfl)
  go_wp2_with fail
  clear x0 x1 x2 x3 x4 x5 x6
  refine (MB.out _ (HT.out.below DD.out) (HE.out.below DD.out)).mono ?_
  rintro e w9 ⟨rfl, hb⟩
  replace XB := Aside0.mk ((hb.block _ (blk_lt XB.out)).trans XB.out)
  have D9 := Aside0.mk (below_then DD.out DD.out.size hb)
  clear hb DD
  have x0 := (blk_cell XB.out 0).trans (show _ = some (.int .i64 b0) from rfl)
  have x1 := (blk_cell XB.out 1).trans (show _ = some (.int .u64 b1) from rfl)
  have x2 := (blk_cell XB.out 2).trans (show _ = some (.int .u64 b2) from rfl)
  have x3 := (blk_cell XB.out 3).trans (show _ = some (.int .i64 b3) from rfl)
  have x4 := (blk_cell XB.out 4).trans (show _ = some (.int .i64 b4) from rfl)
  have x5 := (blk_cell XB.out 5).trans (show _ = some (.int .i64 b5) from rfl)
  have x6 := (blk_cell XB.out 6).trans (show _ = some (.string ⟨b6.toArray⟩) from rfl)
  go_wp2_with fail
  clear x0 x1 x2 x3 x4 x5 x6
  refine (PB.out _ (HT.out.below D9.out) (HE.out.below D9.out)).mono ?_
  rintro e w10 ⟨rfl, hb⟩
  replace XB := Aside0.mk ((hb.block _ (blk_lt XB.out)).trans XB.out)
  have D10 := Aside0.mk (below_then D9.out D9.out.size hb)
  clear hb D9
  go_wp2
  go_ret
  exact ⟨rfl, D10.out⟩
set_option maxRecDepth 100000 in
set_option maxHeartbeats 8000000 in
theorem back_ntn (c0 c1 c2 c3 c4 c5 d0 d1 d2 d3 d4 d5 : Int) (c6 d6 s : List UInt8) (hs : s.length ≤ 281474976710656) (w : World) (ht : Tens w) (he : Errs w) (hfc : (⟨c0, c1, c2, c3, c4, c5, c6⟩ : Call7).Fits) (hfd : (⟨d0, d1, d2, d3, d4, d5, d6⟩ : Call7).Fits)
    (hm : mayL (⟨c0, c1, c2, c3, c4, c5, c6⟩ : Call7) = false) (hm2 : mayL (⟨d0, d1, d2, d3, d4, d5, d6⟩ : Call7) = true) (hy : callP s = none) :
    Calls Tryd.prog 5 #[.agg #[.int .i64 c0, .int .u64 c1, .int .u64 c2, .int .i64 c3, .int .i64 c4, .int .i64 c5, .string ⟨c6.toArray⟩], .agg #[.int .i64 d0, .int .u64 d1, .int .u64 d2, .int .i64 d3, .int .i64 d4, .int .i64 d5, .string ⟨d6.toArray⟩], .string ⟨s.toArray⟩] w fun e w' => e = .returned (.bool true) ∧ Below w.heap.size w w' := by
  have HT := Aside0.mk ht
  have HE := Aside0.mk he
  have HS := Aside0.mk hs
  have HFC := Aside0.mk hfc
  have HFD := Aside0.mk hfd
  have HM := Aside0.mk hm
  have HM2 := Aside0.mk hm2
  have HY := Aside0.mk hy
  have MC := Aside0.mk (fun w1 h1 h2 => may_x c0 c1 c2 c3 c4 c5 c6 w1 hfc h1 h2)
  rw [hm] at MC
  have MD := Aside0.mk (fun w1 h1 h2 => may_x d0 d1 d2 d3 d4 d5 d6 w1 hfd h1 h2)
  rw [hm2] at MD
  clear ht he hs hfc hfd hm hm2 hy
  have D0 := Aside0.mk (below_alloc (below_alloc (Below.refl w.heap.size w) (.cells #[.int .i64 c0, .int .u64 c1, .int .u64 c2, .int .i64 c3, .int .i64 c4, .int .i64 c5, .string ⟨c6.toArray⟩] 24)) (.cells #[.int .i64 d0, .int .u64 d1, .int .u64 d2, .int .i64 d3, .int .i64 d4, .int .i64 d5, .string ⟨d6.toArray⟩] 24))
  have XC := Aside0.mk (blk_alloc (blk_new w (.cells #[.int .i64 c0, .int .u64 c1, .int .u64 c2, .int .i64 c3, .int .i64 c4, .int .i64 c5, .string ⟨c6.toArray⟩] 24)) (.cells #[.int .i64 d0, .int .u64 d1, .int .u64 d2, .int .i64 d3, .int .i64 d4, .int .i64 d5, .string ⟨d6.toArray⟩] 24))
  have XD := Aside0.mk (blk_new (w.alloc (.cells #[.int .i64 c0, .int .u64 c1, .int .u64 c2, .int .i64 c3, .int .i64 c4, .int .i64 c5, .string ⟨c6.toArray⟩] 24)) (.cells #[.int .i64 d0, .int .u64 d1, .int .u64 d2, .int .i64 d3, .int .i64 d4, .int .i64 d5, .string ⟨d6.toArray⟩] 24))
  rw [World.size_alloc] at XD
  go_enter Tryd.func5, Tryd.ntmps5
  go_wp2_with fail
  refine (print_x c0 c1 c2 c3 c4 c5 c6 _ HFC.out (HT.out.below D0.out) (HE.out.below D0.out)).mono ?_
  rintro e w1 ⟨rfl, hb⟩
  replace XC := Aside0.mk ((hb.block _ (blk_lt XC.out)).trans XC.out)
  replace XD := Aside0.mk ((hb.block _ (blk_lt XD.out)).trans XD.out)
  have D1 := Aside0.mk (below_then D0.out D0.out.size hb)
  clear hb D0
  go_wp2_with fail
  refine (back_not c0 c1 c2 c3 c4 c5 c6 _ HFC.out (HT.out.below D1.out) (HE.out.below D1.out) HM.out).mono ?_
  rintro e w2 ⟨rfl, hb⟩
  replace XC := Aside0.mk ((hb.block _ (blk_lt XC.out)).trans XC.out)
  replace XD := Aside0.mk ((hb.block _ (blk_lt XD.out)).trans XD.out)
  have D2 := Aside0.mk (below_then D1.out D1.out.size hb)
  clear hb D1
  have XA := Aside0.mk (blk_new w2 (.cells #[.int .i64 0, .int .u64 0, .int .u64 0, .int .i64 0, .int .i64 0, .int .i64 0, .string ⟨#[]⟩] 24))
  replace XC := Aside0.mk (blk_alloc XC.out (.cells #[.int .i64 0, .int .u64 0, .int .u64 0, .int .i64 0, .int .i64 0, .int .i64 0, .string ⟨#[]⟩] 24))
  replace XD := Aside0.mk (blk_alloc XD.out (.cells #[.int .i64 0, .int .u64 0, .int .u64 0, .int .i64 0, .int .i64 0, .int .i64 0, .string ⟨#[]⟩] 24))
  have E2 := Aside0.mk (below_alloc D2.out (.cells #[.int .i64 0, .int .u64 0, .int .u64 0, .int .i64 0, .int .i64 0, .int .i64 0, .string ⟨#[]⟩] 24))
  obtain ⟨ba, hba⟩ : ∃ ba, ba = w2.heap.size := ⟨_, rfl⟩
  rw [← hba] at XA
  clear D2
  go_wp2_with fail
  rw [← hba]
  clear hba
  generalize w2.alloc (.cells #[.int .i64 0, .int .u64 0, .int .u64 0, .int .i64 0, .int .i64 0, .int .i64 0, .string ⟨#[]⟩] 24) = v2 at XC XD XA E2 ⊢
  refine (parse_no s HS.out _ (HT.out.below E2.out) (HE.out.below E2.out) HY.out).mono ?_
  rintro e w3 ⟨rfl, hb⟩
  replace XC := Aside0.mk ((hb.block _ (blk_lt XC.out)).trans XC.out)
  replace XD := Aside0.mk ((hb.block _ (blk_lt XD.out)).trans XD.out)
  replace XA := Aside0.mk ((hb.block _ (blk_lt XA.out)).trans XA.out)
  have D3 := Aside0.mk (below_then E2.out E2.out.size hb)
  clear hb E2
  have XB := Aside0.mk (blk_new w3 (.cells #[.int .i64 0, .int .u64 0, .int .u64 0, .int .i64 0, .int .i64 0, .int .i64 0, .string ⟨#[]⟩] 24))
  replace XC := Aside0.mk (blk_alloc XC.out (.cells #[.int .i64 0, .int .u64 0, .int .u64 0, .int .i64 0, .int .i64 0, .int .i64 0, .string ⟨#[]⟩] 24))
  replace XD := Aside0.mk (blk_alloc XD.out (.cells #[.int .i64 0, .int .u64 0, .int .u64 0, .int .i64 0, .int .i64 0, .int .i64 0, .string ⟨#[]⟩] 24))
  replace XA := Aside0.mk (blk_alloc XA.out (.cells #[.int .i64 0, .int .u64 0, .int .u64 0, .int .i64 0, .int .i64 0, .int .i64 0, .string ⟨#[]⟩] 24))
  have E3 := Aside0.mk (below_alloc D3.out (.cells #[.int .i64 0, .int .u64 0, .int .u64 0, .int .i64 0, .int .i64 0, .int .i64 0, .string ⟨#[]⟩] 24))
  obtain ⟨bb, hbb⟩ : ∃ bb, bb = w3.heap.size := ⟨_, rfl⟩
  rw [← hbb] at XB
  clear D3
  go_wp2_with fail
  rw [← hbb]
  clear hbb
  generalize w3.alloc (.cells #[.int .i64 0, .int .u64 0, .int .u64 0, .int .i64 0, .int .i64 0, .int .i64 0, .string ⟨#[]⟩] 24) = v3 at XC XD XA XB E3 ⊢
  refine (fixed_q _ (HT.out.below E3.out) (HE.out.below E3.out)).mono ?_
  rintro e w4 ⟨rfl, hb⟩
  replace XC := Aside0.mk ((hb.block _ (blk_lt XC.out)).trans XC.out)
  replace XD := Aside0.mk ((hb.block _ (blk_lt XD.out)).trans XD.out)
  replace XA := Aside0.mk ((hb.block _ (blk_lt XA.out)).trans XA.out)
  replace XB := Aside0.mk ((hb.block _ (blk_lt XB.out)).trans XB.out)
  have D4 := Aside0.mk (below_then E3.out E3.out.size hb)
  clear hb E3
  have x0 := (blk_cell XC.out 0).trans (show _ = some (.int .i64 c0) from rfl)
  have x1 := (blk_cell XC.out 1).trans (show _ = some (.int .u64 c1) from rfl)
  have x2 := (blk_cell XC.out 2).trans (show _ = some (.int .u64 c2) from rfl)
  have x3 := (blk_cell XC.out 3).trans (show _ = some (.int .i64 c3) from rfl)
  have x4 := (blk_cell XC.out 4).trans (show _ = some (.int .i64 c4) from rfl)
  have x5 := (blk_cell XC.out 5).trans (show _ = some (.int .i64 c5) from rfl)
  have x6 := (blk_cell XC.out 6).trans (show _ = some (.string ⟨c6.toArray⟩) from rfl)
  go_wp2_with fail
  clear x0 x1 x2 x3 x4 x5 x6
  refine (MC.out _ (HT.out.below D4.out) (HE.out.below D4.out)).mono ?_
  rintro e w5 ⟨rfl, hb⟩
  replace XC := Aside0.mk ((hb.block _ (blk_lt XC.out)).trans XC.out)
  replace XD := Aside0.mk ((hb.block _ (blk_lt XD.out)).trans XD.out)
  replace XA := Aside0.mk ((hb.block _ (blk_lt XA.out)).trans XA.out)
  replace XB := Aside0.mk ((hb.block _ (blk_lt XB.out)).trans XB.out)
  have D5 := Aside0.mk (below_then D4.out D4.out.size hb)
  clear hb D4
  go_wp2_with fail
  have p0 : w5.drew.cell? ⟨w.heap.size, 0, none⟩ = some (.int .i64 c0) := (blk_cell XC.out 0).trans rfl
  have p1 : w5.drew.cell? ⟨w.heap.size, 1, none⟩ = some (.int .u64 c1) := (blk_cell XC.out 1).trans rfl
  have p2 : w5.drew.cell? ⟨w.heap.size, 2, none⟩ = some (.int .u64 c2) := (blk_cell XC.out 2).trans rfl
  have p3 : w5.drew.cell? ⟨w.heap.size, 3, none⟩ = some (.int .i64 c3) := (blk_cell XC.out 3).trans rfl
  have p4 : w5.drew.cell? ⟨w.heap.size, 4, none⟩ = some (.int .i64 c4) := (blk_cell XC.out 4).trans rfl
  have p5 : w5.drew.cell? ⟨w.heap.size, 5, none⟩ = some (.int .i64 c5) := (blk_cell XC.out 5).trans rfl
  have p6 : w5.drew.cell? ⟨w.heap.size, 6, none⟩ = some (.string ⟨c6.toArray⟩) := (blk_cell XC.out 6).trans rfl
  have q0 : w5.drew.cell? ⟨w.heap.size + 1, 0, none⟩ = some (.int .i64 d0) := (blk_cell XD.out 0).trans rfl
  have q1 : w5.drew.cell? ⟨w.heap.size + 1, 1, none⟩ = some (.int .u64 d1) := (blk_cell XD.out 1).trans rfl
  have q2 : w5.drew.cell? ⟨w.heap.size + 1, 2, none⟩ = some (.int .u64 d2) := (blk_cell XD.out 2).trans rfl
  have q3 : w5.drew.cell? ⟨w.heap.size + 1, 3, none⟩ = some (.int .i64 d3) := (blk_cell XD.out 3).trans rfl
  have q4 : w5.drew.cell? ⟨w.heap.size + 1, 4, none⟩ = some (.int .i64 d4) := (blk_cell XD.out 4).trans rfl
  have q5 : w5.drew.cell? ⟨w.heap.size + 1, 5, none⟩ = some (.int .i64 d5) := (blk_cell XD.out 5).trans rfl
  have q6 : w5.drew.cell? ⟨w.heap.size + 1, 6, none⟩ = some (.string ⟨d6.toArray⟩) := (blk_cell XD.out 6).trans rfl
  have XBd : w5.drew.heap[bb]? = some (.cells #[.int .i64 0, .int .u64 0, .int .u64 0, .int .i64 0, .int .i64 0, .int .i64 0, .string ⟨#[]⟩] 24 (0, 0)) := XB.out
  have DDr := below_drew D5.out
  clear XC XD XA XB D5
  refine start_ (n := 17) (S := fun w' => w'.cell? ⟨w.heap.size, 0, none⟩ = some (.int .i64 c0) ∧ w'.cell? ⟨w.heap.size, 1, none⟩ = some (.int .u64 c1) ∧ w'.cell? ⟨w.heap.size, 2, none⟩ = some (.int .u64 c2) ∧ w'.cell? ⟨w.heap.size, 3, none⟩ = some (.int .i64 c3) ∧ w'.cell? ⟨w.heap.size, 4, none⟩ = some (.int .i64 c4) ∧ w'.cell? ⟨w.heap.size, 5, none⟩ = some (.int .i64 c5) ∧ w'.cell? ⟨w.heap.size, 6, none⟩ = some (.string ⟨c6.toArray⟩) ∧ w'.cell? ⟨w.heap.size + 1, 0, none⟩ = some (.int .i64 d0) ∧ w'.cell? ⟨w.heap.size + 1, 1, none⟩ = some (.int .u64 d1) ∧ w'.cell? ⟨w.heap.size + 1, 2, none⟩ = some (.int .u64 d2) ∧ w'.cell? ⟨w.heap.size + 1, 3, none⟩ = some (.int .i64 d3) ∧ w'.cell? ⟨w.heap.size + 1, 4, none⟩ = some (.int .i64 d4) ∧ w'.cell? ⟨w.heap.size + 1, 5, none⟩ = some (.int .i64 d5) ∧ w'.cell? ⟨w.heap.size + 1, 6, none⟩ = some (.string ⟨d6.toArray⟩) ∧ Below w.heap.size w w' ∧ w'.heap[bb]? = some (.cells #[.int .i64 0, .int .u64 0, .int .u64 0, .int .i64 0, .int .i64 0, .int .i64 0, .string ⟨#[]⟩] 24 (0, 0))) (ds := []) #[false, false, false, false, false, false, false, false, false, false, false, false, false, false, false, false, false] (by kernel_rfl) rfl rfl ⟨p0, p1, p2, p3, p4, p5, p6, q0, q1, q2, q3, q4, q5, q6, DDr, XBd⟩ (fun hHeld => ?_)
  refine take_ (i := 0) (N := some 40) (v := ?_) (a' := ?_) #[true, false, false, false, false, false, false, false, false, false, false, false, false, false, false, false, false] rfl rfl (by kernel_rfl) (fun _ _ _ h => h) (Or.inl ⟨by rfl, ?_⟩) hHeld ?_ ?_
  rotate_left
  · rintro w' ⟨s0, s1, s2, s3, s4, s5, s6, s7, s8, s9, s10, s11, s12, s13, s14, s15⟩
    go_simp
    with_reducible rfl
  rotate_left
  · simp only [Act.put, List.setIfInBounds_toArray, List.set_cons_zero, List.set_cons_succ, i64_w, i32_w]
    rfl
  refine one_ (i := 1) (N := some 41) #[true, true, false, false, false, false, false, false, false, false, false, false, false, false, false, false, false] rfl rfl (by kernel_rfl) (by decide) (fun K hK => ?_)
  refine goes_ Tryd.func11 (by kernel_rfl) rfl #[.agg #[.int .i64 c0, .int .u64 c1, .int .u64 c2, .int .i64 c3, .int .i64 c4, .int .i64 c5, .string ⟨c6.toArray⟩]] (by rfl) rfl rfl (by simp only [List.map_toArray, List.map_cons, List.map_nil]; rfl) ?_
  with_reducible refine (MC.out _ (HT.out.below (hHeld.2.2.2.2.2.2.2.2.2.2.2.2.2.2.1)) (HE.out.below (hHeld.2.2.2.2.2.2.2.2.2.2.2.2.2.2.1))).mono ?_
  rintro e w8 ⟨rfl, hb3⟩
  refine ⟨_, rfl, ?_⟩
  refine hK.out _ _ ⟨pw_cell_below hb3 (hHeld.1), pw_cell_below hb3 (hHeld.2.1), pw_cell_below hb3 (hHeld.2.2.1), pw_cell_below hb3 (hHeld.2.2.2.1), pw_cell_below hb3 (hHeld.2.2.2.2.1), pw_cell_below hb3 (hHeld.2.2.2.2.2.1), pw_cell_below hb3 (hHeld.2.2.2.2.2.2.1), pw_cell_below hb3 (hHeld.2.2.2.2.2.2.2.1), pw_cell_below hb3 (hHeld.2.2.2.2.2.2.2.2.1), pw_cell_below hb3 (hHeld.2.2.2.2.2.2.2.2.2.1), pw_cell_below hb3 (hHeld.2.2.2.2.2.2.2.2.2.2.1), pw_cell_below hb3 (hHeld.2.2.2.2.2.2.2.2.2.2.2.1), pw_cell_below hb3 (hHeld.2.2.2.2.2.2.2.2.2.2.2.2.1), pw_cell_below hb3 (hHeld.2.2.2.2.2.2.2.2.2.2.2.2.2.1), below_then (hHeld.2.2.2.2.2.2.2.2.2.2.2.2.2.2.1) (hHeld.2.2.2.2.2.2.2.2.2.2.2.2.2.2.1).size hb3, (hb3.block _ (blk_lt (hHeld.2.2.2.2.2.2.2.2.2.2.2.2.2.2.2))).trans (hHeld.2.2.2.2.2.2.2.2.2.2.2.2.2.2.2)⟩ (fun hHeld => ?_)
  clear hK K
  refine norm_ (a' := ?_) ?_ ?_
  rotate_left
  · show Act.put _ (some 41) _ = _
    simp only [Act.put, List.setIfInBounds_toArray, List.set_cons_zero, List.set_cons_succ, i64_w, i32_w]
    rfl
  refine pure_ (i := 2) (N := some 42) (v := ?_) (a' := ?_) #[true, true, true, false, false, false, false, false, false, false, false, false, false, false, false, false, false] rfl rfl (by kernel_rfl) (fun _ _ _ h => h) (Or.inl ⟨by rfl, ?_⟩) ?_ ?_
  rotate_left
  · intro w'
    go_simp
    with_reducible rfl
  rotate_left
  · simp only [Act.put, List.setIfInBounds_toArray, List.set_cons_zero, List.set_cons_succ, i64_w, i32_w]
    rfl
  refine pure_ (i := 3) (N := some 43) (v := undef) (a' := ?_) #[true, true, true, true, false, false, false, false, false, false, false, false, false, false, false, false, false] rfl rfl (by kernel_rfl) (fun _ _ _ h => h) (Or.inr ⟨by rfl, rfl⟩) ?_ ?_
  rotate_left
  · simp only [Act.put, List.setIfInBounds_toArray, List.set_cons_zero, List.set_cons_succ, i64_w, i32_w]
    rfl
  refine pure_ (i := 4) (N := some 44) (v := undef) (a' := ?_) #[true, true, true, true, true, false, false, false, false, false, false, false, false, false, false, false, false] rfl rfl (by kernel_rfl) (fun _ _ _ h => h) (Or.inr ⟨by rfl, rfl⟩) ?_ ?_
  rotate_left
  · simp only [Act.put, List.setIfInBounds_toArray, List.set_cons_zero, List.set_cons_succ, i64_w, i32_w]
    rfl
  refine pure_ (i := 5) (N := some 45) (v := ?_) (a' := ?_) #[true, true, true, true, true, true, false, false, false, false, false, false, false, false, false, false, false] rfl rfl (by kernel_rfl) (fun _ _ _ h => h) (Or.inl ⟨by rfl, ?_⟩) ?_ ?_
  rotate_left
  · intro w'
    go_simp
    with_reducible rfl
  rotate_left
  · simp only [Act.put, List.setIfInBounds_toArray, List.set_cons_zero, List.set_cons_succ, i64_w, i32_w]
    rfl
  refine pure_ (i := 6) (N := some 46) (v := ?_) (a' := ?_) #[true, true, true, true, true, true, true, false, false, false, false, false, false, false, false, false, false] rfl rfl (by kernel_rfl) (fun _ _ _ h => h) (Or.inl ⟨by rfl, ?_⟩) ?_ ?_
  rotate_left
  · intro w'
    go_simp
    with_reducible rfl
  rotate_left
  · simp only [Act.put, List.setIfInBounds_toArray, List.set_cons_zero, List.set_cons_succ, i64_w, i32_w]
    rfl
  refine pure_ (i := 7) (N := some 47) (v := undef) (a' := ?_) #[true, true, true, true, true, true, true, true, false, false, false, false, false, false, false, false, false] rfl rfl (by kernel_rfl) (fun _ _ _ h => h) (Or.inr ⟨by rfl, rfl⟩) ?_ ?_
  rotate_left
  · simp only [Act.put, List.setIfInBounds_toArray, List.set_cons_zero, List.set_cons_succ, i64_w, i32_w]
    rfl
  refine pure_ (i := 8) (N := some 48) (v := undef) (a' := ?_) #[true, true, true, true, true, true, true, true, true, false, false, false, false, false, false, false, false] rfl rfl (by kernel_rfl) (fun _ _ _ h => h) (Or.inr ⟨by rfl, rfl⟩) ?_ ?_
  rotate_left
  · simp only [Act.put, List.setIfInBounds_toArray, List.set_cons_zero, List.set_cons_succ, i64_w, i32_w]
    rfl
  refine pure_ (i := 9) (N := some 49) (v := undef) (a' := ?_) #[true, true, true, true, true, true, true, true, true, true, false, false, false, false, false, false, false] rfl rfl (by kernel_rfl) (fun _ _ _ h => h) (Or.inr ⟨by rfl, rfl⟩) ?_ ?_
  rotate_left
  · simp only [Act.put, List.setIfInBounds_toArray, List.set_cons_zero, List.set_cons_succ, i64_w, i32_w]
    rfl
  refine pure_ (i := 10) (N := some 50) (v := undef) (a' := ?_) #[true, true, true, true, true, true, true, true, true, true, true, false, false, false, false, false, false] rfl rfl (by kernel_rfl) (fun _ _ _ h => h) (Or.inr ⟨by rfl, rfl⟩) ?_ ?_
  rotate_left
  · simp only [Act.put, List.setIfInBounds_toArray, List.set_cons_zero, List.set_cons_succ, i64_w, i32_w]
    rfl
  refine pure_ (i := 11) (N := some 51) (v := undef) (a' := ?_) #[true, true, true, true, true, true, true, true, true, true, true, true, false, false, false, false, false] rfl rfl (by kernel_rfl) (fun _ _ _ h => h) (Or.inr ⟨by rfl, rfl⟩) ?_ ?_
  rotate_left
  · simp only [Act.put, List.setIfInBounds_toArray, List.set_cons_zero, List.set_cons_succ, i64_w, i32_w]
    rfl
  refine pure_ (i := 12) (N := some 52) (v := undef) (a' := ?_) #[true, true, true, true, true, true, true, true, true, true, true, true, true, false, false, false, false] rfl rfl (by kernel_rfl) (fun _ _ _ h => h) (Or.inr ⟨by rfl, rfl⟩) ?_ ?_
  rotate_left
  · simp only [Act.put, List.setIfInBounds_toArray, List.set_cons_zero, List.set_cons_succ, i64_w, i32_w]
    rfl
  refine pure_ (i := 13) (N := some 53) (v := undef) (a' := ?_) #[true, true, true, true, true, true, true, true, true, true, true, true, true, true, false, false, false] rfl rfl (by kernel_rfl) (fun _ _ _ h => h) (Or.inr ⟨by rfl, rfl⟩) ?_ ?_
  rotate_left
  · simp only [Act.put, List.setIfInBounds_toArray, List.set_cons_zero, List.set_cons_succ, i64_w, i32_w]
    rfl
  refine pure_ (i := 14) (N := some 54) (v := undef) (a' := ?_) #[true, true, true, true, true, true, true, true, true, true, true, true, true, true, true, false, false] rfl rfl (by kernel_rfl) (fun _ _ _ h => h) (Or.inr ⟨by rfl, rfl⟩) ?_ ?_
  rotate_left
  · simp only [Act.put, List.setIfInBounds_toArray, List.set_cons_zero, List.set_cons_succ, i64_w, i32_w]
    rfl
  refine pure_ (i := 15) (N := some 55) (v := undef) (a' := ?_) #[true, true, true, true, true, true, true, true, true, true, true, true, true, true, true, true, false] rfl rfl (by kernel_rfl) (fun _ _ _ h => h) (Or.inr ⟨by rfl, rfl⟩) ?_ ?_
  rotate_left
  · simp only [Act.put, List.setIfInBounds_toArray, List.set_cons_zero, List.set_cons_succ, i64_w, i32_w]
    rfl
  refine pure_ (i := 16) (N := some 56) (v := ?_) (a' := ?_) #[true, true, true, true, true, true, true, true, true, true, true, true, true, true, true, true, true] rfl rfl (by kernel_rfl) (fun _ _ _ h => h) (Or.inl ⟨by rfl, ?_⟩) ?_ ?_
  rotate_left
  · intro w'
    go_simp
    with_reducible rfl
  rotate_left
  · simp only [Act.put, List.setIfInBounds_toArray, List.set_cons_zero, List.set_cons_succ, i64_w, i32_w]
    rfl
  refine done_ (by kernel_rfl) ?_
  have DD := Aside0.mk (hHeld.2.2.2.2.2.2.2.2.2.2.2.2.2.2.1)
  have XB := Aside0.mk (hHeld.2.2.2.2.2.2.2.2.2.2.2.2.2.2.2)
  clear hHeld p0 q0 p1 q1 p2 q2 p3 q3 p4 q4 p5 q5 p6 q6
  --BEHIND
  clear XBd DDr
  have x0 := (blk_cell XB.out 0).trans (show _ = some (.int .i64 0) from rfl)
  have x1 := (blk_cell XB.out 1).trans (show _ = some (.int .u64 0) from rfl)
  have x2 := (blk_cell XB.out 2).trans (show _ = some (.int .u64 0) from rfl)
  have x3 := (blk_cell XB.out 3).trans (show _ = some (.int .i64 0) from rfl)
  have x4 := (blk_cell XB.out 4).trans (show _ = some (.int .i64 0) from rfl)
  have x5 := (blk_cell XB.out 5).trans (show _ = some (.int .i64 0) from rfl)
  have x6 := (blk_cell XB.out 6).trans (show _ = some (.string ⟨#[]⟩) from rfl)
  go_wp2
  go_ret
  exact ⟨rfl, DD.out⟩
set_option maxRecDepth 100000 in
set_option maxHeartbeats 8000000 in
theorem back_ntt (c0 c1 c2 c3 c4 c5 d0 d1 d2 d3 d4 d5 b0 b1 b2 b3 b4 b5 : Int) (c6 d6 b6 s : List UInt8) (hs : s.length ≤ 281474976710656) (w : World) (ht : Tens w) (he : Errs w) (hfc : (⟨c0, c1, c2, c3, c4, c5, c6⟩ : Call7).Fits) (hfd : (⟨d0, d1, d2, d3, d4, d5, d6⟩ : Call7).Fits)
    (hm : mayL (⟨c0, c1, c2, c3, c4, c5, c6⟩ : Call7) = false) (hm2 : mayL (⟨d0, d1, d2, d3, d4, d5, d6⟩ : Call7) = true) (hy : callP s = some (⟨b0, b1, b2, b3, b4, b5, b6⟩ : Call7)) :
    Calls Tryd.prog 5 #[.agg #[.int .i64 c0, .int .u64 c1, .int .u64 c2, .int .i64 c3, .int .i64 c4, .int .i64 c5, .string ⟨c6.toArray⟩], .agg #[.int .i64 d0, .int .u64 d1, .int .u64 d2, .int .i64 d3, .int .i64 d4, .int .i64 d5, .string ⟨d6.toArray⟩], .string ⟨s.toArray⟩] w fun e w' => e = .returned (.bool true) ∧ Below w.heap.size w w' := by
  have HT := Aside0.mk ht
  have HE := Aside0.mk he
  have HS := Aside0.mk hs
  have HFC := Aside0.mk hfc
  have HFD := Aside0.mk hfd
  have HM := Aside0.mk hm
  have HM2 := Aside0.mk hm2
  have HY := Aside0.mk hy
  have HFB := Aside0.mk (said_of hy).fits
  have HMB := Aside0.mk (may_of hy)
  have HPB := Aside0.mk (print_of hy)
  have MC := Aside0.mk (fun w1 h1 h2 => may_x c0 c1 c2 c3 c4 c5 c6 w1 hfc h1 h2)
  rw [hm] at MC
  have MD := Aside0.mk (fun w1 h1 h2 => may_x d0 d1 d2 d3 d4 d5 d6 w1 hfd h1 h2)
  rw [hm2] at MD
  have MB := Aside0.mk (fun w1 h1 h2 => may_x b0 b1 b2 b3 b4 b5 b6 w1 HFB.out h1 h2)
  rw [HMB.out] at MB
  have PB := Aside0.mk (fun w1 h1 h2 => print_x b0 b1 b2 b3 b4 b5 b6 w1 HFB.out h1 h2)
  rw [HPB.out] at PB
  clear ht he hs hfc hfd hm hm2 hy
  have D0 := Aside0.mk (below_alloc (below_alloc (Below.refl w.heap.size w) (.cells #[.int .i64 c0, .int .u64 c1, .int .u64 c2, .int .i64 c3, .int .i64 c4, .int .i64 c5, .string ⟨c6.toArray⟩] 24)) (.cells #[.int .i64 d0, .int .u64 d1, .int .u64 d2, .int .i64 d3, .int .i64 d4, .int .i64 d5, .string ⟨d6.toArray⟩] 24))
  have XC := Aside0.mk (blk_alloc (blk_new w (.cells #[.int .i64 c0, .int .u64 c1, .int .u64 c2, .int .i64 c3, .int .i64 c4, .int .i64 c5, .string ⟨c6.toArray⟩] 24)) (.cells #[.int .i64 d0, .int .u64 d1, .int .u64 d2, .int .i64 d3, .int .i64 d4, .int .i64 d5, .string ⟨d6.toArray⟩] 24))
  have XD := Aside0.mk (blk_new (w.alloc (.cells #[.int .i64 c0, .int .u64 c1, .int .u64 c2, .int .i64 c3, .int .i64 c4, .int .i64 c5, .string ⟨c6.toArray⟩] 24)) (.cells #[.int .i64 d0, .int .u64 d1, .int .u64 d2, .int .i64 d3, .int .i64 d4, .int .i64 d5, .string ⟨d6.toArray⟩] 24))
  rw [World.size_alloc] at XD
  go_enter Tryd.func5, Tryd.ntmps5
  go_wp2_with fail
  refine (print_x c0 c1 c2 c3 c4 c5 c6 _ HFC.out (HT.out.below D0.out) (HE.out.below D0.out)).mono ?_
  rintro e w1 ⟨rfl, hb⟩
  replace XC := Aside0.mk ((hb.block _ (blk_lt XC.out)).trans XC.out)
  replace XD := Aside0.mk ((hb.block _ (blk_lt XD.out)).trans XD.out)
  have D1 := Aside0.mk (below_then D0.out D0.out.size hb)
  clear hb D0
  go_wp2_with fail
  refine (back_not c0 c1 c2 c3 c4 c5 c6 _ HFC.out (HT.out.below D1.out) (HE.out.below D1.out) HM.out).mono ?_
  rintro e w2 ⟨rfl, hb⟩
  replace XC := Aside0.mk ((hb.block _ (blk_lt XC.out)).trans XC.out)
  replace XD := Aside0.mk ((hb.block _ (blk_lt XD.out)).trans XD.out)
  have D2 := Aside0.mk (below_then D1.out D1.out.size hb)
  clear hb D1
  have XA := Aside0.mk (blk_new w2 (.cells #[.int .i64 0, .int .u64 0, .int .u64 0, .int .i64 0, .int .i64 0, .int .i64 0, .string ⟨#[]⟩] 24))
  replace XC := Aside0.mk (blk_alloc XC.out (.cells #[.int .i64 0, .int .u64 0, .int .u64 0, .int .i64 0, .int .i64 0, .int .i64 0, .string ⟨#[]⟩] 24))
  replace XD := Aside0.mk (blk_alloc XD.out (.cells #[.int .i64 0, .int .u64 0, .int .u64 0, .int .i64 0, .int .i64 0, .int .i64 0, .string ⟨#[]⟩] 24))
  have E2 := Aside0.mk (below_alloc D2.out (.cells #[.int .i64 0, .int .u64 0, .int .u64 0, .int .i64 0, .int .i64 0, .int .i64 0, .string ⟨#[]⟩] 24))
  obtain ⟨ba, hba⟩ : ∃ ba, ba = w2.heap.size := ⟨_, rfl⟩
  rw [← hba] at XA
  clear D2
  go_wp2_with fail
  rw [← hba]
  clear hba
  generalize w2.alloc (.cells #[.int .i64 0, .int .u64 0, .int .u64 0, .int .i64 0, .int .i64 0, .int .i64 0, .string ⟨#[]⟩] 24) = v2 at XC XD XA E2 ⊢
  refine (parse_yes s HS.out b0 b1 b2 b3 b4 b5 b6 _ (HT.out.below E2.out) (HE.out.below E2.out) HY.out).mono ?_
  rintro e w3 ⟨rfl, hb⟩
  replace XC := Aside0.mk ((hb.block _ (blk_lt XC.out)).trans XC.out)
  replace XD := Aside0.mk ((hb.block _ (blk_lt XD.out)).trans XD.out)
  replace XA := Aside0.mk ((hb.block _ (blk_lt XA.out)).trans XA.out)
  have D3 := Aside0.mk (below_then E2.out E2.out.size hb)
  clear hb E2
  have XB := Aside0.mk (blk_new w3 (.cells #[.int .i64 b0, .int .u64 b1, .int .u64 b2, .int .i64 b3, .int .i64 b4, .int .i64 b5, .string ⟨b6.toArray⟩] 24))
  replace XC := Aside0.mk (blk_alloc XC.out (.cells #[.int .i64 b0, .int .u64 b1, .int .u64 b2, .int .i64 b3, .int .i64 b4, .int .i64 b5, .string ⟨b6.toArray⟩] 24))
  replace XD := Aside0.mk (blk_alloc XD.out (.cells #[.int .i64 b0, .int .u64 b1, .int .u64 b2, .int .i64 b3, .int .i64 b4, .int .i64 b5, .string ⟨b6.toArray⟩] 24))
  replace XA := Aside0.mk (blk_alloc XA.out (.cells #[.int .i64 b0, .int .u64 b1, .int .u64 b2, .int .i64 b3, .int .i64 b4, .int .i64 b5, .string ⟨b6.toArray⟩] 24))
  have E3 := Aside0.mk (below_alloc D3.out (.cells #[.int .i64 b0, .int .u64 b1, .int .u64 b2, .int .i64 b3, .int .i64 b4, .int .i64 b5, .string ⟨b6.toArray⟩] 24))
  obtain ⟨bb, hbb⟩ : ∃ bb, bb = w3.heap.size := ⟨_, rfl⟩
  rw [← hbb] at XB
  clear D3
  go_wp2_with fail
  rw [← hbb]
  clear hbb
  generalize w3.alloc (.cells #[.int .i64 b0, .int .u64 b1, .int .u64 b2, .int .i64 b3, .int .i64 b4, .int .i64 b5, .string ⟨b6.toArray⟩] 24) = v3 at XC XD XA XB E3 ⊢
  refine (fixed_q _ (HT.out.below E3.out) (HE.out.below E3.out)).mono ?_
  rintro e w4 ⟨rfl, hb⟩
  replace XC := Aside0.mk ((hb.block _ (blk_lt XC.out)).trans XC.out)
  replace XD := Aside0.mk ((hb.block _ (blk_lt XD.out)).trans XD.out)
  replace XA := Aside0.mk ((hb.block _ (blk_lt XA.out)).trans XA.out)
  replace XB := Aside0.mk ((hb.block _ (blk_lt XB.out)).trans XB.out)
  have D4 := Aside0.mk (below_then E3.out E3.out.size hb)
  clear hb E3
  have x0 := (blk_cell XC.out 0).trans (show _ = some (.int .i64 c0) from rfl)
  have x1 := (blk_cell XC.out 1).trans (show _ = some (.int .u64 c1) from rfl)
  have x2 := (blk_cell XC.out 2).trans (show _ = some (.int .u64 c2) from rfl)
  have x3 := (blk_cell XC.out 3).trans (show _ = some (.int .i64 c3) from rfl)
  have x4 := (blk_cell XC.out 4).trans (show _ = some (.int .i64 c4) from rfl)
  have x5 := (blk_cell XC.out 5).trans (show _ = some (.int .i64 c5) from rfl)
  have x6 := (blk_cell XC.out 6).trans (show _ = some (.string ⟨c6.toArray⟩) from rfl)
  go_wp2_with fail
  clear x0 x1 x2 x3 x4 x5 x6
  refine (MC.out _ (HT.out.below D4.out) (HE.out.below D4.out)).mono ?_
  rintro e w5 ⟨rfl, hb⟩
  replace XC := Aside0.mk ((hb.block _ (blk_lt XC.out)).trans XC.out)
  replace XD := Aside0.mk ((hb.block _ (blk_lt XD.out)).trans XD.out)
  replace XA := Aside0.mk ((hb.block _ (blk_lt XA.out)).trans XA.out)
  replace XB := Aside0.mk ((hb.block _ (blk_lt XB.out)).trans XB.out)
  have D5 := Aside0.mk (below_then D4.out D4.out.size hb)
  clear hb D4
  go_wp2_with fail
  have p0 : w5.drew.cell? ⟨w.heap.size, 0, none⟩ = some (.int .i64 c0) := (blk_cell XC.out 0).trans rfl
  have p1 : w5.drew.cell? ⟨w.heap.size, 1, none⟩ = some (.int .u64 c1) := (blk_cell XC.out 1).trans rfl
  have p2 : w5.drew.cell? ⟨w.heap.size, 2, none⟩ = some (.int .u64 c2) := (blk_cell XC.out 2).trans rfl
  have p3 : w5.drew.cell? ⟨w.heap.size, 3, none⟩ = some (.int .i64 c3) := (blk_cell XC.out 3).trans rfl
  have p4 : w5.drew.cell? ⟨w.heap.size, 4, none⟩ = some (.int .i64 c4) := (blk_cell XC.out 4).trans rfl
  have p5 : w5.drew.cell? ⟨w.heap.size, 5, none⟩ = some (.int .i64 c5) := (blk_cell XC.out 5).trans rfl
  have p6 : w5.drew.cell? ⟨w.heap.size, 6, none⟩ = some (.string ⟨c6.toArray⟩) := (blk_cell XC.out 6).trans rfl
  have q0 : w5.drew.cell? ⟨w.heap.size + 1, 0, none⟩ = some (.int .i64 d0) := (blk_cell XD.out 0).trans rfl
  have q1 : w5.drew.cell? ⟨w.heap.size + 1, 1, none⟩ = some (.int .u64 d1) := (blk_cell XD.out 1).trans rfl
  have q2 : w5.drew.cell? ⟨w.heap.size + 1, 2, none⟩ = some (.int .u64 d2) := (blk_cell XD.out 2).trans rfl
  have q3 : w5.drew.cell? ⟨w.heap.size + 1, 3, none⟩ = some (.int .i64 d3) := (blk_cell XD.out 3).trans rfl
  have q4 : w5.drew.cell? ⟨w.heap.size + 1, 4, none⟩ = some (.int .i64 d4) := (blk_cell XD.out 4).trans rfl
  have q5 : w5.drew.cell? ⟨w.heap.size + 1, 5, none⟩ = some (.int .i64 d5) := (blk_cell XD.out 5).trans rfl
  have q6 : w5.drew.cell? ⟨w.heap.size + 1, 6, none⟩ = some (.string ⟨d6.toArray⟩) := (blk_cell XD.out 6).trans rfl
  have XBd : w5.drew.heap[bb]? = some (.cells #[.int .i64 b0, .int .u64 b1, .int .u64 b2, .int .i64 b3, .int .i64 b4, .int .i64 b5, .string ⟨b6.toArray⟩] 24 (0, 0)) := XB.out
  have DDr := below_drew D5.out
  clear XC XD XA XB D5
  refine start_ (n := 17) (S := fun w' => w'.cell? ⟨w.heap.size, 0, none⟩ = some (.int .i64 c0) ∧ w'.cell? ⟨w.heap.size, 1, none⟩ = some (.int .u64 c1) ∧ w'.cell? ⟨w.heap.size, 2, none⟩ = some (.int .u64 c2) ∧ w'.cell? ⟨w.heap.size, 3, none⟩ = some (.int .i64 c3) ∧ w'.cell? ⟨w.heap.size, 4, none⟩ = some (.int .i64 c4) ∧ w'.cell? ⟨w.heap.size, 5, none⟩ = some (.int .i64 c5) ∧ w'.cell? ⟨w.heap.size, 6, none⟩ = some (.string ⟨c6.toArray⟩) ∧ w'.cell? ⟨w.heap.size + 1, 0, none⟩ = some (.int .i64 d0) ∧ w'.cell? ⟨w.heap.size + 1, 1, none⟩ = some (.int .u64 d1) ∧ w'.cell? ⟨w.heap.size + 1, 2, none⟩ = some (.int .u64 d2) ∧ w'.cell? ⟨w.heap.size + 1, 3, none⟩ = some (.int .i64 d3) ∧ w'.cell? ⟨w.heap.size + 1, 4, none⟩ = some (.int .i64 d4) ∧ w'.cell? ⟨w.heap.size + 1, 5, none⟩ = some (.int .i64 d5) ∧ w'.cell? ⟨w.heap.size + 1, 6, none⟩ = some (.string ⟨d6.toArray⟩) ∧ Below w.heap.size w w' ∧ w'.heap[bb]? = some (.cells #[.int .i64 b0, .int .u64 b1, .int .u64 b2, .int .i64 b3, .int .i64 b4, .int .i64 b5, .string ⟨b6.toArray⟩] 24 (0, 0))) (ds := []) #[false, false, false, false, false, false, false, false, false, false, false, false, false, false, false, false, false] (by kernel_rfl) rfl rfl ⟨p0, p1, p2, p3, p4, p5, p6, q0, q1, q2, q3, q4, q5, q6, DDr, XBd⟩ (fun hHeld => ?_)
  refine take_ (i := 0) (N := some 40) (v := ?_) (a' := ?_) #[true, false, false, false, false, false, false, false, false, false, false, false, false, false, false, false, false] rfl rfl (by kernel_rfl) (fun _ _ _ h => h) (Or.inl ⟨by rfl, ?_⟩) hHeld ?_ ?_
  rotate_left
  · rintro w' ⟨s0, s1, s2, s3, s4, s5, s6, s7, s8, s9, s10, s11, s12, s13, s14, s15⟩
    go_simp
    with_reducible rfl
  rotate_left
  · simp only [Act.put, List.setIfInBounds_toArray, List.set_cons_zero, List.set_cons_succ, i64_w, i32_w]
    rfl
  refine one_ (i := 1) (N := some 41) #[true, true, false, false, false, false, false, false, false, false, false, false, false, false, false, false, false] rfl rfl (by kernel_rfl) (by decide) (fun K hK => ?_)
  refine goes_ Tryd.func11 (by kernel_rfl) rfl #[.agg #[.int .i64 c0, .int .u64 c1, .int .u64 c2, .int .i64 c3, .int .i64 c4, .int .i64 c5, .string ⟨c6.toArray⟩]] (by rfl) rfl rfl (by simp only [List.map_toArray, List.map_cons, List.map_nil]; rfl) ?_
  with_reducible refine (MC.out _ (HT.out.below (hHeld.2.2.2.2.2.2.2.2.2.2.2.2.2.2.1)) (HE.out.below (hHeld.2.2.2.2.2.2.2.2.2.2.2.2.2.2.1))).mono ?_
  rintro e w8 ⟨rfl, hb3⟩
  refine ⟨_, rfl, ?_⟩
  refine hK.out _ _ ⟨pw_cell_below hb3 (hHeld.1), pw_cell_below hb3 (hHeld.2.1), pw_cell_below hb3 (hHeld.2.2.1), pw_cell_below hb3 (hHeld.2.2.2.1), pw_cell_below hb3 (hHeld.2.2.2.2.1), pw_cell_below hb3 (hHeld.2.2.2.2.2.1), pw_cell_below hb3 (hHeld.2.2.2.2.2.2.1), pw_cell_below hb3 (hHeld.2.2.2.2.2.2.2.1), pw_cell_below hb3 (hHeld.2.2.2.2.2.2.2.2.1), pw_cell_below hb3 (hHeld.2.2.2.2.2.2.2.2.2.1), pw_cell_below hb3 (hHeld.2.2.2.2.2.2.2.2.2.2.1), pw_cell_below hb3 (hHeld.2.2.2.2.2.2.2.2.2.2.2.1), pw_cell_below hb3 (hHeld.2.2.2.2.2.2.2.2.2.2.2.2.1), pw_cell_below hb3 (hHeld.2.2.2.2.2.2.2.2.2.2.2.2.2.1), below_then (hHeld.2.2.2.2.2.2.2.2.2.2.2.2.2.2.1) (hHeld.2.2.2.2.2.2.2.2.2.2.2.2.2.2.1).size hb3, (hb3.block _ (blk_lt (hHeld.2.2.2.2.2.2.2.2.2.2.2.2.2.2.2))).trans (hHeld.2.2.2.2.2.2.2.2.2.2.2.2.2.2.2)⟩ (fun hHeld => ?_)
  clear hK K
  refine norm_ (a' := ?_) ?_ ?_
  rotate_left
  · show Act.put _ (some 41) _ = _
    simp only [Act.put, List.setIfInBounds_toArray, List.set_cons_zero, List.set_cons_succ, i64_w, i32_w]
    rfl
  refine pure_ (i := 2) (N := some 42) (v := ?_) (a' := ?_) #[true, true, true, false, false, false, false, false, false, false, false, false, false, false, false, false, false] rfl rfl (by kernel_rfl) (fun _ _ _ h => h) (Or.inl ⟨by rfl, ?_⟩) ?_ ?_
  rotate_left
  · intro w'
    go_simp
    with_reducible rfl
  rotate_left
  · simp only [Act.put, List.setIfInBounds_toArray, List.set_cons_zero, List.set_cons_succ, i64_w, i32_w]
    rfl
  refine pure_ (i := 3) (N := some 43) (v := undef) (a' := ?_) #[true, true, true, true, false, false, false, false, false, false, false, false, false, false, false, false, false] rfl rfl (by kernel_rfl) (fun _ _ _ h => h) (Or.inr ⟨by rfl, rfl⟩) ?_ ?_
  rotate_left
  · simp only [Act.put, List.setIfInBounds_toArray, List.set_cons_zero, List.set_cons_succ, i64_w, i32_w]
    rfl
  refine pure_ (i := 4) (N := some 44) (v := undef) (a' := ?_) #[true, true, true, true, true, false, false, false, false, false, false, false, false, false, false, false, false] rfl rfl (by kernel_rfl) (fun _ _ _ h => h) (Or.inr ⟨by rfl, rfl⟩) ?_ ?_
  rotate_left
  · simp only [Act.put, List.setIfInBounds_toArray, List.set_cons_zero, List.set_cons_succ, i64_w, i32_w]
    rfl
  refine pure_ (i := 5) (N := some 45) (v := ?_) (a' := ?_) #[true, true, true, true, true, true, false, false, false, false, false, false, false, false, false, false, false] rfl rfl (by kernel_rfl) (fun _ _ _ h => h) (Or.inl ⟨by rfl, ?_⟩) ?_ ?_
  rotate_left
  · intro w'
    go_simp
    with_reducible rfl
  rotate_left
  · simp only [Act.put, List.setIfInBounds_toArray, List.set_cons_zero, List.set_cons_succ, i64_w, i32_w]
    rfl
  refine pure_ (i := 6) (N := some 46) (v := ?_) (a' := ?_) #[true, true, true, true, true, true, true, false, false, false, false, false, false, false, false, false, false] rfl rfl (by kernel_rfl) (fun _ _ _ h => h) (Or.inl ⟨by rfl, ?_⟩) ?_ ?_
  rotate_left
  · intro w'
    go_simp
    with_reducible rfl
  rotate_left
  · simp only [Act.put, List.setIfInBounds_toArray, List.set_cons_zero, List.set_cons_succ, i64_w, i32_w]
    rfl
  refine pure_ (i := 7) (N := some 47) (v := undef) (a' := ?_) #[true, true, true, true, true, true, true, true, false, false, false, false, false, false, false, false, false] rfl rfl (by kernel_rfl) (fun _ _ _ h => h) (Or.inr ⟨by rfl, rfl⟩) ?_ ?_
  rotate_left
  · simp only [Act.put, List.setIfInBounds_toArray, List.set_cons_zero, List.set_cons_succ, i64_w, i32_w]
    rfl
  refine pure_ (i := 8) (N := some 48) (v := undef) (a' := ?_) #[true, true, true, true, true, true, true, true, true, false, false, false, false, false, false, false, false] rfl rfl (by kernel_rfl) (fun _ _ _ h => h) (Or.inr ⟨by rfl, rfl⟩) ?_ ?_
  rotate_left
  · simp only [Act.put, List.setIfInBounds_toArray, List.set_cons_zero, List.set_cons_succ, i64_w, i32_w]
    rfl
  refine pure_ (i := 9) (N := some 49) (v := undef) (a' := ?_) #[true, true, true, true, true, true, true, true, true, true, false, false, false, false, false, false, false] rfl rfl (by kernel_rfl) (fun _ _ _ h => h) (Or.inr ⟨by rfl, rfl⟩) ?_ ?_
  rotate_left
  · simp only [Act.put, List.setIfInBounds_toArray, List.set_cons_zero, List.set_cons_succ, i64_w, i32_w]
    rfl
  refine pure_ (i := 10) (N := some 50) (v := undef) (a' := ?_) #[true, true, true, true, true, true, true, true, true, true, true, false, false, false, false, false, false] rfl rfl (by kernel_rfl) (fun _ _ _ h => h) (Or.inr ⟨by rfl, rfl⟩) ?_ ?_
  rotate_left
  · simp only [Act.put, List.setIfInBounds_toArray, List.set_cons_zero, List.set_cons_succ, i64_w, i32_w]
    rfl
  refine pure_ (i := 11) (N := some 51) (v := undef) (a' := ?_) #[true, true, true, true, true, true, true, true, true, true, true, true, false, false, false, false, false] rfl rfl (by kernel_rfl) (fun _ _ _ h => h) (Or.inr ⟨by rfl, rfl⟩) ?_ ?_
  rotate_left
  · simp only [Act.put, List.setIfInBounds_toArray, List.set_cons_zero, List.set_cons_succ, i64_w, i32_w]
    rfl
  refine pure_ (i := 12) (N := some 52) (v := undef) (a' := ?_) #[true, true, true, true, true, true, true, true, true, true, true, true, true, false, false, false, false] rfl rfl (by kernel_rfl) (fun _ _ _ h => h) (Or.inr ⟨by rfl, rfl⟩) ?_ ?_
  rotate_left
  · simp only [Act.put, List.setIfInBounds_toArray, List.set_cons_zero, List.set_cons_succ, i64_w, i32_w]
    rfl
  refine pure_ (i := 13) (N := some 53) (v := undef) (a' := ?_) #[true, true, true, true, true, true, true, true, true, true, true, true, true, true, false, false, false] rfl rfl (by kernel_rfl) (fun _ _ _ h => h) (Or.inr ⟨by rfl, rfl⟩) ?_ ?_
  rotate_left
  · simp only [Act.put, List.setIfInBounds_toArray, List.set_cons_zero, List.set_cons_succ, i64_w, i32_w]
    rfl
  refine pure_ (i := 14) (N := some 54) (v := undef) (a' := ?_) #[true, true, true, true, true, true, true, true, true, true, true, true, true, true, true, false, false] rfl rfl (by kernel_rfl) (fun _ _ _ h => h) (Or.inr ⟨by rfl, rfl⟩) ?_ ?_
  rotate_left
  · simp only [Act.put, List.setIfInBounds_toArray, List.set_cons_zero, List.set_cons_succ, i64_w, i32_w]
    rfl
  refine pure_ (i := 15) (N := some 55) (v := undef) (a' := ?_) #[true, true, true, true, true, true, true, true, true, true, true, true, true, true, true, true, false] rfl rfl (by kernel_rfl) (fun _ _ _ h => h) (Or.inr ⟨by rfl, rfl⟩) ?_ ?_
  rotate_left
  · simp only [Act.put, List.setIfInBounds_toArray, List.set_cons_zero, List.set_cons_succ, i64_w, i32_w]
    rfl
  refine pure_ (i := 16) (N := some 56) (v := ?_) (a' := ?_) #[true, true, true, true, true, true, true, true, true, true, true, true, true, true, true, true, true] rfl rfl (by kernel_rfl) (fun _ _ _ h => h) (Or.inl ⟨by rfl, ?_⟩) ?_ ?_
  rotate_left
  · intro w'
    go_simp
    with_reducible rfl
  rotate_left
  · simp only [Act.put, List.setIfInBounds_toArray, List.set_cons_zero, List.set_cons_succ, i64_w, i32_w]
    rfl
  refine done_ (by kernel_rfl) ?_
  have DD := Aside0.mk (hHeld.2.2.2.2.2.2.2.2.2.2.2.2.2.2.1)
  have XB := Aside0.mk (hHeld.2.2.2.2.2.2.2.2.2.2.2.2.2.2.2)
  clear hHeld p0 q0 p1 q1 p2 q2 p3 q3 p4 q4 p5 q5 p6 q6
  --BEHIND
  clear XBd DDr
  have x0 := (blk_cell XB.out 0).trans (show _ = some (.int .i64 b0) from rfl)
  have x1 := (blk_cell XB.out 1).trans (show _ = some (.int .u64 b1) from rfl)
  have x2 := (blk_cell XB.out 2).trans (show _ = some (.int .u64 b2) from rfl)
  have x3 := (blk_cell XB.out 3).trans (show _ = some (.int .i64 b3) from rfl)
  have x4 := (blk_cell XB.out 4).trans (show _ = some (.int .i64 b4) from rfl)
  have x5 := (blk_cell XB.out 5).trans (show _ = some (.int .i64 b5) from rfl)
  have x6 := (blk_cell XB.out 6).trans (show _ = some (.string ⟨b6.toArray⟩) from rfl)
  go_wp2_with fail
  clear x0 x1 x2 x3 x4 x5 x6
  refine (MB.out _ (HT.out.below DD.out) (HE.out.below DD.out)).mono ?_
  rintro e w9 ⟨rfl, hb⟩
  replace XB := Aside0.mk ((hb.block _ (blk_lt XB.out)).trans XB.out)
  have D9 := Aside0.mk (below_then DD.out DD.out.size hb)
  clear hb DD
  have x0 := (blk_cell XB.out 0).trans (show _ = some (.int .i64 b0) from rfl)
  have x1 := (blk_cell XB.out 1).trans (show _ = some (.int .u64 b1) from rfl)
  have x2 := (blk_cell XB.out 2).trans (show _ = some (.int .u64 b2) from rfl)
  have x3 := (blk_cell XB.out 3).trans (show _ = some (.int .i64 b3) from rfl)
  have x4 := (blk_cell XB.out 4).trans (show _ = some (.int .i64 b4) from rfl)
  have x5 := (blk_cell XB.out 5).trans (show _ = some (.int .i64 b5) from rfl)
  have x6 := (blk_cell XB.out 6).trans (show _ = some (.string ⟨b6.toArray⟩) from rfl)
  go_wp2_with fail
  clear x0 x1 x2 x3 x4 x5 x6
  refine (PB.out _ (HT.out.below D9.out) (HE.out.below D9.out)).mono ?_
  rintro e w10 ⟨rfl, hb⟩
  replace XB := Aside0.mk ((hb.block _ (blk_lt XB.out)).trans XB.out)
  have D10 := Aside0.mk (below_then D9.out D9.out.size hb)
  clear hb D9
  go_wp2
  go_ret
  exact ⟨rfl, D10.out⟩
set_option maxRecDepth 100000 in
set_option maxHeartbeats 8000000 in
theorem back_tnn (c0 c1 c2 c3 c4 c5 d0 d1 d2 d3 d4 d5 : Int) (c6 d6 s : List UInt8) (hs : s.length ≤ 281474976710656) (w : World) (ht : Tens w) (he : Errs w) (hfc : (⟨c0, c1, c2, c3, c4, c5, c6⟩ : Call7).Fits) (hfd : (⟨d0, d1, d2, d3, d4, d5, d6⟩ : Call7).Fits)
    (hm : mayL (⟨c0, c1, c2, c3, c4, c5, c6⟩ : Call7) = true) (hm2 : mayL (⟨d0, d1, d2, d3, d4, d5, d6⟩ : Call7) = false) (hy : callP s = none) :
    Calls Tryd.prog 5 #[.agg #[.int .i64 c0, .int .u64 c1, .int .u64 c2, .int .i64 c3, .int .i64 c4, .int .i64 c5, .string ⟨c6.toArray⟩], .agg #[.int .i64 d0, .int .u64 d1, .int .u64 d2, .int .i64 d3, .int .i64 d4, .int .i64 d5, .string ⟨d6.toArray⟩], .string ⟨s.toArray⟩] w fun e w' => e = .returned (.bool true) ∧ Below w.heap.size w w' := by
  have HT := Aside0.mk ht
  have HE := Aside0.mk he
  have HS := Aside0.mk hs
  have HFC := Aside0.mk hfc
  have HFD := Aside0.mk hfd
  have HM := Aside0.mk hm
  have HM2 := Aside0.mk hm2
  have HY := Aside0.mk hy
  have MC := Aside0.mk (fun w1 h1 h2 => may_x c0 c1 c2 c3 c4 c5 c6 w1 hfc h1 h2)
  rw [hm] at MC
  have MD := Aside0.mk (fun w1 h1 h2 => may_x d0 d1 d2 d3 d4 d5 d6 w1 hfd h1 h2)
  rw [hm2] at MD
  clear ht he hs hfc hfd hm hm2 hy
  have D0 := Aside0.mk (below_alloc (below_alloc (Below.refl w.heap.size w) (.cells #[.int .i64 c0, .int .u64 c1, .int .u64 c2, .int .i64 c3, .int .i64 c4, .int .i64 c5, .string ⟨c6.toArray⟩] 24)) (.cells #[.int .i64 d0, .int .u64 d1, .int .u64 d2, .int .i64 d3, .int .i64 d4, .int .i64 d5, .string ⟨d6.toArray⟩] 24))
  have XC := Aside0.mk (blk_alloc (blk_new w (.cells #[.int .i64 c0, .int .u64 c1, .int .u64 c2, .int .i64 c3, .int .i64 c4, .int .i64 c5, .string ⟨c6.toArray⟩] 24)) (.cells #[.int .i64 d0, .int .u64 d1, .int .u64 d2, .int .i64 d3, .int .i64 d4, .int .i64 d5, .string ⟨d6.toArray⟩] 24))
  have XD := Aside0.mk (blk_new (w.alloc (.cells #[.int .i64 c0, .int .u64 c1, .int .u64 c2, .int .i64 c3, .int .i64 c4, .int .i64 c5, .string ⟨c6.toArray⟩] 24)) (.cells #[.int .i64 d0, .int .u64 d1, .int .u64 d2, .int .i64 d3, .int .i64 d4, .int .i64 d5, .string ⟨d6.toArray⟩] 24))
  rw [World.size_alloc] at XD
  go_enter Tryd.func5, Tryd.ntmps5
  go_wp2_with fail
  refine (print_x c0 c1 c2 c3 c4 c5 c6 _ HFC.out (HT.out.below D0.out) (HE.out.below D0.out)).mono ?_
  rintro e w1 ⟨rfl, hb⟩
  replace XC := Aside0.mk ((hb.block _ (blk_lt XC.out)).trans XC.out)
  replace XD := Aside0.mk ((hb.block _ (blk_lt XD.out)).trans XD.out)
  have D1 := Aside0.mk (below_then D0.out D0.out.size hb)
  clear hb D0
  go_wp2_with fail
  refine (back_yes c0 c1 c2 c3 c4 c5 c6 _ HFC.out (HT.out.below D1.out) (HE.out.below D1.out) HM.out).mono ?_
  rintro e w2 ⟨rfl, hb⟩
  replace XC := Aside0.mk ((hb.block _ (blk_lt XC.out)).trans XC.out)
  replace XD := Aside0.mk ((hb.block _ (blk_lt XD.out)).trans XD.out)
  have D2 := Aside0.mk (below_then D1.out D1.out.size hb)
  clear hb D1
  have XA := Aside0.mk (blk_new w2 (.cells #[.int .i64 c0, .int .u64 c1, .int .u64 c2, .int .i64 c3, .int .i64 c4, .int .i64 c5, .string ⟨c6.toArray⟩] 24))
  replace XC := Aside0.mk (blk_alloc XC.out (.cells #[.int .i64 c0, .int .u64 c1, .int .u64 c2, .int .i64 c3, .int .i64 c4, .int .i64 c5, .string ⟨c6.toArray⟩] 24))
  replace XD := Aside0.mk (blk_alloc XD.out (.cells #[.int .i64 c0, .int .u64 c1, .int .u64 c2, .int .i64 c3, .int .i64 c4, .int .i64 c5, .string ⟨c6.toArray⟩] 24))
  have E2 := Aside0.mk (below_alloc D2.out (.cells #[.int .i64 c0, .int .u64 c1, .int .u64 c2, .int .i64 c3, .int .i64 c4, .int .i64 c5, .string ⟨c6.toArray⟩] 24))
  obtain ⟨ba, hba⟩ : ∃ ba, ba = w2.heap.size := ⟨_, rfl⟩
  rw [← hba] at XA
  clear D2
  go_wp2_with fail
  rw [← hba]
  clear hba
  generalize w2.alloc (.cells #[.int .i64 c0, .int .u64 c1, .int .u64 c2, .int .i64 c3, .int .i64 c4, .int .i64 c5, .string ⟨c6.toArray⟩] 24) = v2 at XC XD XA E2 ⊢
  refine (parse_no s HS.out _ (HT.out.below E2.out) (HE.out.below E2.out) HY.out).mono ?_
  rintro e w3 ⟨rfl, hb⟩
  replace XC := Aside0.mk ((hb.block _ (blk_lt XC.out)).trans XC.out)
  replace XD := Aside0.mk ((hb.block _ (blk_lt XD.out)).trans XD.out)
  replace XA := Aside0.mk ((hb.block _ (blk_lt XA.out)).trans XA.out)
  have D3 := Aside0.mk (below_then E2.out E2.out.size hb)
  clear hb E2
  have XB := Aside0.mk (blk_new w3 (.cells #[.int .i64 0, .int .u64 0, .int .u64 0, .int .i64 0, .int .i64 0, .int .i64 0, .string ⟨#[]⟩] 24))
  replace XC := Aside0.mk (blk_alloc XC.out (.cells #[.int .i64 0, .int .u64 0, .int .u64 0, .int .i64 0, .int .i64 0, .int .i64 0, .string ⟨#[]⟩] 24))
  replace XD := Aside0.mk (blk_alloc XD.out (.cells #[.int .i64 0, .int .u64 0, .int .u64 0, .int .i64 0, .int .i64 0, .int .i64 0, .string ⟨#[]⟩] 24))
  replace XA := Aside0.mk (blk_alloc XA.out (.cells #[.int .i64 0, .int .u64 0, .int .u64 0, .int .i64 0, .int .i64 0, .int .i64 0, .string ⟨#[]⟩] 24))
  have E3 := Aside0.mk (below_alloc D3.out (.cells #[.int .i64 0, .int .u64 0, .int .u64 0, .int .i64 0, .int .i64 0, .int .i64 0, .string ⟨#[]⟩] 24))
  obtain ⟨bb, hbb⟩ : ∃ bb, bb = w3.heap.size := ⟨_, rfl⟩
  rw [← hbb] at XB
  clear D3
  go_wp2_with fail
  rw [← hbb]
  clear hbb
  generalize w3.alloc (.cells #[.int .i64 0, .int .u64 0, .int .u64 0, .int .i64 0, .int .i64 0, .int .i64 0, .string ⟨#[]⟩] 24) = v3 at XC XD XA XB E3 ⊢
  refine (fixed_q _ (HT.out.below E3.out) (HE.out.below E3.out)).mono ?_
  rintro e w4 ⟨rfl, hb⟩
  replace XC := Aside0.mk ((hb.block _ (blk_lt XC.out)).trans XC.out)
  replace XD := Aside0.mk ((hb.block _ (blk_lt XD.out)).trans XD.out)
  replace XA := Aside0.mk ((hb.block _ (blk_lt XA.out)).trans XA.out)
  replace XB := Aside0.mk ((hb.block _ (blk_lt XB.out)).trans XB.out)
  have D4 := Aside0.mk (below_then E3.out E3.out.size hb)
  clear hb E3
  have x0 := (blk_cell XC.out 0).trans (show _ = some (.int .i64 c0) from rfl)
  have x1 := (blk_cell XC.out 1).trans (show _ = some (.int .u64 c1) from rfl)
  have x2 := (blk_cell XC.out 2).trans (show _ = some (.int .u64 c2) from rfl)
  have x3 := (blk_cell XC.out 3).trans (show _ = some (.int .i64 c3) from rfl)
  have x4 := (blk_cell XC.out 4).trans (show _ = some (.int .i64 c4) from rfl)
  have x5 := (blk_cell XC.out 5).trans (show _ = some (.int .i64 c5) from rfl)
  have x6 := (blk_cell XC.out 6).trans (show _ = some (.string ⟨c6.toArray⟩) from rfl)
  go_wp2_with fail
  clear x0 x1 x2 x3 x4 x5 x6
  refine (MC.out _ (HT.out.below D4.out) (HE.out.below D4.out)).mono ?_
  rintro e w5 ⟨rfl, hb⟩
  replace XC := Aside0.mk ((hb.block _ (blk_lt XC.out)).trans XC.out)
  replace XD := Aside0.mk ((hb.block _ (blk_lt XD.out)).trans XD.out)
  replace XA := Aside0.mk ((hb.block _ (blk_lt XA.out)).trans XA.out)
  replace XB := Aside0.mk ((hb.block _ (blk_lt XB.out)).trans XB.out)
  have D5 := Aside0.mk (below_then D4.out D4.out.size hb)
  clear hb D4
  have x0 := (blk_cell XC.out 0).trans (show _ = some (.int .i64 c0) from rfl)
  have x1 := (blk_cell XC.out 1).trans (show _ = some (.int .u64 c1) from rfl)
  have x2 := (blk_cell XC.out 2).trans (show _ = some (.int .u64 c2) from rfl)
  have x3 := (blk_cell XC.out 3).trans (show _ = some (.int .i64 c3) from rfl)
  have x4 := (blk_cell XC.out 4).trans (show _ = some (.int .i64 c4) from rfl)
  have x5 := (blk_cell XC.out 5).trans (show _ = some (.int .i64 c5) from rfl)
  have x6 := (blk_cell XC.out 6).trans (show _ = some (.string ⟨c6.toArray⟩) from rfl)
  have y0 := (blk_cell XA.out 0).trans (show _ = some (.int .i64 c0) from rfl)
  have y1 := (blk_cell XA.out 1).trans (show _ = some (.int .u64 c1) from rfl)
  have y2 := (blk_cell XA.out 2).trans (show _ = some (.int .u64 c2) from rfl)
  have y3 := (blk_cell XA.out 3).trans (show _ = some (.int .i64 c3) from rfl)
  have y4 := (blk_cell XA.out 4).trans (show _ = some (.int .i64 c4) from rfl)
  have y5 := (blk_cell XA.out 5).trans (show _ = some (.int .i64 c5) from rfl)
  have y6 := (blk_cell XA.out 6).trans (show _ = some (.string ⟨c6.toArray⟩) from rfl)
  go_wp2_with fail
  clear x0 x1 x2 x3 x4 x5 x6
  clear y0 y1 y2 y3 y4 y5 y6
  have p0 : w5.drew.cell? ⟨w.heap.size, 0, none⟩ = some (.int .i64 c0) := (blk_cell XC.out 0).trans rfl
  have p1 : w5.drew.cell? ⟨w.heap.size, 1, none⟩ = some (.int .u64 c1) := (blk_cell XC.out 1).trans rfl
  have p2 : w5.drew.cell? ⟨w.heap.size, 2, none⟩ = some (.int .u64 c2) := (blk_cell XC.out 2).trans rfl
  have p3 : w5.drew.cell? ⟨w.heap.size, 3, none⟩ = some (.int .i64 c3) := (blk_cell XC.out 3).trans rfl
  have p4 : w5.drew.cell? ⟨w.heap.size, 4, none⟩ = some (.int .i64 c4) := (blk_cell XC.out 4).trans rfl
  have p5 : w5.drew.cell? ⟨w.heap.size, 5, none⟩ = some (.int .i64 c5) := (blk_cell XC.out 5).trans rfl
  have p6 : w5.drew.cell? ⟨w.heap.size, 6, none⟩ = some (.string ⟨c6.toArray⟩) := (blk_cell XC.out 6).trans rfl
  have q0 : w5.drew.cell? ⟨w.heap.size + 1, 0, none⟩ = some (.int .i64 d0) := (blk_cell XD.out 0).trans rfl
  have q1 : w5.drew.cell? ⟨w.heap.size + 1, 1, none⟩ = some (.int .u64 d1) := (blk_cell XD.out 1).trans rfl
  have q2 : w5.drew.cell? ⟨w.heap.size + 1, 2, none⟩ = some (.int .u64 d2) := (blk_cell XD.out 2).trans rfl
  have q3 : w5.drew.cell? ⟨w.heap.size + 1, 3, none⟩ = some (.int .i64 d3) := (blk_cell XD.out 3).trans rfl
  have q4 : w5.drew.cell? ⟨w.heap.size + 1, 4, none⟩ = some (.int .i64 d4) := (blk_cell XD.out 4).trans rfl
  have q5 : w5.drew.cell? ⟨w.heap.size + 1, 5, none⟩ = some (.int .i64 d5) := (blk_cell XD.out 5).trans rfl
  have q6 : w5.drew.cell? ⟨w.heap.size + 1, 6, none⟩ = some (.string ⟨d6.toArray⟩) := (blk_cell XD.out 6).trans rfl
  have XBd : w5.drew.heap[bb]? = some (.cells #[.int .i64 0, .int .u64 0, .int .u64 0, .int .i64 0, .int .i64 0, .int .i64 0, .string ⟨#[]⟩] 24 (0, 0)) := XB.out
  have DDr := below_drew D5.out
  clear XC XD XA XB D5
  refine start_ (n := 17) (S := fun w' => w'.cell? ⟨w.heap.size, 0, none⟩ = some (.int .i64 c0) ∧ w'.cell? ⟨w.heap.size, 1, none⟩ = some (.int .u64 c1) ∧ w'.cell? ⟨w.heap.size, 2, none⟩ = some (.int .u64 c2) ∧ w'.cell? ⟨w.heap.size, 3, none⟩ = some (.int .i64 c3) ∧ w'.cell? ⟨w.heap.size, 4, none⟩ = some (.int .i64 c4) ∧ w'.cell? ⟨w.heap.size, 5, none⟩ = some (.int .i64 c5) ∧ w'.cell? ⟨w.heap.size, 6, none⟩ = some (.string ⟨c6.toArray⟩) ∧ w'.cell? ⟨w.heap.size + 1, 0, none⟩ = some (.int .i64 d0) ∧ w'.cell? ⟨w.heap.size + 1, 1, none⟩ = some (.int .u64 d1) ∧ w'.cell? ⟨w.heap.size + 1, 2, none⟩ = some (.int .u64 d2) ∧ w'.cell? ⟨w.heap.size + 1, 3, none⟩ = some (.int .i64 d3) ∧ w'.cell? ⟨w.heap.size + 1, 4, none⟩ = some (.int .i64 d4) ∧ w'.cell? ⟨w.heap.size + 1, 5, none⟩ = some (.int .i64 d5) ∧ w'.cell? ⟨w.heap.size + 1, 6, none⟩ = some (.string ⟨d6.toArray⟩) ∧ Below w.heap.size w w' ∧ w'.heap[bb]? = some (.cells #[.int .i64 0, .int .u64 0, .int .u64 0, .int .i64 0, .int .i64 0, .int .i64 0, .string ⟨#[]⟩] 24 (0, 0))) (ds := []) #[false, false, false, false, false, false, false, false, false, false, false, false, false, false, false, false, false] (by kernel_rfl) rfl rfl ⟨p0, p1, p2, p3, p4, p5, p6, q0, q1, q2, q3, q4, q5, q6, DDr, XBd⟩ (fun hHeld => ?_)
  refine take_ (i := 0) (N := some 40) (v := ?_) (a' := ?_) #[true, false, false, false, false, false, false, false, false, false, false, false, false, false, false, false, false] rfl rfl (by kernel_rfl) (fun _ _ _ h => h) (Or.inl ⟨by rfl, ?_⟩) hHeld ?_ ?_
  rotate_left
  · rintro w' ⟨s0, s1, s2, s3, s4, s5, s6, s7, s8, s9, s10, s11, s12, s13, s14, s15⟩
    go_simp
    with_reducible rfl
  rotate_left
  · simp only [Act.put, List.setIfInBounds_toArray, List.set_cons_zero, List.set_cons_succ, i64_w, i32_w]
    rfl
  refine one_ (i := 1) (N := some 41) #[true, true, false, false, false, false, false, false, false, false, false, false, false, false, false, false, false] rfl rfl (by kernel_rfl) (by decide) (fun K hK => ?_)
  refine goes_ Tryd.func11 (by kernel_rfl) rfl #[.agg #[.int .i64 c0, .int .u64 c1, .int .u64 c2, .int .i64 c3, .int .i64 c4, .int .i64 c5, .string ⟨c6.toArray⟩]] (by rfl) rfl rfl (by simp only [List.map_toArray, List.map_cons, List.map_nil]; rfl) ?_
  with_reducible refine (MC.out _ (HT.out.below (hHeld.2.2.2.2.2.2.2.2.2.2.2.2.2.2.1)) (HE.out.below (hHeld.2.2.2.2.2.2.2.2.2.2.2.2.2.2.1))).mono ?_
  rintro e w8 ⟨rfl, hb3⟩
  refine ⟨_, rfl, ?_⟩
  refine hK.out _ _ ⟨pw_cell_below hb3 (hHeld.1), pw_cell_below hb3 (hHeld.2.1), pw_cell_below hb3 (hHeld.2.2.1), pw_cell_below hb3 (hHeld.2.2.2.1), pw_cell_below hb3 (hHeld.2.2.2.2.1), pw_cell_below hb3 (hHeld.2.2.2.2.2.1), pw_cell_below hb3 (hHeld.2.2.2.2.2.2.1), pw_cell_below hb3 (hHeld.2.2.2.2.2.2.2.1), pw_cell_below hb3 (hHeld.2.2.2.2.2.2.2.2.1), pw_cell_below hb3 (hHeld.2.2.2.2.2.2.2.2.2.1), pw_cell_below hb3 (hHeld.2.2.2.2.2.2.2.2.2.2.1), pw_cell_below hb3 (hHeld.2.2.2.2.2.2.2.2.2.2.2.1), pw_cell_below hb3 (hHeld.2.2.2.2.2.2.2.2.2.2.2.2.1), pw_cell_below hb3 (hHeld.2.2.2.2.2.2.2.2.2.2.2.2.2.1), below_then (hHeld.2.2.2.2.2.2.2.2.2.2.2.2.2.2.1) (hHeld.2.2.2.2.2.2.2.2.2.2.2.2.2.2.1).size hb3, (hb3.block _ (blk_lt (hHeld.2.2.2.2.2.2.2.2.2.2.2.2.2.2.2))).trans (hHeld.2.2.2.2.2.2.2.2.2.2.2.2.2.2.2)⟩ (fun hHeld => ?_)
  clear hK K
  refine norm_ (a' := ?_) ?_ ?_
  rotate_left
  · show Act.put _ (some 41) _ = _
    simp only [Act.put, List.setIfInBounds_toArray, List.set_cons_zero, List.set_cons_succ, i64_w, i32_w]
    rfl
  refine pure_ (i := 2) (N := some 42) (v := ?_) (a' := ?_) #[true, true, true, false, false, false, false, false, false, false, false, false, false, false, false, false, false] rfl rfl (by kernel_rfl) (fun _ _ _ h => h) (Or.inl ⟨by rfl, ?_⟩) ?_ ?_
  rotate_left
  · intro w'
    go_simp
    with_reducible rfl
  rotate_left
  · simp only [Act.put, List.setIfInBounds_toArray, List.set_cons_zero, List.set_cons_succ, i64_w, i32_w]
    rfl
  refine take_ (i := 3) (N := some 43) (v := ?_) (a' := ?_) #[true, true, true, true, false, false, false, false, false, false, false, false, false, false, false, false, false] rfl rfl (by kernel_rfl) (fun _ _ _ h => h) (Or.inl ⟨by rfl, ?_⟩) hHeld ?_ ?_
  rotate_left
  · rintro w' ⟨s0, s1, s2, s3, s4, s5, s6, s7, s8, s9, s10, s11, s12, s13, s14, s15⟩
    go_simp
    with_reducible rfl
  rotate_left
  · simp only [Act.put, List.setIfInBounds_toArray, List.set_cons_zero, List.set_cons_succ, i64_w, i32_w]
    rfl
  refine one_ (i := 4) (N := some 44) #[true, true, true, true, true, false, false, false, false, false, false, false, false, false, false, false, false] rfl rfl (by kernel_rfl) (by decide) (fun K hK => ?_)
  refine goes_ Tryd.func11 (by kernel_rfl) rfl #[.agg #[.int .i64 d0, .int .u64 d1, .int .u64 d2, .int .i64 d3, .int .i64 d4, .int .i64 d5, .string ⟨d6.toArray⟩]] (by rfl) rfl rfl (by simp only [List.map_toArray, List.map_cons, List.map_nil]; rfl) ?_
  with_reducible refine (MD.out _ (HT.out.below (hHeld.2.2.2.2.2.2.2.2.2.2.2.2.2.2.1)) (HE.out.below (hHeld.2.2.2.2.2.2.2.2.2.2.2.2.2.2.1))).mono ?_
  rintro e w8 ⟨rfl, hb3⟩
  refine ⟨_, rfl, ?_⟩
  refine hK.out _ _ ⟨pw_cell_below hb3 (hHeld.1), pw_cell_below hb3 (hHeld.2.1), pw_cell_below hb3 (hHeld.2.2.1), pw_cell_below hb3 (hHeld.2.2.2.1), pw_cell_below hb3 (hHeld.2.2.2.2.1), pw_cell_below hb3 (hHeld.2.2.2.2.2.1), pw_cell_below hb3 (hHeld.2.2.2.2.2.2.1), pw_cell_below hb3 (hHeld.2.2.2.2.2.2.2.1), pw_cell_below hb3 (hHeld.2.2.2.2.2.2.2.2.1), pw_cell_below hb3 (hHeld.2.2.2.2.2.2.2.2.2.1), pw_cell_below hb3 (hHeld.2.2.2.2.2.2.2.2.2.2.1), pw_cell_below hb3 (hHeld.2.2.2.2.2.2.2.2.2.2.2.1), pw_cell_below hb3 (hHeld.2.2.2.2.2.2.2.2.2.2.2.2.1), pw_cell_below hb3 (hHeld.2.2.2.2.2.2.2.2.2.2.2.2.2.1), below_then (hHeld.2.2.2.2.2.2.2.2.2.2.2.2.2.2.1) (hHeld.2.2.2.2.2.2.2.2.2.2.2.2.2.2.1).size hb3, (hb3.block _ (blk_lt (hHeld.2.2.2.2.2.2.2.2.2.2.2.2.2.2.2))).trans (hHeld.2.2.2.2.2.2.2.2.2.2.2.2.2.2.2)⟩ (fun hHeld => ?_)
  clear hK K
  refine norm_ (a' := ?_) ?_ ?_
  rotate_left
  · show Act.put _ (some 44) _ = _
    simp only [Act.put, List.setIfInBounds_toArray, List.set_cons_zero, List.set_cons_succ, i64_w, i32_w]
    rfl
  refine pure_ (i := 5) (N := some 45) (v := ?_) (a' := ?_) #[true, true, true, true, true, true, false, false, false, false, false, false, false, false, false, false, false] rfl rfl (by kernel_rfl) (fun _ _ _ h => h) (Or.inl ⟨by rfl, ?_⟩) ?_ ?_
  rotate_left
  · intro w'
    go_simp
    with_reducible rfl
  rotate_left
  · simp only [Act.put, List.setIfInBounds_toArray, List.set_cons_zero, List.set_cons_succ, i64_w, i32_w]
    rfl
  refine pure_ (i := 6) (N := some 46) (v := ?_) (a' := ?_) #[true, true, true, true, true, true, true, false, false, false, false, false, false, false, false, false, false] rfl rfl (by kernel_rfl) (fun _ _ _ h => h) (Or.inl ⟨by rfl, ?_⟩) ?_ ?_
  rotate_left
  · intro w'
    go_simp
    with_reducible rfl
  rotate_left
  · simp only [Act.put, List.setIfInBounds_toArray, List.set_cons_zero, List.set_cons_succ, i64_w, i32_w]
    rfl
  refine pure_ (i := 7) (N := some 47) (v := undef) (a' := ?_) #[true, true, true, true, true, true, true, true, false, false, false, false, false, false, false, false, false] rfl rfl (by kernel_rfl) (fun _ _ _ h => h) (Or.inr ⟨by rfl, rfl⟩) ?_ ?_
  rotate_left
  · simp only [Act.put, List.setIfInBounds_toArray, List.set_cons_zero, List.set_cons_succ, i64_w, i32_w]
    rfl
  refine pure_ (i := 8) (N := some 48) (v := undef) (a' := ?_) #[true, true, true, true, true, true, true, true, true, false, false, false, false, false, false, false, false] rfl rfl (by kernel_rfl) (fun _ _ _ h => h) (Or.inr ⟨by rfl, rfl⟩) ?_ ?_
  rotate_left
  · simp only [Act.put, List.setIfInBounds_toArray, List.set_cons_zero, List.set_cons_succ, i64_w, i32_w]
    rfl
  refine pure_ (i := 9) (N := some 49) (v := undef) (a' := ?_) #[true, true, true, true, true, true, true, true, true, true, false, false, false, false, false, false, false] rfl rfl (by kernel_rfl) (fun _ _ _ h => h) (Or.inr ⟨by rfl, rfl⟩) ?_ ?_
  rotate_left
  · simp only [Act.put, List.setIfInBounds_toArray, List.set_cons_zero, List.set_cons_succ, i64_w, i32_w]
    rfl
  refine pure_ (i := 10) (N := some 50) (v := undef) (a' := ?_) #[true, true, true, true, true, true, true, true, true, true, true, false, false, false, false, false, false] rfl rfl (by kernel_rfl) (fun _ _ _ h => h) (Or.inr ⟨by rfl, rfl⟩) ?_ ?_
  rotate_left
  · simp only [Act.put, List.setIfInBounds_toArray, List.set_cons_zero, List.set_cons_succ, i64_w, i32_w]
    rfl
  refine pure_ (i := 11) (N := some 51) (v := undef) (a' := ?_) #[true, true, true, true, true, true, true, true, true, true, true, true, false, false, false, false, false] rfl rfl (by kernel_rfl) (fun _ _ _ h => h) (Or.inr ⟨by rfl, rfl⟩) ?_ ?_
  rotate_left
  · simp only [Act.put, List.setIfInBounds_toArray, List.set_cons_zero, List.set_cons_succ, i64_w, i32_w]
    rfl
  refine pure_ (i := 12) (N := some 52) (v := undef) (a' := ?_) #[true, true, true, true, true, true, true, true, true, true, true, true, true, false, false, false, false] rfl rfl (by kernel_rfl) (fun _ _ _ h => h) (Or.inr ⟨by rfl, rfl⟩) ?_ ?_
  rotate_left
  · simp only [Act.put, List.setIfInBounds_toArray, List.set_cons_zero, List.set_cons_succ, i64_w, i32_w]
    rfl
  refine pure_ (i := 13) (N := some 53) (v := undef) (a' := ?_) #[true, true, true, true, true, true, true, true, true, true, true, true, true, true, false, false, false] rfl rfl (by kernel_rfl) (fun _ _ _ h => h) (Or.inr ⟨by rfl, rfl⟩) ?_ ?_
  rotate_left
  · simp only [Act.put, List.setIfInBounds_toArray, List.set_cons_zero, List.set_cons_succ, i64_w, i32_w]
    rfl
  refine pure_ (i := 14) (N := some 54) (v := undef) (a' := ?_) #[true, true, true, true, true, true, true, true, true, true, true, true, true, true, true, false, false] rfl rfl (by kernel_rfl) (fun _ _ _ h => h) (Or.inr ⟨by rfl, rfl⟩) ?_ ?_
  rotate_left
  · simp only [Act.put, List.setIfInBounds_toArray, List.set_cons_zero, List.set_cons_succ, i64_w, i32_w]
    rfl
  refine pure_ (i := 15) (N := some 55) (v := undef) (a' := ?_) #[true, true, true, true, true, true, true, true, true, true, true, true, true, true, true, true, false] rfl rfl (by kernel_rfl) (fun _ _ _ h => h) (Or.inr ⟨by rfl, rfl⟩) ?_ ?_
  rotate_left
  · simp only [Act.put, List.setIfInBounds_toArray, List.set_cons_zero, List.set_cons_succ, i64_w, i32_w]
    rfl
  refine pure_ (i := 16) (N := some 56) (v := ?_) (a' := ?_) #[true, true, true, true, true, true, true, true, true, true, true, true, true, true, true, true, true] rfl rfl (by kernel_rfl) (fun _ _ _ h => h) (Or.inl ⟨by rfl, ?_⟩) ?_ ?_
  rotate_left
  · intro w'
    go_simp
    with_reducible rfl
  rotate_left
  · simp only [Act.put, List.setIfInBounds_toArray, List.set_cons_zero, List.set_cons_succ, i64_w, i32_w]
    rfl
  refine done_ (by kernel_rfl) ?_
  have DD := Aside0.mk (hHeld.2.2.2.2.2.2.2.2.2.2.2.2.2.2.1)
  have XB := Aside0.mk (hHeld.2.2.2.2.2.2.2.2.2.2.2.2.2.2.2)
  clear hHeld p0 q0 p1 q1 p2 q2 p3 q3 p4 q4 p5 q5 p6 q6
  --BEHIND
  clear XBd DDr
  have x0 := (blk_cell XB.out 0).trans (show _ = some (.int .i64 0) from rfl)
  have x1 := (blk_cell XB.out 1).trans (show _ = some (.int .u64 0) from rfl)
  have x2 := (blk_cell XB.out 2).trans (show _ = some (.int .u64 0) from rfl)
  have x3 := (blk_cell XB.out 3).trans (show _ = some (.int .i64 0) from rfl)
  have x4 := (blk_cell XB.out 4).trans (show _ = some (.int .i64 0) from rfl)
  have x5 := (blk_cell XB.out 5).trans (show _ = some (.int .i64 0) from rfl)
  have x6 := (blk_cell XB.out 6).trans (show _ = some (.string ⟨#[]⟩) from rfl)
  go_wp2
  go_ret
  exact ⟨rfl, DD.out⟩
set_option maxRecDepth 100000 in
set_option maxHeartbeats 8000000 in
theorem back_tnt (c0 c1 c2 c3 c4 c5 d0 d1 d2 d3 d4 d5 b0 b1 b2 b3 b4 b5 : Int) (c6 d6 b6 s : List UInt8) (hs : s.length ≤ 281474976710656) (w : World) (ht : Tens w) (he : Errs w) (hfc : (⟨c0, c1, c2, c3, c4, c5, c6⟩ : Call7).Fits) (hfd : (⟨d0, d1, d2, d3, d4, d5, d6⟩ : Call7).Fits)
    (hm : mayL (⟨c0, c1, c2, c3, c4, c5, c6⟩ : Call7) = true) (hm2 : mayL (⟨d0, d1, d2, d3, d4, d5, d6⟩ : Call7) = false) (hy : callP s = some (⟨b0, b1, b2, b3, b4, b5, b6⟩ : Call7)) :
    Calls Tryd.prog 5 #[.agg #[.int .i64 c0, .int .u64 c1, .int .u64 c2, .int .i64 c3, .int .i64 c4, .int .i64 c5, .string ⟨c6.toArray⟩], .agg #[.int .i64 d0, .int .u64 d1, .int .u64 d2, .int .i64 d3, .int .i64 d4, .int .i64 d5, .string ⟨d6.toArray⟩], .string ⟨s.toArray⟩] w fun e w' => e = .returned (.bool true) ∧ Below w.heap.size w w' := by
  have HT := Aside0.mk ht
  have HE := Aside0.mk he
  have HS := Aside0.mk hs
  have HFC := Aside0.mk hfc
  have HFD := Aside0.mk hfd
  have HM := Aside0.mk hm
  have HM2 := Aside0.mk hm2
  have HY := Aside0.mk hy
  have HFB := Aside0.mk (said_of hy).fits
  have HMB := Aside0.mk (may_of hy)
  have HPB := Aside0.mk (print_of hy)
  have MC := Aside0.mk (fun w1 h1 h2 => may_x c0 c1 c2 c3 c4 c5 c6 w1 hfc h1 h2)
  rw [hm] at MC
  have MD := Aside0.mk (fun w1 h1 h2 => may_x d0 d1 d2 d3 d4 d5 d6 w1 hfd h1 h2)
  rw [hm2] at MD
  have MB := Aside0.mk (fun w1 h1 h2 => may_x b0 b1 b2 b3 b4 b5 b6 w1 HFB.out h1 h2)
  rw [HMB.out] at MB
  have PB := Aside0.mk (fun w1 h1 h2 => print_x b0 b1 b2 b3 b4 b5 b6 w1 HFB.out h1 h2)
  rw [HPB.out] at PB
  clear ht he hs hfc hfd hm hm2 hy
  have D0 := Aside0.mk (below_alloc (below_alloc (Below.refl w.heap.size w) (.cells #[.int .i64 c0, .int .u64 c1, .int .u64 c2, .int .i64 c3, .int .i64 c4, .int .i64 c5, .string ⟨c6.toArray⟩] 24)) (.cells #[.int .i64 d0, .int .u64 d1, .int .u64 d2, .int .i64 d3, .int .i64 d4, .int .i64 d5, .string ⟨d6.toArray⟩] 24))
  have XC := Aside0.mk (blk_alloc (blk_new w (.cells #[.int .i64 c0, .int .u64 c1, .int .u64 c2, .int .i64 c3, .int .i64 c4, .int .i64 c5, .string ⟨c6.toArray⟩] 24)) (.cells #[.int .i64 d0, .int .u64 d1, .int .u64 d2, .int .i64 d3, .int .i64 d4, .int .i64 d5, .string ⟨d6.toArray⟩] 24))
  have XD := Aside0.mk (blk_new (w.alloc (.cells #[.int .i64 c0, .int .u64 c1, .int .u64 c2, .int .i64 c3, .int .i64 c4, .int .i64 c5, .string ⟨c6.toArray⟩] 24)) (.cells #[.int .i64 d0, .int .u64 d1, .int .u64 d2, .int .i64 d3, .int .i64 d4, .int .i64 d5, .string ⟨d6.toArray⟩] 24))
  rw [World.size_alloc] at XD
  go_enter Tryd.func5, Tryd.ntmps5
  go_wp2_with fail
  refine (print_x c0 c1 c2 c3 c4 c5 c6 _ HFC.out (HT.out.below D0.out) (HE.out.below D0.out)).mono ?_
  rintro e w1 ⟨rfl, hb⟩
  replace XC := Aside0.mk ((hb.block _ (blk_lt XC.out)).trans XC.out)
  replace XD := Aside0.mk ((hb.block _ (blk_lt XD.out)).trans XD.out)
  have D1 := Aside0.mk (below_then D0.out D0.out.size hb)
  clear hb D0
  go_wp2_with fail
  refine (back_yes c0 c1 c2 c3 c4 c5 c6 _ HFC.out (HT.out.below D1.out) (HE.out.below D1.out) HM.out).mono ?_
  rintro e w2 ⟨rfl, hb⟩
  replace XC := Aside0.mk ((hb.block _ (blk_lt XC.out)).trans XC.out)
  replace XD := Aside0.mk ((hb.block _ (blk_lt XD.out)).trans XD.out)
  have D2 := Aside0.mk (below_then D1.out D1.out.size hb)
  clear hb D1
  have XA := Aside0.mk (blk_new w2 (.cells #[.int .i64 c0, .int .u64 c1, .int .u64 c2, .int .i64 c3, .int .i64 c4, .int .i64 c5, .string ⟨c6.toArray⟩] 24))
  replace XC := Aside0.mk (blk_alloc XC.out (.cells #[.int .i64 c0, .int .u64 c1, .int .u64 c2, .int .i64 c3, .int .i64 c4, .int .i64 c5, .string ⟨c6.toArray⟩] 24))
  replace XD := Aside0.mk (blk_alloc XD.out (.cells #[.int .i64 c0, .int .u64 c1, .int .u64 c2, .int .i64 c3, .int .i64 c4, .int .i64 c5, .string ⟨c6.toArray⟩] 24))
  have E2 := Aside0.mk (below_alloc D2.out (.cells #[.int .i64 c0, .int .u64 c1, .int .u64 c2, .int .i64 c3, .int .i64 c4, .int .i64 c5, .string ⟨c6.toArray⟩] 24))
  obtain ⟨ba, hba⟩ : ∃ ba, ba = w2.heap.size := ⟨_, rfl⟩
  rw [← hba] at XA
  clear D2
  go_wp2_with fail
  rw [← hba]
  clear hba
  generalize w2.alloc (.cells #[.int .i64 c0, .int .u64 c1, .int .u64 c2, .int .i64 c3, .int .i64 c4, .int .i64 c5, .string ⟨c6.toArray⟩] 24) = v2 at XC XD XA E2 ⊢
  refine (parse_yes s HS.out b0 b1 b2 b3 b4 b5 b6 _ (HT.out.below E2.out) (HE.out.below E2.out) HY.out).mono ?_
  rintro e w3 ⟨rfl, hb⟩
  replace XC := Aside0.mk ((hb.block _ (blk_lt XC.out)).trans XC.out)
  replace XD := Aside0.mk ((hb.block _ (blk_lt XD.out)).trans XD.out)
  replace XA := Aside0.mk ((hb.block _ (blk_lt XA.out)).trans XA.out)
  have D3 := Aside0.mk (below_then E2.out E2.out.size hb)
  clear hb E2
  have XB := Aside0.mk (blk_new w3 (.cells #[.int .i64 b0, .int .u64 b1, .int .u64 b2, .int .i64 b3, .int .i64 b4, .int .i64 b5, .string ⟨b6.toArray⟩] 24))
  replace XC := Aside0.mk (blk_alloc XC.out (.cells #[.int .i64 b0, .int .u64 b1, .int .u64 b2, .int .i64 b3, .int .i64 b4, .int .i64 b5, .string ⟨b6.toArray⟩] 24))
  replace XD := Aside0.mk (blk_alloc XD.out (.cells #[.int .i64 b0, .int .u64 b1, .int .u64 b2, .int .i64 b3, .int .i64 b4, .int .i64 b5, .string ⟨b6.toArray⟩] 24))
  replace XA := Aside0.mk (blk_alloc XA.out (.cells #[.int .i64 b0, .int .u64 b1, .int .u64 b2, .int .i64 b3, .int .i64 b4, .int .i64 b5, .string ⟨b6.toArray⟩] 24))
  have E3 := Aside0.mk (below_alloc D3.out (.cells #[.int .i64 b0, .int .u64 b1, .int .u64 b2, .int .i64 b3, .int .i64 b4, .int .i64 b5, .string ⟨b6.toArray⟩] 24))
  obtain ⟨bb, hbb⟩ : ∃ bb, bb = w3.heap.size := ⟨_, rfl⟩
  rw [← hbb] at XB
  clear D3
  go_wp2_with fail
  rw [← hbb]
  clear hbb
  generalize w3.alloc (.cells #[.int .i64 b0, .int .u64 b1, .int .u64 b2, .int .i64 b3, .int .i64 b4, .int .i64 b5, .string ⟨b6.toArray⟩] 24) = v3 at XC XD XA XB E3 ⊢
  refine (fixed_q _ (HT.out.below E3.out) (HE.out.below E3.out)).mono ?_
  rintro e w4 ⟨rfl, hb⟩
  replace XC := Aside0.mk ((hb.block _ (blk_lt XC.out)).trans XC.out)
  replace XD := Aside0.mk ((hb.block _ (blk_lt XD.out)).trans XD.out)
  replace XA := Aside0.mk ((hb.block _ (blk_lt XA.out)).trans XA.out)
  replace XB := Aside0.mk ((hb.block _ (blk_lt XB.out)).trans XB.out)
  have D4 := Aside0.mk (below_then E3.out E3.out.size hb)
  clear hb E3
  have x0 := (blk_cell XC.out 0).trans (show _ = some (.int .i64 c0) from rfl)
  have x1 := (blk_cell XC.out 1).trans (show _ = some (.int .u64 c1) from rfl)
  have x2 := (blk_cell XC.out 2).trans (show _ = some (.int .u64 c2) from rfl)
  have x3 := (blk_cell XC.out 3).trans (show _ = some (.int .i64 c3) from rfl)
  have x4 := (blk_cell XC.out 4).trans (show _ = some (.int .i64 c4) from rfl)
  have x5 := (blk_cell XC.out 5).trans (show _ = some (.int .i64 c5) from rfl)
  have x6 := (blk_cell XC.out 6).trans (show _ = some (.string ⟨c6.toArray⟩) from rfl)
  go_wp2_with fail
  clear x0 x1 x2 x3 x4 x5 x6
  refine (MC.out _ (HT.out.below D4.out) (HE.out.below D4.out)).mono ?_
  rintro e w5 ⟨rfl, hb⟩
  replace XC := Aside0.mk ((hb.block _ (blk_lt XC.out)).trans XC.out)
  replace XD := Aside0.mk ((hb.block _ (blk_lt XD.out)).trans XD.out)
  replace XA := Aside0.mk ((hb.block _ (blk_lt XA.out)).trans XA.out)
  replace XB := Aside0.mk ((hb.block _ (blk_lt XB.out)).trans XB.out)
  have D5 := Aside0.mk (below_then D4.out D4.out.size hb)
  clear hb D4
  have x0 := (blk_cell XC.out 0).trans (show _ = some (.int .i64 c0) from rfl)
  have x1 := (blk_cell XC.out 1).trans (show _ = some (.int .u64 c1) from rfl)
  have x2 := (blk_cell XC.out 2).trans (show _ = some (.int .u64 c2) from rfl)
  have x3 := (blk_cell XC.out 3).trans (show _ = some (.int .i64 c3) from rfl)
  have x4 := (blk_cell XC.out 4).trans (show _ = some (.int .i64 c4) from rfl)
  have x5 := (blk_cell XC.out 5).trans (show _ = some (.int .i64 c5) from rfl)
  have x6 := (blk_cell XC.out 6).trans (show _ = some (.string ⟨c6.toArray⟩) from rfl)
  have y0 := (blk_cell XA.out 0).trans (show _ = some (.int .i64 c0) from rfl)
  have y1 := (blk_cell XA.out 1).trans (show _ = some (.int .u64 c1) from rfl)
  have y2 := (blk_cell XA.out 2).trans (show _ = some (.int .u64 c2) from rfl)
  have y3 := (blk_cell XA.out 3).trans (show _ = some (.int .i64 c3) from rfl)
  have y4 := (blk_cell XA.out 4).trans (show _ = some (.int .i64 c4) from rfl)
  have y5 := (blk_cell XA.out 5).trans (show _ = some (.int .i64 c5) from rfl)
  have y6 := (blk_cell XA.out 6).trans (show _ = some (.string ⟨c6.toArray⟩) from rfl)
  go_wp2_with fail
  clear x0 x1 x2 x3 x4 x5 x6
  clear y0 y1 y2 y3 y4 y5 y6
  have p0 : w5.drew.cell? ⟨w.heap.size, 0, none⟩ = some (.int .i64 c0) := (blk_cell XC.out 0).trans rfl
  have p1 : w5.drew.cell? ⟨w.heap.size, 1, none⟩ = some (.int .u64 c1) := (blk_cell XC.out 1).trans rfl
  have p2 : w5.drew.cell? ⟨w.heap.size, 2, none⟩ = some (.int .u64 c2) := (blk_cell XC.out 2).trans rfl
  have p3 : w5.drew.cell? ⟨w.heap.size, 3, none⟩ = some (.int .i64 c3) := (blk_cell XC.out 3).trans rfl
  have p4 : w5.drew.cell? ⟨w.heap.size, 4, none⟩ = some (.int .i64 c4) := (blk_cell XC.out 4).trans rfl
  have p5 : w5.drew.cell? ⟨w.heap.size, 5, none⟩ = some (.int .i64 c5) := (blk_cell XC.out 5).trans rfl
  have p6 : w5.drew.cell? ⟨w.heap.size, 6, none⟩ = some (.string ⟨c6.toArray⟩) := (blk_cell XC.out 6).trans rfl
  have q0 : w5.drew.cell? ⟨w.heap.size + 1, 0, none⟩ = some (.int .i64 d0) := (blk_cell XD.out 0).trans rfl
  have q1 : w5.drew.cell? ⟨w.heap.size + 1, 1, none⟩ = some (.int .u64 d1) := (blk_cell XD.out 1).trans rfl
  have q2 : w5.drew.cell? ⟨w.heap.size + 1, 2, none⟩ = some (.int .u64 d2) := (blk_cell XD.out 2).trans rfl
  have q3 : w5.drew.cell? ⟨w.heap.size + 1, 3, none⟩ = some (.int .i64 d3) := (blk_cell XD.out 3).trans rfl
  have q4 : w5.drew.cell? ⟨w.heap.size + 1, 4, none⟩ = some (.int .i64 d4) := (blk_cell XD.out 4).trans rfl
  have q5 : w5.drew.cell? ⟨w.heap.size + 1, 5, none⟩ = some (.int .i64 d5) := (blk_cell XD.out 5).trans rfl
  have q6 : w5.drew.cell? ⟨w.heap.size + 1, 6, none⟩ = some (.string ⟨d6.toArray⟩) := (blk_cell XD.out 6).trans rfl
  have XBd : w5.drew.heap[bb]? = some (.cells #[.int .i64 b0, .int .u64 b1, .int .u64 b2, .int .i64 b3, .int .i64 b4, .int .i64 b5, .string ⟨b6.toArray⟩] 24 (0, 0)) := XB.out
  have DDr := below_drew D5.out
  clear XC XD XA XB D5
  refine start_ (n := 17) (S := fun w' => w'.cell? ⟨w.heap.size, 0, none⟩ = some (.int .i64 c0) ∧ w'.cell? ⟨w.heap.size, 1, none⟩ = some (.int .u64 c1) ∧ w'.cell? ⟨w.heap.size, 2, none⟩ = some (.int .u64 c2) ∧ w'.cell? ⟨w.heap.size, 3, none⟩ = some (.int .i64 c3) ∧ w'.cell? ⟨w.heap.size, 4, none⟩ = some (.int .i64 c4) ∧ w'.cell? ⟨w.heap.size, 5, none⟩ = some (.int .i64 c5) ∧ w'.cell? ⟨w.heap.size, 6, none⟩ = some (.string ⟨c6.toArray⟩) ∧ w'.cell? ⟨w.heap.size + 1, 0, none⟩ = some (.int .i64 d0) ∧ w'.cell? ⟨w.heap.size + 1, 1, none⟩ = some (.int .u64 d1) ∧ w'.cell? ⟨w.heap.size + 1, 2, none⟩ = some (.int .u64 d2) ∧ w'.cell? ⟨w.heap.size + 1, 3, none⟩ = some (.int .i64 d3) ∧ w'.cell? ⟨w.heap.size + 1, 4, none⟩ = some (.int .i64 d4) ∧ w'.cell? ⟨w.heap.size + 1, 5, none⟩ = some (.int .i64 d5) ∧ w'.cell? ⟨w.heap.size + 1, 6, none⟩ = some (.string ⟨d6.toArray⟩) ∧ Below w.heap.size w w' ∧ w'.heap[bb]? = some (.cells #[.int .i64 b0, .int .u64 b1, .int .u64 b2, .int .i64 b3, .int .i64 b4, .int .i64 b5, .string ⟨b6.toArray⟩] 24 (0, 0))) (ds := []) #[false, false, false, false, false, false, false, false, false, false, false, false, false, false, false, false, false] (by kernel_rfl) rfl rfl ⟨p0, p1, p2, p3, p4, p5, p6, q0, q1, q2, q3, q4, q5, q6, DDr, XBd⟩ (fun hHeld => ?_)
  refine take_ (i := 0) (N := some 40) (v := ?_) (a' := ?_) #[true, false, false, false, false, false, false, false, false, false, false, false, false, false, false, false, false] rfl rfl (by kernel_rfl) (fun _ _ _ h => h) (Or.inl ⟨by rfl, ?_⟩) hHeld ?_ ?_
  rotate_left
  · rintro w' ⟨s0, s1, s2, s3, s4, s5, s6, s7, s8, s9, s10, s11, s12, s13, s14, s15⟩
    go_simp
    with_reducible rfl
  rotate_left
  · simp only [Act.put, List.setIfInBounds_toArray, List.set_cons_zero, List.set_cons_succ, i64_w, i32_w]
    rfl
  refine one_ (i := 1) (N := some 41) #[true, true, false, false, false, false, false, false, false, false, false, false, false, false, false, false, false] rfl rfl (by kernel_rfl) (by decide) (fun K hK => ?_)
  refine goes_ Tryd.func11 (by kernel_rfl) rfl #[.agg #[.int .i64 c0, .int .u64 c1, .int .u64 c2, .int .i64 c3, .int .i64 c4, .int .i64 c5, .string ⟨c6.toArray⟩]] (by rfl) rfl rfl (by simp only [List.map_toArray, List.map_cons, List.map_nil]; rfl) ?_
  with_reducible refine (MC.out _ (HT.out.below (hHeld.2.2.2.2.2.2.2.2.2.2.2.2.2.2.1)) (HE.out.below (hHeld.2.2.2.2.2.2.2.2.2.2.2.2.2.2.1))).mono ?_
  rintro e w8 ⟨rfl, hb3⟩
  refine ⟨_, rfl, ?_⟩
  refine hK.out _ _ ⟨pw_cell_below hb3 (hHeld.1), pw_cell_below hb3 (hHeld.2.1), pw_cell_below hb3 (hHeld.2.2.1), pw_cell_below hb3 (hHeld.2.2.2.1), pw_cell_below hb3 (hHeld.2.2.2.2.1), pw_cell_below hb3 (hHeld.2.2.2.2.2.1), pw_cell_below hb3 (hHeld.2.2.2.2.2.2.1), pw_cell_below hb3 (hHeld.2.2.2.2.2.2.2.1), pw_cell_below hb3 (hHeld.2.2.2.2.2.2.2.2.1), pw_cell_below hb3 (hHeld.2.2.2.2.2.2.2.2.2.1), pw_cell_below hb3 (hHeld.2.2.2.2.2.2.2.2.2.2.1), pw_cell_below hb3 (hHeld.2.2.2.2.2.2.2.2.2.2.2.1), pw_cell_below hb3 (hHeld.2.2.2.2.2.2.2.2.2.2.2.2.1), pw_cell_below hb3 (hHeld.2.2.2.2.2.2.2.2.2.2.2.2.2.1), below_then (hHeld.2.2.2.2.2.2.2.2.2.2.2.2.2.2.1) (hHeld.2.2.2.2.2.2.2.2.2.2.2.2.2.2.1).size hb3, (hb3.block _ (blk_lt (hHeld.2.2.2.2.2.2.2.2.2.2.2.2.2.2.2))).trans (hHeld.2.2.2.2.2.2.2.2.2.2.2.2.2.2.2)⟩ (fun hHeld => ?_)
  clear hK K
  refine norm_ (a' := ?_) ?_ ?_
  rotate_left
  · show Act.put _ (some 41) _ = _
    simp only [Act.put, List.setIfInBounds_toArray, List.set_cons_zero, List.set_cons_succ, i64_w, i32_w]
    rfl
  refine pure_ (i := 2) (N := some 42) (v := ?_) (a' := ?_) #[true, true, true, false, false, false, false, false, false, false, false, false, false, false, false, false, false] rfl rfl (by kernel_rfl) (fun _ _ _ h => h) (Or.inl ⟨by rfl, ?_⟩) ?_ ?_
  rotate_left
  · intro w'
    go_simp
    with_reducible rfl
  rotate_left
  · simp only [Act.put, List.setIfInBounds_toArray, List.set_cons_zero, List.set_cons_succ, i64_w, i32_w]
    rfl
  refine take_ (i := 3) (N := some 43) (v := ?_) (a' := ?_) #[true, true, true, true, false, false, false, false, false, false, false, false, false, false, false, false, false] rfl rfl (by kernel_rfl) (fun _ _ _ h => h) (Or.inl ⟨by rfl, ?_⟩) hHeld ?_ ?_
  rotate_left
  · rintro w' ⟨s0, s1, s2, s3, s4, s5, s6, s7, s8, s9, s10, s11, s12, s13, s14, s15⟩
    go_simp
    with_reducible rfl
  rotate_left
  · simp only [Act.put, List.setIfInBounds_toArray, List.set_cons_zero, List.set_cons_succ, i64_w, i32_w]
    rfl
  refine one_ (i := 4) (N := some 44) #[true, true, true, true, true, false, false, false, false, false, false, false, false, false, false, false, false] rfl rfl (by kernel_rfl) (by decide) (fun K hK => ?_)
  refine goes_ Tryd.func11 (by kernel_rfl) rfl #[.agg #[.int .i64 d0, .int .u64 d1, .int .u64 d2, .int .i64 d3, .int .i64 d4, .int .i64 d5, .string ⟨d6.toArray⟩]] (by rfl) rfl rfl (by simp only [List.map_toArray, List.map_cons, List.map_nil]; rfl) ?_
  with_reducible refine (MD.out _ (HT.out.below (hHeld.2.2.2.2.2.2.2.2.2.2.2.2.2.2.1)) (HE.out.below (hHeld.2.2.2.2.2.2.2.2.2.2.2.2.2.2.1))).mono ?_
  rintro e w8 ⟨rfl, hb3⟩
  refine ⟨_, rfl, ?_⟩
  refine hK.out _ _ ⟨pw_cell_below hb3 (hHeld.1), pw_cell_below hb3 (hHeld.2.1), pw_cell_below hb3 (hHeld.2.2.1), pw_cell_below hb3 (hHeld.2.2.2.1), pw_cell_below hb3 (hHeld.2.2.2.2.1), pw_cell_below hb3 (hHeld.2.2.2.2.2.1), pw_cell_below hb3 (hHeld.2.2.2.2.2.2.1), pw_cell_below hb3 (hHeld.2.2.2.2.2.2.2.1), pw_cell_below hb3 (hHeld.2.2.2.2.2.2.2.2.1), pw_cell_below hb3 (hHeld.2.2.2.2.2.2.2.2.2.1), pw_cell_below hb3 (hHeld.2.2.2.2.2.2.2.2.2.2.1), pw_cell_below hb3 (hHeld.2.2.2.2.2.2.2.2.2.2.2.1), pw_cell_below hb3 (hHeld.2.2.2.2.2.2.2.2.2.2.2.2.1), pw_cell_below hb3 (hHeld.2.2.2.2.2.2.2.2.2.2.2.2.2.1), below_then (hHeld.2.2.2.2.2.2.2.2.2.2.2.2.2.2.1) (hHeld.2.2.2.2.2.2.2.2.2.2.2.2.2.2.1).size hb3, (hb3.block _ (blk_lt (hHeld.2.2.2.2.2.2.2.2.2.2.2.2.2.2.2))).trans (hHeld.2.2.2.2.2.2.2.2.2.2.2.2.2.2.2)⟩ (fun hHeld => ?_)
  clear hK K
  refine norm_ (a' := ?_) ?_ ?_
  rotate_left
  · show Act.put _ (some 44) _ = _
    simp only [Act.put, List.setIfInBounds_toArray, List.set_cons_zero, List.set_cons_succ, i64_w, i32_w]
    rfl
  refine pure_ (i := 5) (N := some 45) (v := ?_) (a' := ?_) #[true, true, true, true, true, true, false, false, false, false, false, false, false, false, false, false, false] rfl rfl (by kernel_rfl) (fun _ _ _ h => h) (Or.inl ⟨by rfl, ?_⟩) ?_ ?_
  rotate_left
  · intro w'
    go_simp
    with_reducible rfl
  rotate_left
  · simp only [Act.put, List.setIfInBounds_toArray, List.set_cons_zero, List.set_cons_succ, i64_w, i32_w]
    rfl
  refine pure_ (i := 6) (N := some 46) (v := ?_) (a' := ?_) #[true, true, true, true, true, true, true, false, false, false, false, false, false, false, false, false, false] rfl rfl (by kernel_rfl) (fun _ _ _ h => h) (Or.inl ⟨by rfl, ?_⟩) ?_ ?_
  rotate_left
  · intro w'
    go_simp
    with_reducible rfl
  rotate_left
  · simp only [Act.put, List.setIfInBounds_toArray, List.set_cons_zero, List.set_cons_succ, i64_w, i32_w]
    rfl
  refine pure_ (i := 7) (N := some 47) (v := undef) (a' := ?_) #[true, true, true, true, true, true, true, true, false, false, false, false, false, false, false, false, false] rfl rfl (by kernel_rfl) (fun _ _ _ h => h) (Or.inr ⟨by rfl, rfl⟩) ?_ ?_
  rotate_left
  · simp only [Act.put, List.setIfInBounds_toArray, List.set_cons_zero, List.set_cons_succ, i64_w, i32_w]
    rfl
  refine pure_ (i := 8) (N := some 48) (v := undef) (a' := ?_) #[true, true, true, true, true, true, true, true, true, false, false, false, false, false, false, false, false] rfl rfl (by kernel_rfl) (fun _ _ _ h => h) (Or.inr ⟨by rfl, rfl⟩) ?_ ?_
  rotate_left
  · simp only [Act.put, List.setIfInBounds_toArray, List.set_cons_zero, List.set_cons_succ, i64_w, i32_w]
    rfl
  refine pure_ (i := 9) (N := some 49) (v := undef) (a' := ?_) #[true, true, true, true, true, true, true, true, true, true, false, false, false, false, false, false, false] rfl rfl (by kernel_rfl) (fun _ _ _ h => h) (Or.inr ⟨by rfl, rfl⟩) ?_ ?_
  rotate_left
  · simp only [Act.put, List.setIfInBounds_toArray, List.set_cons_zero, List.set_cons_succ, i64_w, i32_w]
    rfl
  refine pure_ (i := 10) (N := some 50) (v := undef) (a' := ?_) #[true, true, true, true, true, true, true, true, true, true, true, false, false, false, false, false, false] rfl rfl (by kernel_rfl) (fun _ _ _ h => h) (Or.inr ⟨by rfl, rfl⟩) ?_ ?_
  rotate_left
  · simp only [Act.put, List.setIfInBounds_toArray, List.set_cons_zero, List.set_cons_succ, i64_w, i32_w]
    rfl
  refine pure_ (i := 11) (N := some 51) (v := undef) (a' := ?_) #[true, true, true, true, true, true, true, true, true, true, true, true, false, false, false, false, false] rfl rfl (by kernel_rfl) (fun _ _ _ h => h) (Or.inr ⟨by rfl, rfl⟩) ?_ ?_
  rotate_left
  · simp only [Act.put, List.setIfInBounds_toArray, List.set_cons_zero, List.set_cons_succ, i64_w, i32_w]
    rfl
  refine pure_ (i := 12) (N := some 52) (v := undef) (a' := ?_) #[true, true, true, true, true, true, true, true, true, true, true, true, true, false, false, false, false] rfl rfl (by kernel_rfl) (fun _ _ _ h => h) (Or.inr ⟨by rfl, rfl⟩) ?_ ?_
  rotate_left
  · simp only [Act.put, List.setIfInBounds_toArray, List.set_cons_zero, List.set_cons_succ, i64_w, i32_w]
    rfl
  refine pure_ (i := 13) (N := some 53) (v := undef) (a' := ?_) #[true, true, true, true, true, true, true, true, true, true, true, true, true, true, false, false, false] rfl rfl (by kernel_rfl) (fun _ _ _ h => h) (Or.inr ⟨by rfl, rfl⟩) ?_ ?_
  rotate_left
  · simp only [Act.put, List.setIfInBounds_toArray, List.set_cons_zero, List.set_cons_succ, i64_w, i32_w]
    rfl
  refine pure_ (i := 14) (N := some 54) (v := undef) (a' := ?_) #[true, true, true, true, true, true, true, true, true, true, true, true, true, true, true, false, false] rfl rfl (by kernel_rfl) (fun _ _ _ h => h) (Or.inr ⟨by rfl, rfl⟩) ?_ ?_
  rotate_left
  · simp only [Act.put, List.setIfInBounds_toArray, List.set_cons_zero, List.set_cons_succ, i64_w, i32_w]
    rfl
  refine pure_ (i := 15) (N := some 55) (v := undef) (a' := ?_) #[true, true, true, true, true, true, true, true, true, true, true, true, true, true, true, true, false] rfl rfl (by kernel_rfl) (fun _ _ _ h => h) (Or.inr ⟨by rfl, rfl⟩) ?_ ?_
  rotate_left
  · simp only [Act.put, List.setIfInBounds_toArray, List.set_cons_zero, List.set_cons_succ, i64_w, i32_w]
    rfl
  refine pure_ (i := 16) (N := some 56) (v := ?_) (a' := ?_) #[true, true, true, true, true, true, true, true, true, true, true, true, true, true, true, true, true] rfl rfl (by kernel_rfl) (fun _ _ _ h => h) (Or.inl ⟨by rfl, ?_⟩) ?_ ?_
  rotate_left
  · intro w'
    go_simp
    with_reducible rfl
  rotate_left
  · simp only [Act.put, List.setIfInBounds_toArray, List.set_cons_zero, List.set_cons_succ, i64_w, i32_w]
    rfl
  refine done_ (by kernel_rfl) ?_
  have DD := Aside0.mk (hHeld.2.2.2.2.2.2.2.2.2.2.2.2.2.2.1)
  have XB := Aside0.mk (hHeld.2.2.2.2.2.2.2.2.2.2.2.2.2.2.2)
  clear hHeld p0 q0 p1 q1 p2 q2 p3 q3 p4 q4 p5 q5 p6 q6
  --BEHIND
  clear XBd DDr
  have x0 := (blk_cell XB.out 0).trans (show _ = some (.int .i64 b0) from rfl)
  have x1 := (blk_cell XB.out 1).trans (show _ = some (.int .u64 b1) from rfl)
  have x2 := (blk_cell XB.out 2).trans (show _ = some (.int .u64 b2) from rfl)
  have x3 := (blk_cell XB.out 3).trans (show _ = some (.int .i64 b3) from rfl)
  have x4 := (blk_cell XB.out 4).trans (show _ = some (.int .i64 b4) from rfl)
  have x5 := (blk_cell XB.out 5).trans (show _ = some (.int .i64 b5) from rfl)
  have x6 := (blk_cell XB.out 6).trans (show _ = some (.string ⟨b6.toArray⟩) from rfl)
  go_wp2_with fail
  clear x0 x1 x2 x3 x4 x5 x6
  refine (MB.out _ (HT.out.below DD.out) (HE.out.below DD.out)).mono ?_
  rintro e w9 ⟨rfl, hb⟩
  replace XB := Aside0.mk ((hb.block _ (blk_lt XB.out)).trans XB.out)
  have D9 := Aside0.mk (below_then DD.out DD.out.size hb)
  clear hb DD
  have x0 := (blk_cell XB.out 0).trans (show _ = some (.int .i64 b0) from rfl)
  have x1 := (blk_cell XB.out 1).trans (show _ = some (.int .u64 b1) from rfl)
  have x2 := (blk_cell XB.out 2).trans (show _ = some (.int .u64 b2) from rfl)
  have x3 := (blk_cell XB.out 3).trans (show _ = some (.int .i64 b3) from rfl)
  have x4 := (blk_cell XB.out 4).trans (show _ = some (.int .i64 b4) from rfl)
  have x5 := (blk_cell XB.out 5).trans (show _ = some (.int .i64 b5) from rfl)
  have x6 := (blk_cell XB.out 6).trans (show _ = some (.string ⟨b6.toArray⟩) from rfl)
  go_wp2_with fail
  clear x0 x1 x2 x3 x4 x5 x6
  refine (PB.out _ (HT.out.below D9.out) (HE.out.below D9.out)).mono ?_
  rintro e w10 ⟨rfl, hb⟩
  replace XB := Aside0.mk ((hb.block _ (blk_lt XB.out)).trans XB.out)
  have D10 := Aside0.mk (below_then D9.out D9.out.size hb)
  clear hb D9
  go_wp2
  go_ret
  exact ⟨rfl, D10.out⟩
set_option maxRecDepth 100000 in
set_option maxHeartbeats 8000000 in
theorem back_ttn (c0 c1 c2 c3 c4 c5 d0 d1 d2 d3 d4 d5 : Int) (c6 d6 s : List UInt8) (hs : s.length ≤ 281474976710656) (w : World) (ht : Tens w) (he : Errs w) (hfc : (⟨c0, c1, c2, c3, c4, c5, c6⟩ : Call7).Fits) (hfd : (⟨d0, d1, d2, d3, d4, d5, d6⟩ : Call7).Fits)
    (hm : mayL (⟨c0, c1, c2, c3, c4, c5, c6⟩ : Call7) = true) (hm2 : mayL (⟨d0, d1, d2, d3, d4, d5, d6⟩ : Call7) = true) (hy : callP s = none) :
    Calls Tryd.prog 5 #[.agg #[.int .i64 c0, .int .u64 c1, .int .u64 c2, .int .i64 c3, .int .i64 c4, .int .i64 c5, .string ⟨c6.toArray⟩], .agg #[.int .i64 d0, .int .u64 d1, .int .u64 d2, .int .i64 d3, .int .i64 d4, .int .i64 d5, .string ⟨d6.toArray⟩], .string ⟨s.toArray⟩] w fun e w' => e = .returned (.bool true) ∧ Below w.heap.size w w' := by
  have HT := Aside0.mk ht
  have HE := Aside0.mk he
  have HS := Aside0.mk hs
  have HFC := Aside0.mk hfc
  have HFD := Aside0.mk hfd
  have HM := Aside0.mk hm
  have HM2 := Aside0.mk hm2
  have HY := Aside0.mk hy
  have HU := Aside0.mk (unlike_x c0 c1 c2 c3 c4 c5 d0 d1 d2 d3 d4 d5 c6 d6 hm hm2)
  have MC := Aside0.mk (fun w1 h1 h2 => may_x c0 c1 c2 c3 c4 c5 c6 w1 hfc h1 h2)
  rw [hm] at MC
  have MD := Aside0.mk (fun w1 h1 h2 => may_x d0 d1 d2 d3 d4 d5 d6 w1 hfd h1 h2)
  rw [hm2] at MD
  clear ht he hs hfc hfd hm hm2 hy
  have D0 := Aside0.mk (below_alloc (below_alloc (Below.refl w.heap.size w) (.cells #[.int .i64 c0, .int .u64 c1, .int .u64 c2, .int .i64 c3, .int .i64 c4, .int .i64 c5, .string ⟨c6.toArray⟩] 24)) (.cells #[.int .i64 d0, .int .u64 d1, .int .u64 d2, .int .i64 d3, .int .i64 d4, .int .i64 d5, .string ⟨d6.toArray⟩] 24))
  have XC := Aside0.mk (blk_alloc (blk_new w (.cells #[.int .i64 c0, .int .u64 c1, .int .u64 c2, .int .i64 c3, .int .i64 c4, .int .i64 c5, .string ⟨c6.toArray⟩] 24)) (.cells #[.int .i64 d0, .int .u64 d1, .int .u64 d2, .int .i64 d3, .int .i64 d4, .int .i64 d5, .string ⟨d6.toArray⟩] 24))
  have XD := Aside0.mk (blk_new (w.alloc (.cells #[.int .i64 c0, .int .u64 c1, .int .u64 c2, .int .i64 c3, .int .i64 c4, .int .i64 c5, .string ⟨c6.toArray⟩] 24)) (.cells #[.int .i64 d0, .int .u64 d1, .int .u64 d2, .int .i64 d3, .int .i64 d4, .int .i64 d5, .string ⟨d6.toArray⟩] 24))
  rw [World.size_alloc] at XD
  go_enter Tryd.func5, Tryd.ntmps5
  go_wp2_with fail
  refine (print_x c0 c1 c2 c3 c4 c5 c6 _ HFC.out (HT.out.below D0.out) (HE.out.below D0.out)).mono ?_
  rintro e w1 ⟨rfl, hb⟩
  replace XC := Aside0.mk ((hb.block _ (blk_lt XC.out)).trans XC.out)
  replace XD := Aside0.mk ((hb.block _ (blk_lt XD.out)).trans XD.out)
  have D1 := Aside0.mk (below_then D0.out D0.out.size hb)
  clear hb D0
  go_wp2_with fail
  refine (back_yes c0 c1 c2 c3 c4 c5 c6 _ HFC.out (HT.out.below D1.out) (HE.out.below D1.out) HM.out).mono ?_
  rintro e w2 ⟨rfl, hb⟩
  replace XC := Aside0.mk ((hb.block _ (blk_lt XC.out)).trans XC.out)
  replace XD := Aside0.mk ((hb.block _ (blk_lt XD.out)).trans XD.out)
  have D2 := Aside0.mk (below_then D1.out D1.out.size hb)
  clear hb D1
  have XA := Aside0.mk (blk_new w2 (.cells #[.int .i64 c0, .int .u64 c1, .int .u64 c2, .int .i64 c3, .int .i64 c4, .int .i64 c5, .string ⟨c6.toArray⟩] 24))
  replace XC := Aside0.mk (blk_alloc XC.out (.cells #[.int .i64 c0, .int .u64 c1, .int .u64 c2, .int .i64 c3, .int .i64 c4, .int .i64 c5, .string ⟨c6.toArray⟩] 24))
  replace XD := Aside0.mk (blk_alloc XD.out (.cells #[.int .i64 c0, .int .u64 c1, .int .u64 c2, .int .i64 c3, .int .i64 c4, .int .i64 c5, .string ⟨c6.toArray⟩] 24))
  have E2 := Aside0.mk (below_alloc D2.out (.cells #[.int .i64 c0, .int .u64 c1, .int .u64 c2, .int .i64 c3, .int .i64 c4, .int .i64 c5, .string ⟨c6.toArray⟩] 24))
  obtain ⟨ba, hba⟩ : ∃ ba, ba = w2.heap.size := ⟨_, rfl⟩
  rw [← hba] at XA
  clear D2
  go_wp2_with fail
  rw [← hba]
  clear hba
  generalize w2.alloc (.cells #[.int .i64 c0, .int .u64 c1, .int .u64 c2, .int .i64 c3, .int .i64 c4, .int .i64 c5, .string ⟨c6.toArray⟩] 24) = v2 at XC XD XA E2 ⊢
  refine (parse_no s HS.out _ (HT.out.below E2.out) (HE.out.below E2.out) HY.out).mono ?_
  rintro e w3 ⟨rfl, hb⟩
  replace XC := Aside0.mk ((hb.block _ (blk_lt XC.out)).trans XC.out)
  replace XD := Aside0.mk ((hb.block _ (blk_lt XD.out)).trans XD.out)
  replace XA := Aside0.mk ((hb.block _ (blk_lt XA.out)).trans XA.out)
  have D3 := Aside0.mk (below_then E2.out E2.out.size hb)
  clear hb E2
  have XB := Aside0.mk (blk_new w3 (.cells #[.int .i64 0, .int .u64 0, .int .u64 0, .int .i64 0, .int .i64 0, .int .i64 0, .string ⟨#[]⟩] 24))
  replace XC := Aside0.mk (blk_alloc XC.out (.cells #[.int .i64 0, .int .u64 0, .int .u64 0, .int .i64 0, .int .i64 0, .int .i64 0, .string ⟨#[]⟩] 24))
  replace XD := Aside0.mk (blk_alloc XD.out (.cells #[.int .i64 0, .int .u64 0, .int .u64 0, .int .i64 0, .int .i64 0, .int .i64 0, .string ⟨#[]⟩] 24))
  replace XA := Aside0.mk (blk_alloc XA.out (.cells #[.int .i64 0, .int .u64 0, .int .u64 0, .int .i64 0, .int .i64 0, .int .i64 0, .string ⟨#[]⟩] 24))
  have E3 := Aside0.mk (below_alloc D3.out (.cells #[.int .i64 0, .int .u64 0, .int .u64 0, .int .i64 0, .int .i64 0, .int .i64 0, .string ⟨#[]⟩] 24))
  obtain ⟨bb, hbb⟩ : ∃ bb, bb = w3.heap.size := ⟨_, rfl⟩
  rw [← hbb] at XB
  clear D3
  go_wp2_with fail
  rw [← hbb]
  clear hbb
  generalize w3.alloc (.cells #[.int .i64 0, .int .u64 0, .int .u64 0, .int .i64 0, .int .i64 0, .int .i64 0, .string ⟨#[]⟩] 24) = v3 at XC XD XA XB E3 ⊢
  refine (fixed_q _ (HT.out.below E3.out) (HE.out.below E3.out)).mono ?_
  rintro e w4 ⟨rfl, hb⟩
  replace XC := Aside0.mk ((hb.block _ (blk_lt XC.out)).trans XC.out)
  replace XD := Aside0.mk ((hb.block _ (blk_lt XD.out)).trans XD.out)
  replace XA := Aside0.mk ((hb.block _ (blk_lt XA.out)).trans XA.out)
  replace XB := Aside0.mk ((hb.block _ (blk_lt XB.out)).trans XB.out)
  have D4 := Aside0.mk (below_then E3.out E3.out.size hb)
  clear hb E3
  have x0 := (blk_cell XC.out 0).trans (show _ = some (.int .i64 c0) from rfl)
  have x1 := (blk_cell XC.out 1).trans (show _ = some (.int .u64 c1) from rfl)
  have x2 := (blk_cell XC.out 2).trans (show _ = some (.int .u64 c2) from rfl)
  have x3 := (blk_cell XC.out 3).trans (show _ = some (.int .i64 c3) from rfl)
  have x4 := (blk_cell XC.out 4).trans (show _ = some (.int .i64 c4) from rfl)
  have x5 := (blk_cell XC.out 5).trans (show _ = some (.int .i64 c5) from rfl)
  have x6 := (blk_cell XC.out 6).trans (show _ = some (.string ⟨c6.toArray⟩) from rfl)
  go_wp2_with fail
  clear x0 x1 x2 x3 x4 x5 x6
  refine (MC.out _ (HT.out.below D4.out) (HE.out.below D4.out)).mono ?_
  rintro e w5 ⟨rfl, hb⟩
  replace XC := Aside0.mk ((hb.block _ (blk_lt XC.out)).trans XC.out)
  replace XD := Aside0.mk ((hb.block _ (blk_lt XD.out)).trans XD.out)
  replace XA := Aside0.mk ((hb.block _ (blk_lt XA.out)).trans XA.out)
  replace XB := Aside0.mk ((hb.block _ (blk_lt XB.out)).trans XB.out)
  have D5 := Aside0.mk (below_then D4.out D4.out.size hb)
  clear hb D4
  have x0 := (blk_cell XC.out 0).trans (show _ = some (.int .i64 c0) from rfl)
  have x1 := (blk_cell XC.out 1).trans (show _ = some (.int .u64 c1) from rfl)
  have x2 := (blk_cell XC.out 2).trans (show _ = some (.int .u64 c2) from rfl)
  have x3 := (blk_cell XC.out 3).trans (show _ = some (.int .i64 c3) from rfl)
  have x4 := (blk_cell XC.out 4).trans (show _ = some (.int .i64 c4) from rfl)
  have x5 := (blk_cell XC.out 5).trans (show _ = some (.int .i64 c5) from rfl)
  have x6 := (blk_cell XC.out 6).trans (show _ = some (.string ⟨c6.toArray⟩) from rfl)
  have y0 := (blk_cell XA.out 0).trans (show _ = some (.int .i64 c0) from rfl)
  have y1 := (blk_cell XA.out 1).trans (show _ = some (.int .u64 c1) from rfl)
  have y2 := (blk_cell XA.out 2).trans (show _ = some (.int .u64 c2) from rfl)
  have y3 := (blk_cell XA.out 3).trans (show _ = some (.int .i64 c3) from rfl)
  have y4 := (blk_cell XA.out 4).trans (show _ = some (.int .i64 c4) from rfl)
  have y5 := (blk_cell XA.out 5).trans (show _ = some (.int .i64 c5) from rfl)
  have y6 := (blk_cell XA.out 6).trans (show _ = some (.string ⟨c6.toArray⟩) from rfl)
  go_wp2_with fail
  clear x0 x1 x2 x3 x4 x5 x6
  clear y0 y1 y2 y3 y4 y5 y6
  have p0 : w5.drew.cell? ⟨w.heap.size, 0, none⟩ = some (.int .i64 c0) := (blk_cell XC.out 0).trans rfl
  have p1 : w5.drew.cell? ⟨w.heap.size, 1, none⟩ = some (.int .u64 c1) := (blk_cell XC.out 1).trans rfl
  have p2 : w5.drew.cell? ⟨w.heap.size, 2, none⟩ = some (.int .u64 c2) := (blk_cell XC.out 2).trans rfl
  have p3 : w5.drew.cell? ⟨w.heap.size, 3, none⟩ = some (.int .i64 c3) := (blk_cell XC.out 3).trans rfl
  have p4 : w5.drew.cell? ⟨w.heap.size, 4, none⟩ = some (.int .i64 c4) := (blk_cell XC.out 4).trans rfl
  have p5 : w5.drew.cell? ⟨w.heap.size, 5, none⟩ = some (.int .i64 c5) := (blk_cell XC.out 5).trans rfl
  have p6 : w5.drew.cell? ⟨w.heap.size, 6, none⟩ = some (.string ⟨c6.toArray⟩) := (blk_cell XC.out 6).trans rfl
  have q0 : w5.drew.cell? ⟨w.heap.size + 1, 0, none⟩ = some (.int .i64 d0) := (blk_cell XD.out 0).trans rfl
  have q1 : w5.drew.cell? ⟨w.heap.size + 1, 1, none⟩ = some (.int .u64 d1) := (blk_cell XD.out 1).trans rfl
  have q2 : w5.drew.cell? ⟨w.heap.size + 1, 2, none⟩ = some (.int .u64 d2) := (blk_cell XD.out 2).trans rfl
  have q3 : w5.drew.cell? ⟨w.heap.size + 1, 3, none⟩ = some (.int .i64 d3) := (blk_cell XD.out 3).trans rfl
  have q4 : w5.drew.cell? ⟨w.heap.size + 1, 4, none⟩ = some (.int .i64 d4) := (blk_cell XD.out 4).trans rfl
  have q5 : w5.drew.cell? ⟨w.heap.size + 1, 5, none⟩ = some (.int .i64 d5) := (blk_cell XD.out 5).trans rfl
  have q6 : w5.drew.cell? ⟨w.heap.size + 1, 6, none⟩ = some (.string ⟨d6.toArray⟩) := (blk_cell XD.out 6).trans rfl
  have XBd : w5.drew.heap[bb]? = some (.cells #[.int .i64 0, .int .u64 0, .int .u64 0, .int .i64 0, .int .i64 0, .int .i64 0, .string ⟨#[]⟩] 24 (0, 0)) := XB.out
  have DDr := below_drew D5.out
  clear XC XD XA XB D5
  have hU := HU.out
  refine start_ (n := 17) (S := fun w' => w'.cell? ⟨w.heap.size, 0, none⟩ = some (.int .i64 c0) ∧ w'.cell? ⟨w.heap.size, 1, none⟩ = some (.int .u64 c1) ∧ w'.cell? ⟨w.heap.size, 2, none⟩ = some (.int .u64 c2) ∧ w'.cell? ⟨w.heap.size, 3, none⟩ = some (.int .i64 c3) ∧ w'.cell? ⟨w.heap.size, 4, none⟩ = some (.int .i64 c4) ∧ w'.cell? ⟨w.heap.size, 5, none⟩ = some (.int .i64 c5) ∧ w'.cell? ⟨w.heap.size, 6, none⟩ = some (.string ⟨c6.toArray⟩) ∧ w'.cell? ⟨w.heap.size + 1, 0, none⟩ = some (.int .i64 d0) ∧ w'.cell? ⟨w.heap.size + 1, 1, none⟩ = some (.int .u64 d1) ∧ w'.cell? ⟨w.heap.size + 1, 2, none⟩ = some (.int .u64 d2) ∧ w'.cell? ⟨w.heap.size + 1, 3, none⟩ = some (.int .i64 d3) ∧ w'.cell? ⟨w.heap.size + 1, 4, none⟩ = some (.int .i64 d4) ∧ w'.cell? ⟨w.heap.size + 1, 5, none⟩ = some (.int .i64 d5) ∧ w'.cell? ⟨w.heap.size + 1, 6, none⟩ = some (.string ⟨d6.toArray⟩) ∧ Below w.heap.size w w' ∧ w'.heap[bb]? = some (.cells #[.int .i64 0, .int .u64 0, .int .u64 0, .int .i64 0, .int .i64 0, .int .i64 0, .string ⟨#[]⟩] 24 (0, 0))) (ds := []) #[false, false, false, false, false, false, false, false, false, false, false, false, false, false, false, false, false] (by kernel_rfl) rfl rfl ⟨p0, p1, p2, p3, p4, p5, p6, q0, q1, q2, q3, q4, q5, q6, DDr, XBd⟩ (fun hHeld => ?_)
  refine take_ (i := 0) (N := some 40) (v := ?_) (a' := ?_) #[true, false, false, false, false, false, false, false, false, false, false, false, false, false, false, false, false] rfl rfl (by kernel_rfl) (fun _ _ _ h => h) (Or.inl ⟨by rfl, ?_⟩) hHeld ?_ ?_
  rotate_left
  · rintro w' ⟨s0, s1, s2, s3, s4, s5, s6, s7, s8, s9, s10, s11, s12, s13, s14, s15⟩
    go_simp
    with_reducible rfl
  rotate_left
  · simp only [Act.put, List.setIfInBounds_toArray, List.set_cons_zero, List.set_cons_succ, i64_w, i32_w]
    rfl
  refine one_ (i := 1) (N := some 41) #[true, true, false, false, false, false, false, false, false, false, false, false, false, false, false, false, false] rfl rfl (by kernel_rfl) (by decide) (fun K hK => ?_)
  refine goes_ Tryd.func11 (by kernel_rfl) rfl #[.agg #[.int .i64 c0, .int .u64 c1, .int .u64 c2, .int .i64 c3, .int .i64 c4, .int .i64 c5, .string ⟨c6.toArray⟩]] (by rfl) rfl rfl (by simp only [List.map_toArray, List.map_cons, List.map_nil]; rfl) ?_
  with_reducible refine (MC.out _ (HT.out.below (hHeld.2.2.2.2.2.2.2.2.2.2.2.2.2.2.1)) (HE.out.below (hHeld.2.2.2.2.2.2.2.2.2.2.2.2.2.2.1))).mono ?_
  rintro e w8 ⟨rfl, hb3⟩
  refine ⟨_, rfl, ?_⟩
  refine hK.out _ _ ⟨pw_cell_below hb3 (hHeld.1), pw_cell_below hb3 (hHeld.2.1), pw_cell_below hb3 (hHeld.2.2.1), pw_cell_below hb3 (hHeld.2.2.2.1), pw_cell_below hb3 (hHeld.2.2.2.2.1), pw_cell_below hb3 (hHeld.2.2.2.2.2.1), pw_cell_below hb3 (hHeld.2.2.2.2.2.2.1), pw_cell_below hb3 (hHeld.2.2.2.2.2.2.2.1), pw_cell_below hb3 (hHeld.2.2.2.2.2.2.2.2.1), pw_cell_below hb3 (hHeld.2.2.2.2.2.2.2.2.2.1), pw_cell_below hb3 (hHeld.2.2.2.2.2.2.2.2.2.2.1), pw_cell_below hb3 (hHeld.2.2.2.2.2.2.2.2.2.2.2.1), pw_cell_below hb3 (hHeld.2.2.2.2.2.2.2.2.2.2.2.2.1), pw_cell_below hb3 (hHeld.2.2.2.2.2.2.2.2.2.2.2.2.2.1), below_then (hHeld.2.2.2.2.2.2.2.2.2.2.2.2.2.2.1) (hHeld.2.2.2.2.2.2.2.2.2.2.2.2.2.2.1).size hb3, (hb3.block _ (blk_lt (hHeld.2.2.2.2.2.2.2.2.2.2.2.2.2.2.2))).trans (hHeld.2.2.2.2.2.2.2.2.2.2.2.2.2.2.2)⟩ (fun hHeld => ?_)
  clear hK K
  refine norm_ (a' := ?_) ?_ ?_
  rotate_left
  · show Act.put _ (some 41) _ = _
    simp only [Act.put, List.setIfInBounds_toArray, List.set_cons_zero, List.set_cons_succ, i64_w, i32_w]
    rfl
  refine pure_ (i := 2) (N := some 42) (v := ?_) (a' := ?_) #[true, true, true, false, false, false, false, false, false, false, false, false, false, false, false, false, false] rfl rfl (by kernel_rfl) (fun _ _ _ h => h) (Or.inl ⟨by rfl, ?_⟩) ?_ ?_
  rotate_left
  · intro w'
    go_simp
    with_reducible rfl
  rotate_left
  · simp only [Act.put, List.setIfInBounds_toArray, List.set_cons_zero, List.set_cons_succ, i64_w, i32_w]
    rfl
  refine take_ (i := 3) (N := some 43) (v := ?_) (a' := ?_) #[true, true, true, true, false, false, false, false, false, false, false, false, false, false, false, false, false] rfl rfl (by kernel_rfl) (fun _ _ _ h => h) (Or.inl ⟨by rfl, ?_⟩) hHeld ?_ ?_
  rotate_left
  · rintro w' ⟨s0, s1, s2, s3, s4, s5, s6, s7, s8, s9, s10, s11, s12, s13, s14, s15⟩
    go_simp
    with_reducible rfl
  rotate_left
  · simp only [Act.put, List.setIfInBounds_toArray, List.set_cons_zero, List.set_cons_succ, i64_w, i32_w]
    rfl
  refine one_ (i := 4) (N := some 44) #[true, true, true, true, true, false, false, false, false, false, false, false, false, false, false, false, false] rfl rfl (by kernel_rfl) (by decide) (fun K hK => ?_)
  refine goes_ Tryd.func11 (by kernel_rfl) rfl #[.agg #[.int .i64 d0, .int .u64 d1, .int .u64 d2, .int .i64 d3, .int .i64 d4, .int .i64 d5, .string ⟨d6.toArray⟩]] (by rfl) rfl rfl (by simp only [List.map_toArray, List.map_cons, List.map_nil]; rfl) ?_
  with_reducible refine (MD.out _ (HT.out.below (hHeld.2.2.2.2.2.2.2.2.2.2.2.2.2.2.1)) (HE.out.below (hHeld.2.2.2.2.2.2.2.2.2.2.2.2.2.2.1))).mono ?_
  rintro e w8 ⟨rfl, hb3⟩
  refine ⟨_, rfl, ?_⟩
  refine hK.out _ _ ⟨pw_cell_below hb3 (hHeld.1), pw_cell_below hb3 (hHeld.2.1), pw_cell_below hb3 (hHeld.2.2.1), pw_cell_below hb3 (hHeld.2.2.2.1), pw_cell_below hb3 (hHeld.2.2.2.2.1), pw_cell_below hb3 (hHeld.2.2.2.2.2.1), pw_cell_below hb3 (hHeld.2.2.2.2.2.2.1), pw_cell_below hb3 (hHeld.2.2.2.2.2.2.2.1), pw_cell_below hb3 (hHeld.2.2.2.2.2.2.2.2.1), pw_cell_below hb3 (hHeld.2.2.2.2.2.2.2.2.2.1), pw_cell_below hb3 (hHeld.2.2.2.2.2.2.2.2.2.2.1), pw_cell_below hb3 (hHeld.2.2.2.2.2.2.2.2.2.2.2.1), pw_cell_below hb3 (hHeld.2.2.2.2.2.2.2.2.2.2.2.2.1), pw_cell_below hb3 (hHeld.2.2.2.2.2.2.2.2.2.2.2.2.2.1), below_then (hHeld.2.2.2.2.2.2.2.2.2.2.2.2.2.2.1) (hHeld.2.2.2.2.2.2.2.2.2.2.2.2.2.2.1).size hb3, (hb3.block _ (blk_lt (hHeld.2.2.2.2.2.2.2.2.2.2.2.2.2.2.2))).trans (hHeld.2.2.2.2.2.2.2.2.2.2.2.2.2.2.2)⟩ (fun hHeld => ?_)
  clear hK K
  refine norm_ (a' := ?_) ?_ ?_
  rotate_left
  · show Act.put _ (some 44) _ = _
    simp only [Act.put, List.setIfInBounds_toArray, List.set_cons_zero, List.set_cons_succ, i64_w, i32_w]
    rfl
  refine pure_ (i := 5) (N := some 45) (v := ?_) (a' := ?_) #[true, true, true, true, true, true, false, false, false, false, false, false, false, false, false, false, false] rfl rfl (by kernel_rfl) (fun _ _ _ h => h) (Or.inl ⟨by rfl, ?_⟩) ?_ ?_
  rotate_left
  · intro w'
    go_simp
    with_reducible rfl
  rotate_left
  · simp only [Act.put, List.setIfInBounds_toArray, List.set_cons_zero, List.set_cons_succ, i64_w, i32_w]
    rfl
  refine pure_ (i := 6) (N := some 46) (v := ?_) (a' := ?_) #[true, true, true, true, true, true, true, false, false, false, false, false, false, false, false, false, false] rfl rfl (by kernel_rfl) (fun _ _ _ h => h) (Or.inl ⟨by rfl, ?_⟩) ?_ ?_
  rotate_left
  · intro w'
    go_simp
    with_reducible rfl
  rotate_left
  · simp only [Act.put, List.setIfInBounds_toArray, List.set_cons_zero, List.set_cons_succ, i64_w, i32_w]
    rfl
  refine take_ (i := 7) (N := some 47) (v := ?_) (a' := ?_) #[true, true, true, true, true, true, true, true, false, false, false, false, false, false, false, false, false] rfl rfl (by kernel_rfl) (fun _ _ _ h => h) (Or.inl ⟨by rfl, ?_⟩) hHeld ?_ ?_
  rotate_left
  · rintro w' ⟨s0, s1, s2, s3, s4, s5, s6, s7, s8, s9, s10, s11, s12, s13, s14, s15⟩
    go_simp
    with_reducible rfl
  rotate_left
  · simp only [Act.put, List.setIfInBounds_toArray, List.set_cons_zero, List.set_cons_succ, i64_w, i32_w]
    rfl
  refine take_ (i := 9) (N := some 49) (v := ?_) (a' := ?_) #[true, true, true, true, true, true, true, true, false, true, false, false, false, false, false, false, false] rfl rfl (by kernel_rfl) (fun _ _ _ h => h) (Or.inl ⟨by rfl, ?_⟩) hHeld ?_ ?_
  rotate_left
  · rintro w' ⟨s0, s1, s2, s3, s4, s5, s6, s7, s8, s9, s10, s11, s12, s13, s14, s15⟩
    go_simp
    with_reducible rfl
  rotate_left
  · simp only [Act.put, List.setIfInBounds_toArray, List.set_cons_zero, List.set_cons_succ, i64_w, i32_w]
    rfl
  refine take_ (i := 12) (N := some 52) (v := ?_) (a' := ?_) #[true, true, true, true, true, true, true, true, false, true, false, false, true, false, false, false, false] rfl rfl (by kernel_rfl) (fun _ _ _ h => h) (Or.inl ⟨by rfl, ?_⟩) hHeld ?_ ?_
  rotate_left
  · rintro w' ⟨s0, s1, s2, s3, s4, s5, s6, s7, s8, s9, s10, s11, s12, s13, s14, s15⟩
    go_simp
    with_reducible rfl
  rotate_left
  · simp only [Act.put, List.setIfInBounds_toArray, List.set_cons_zero, List.set_cons_succ, i64_w, i32_w]
    rfl
  refine take_ (i := 13) (N := some 53) (v := ?_) (a' := ?_) #[true, true, true, true, true, true, true, true, false, true, false, false, true, true, false, false, false] rfl rfl (by kernel_rfl) (fun _ _ _ h => h) (Or.inl ⟨by rfl, ?_⟩) hHeld ?_ ?_
  rotate_left
  · rintro w' ⟨s0, s1, s2, s3, s4, s5, s6, s7, s8, s9, s10, s11, s12, s13, s14, s15⟩
    go_simp
    with_reducible rfl
  rotate_left
  · simp only [Act.put, List.setIfInBounds_toArray, List.set_cons_zero, List.set_cons_succ, i64_w, i32_w]
    rfl
  refine pure_ (i := 14) (N := some 54) (v := ?_) (a' := ?_) #[true, true, true, true, true, true, true, true, false, true, false, false, true, true, true, false, false] rfl rfl (by kernel_rfl) (fun _ _ _ h => h) (Or.inl ⟨by rfl, ?_⟩) ?_ ?_
  rotate_left
  · intro w'
    go_simp
    with_reducible rfl
  rotate_left
  · simp only [Act.put, List.setIfInBounds_toArray, List.set_cons_zero, List.set_cons_succ, i64_w, i32_w]
    rfl
  refine one_ (i := 8) (N := some 48) #[true, true, true, true, true, true, true, true, true, true, false, false, true, true, true, false, false] rfl rfl (by kernel_rfl) (by decide) (fun K hK => ?_)
  refine goes_ Tryd.func13 (by kernel_rfl) rfl #[.agg #[.int .i64 c0, .int .u64 c1, .int .u64 c2, .int .i64 c3, .int .i64 c4, .int .i64 c5, .string ⟨c6.toArray⟩]] (by rfl) rfl rfl (by simp only [List.map_toArray, List.map_cons, List.map_nil]; rfl) ?_
  with_reducible refine (print_x c0 c1 c2 c3 c4 c5 c6 _ HFC.out (HT.out.below (hHeld.2.2.2.2.2.2.2.2.2.2.2.2.2.2.1)) (HE.out.below (hHeld.2.2.2.2.2.2.2.2.2.2.2.2.2.2.1))).mono ?_
  rintro e w8 ⟨rfl, hb3⟩
  refine ⟨_, rfl, ?_⟩
  refine hK.out _ _ ⟨pw_cell_below hb3 (hHeld.1), pw_cell_below hb3 (hHeld.2.1), pw_cell_below hb3 (hHeld.2.2.1), pw_cell_below hb3 (hHeld.2.2.2.1), pw_cell_below hb3 (hHeld.2.2.2.2.1), pw_cell_below hb3 (hHeld.2.2.2.2.2.1), pw_cell_below hb3 (hHeld.2.2.2.2.2.2.1), pw_cell_below hb3 (hHeld.2.2.2.2.2.2.2.1), pw_cell_below hb3 (hHeld.2.2.2.2.2.2.2.2.1), pw_cell_below hb3 (hHeld.2.2.2.2.2.2.2.2.2.1), pw_cell_below hb3 (hHeld.2.2.2.2.2.2.2.2.2.2.1), pw_cell_below hb3 (hHeld.2.2.2.2.2.2.2.2.2.2.2.1), pw_cell_below hb3 (hHeld.2.2.2.2.2.2.2.2.2.2.2.2.1), pw_cell_below hb3 (hHeld.2.2.2.2.2.2.2.2.2.2.2.2.2.1), below_then (hHeld.2.2.2.2.2.2.2.2.2.2.2.2.2.2.1) (hHeld.2.2.2.2.2.2.2.2.2.2.2.2.2.2.1).size hb3, (hb3.block _ (blk_lt (hHeld.2.2.2.2.2.2.2.2.2.2.2.2.2.2.2))).trans (hHeld.2.2.2.2.2.2.2.2.2.2.2.2.2.2.2)⟩ (fun hHeld => ?_)
  clear hK K
  refine norm_ (a' := ?_) ?_ ?_
  rotate_left
  · show Act.put _ (some 48) _ = _
    simp only [Act.put, List.setIfInBounds_toArray, List.set_cons_zero, List.set_cons_succ, i64_w, i32_w]
    rfl
  refine one_ (i := 10) (N := some 50) #[true, true, true, true, true, true, true, true, true, true, true, false, true, true, true, false, false] rfl rfl (by kernel_rfl) (by decide) (fun K hK => ?_)
  refine goes_ Tryd.func13 (by kernel_rfl) rfl #[.agg #[.int .i64 d0, .int .u64 d1, .int .u64 d2, .int .i64 d3, .int .i64 d4, .int .i64 d5, .string ⟨d6.toArray⟩]] (by rfl) rfl rfl (by simp only [List.map_toArray, List.map_cons, List.map_nil]; rfl) ?_
  with_reducible refine (print_x d0 d1 d2 d3 d4 d5 d6 _ HFD.out (HT.out.below (hHeld.2.2.2.2.2.2.2.2.2.2.2.2.2.2.1)) (HE.out.below (hHeld.2.2.2.2.2.2.2.2.2.2.2.2.2.2.1))).mono ?_
  rintro e w8 ⟨rfl, hb3⟩
  refine ⟨_, rfl, ?_⟩
  refine hK.out _ _ ⟨pw_cell_below hb3 (hHeld.1), pw_cell_below hb3 (hHeld.2.1), pw_cell_below hb3 (hHeld.2.2.1), pw_cell_below hb3 (hHeld.2.2.2.1), pw_cell_below hb3 (hHeld.2.2.2.2.1), pw_cell_below hb3 (hHeld.2.2.2.2.2.1), pw_cell_below hb3 (hHeld.2.2.2.2.2.2.1), pw_cell_below hb3 (hHeld.2.2.2.2.2.2.2.1), pw_cell_below hb3 (hHeld.2.2.2.2.2.2.2.2.1), pw_cell_below hb3 (hHeld.2.2.2.2.2.2.2.2.2.1), pw_cell_below hb3 (hHeld.2.2.2.2.2.2.2.2.2.2.1), pw_cell_below hb3 (hHeld.2.2.2.2.2.2.2.2.2.2.2.1), pw_cell_below hb3 (hHeld.2.2.2.2.2.2.2.2.2.2.2.2.1), pw_cell_below hb3 (hHeld.2.2.2.2.2.2.2.2.2.2.2.2.2.1), below_then (hHeld.2.2.2.2.2.2.2.2.2.2.2.2.2.2.1) (hHeld.2.2.2.2.2.2.2.2.2.2.2.2.2.2.1).size hb3, (hb3.block _ (blk_lt (hHeld.2.2.2.2.2.2.2.2.2.2.2.2.2.2.2))).trans (hHeld.2.2.2.2.2.2.2.2.2.2.2.2.2.2.2)⟩ (fun hHeld => ?_)
  clear hK K
  refine norm_ (a' := ?_) ?_ ?_
  rotate_left
  · show Act.put _ (some 50) _ = _
    simp only [Act.put, List.setIfInBounds_toArray, List.set_cons_zero, List.set_cons_succ, i64_w, i32_w]
    rfl
  refine pure_ (i := 11) (N := some 51) (v := ?_) (a' := ?_) #[true, true, true, true, true, true, true, true, true, true, true, true, true, true, true, false, false] rfl rfl (by kernel_rfl) (fun _ _ _ h => h) (Or.inl ⟨by rfl, ?_⟩) ?_ ?_
  rotate_left
  · intro w'
    go_simp
    with_reducible rfl
  rotate_left
  · simp only [Act.put, List.setIfInBounds_toArray, List.set_cons_zero, List.set_cons_succ, i64_w, i32_w]
    rfl
  refine pure_ (i := 15) (N := some 55) (v := ?_) (a' := ?_) #[true, true, true, true, true, true, true, true, true, true, true, true, true, true, true, true, false] rfl rfl (by kernel_rfl) (fun _ _ _ h => h) (Or.inl ⟨by rfl, ?_⟩) ?_ ?_
  rotate_left
  · intro w'
    go_simp
    with_reducible rfl
  rotate_left
  · simp only [Act.put, List.setIfInBounds_toArray, List.set_cons_zero, List.set_cons_succ, i64_w, i32_w]
    rfl
  refine pure_ (i := 16) (N := some 56) (v := ?_) (a' := ?_) #[true, true, true, true, true, true, true, true, true, true, true, true, true, true, true, true, true] rfl rfl (by kernel_rfl) (fun _ _ _ h => h) (Or.inl ⟨by rfl, ?_⟩) ?_ ?_
  rotate_left
  · intro w'
    go_simp
    with_reducible rfl
  rotate_left
  · simp only [Act.put, List.setIfInBounds_toArray, List.set_cons_zero, List.set_cons_succ, i64_w, i32_w]
    rfl
  refine done_ (by kernel_rfl) ?_
  have DD := Aside0.mk (hHeld.2.2.2.2.2.2.2.2.2.2.2.2.2.2.1)
  have XB := Aside0.mk (hHeld.2.2.2.2.2.2.2.2.2.2.2.2.2.2.2)
  clear hHeld p0 q0 p1 q1 p2 q2 p3 q3 p4 q4 p5 q5 p6 q6
  --BEHIND
  clear XBd DDr
  have x0 := (blk_cell XB.out 0).trans (show _ = some (.int .i64 0) from rfl)
  have x1 := (blk_cell XB.out 1).trans (show _ = some (.int .u64 0) from rfl)
  have x2 := (blk_cell XB.out 2).trans (show _ = some (.int .u64 0) from rfl)
  have x3 := (blk_cell XB.out 3).trans (show _ = some (.int .i64 0) from rfl)
  have x4 := (blk_cell XB.out 4).trans (show _ = some (.int .i64 0) from rfl)
  have x5 := (blk_cell XB.out 5).trans (show _ = some (.int .i64 0) from rfl)
  have x6 := (blk_cell XB.out 6).trans (show _ = some (.string ⟨#[]⟩) from rfl)
  go_wp2
  go_ret
  exact ⟨rfl, DD.out⟩
set_option maxRecDepth 100000 in
set_option maxHeartbeats 8000000 in
theorem back_ttt (c0 c1 c2 c3 c4 c5 d0 d1 d2 d3 d4 d5 b0 b1 b2 b3 b4 b5 : Int) (c6 d6 b6 s : List UInt8) (hs : s.length ≤ 281474976710656) (w : World) (ht : Tens w) (he : Errs w) (hfc : (⟨c0, c1, c2, c3, c4, c5, c6⟩ : Call7).Fits) (hfd : (⟨d0, d1, d2, d3, d4, d5, d6⟩ : Call7).Fits)
    (hm : mayL (⟨c0, c1, c2, c3, c4, c5, c6⟩ : Call7) = true) (hm2 : mayL (⟨d0, d1, d2, d3, d4, d5, d6⟩ : Call7) = true) (hy : callP s = some (⟨b0, b1, b2, b3, b4, b5, b6⟩ : Call7)) :
    Calls Tryd.prog 5 #[.agg #[.int .i64 c0, .int .u64 c1, .int .u64 c2, .int .i64 c3, .int .i64 c4, .int .i64 c5, .string ⟨c6.toArray⟩], .agg #[.int .i64 d0, .int .u64 d1, .int .u64 d2, .int .i64 d3, .int .i64 d4, .int .i64 d5, .string ⟨d6.toArray⟩], .string ⟨s.toArray⟩] w fun e w' => e = .returned (.bool true) ∧ Below w.heap.size w w' := by
  have HT := Aside0.mk ht
  have HE := Aside0.mk he
  have HS := Aside0.mk hs
  have HFC := Aside0.mk hfc
  have HFD := Aside0.mk hfd
  have HM := Aside0.mk hm
  have HM2 := Aside0.mk hm2
  have HY := Aside0.mk hy
  have HFB := Aside0.mk (said_of hy).fits
  have HMB := Aside0.mk (may_of hy)
  have HPB := Aside0.mk (print_of hy)
  have HU := Aside0.mk (unlike_x c0 c1 c2 c3 c4 c5 d0 d1 d2 d3 d4 d5 c6 d6 hm hm2)
  have MC := Aside0.mk (fun w1 h1 h2 => may_x c0 c1 c2 c3 c4 c5 c6 w1 hfc h1 h2)
  rw [hm] at MC
  have MD := Aside0.mk (fun w1 h1 h2 => may_x d0 d1 d2 d3 d4 d5 d6 w1 hfd h1 h2)
  rw [hm2] at MD
  have MB := Aside0.mk (fun w1 h1 h2 => may_x b0 b1 b2 b3 b4 b5 b6 w1 HFB.out h1 h2)
  rw [HMB.out] at MB
  have PB := Aside0.mk (fun w1 h1 h2 => print_x b0 b1 b2 b3 b4 b5 b6 w1 HFB.out h1 h2)
  rw [HPB.out] at PB
  clear ht he hs hfc hfd hm hm2 hy
  have D0 := Aside0.mk (below_alloc (below_alloc (Below.refl w.heap.size w) (.cells #[.int .i64 c0, .int .u64 c1, .int .u64 c2, .int .i64 c3, .int .i64 c4, .int .i64 c5, .string ⟨c6.toArray⟩] 24)) (.cells #[.int .i64 d0, .int .u64 d1, .int .u64 d2, .int .i64 d3, .int .i64 d4, .int .i64 d5, .string ⟨d6.toArray⟩] 24))
  have XC := Aside0.mk (blk_alloc (blk_new w (.cells #[.int .i64 c0, .int .u64 c1, .int .u64 c2, .int .i64 c3, .int .i64 c4, .int .i64 c5, .string ⟨c6.toArray⟩] 24)) (.cells #[.int .i64 d0, .int .u64 d1, .int .u64 d2, .int .i64 d3, .int .i64 d4, .int .i64 d5, .string ⟨d6.toArray⟩] 24))
  have XD := Aside0.mk (blk_new (w.alloc (.cells #[.int .i64 c0, .int .u64 c1, .int .u64 c2, .int .i64 c3, .int .i64 c4, .int .i64 c5, .string ⟨c6.toArray⟩] 24)) (.cells #[.int .i64 d0, .int .u64 d1, .int .u64 d2, .int .i64 d3, .int .i64 d4, .int .i64 d5, .string ⟨d6.toArray⟩] 24))
  rw [World.size_alloc] at XD
  go_enter Tryd.func5, Tryd.ntmps5
  go_wp2_with fail
  refine (print_x c0 c1 c2 c3 c4 c5 c6 _ HFC.out (HT.out.below D0.out) (HE.out.below D0.out)).mono ?_
  rintro e w1 ⟨rfl, hb⟩
  replace XC := Aside0.mk ((hb.block _ (blk_lt XC.out)).trans XC.out)
  replace XD := Aside0.mk ((hb.block _ (blk_lt XD.out)).trans XD.out)
  have D1 := Aside0.mk (below_then D0.out D0.out.size hb)
  clear hb D0
  go_wp2_with fail
  refine (back_yes c0 c1 c2 c3 c4 c5 c6 _ HFC.out (HT.out.below D1.out) (HE.out.below D1.out) HM.out).mono ?_
  rintro e w2 ⟨rfl, hb⟩
  replace XC := Aside0.mk ((hb.block _ (blk_lt XC.out)).trans XC.out)
  replace XD := Aside0.mk ((hb.block _ (blk_lt XD.out)).trans XD.out)
  have D2 := Aside0.mk (below_then D1.out D1.out.size hb)
  clear hb D1
  have XA := Aside0.mk (blk_new w2 (.cells #[.int .i64 c0, .int .u64 c1, .int .u64 c2, .int .i64 c3, .int .i64 c4, .int .i64 c5, .string ⟨c6.toArray⟩] 24))
  replace XC := Aside0.mk (blk_alloc XC.out (.cells #[.int .i64 c0, .int .u64 c1, .int .u64 c2, .int .i64 c3, .int .i64 c4, .int .i64 c5, .string ⟨c6.toArray⟩] 24))
  replace XD := Aside0.mk (blk_alloc XD.out (.cells #[.int .i64 c0, .int .u64 c1, .int .u64 c2, .int .i64 c3, .int .i64 c4, .int .i64 c5, .string ⟨c6.toArray⟩] 24))
  have E2 := Aside0.mk (below_alloc D2.out (.cells #[.int .i64 c0, .int .u64 c1, .int .u64 c2, .int .i64 c3, .int .i64 c4, .int .i64 c5, .string ⟨c6.toArray⟩] 24))
  obtain ⟨ba, hba⟩ : ∃ ba, ba = w2.heap.size := ⟨_, rfl⟩
  rw [← hba] at XA
  clear D2
  go_wp2_with fail
  rw [← hba]
  clear hba
  generalize w2.alloc (.cells #[.int .i64 c0, .int .u64 c1, .int .u64 c2, .int .i64 c3, .int .i64 c4, .int .i64 c5, .string ⟨c6.toArray⟩] 24) = v2 at XC XD XA E2 ⊢
  refine (parse_yes s HS.out b0 b1 b2 b3 b4 b5 b6 _ (HT.out.below E2.out) (HE.out.below E2.out) HY.out).mono ?_
  rintro e w3 ⟨rfl, hb⟩
  replace XC := Aside0.mk ((hb.block _ (blk_lt XC.out)).trans XC.out)
  replace XD := Aside0.mk ((hb.block _ (blk_lt XD.out)).trans XD.out)
  replace XA := Aside0.mk ((hb.block _ (blk_lt XA.out)).trans XA.out)
  have D3 := Aside0.mk (below_then E2.out E2.out.size hb)
  clear hb E2
  have XB := Aside0.mk (blk_new w3 (.cells #[.int .i64 b0, .int .u64 b1, .int .u64 b2, .int .i64 b3, .int .i64 b4, .int .i64 b5, .string ⟨b6.toArray⟩] 24))
  replace XC := Aside0.mk (blk_alloc XC.out (.cells #[.int .i64 b0, .int .u64 b1, .int .u64 b2, .int .i64 b3, .int .i64 b4, .int .i64 b5, .string ⟨b6.toArray⟩] 24))
  replace XD := Aside0.mk (blk_alloc XD.out (.cells #[.int .i64 b0, .int .u64 b1, .int .u64 b2, .int .i64 b3, .int .i64 b4, .int .i64 b5, .string ⟨b6.toArray⟩] 24))
  replace XA := Aside0.mk (blk_alloc XA.out (.cells #[.int .i64 b0, .int .u64 b1, .int .u64 b2, .int .i64 b3, .int .i64 b4, .int .i64 b5, .string ⟨b6.toArray⟩] 24))
  have E3 := Aside0.mk (below_alloc D3.out (.cells #[.int .i64 b0, .int .u64 b1, .int .u64 b2, .int .i64 b3, .int .i64 b4, .int .i64 b5, .string ⟨b6.toArray⟩] 24))
  obtain ⟨bb, hbb⟩ : ∃ bb, bb = w3.heap.size := ⟨_, rfl⟩
  rw [← hbb] at XB
  clear D3
  go_wp2_with fail
  rw [← hbb]
  clear hbb
  generalize w3.alloc (.cells #[.int .i64 b0, .int .u64 b1, .int .u64 b2, .int .i64 b3, .int .i64 b4, .int .i64 b5, .string ⟨b6.toArray⟩] 24) = v3 at XC XD XA XB E3 ⊢
  refine (fixed_q _ (HT.out.below E3.out) (HE.out.below E3.out)).mono ?_
  rintro e w4 ⟨rfl, hb⟩
  replace XC := Aside0.mk ((hb.block _ (blk_lt XC.out)).trans XC.out)
  replace XD := Aside0.mk ((hb.block _ (blk_lt XD.out)).trans XD.out)
  replace XA := Aside0.mk ((hb.block _ (blk_lt XA.out)).trans XA.out)
  replace XB := Aside0.mk ((hb.block _ (blk_lt XB.out)).trans XB.out)
  have D4 := Aside0.mk (below_then E3.out E3.out.size hb)
  clear hb E3
  have x0 := (blk_cell XC.out 0).trans (show _ = some (.int .i64 c0) from rfl)
  have x1 := (blk_cell XC.out 1).trans (show _ = some (.int .u64 c1) from rfl)
  have x2 := (blk_cell XC.out 2).trans (show _ = some (.int .u64 c2) from rfl)
  have x3 := (blk_cell XC.out 3).trans (show _ = some (.int .i64 c3) from rfl)
  have x4 := (blk_cell XC.out 4).trans (show _ = some (.int .i64 c4) from rfl)
  have x5 := (blk_cell XC.out 5).trans (show _ = some (.int .i64 c5) from rfl)
  have x6 := (blk_cell XC.out 6).trans (show _ = some (.string ⟨c6.toArray⟩) from rfl)
  go_wp2_with fail
  clear x0 x1 x2 x3 x4 x5 x6
  refine (MC.out _ (HT.out.below D4.out) (HE.out.below D4.out)).mono ?_
  rintro e w5 ⟨rfl, hb⟩
  replace XC := Aside0.mk ((hb.block _ (blk_lt XC.out)).trans XC.out)
  replace XD := Aside0.mk ((hb.block _ (blk_lt XD.out)).trans XD.out)
  replace XA := Aside0.mk ((hb.block _ (blk_lt XA.out)).trans XA.out)
  replace XB := Aside0.mk ((hb.block _ (blk_lt XB.out)).trans XB.out)
  have D5 := Aside0.mk (below_then D4.out D4.out.size hb)
  clear hb D4
  have x0 := (blk_cell XC.out 0).trans (show _ = some (.int .i64 c0) from rfl)
  have x1 := (blk_cell XC.out 1).trans (show _ = some (.int .u64 c1) from rfl)
  have x2 := (blk_cell XC.out 2).trans (show _ = some (.int .u64 c2) from rfl)
  have x3 := (blk_cell XC.out 3).trans (show _ = some (.int .i64 c3) from rfl)
  have x4 := (blk_cell XC.out 4).trans (show _ = some (.int .i64 c4) from rfl)
  have x5 := (blk_cell XC.out 5).trans (show _ = some (.int .i64 c5) from rfl)
  have x6 := (blk_cell XC.out 6).trans (show _ = some (.string ⟨c6.toArray⟩) from rfl)
  have y0 := (blk_cell XA.out 0).trans (show _ = some (.int .i64 c0) from rfl)
  have y1 := (blk_cell XA.out 1).trans (show _ = some (.int .u64 c1) from rfl)
  have y2 := (blk_cell XA.out 2).trans (show _ = some (.int .u64 c2) from rfl)
  have y3 := (blk_cell XA.out 3).trans (show _ = some (.int .i64 c3) from rfl)
  have y4 := (blk_cell XA.out 4).trans (show _ = some (.int .i64 c4) from rfl)
  have y5 := (blk_cell XA.out 5).trans (show _ = some (.int .i64 c5) from rfl)
  have y6 := (blk_cell XA.out 6).trans (show _ = some (.string ⟨c6.toArray⟩) from rfl)
  go_wp2_with fail
  clear x0 x1 x2 x3 x4 x5 x6
  clear y0 y1 y2 y3 y4 y5 y6
  have p0 : w5.drew.cell? ⟨w.heap.size, 0, none⟩ = some (.int .i64 c0) := (blk_cell XC.out 0).trans rfl
  have p1 : w5.drew.cell? ⟨w.heap.size, 1, none⟩ = some (.int .u64 c1) := (blk_cell XC.out 1).trans rfl
  have p2 : w5.drew.cell? ⟨w.heap.size, 2, none⟩ = some (.int .u64 c2) := (blk_cell XC.out 2).trans rfl
  have p3 : w5.drew.cell? ⟨w.heap.size, 3, none⟩ = some (.int .i64 c3) := (blk_cell XC.out 3).trans rfl
  have p4 : w5.drew.cell? ⟨w.heap.size, 4, none⟩ = some (.int .i64 c4) := (blk_cell XC.out 4).trans rfl
  have p5 : w5.drew.cell? ⟨w.heap.size, 5, none⟩ = some (.int .i64 c5) := (blk_cell XC.out 5).trans rfl
  have p6 : w5.drew.cell? ⟨w.heap.size, 6, none⟩ = some (.string ⟨c6.toArray⟩) := (blk_cell XC.out 6).trans rfl
  have q0 : w5.drew.cell? ⟨w.heap.size + 1, 0, none⟩ = some (.int .i64 d0) := (blk_cell XD.out 0).trans rfl
  have q1 : w5.drew.cell? ⟨w.heap.size + 1, 1, none⟩ = some (.int .u64 d1) := (blk_cell XD.out 1).trans rfl
  have q2 : w5.drew.cell? ⟨w.heap.size + 1, 2, none⟩ = some (.int .u64 d2) := (blk_cell XD.out 2).trans rfl
  have q3 : w5.drew.cell? ⟨w.heap.size + 1, 3, none⟩ = some (.int .i64 d3) := (blk_cell XD.out 3).trans rfl
  have q4 : w5.drew.cell? ⟨w.heap.size + 1, 4, none⟩ = some (.int .i64 d4) := (blk_cell XD.out 4).trans rfl
  have q5 : w5.drew.cell? ⟨w.heap.size + 1, 5, none⟩ = some (.int .i64 d5) := (blk_cell XD.out 5).trans rfl
  have q6 : w5.drew.cell? ⟨w.heap.size + 1, 6, none⟩ = some (.string ⟨d6.toArray⟩) := (blk_cell XD.out 6).trans rfl
  have XBd : w5.drew.heap[bb]? = some (.cells #[.int .i64 b0, .int .u64 b1, .int .u64 b2, .int .i64 b3, .int .i64 b4, .int .i64 b5, .string ⟨b6.toArray⟩] 24 (0, 0)) := XB.out
  have DDr := below_drew D5.out
  clear XC XD XA XB D5
  have hU := HU.out
  refine start_ (n := 17) (S := fun w' => w'.cell? ⟨w.heap.size, 0, none⟩ = some (.int .i64 c0) ∧ w'.cell? ⟨w.heap.size, 1, none⟩ = some (.int .u64 c1) ∧ w'.cell? ⟨w.heap.size, 2, none⟩ = some (.int .u64 c2) ∧ w'.cell? ⟨w.heap.size, 3, none⟩ = some (.int .i64 c3) ∧ w'.cell? ⟨w.heap.size, 4, none⟩ = some (.int .i64 c4) ∧ w'.cell? ⟨w.heap.size, 5, none⟩ = some (.int .i64 c5) ∧ w'.cell? ⟨w.heap.size, 6, none⟩ = some (.string ⟨c6.toArray⟩) ∧ w'.cell? ⟨w.heap.size + 1, 0, none⟩ = some (.int .i64 d0) ∧ w'.cell? ⟨w.heap.size + 1, 1, none⟩ = some (.int .u64 d1) ∧ w'.cell? ⟨w.heap.size + 1, 2, none⟩ = some (.int .u64 d2) ∧ w'.cell? ⟨w.heap.size + 1, 3, none⟩ = some (.int .i64 d3) ∧ w'.cell? ⟨w.heap.size + 1, 4, none⟩ = some (.int .i64 d4) ∧ w'.cell? ⟨w.heap.size + 1, 5, none⟩ = some (.int .i64 d5) ∧ w'.cell? ⟨w.heap.size + 1, 6, none⟩ = some (.string ⟨d6.toArray⟩) ∧ Below w.heap.size w w' ∧ w'.heap[bb]? = some (.cells #[.int .i64 b0, .int .u64 b1, .int .u64 b2, .int .i64 b3, .int .i64 b4, .int .i64 b5, .string ⟨b6.toArray⟩] 24 (0, 0))) (ds := []) #[false, false, false, false, false, false, false, false, false, false, false, false, false, false, false, false, false] (by kernel_rfl) rfl rfl ⟨p0, p1, p2, p3, p4, p5, p6, q0, q1, q2, q3, q4, q5, q6, DDr, XBd⟩ (fun hHeld => ?_)
  refine take_ (i := 0) (N := some 40) (v := ?_) (a' := ?_) #[true, false, false, false, false, false, false, false, false, false, false, false, false, false, false, false, false] rfl rfl (by kernel_rfl) (fun _ _ _ h => h) (Or.inl ⟨by rfl, ?_⟩) hHeld ?_ ?_
  rotate_left
  · rintro w' ⟨s0, s1, s2, s3, s4, s5, s6, s7, s8, s9, s10, s11, s12, s13, s14, s15⟩
    go_simp
    with_reducible rfl
  rotate_left
  · simp only [Act.put, List.setIfInBounds_toArray, List.set_cons_zero, List.set_cons_succ, i64_w, i32_w]
    rfl
  refine one_ (i := 1) (N := some 41) #[true, true, false, false, false, false, false, false, false, false, false, false, false, false, false, false, false] rfl rfl (by kernel_rfl) (by decide) (fun K hK => ?_)
  refine goes_ Tryd.func11 (by kernel_rfl) rfl #[.agg #[.int .i64 c0, .int .u64 c1, .int .u64 c2, .int .i64 c3, .int .i64 c4, .int .i64 c5, .string ⟨c6.toArray⟩]] (by rfl) rfl rfl (by simp only [List.map_toArray, List.map_cons, List.map_nil]; rfl) ?_
  with_reducible refine (MC.out _ (HT.out.below (hHeld.2.2.2.2.2.2.2.2.2.2.2.2.2.2.1)) (HE.out.below (hHeld.2.2.2.2.2.2.2.2.2.2.2.2.2.2.1))).mono ?_
  rintro e w8 ⟨rfl, hb3⟩
  refine ⟨_, rfl, ?_⟩
  refine hK.out _ _ ⟨pw_cell_below hb3 (hHeld.1), pw_cell_below hb3 (hHeld.2.1), pw_cell_below hb3 (hHeld.2.2.1), pw_cell_below hb3 (hHeld.2.2.2.1), pw_cell_below hb3 (hHeld.2.2.2.2.1), pw_cell_below hb3 (hHeld.2.2.2.2.2.1), pw_cell_below hb3 (hHeld.2.2.2.2.2.2.1), pw_cell_below hb3 (hHeld.2.2.2.2.2.2.2.1), pw_cell_below hb3 (hHeld.2.2.2.2.2.2.2.2.1), pw_cell_below hb3 (hHeld.2.2.2.2.2.2.2.2.2.1), pw_cell_below hb3 (hHeld.2.2.2.2.2.2.2.2.2.2.1), pw_cell_below hb3 (hHeld.2.2.2.2.2.2.2.2.2.2.2.1), pw_cell_below hb3 (hHeld.2.2.2.2.2.2.2.2.2.2.2.2.1), pw_cell_below hb3 (hHeld.2.2.2.2.2.2.2.2.2.2.2.2.2.1), below_then (hHeld.2.2.2.2.2.2.2.2.2.2.2.2.2.2.1) (hHeld.2.2.2.2.2.2.2.2.2.2.2.2.2.2.1).size hb3, (hb3.block _ (blk_lt (hHeld.2.2.2.2.2.2.2.2.2.2.2.2.2.2.2))).trans (hHeld.2.2.2.2.2.2.2.2.2.2.2.2.2.2.2)⟩ (fun hHeld => ?_)
  clear hK K
  refine norm_ (a' := ?_) ?_ ?_
  rotate_left
  · show Act.put _ (some 41) _ = _
    simp only [Act.put, List.setIfInBounds_toArray, List.set_cons_zero, List.set_cons_succ, i64_w, i32_w]
    rfl
  refine pure_ (i := 2) (N := some 42) (v := ?_) (a' := ?_) #[true, true, true, false, false, false, false, false, false, false, false, false, false, false, false, false, false] rfl rfl (by kernel_rfl) (fun _ _ _ h => h) (Or.inl ⟨by rfl, ?_⟩) ?_ ?_
  rotate_left
  · intro w'
    go_simp
    with_reducible rfl
  rotate_left
  · simp only [Act.put, List.setIfInBounds_toArray, List.set_cons_zero, List.set_cons_succ, i64_w, i32_w]
    rfl
  refine take_ (i := 3) (N := some 43) (v := ?_) (a' := ?_) #[true, true, true, true, false, false, false, false, false, false, false, false, false, false, false, false, false] rfl rfl (by kernel_rfl) (fun _ _ _ h => h) (Or.inl ⟨by rfl, ?_⟩) hHeld ?_ ?_
  rotate_left
  · rintro w' ⟨s0, s1, s2, s3, s4, s5, s6, s7, s8, s9, s10, s11, s12, s13, s14, s15⟩
    go_simp
    with_reducible rfl
  rotate_left
  · simp only [Act.put, List.setIfInBounds_toArray, List.set_cons_zero, List.set_cons_succ, i64_w, i32_w]
    rfl
  refine one_ (i := 4) (N := some 44) #[true, true, true, true, true, false, false, false, false, false, false, false, false, false, false, false, false] rfl rfl (by kernel_rfl) (by decide) (fun K hK => ?_)
  refine goes_ Tryd.func11 (by kernel_rfl) rfl #[.agg #[.int .i64 d0, .int .u64 d1, .int .u64 d2, .int .i64 d3, .int .i64 d4, .int .i64 d5, .string ⟨d6.toArray⟩]] (by rfl) rfl rfl (by simp only [List.map_toArray, List.map_cons, List.map_nil]; rfl) ?_
  with_reducible refine (MD.out _ (HT.out.below (hHeld.2.2.2.2.2.2.2.2.2.2.2.2.2.2.1)) (HE.out.below (hHeld.2.2.2.2.2.2.2.2.2.2.2.2.2.2.1))).mono ?_
  rintro e w8 ⟨rfl, hb3⟩
  refine ⟨_, rfl, ?_⟩
  refine hK.out _ _ ⟨pw_cell_below hb3 (hHeld.1), pw_cell_below hb3 (hHeld.2.1), pw_cell_below hb3 (hHeld.2.2.1), pw_cell_below hb3 (hHeld.2.2.2.1), pw_cell_below hb3 (hHeld.2.2.2.2.1), pw_cell_below hb3 (hHeld.2.2.2.2.2.1), pw_cell_below hb3 (hHeld.2.2.2.2.2.2.1), pw_cell_below hb3 (hHeld.2.2.2.2.2.2.2.1), pw_cell_below hb3 (hHeld.2.2.2.2.2.2.2.2.1), pw_cell_below hb3 (hHeld.2.2.2.2.2.2.2.2.2.1), pw_cell_below hb3 (hHeld.2.2.2.2.2.2.2.2.2.2.1), pw_cell_below hb3 (hHeld.2.2.2.2.2.2.2.2.2.2.2.1), pw_cell_below hb3 (hHeld.2.2.2.2.2.2.2.2.2.2.2.2.1), pw_cell_below hb3 (hHeld.2.2.2.2.2.2.2.2.2.2.2.2.2.1), below_then (hHeld.2.2.2.2.2.2.2.2.2.2.2.2.2.2.1) (hHeld.2.2.2.2.2.2.2.2.2.2.2.2.2.2.1).size hb3, (hb3.block _ (blk_lt (hHeld.2.2.2.2.2.2.2.2.2.2.2.2.2.2.2))).trans (hHeld.2.2.2.2.2.2.2.2.2.2.2.2.2.2.2)⟩ (fun hHeld => ?_)
  clear hK K
  refine norm_ (a' := ?_) ?_ ?_
  rotate_left
  · show Act.put _ (some 44) _ = _
    simp only [Act.put, List.setIfInBounds_toArray, List.set_cons_zero, List.set_cons_succ, i64_w, i32_w]
    rfl
  refine pure_ (i := 5) (N := some 45) (v := ?_) (a' := ?_) #[true, true, true, true, true, true, false, false, false, false, false, false, false, false, false, false, false] rfl rfl (by kernel_rfl) (fun _ _ _ h => h) (Or.inl ⟨by rfl, ?_⟩) ?_ ?_
  rotate_left
  · intro w'
    go_simp
    with_reducible rfl
  rotate_left
  · simp only [Act.put, List.setIfInBounds_toArray, List.set_cons_zero, List.set_cons_succ, i64_w, i32_w]
    rfl
  refine pure_ (i := 6) (N := some 46) (v := ?_) (a' := ?_) #[true, true, true, true, true, true, true, false, false, false, false, false, false, false, false, false, false] rfl rfl (by kernel_rfl) (fun _ _ _ h => h) (Or.inl ⟨by rfl, ?_⟩) ?_ ?_
  rotate_left
  · intro w'
    go_simp
    with_reducible rfl
  rotate_left
  · simp only [Act.put, List.setIfInBounds_toArray, List.set_cons_zero, List.set_cons_succ, i64_w, i32_w]
    rfl
  refine take_ (i := 7) (N := some 47) (v := ?_) (a' := ?_) #[true, true, true, true, true, true, true, true, false, false, false, false, false, false, false, false, false] rfl rfl (by kernel_rfl) (fun _ _ _ h => h) (Or.inl ⟨by rfl, ?_⟩) hHeld ?_ ?_
  rotate_left
  · rintro w' ⟨s0, s1, s2, s3, s4, s5, s6, s7, s8, s9, s10, s11, s12, s13, s14, s15⟩
    go_simp
    with_reducible rfl
  rotate_left
  · simp only [Act.put, List.setIfInBounds_toArray, List.set_cons_zero, List.set_cons_succ, i64_w, i32_w]
    rfl
  refine take_ (i := 9) (N := some 49) (v := ?_) (a' := ?_) #[true, true, true, true, true, true, true, true, false, true, false, false, false, false, false, false, false] rfl rfl (by kernel_rfl) (fun _ _ _ h => h) (Or.inl ⟨by rfl, ?_⟩) hHeld ?_ ?_
  rotate_left
  · rintro w' ⟨s0, s1, s2, s3, s4, s5, s6, s7, s8, s9, s10, s11, s12, s13, s14, s15⟩
    go_simp
    with_reducible rfl
  rotate_left
  · simp only [Act.put, List.setIfInBounds_toArray, List.set_cons_zero, List.set_cons_succ, i64_w, i32_w]
    rfl
  refine take_ (i := 12) (N := some 52) (v := ?_) (a' := ?_) #[true, true, true, true, true, true, true, true, false, true, false, false, true, false, false, false, false] rfl rfl (by kernel_rfl) (fun _ _ _ h => h) (Or.inl ⟨by rfl, ?_⟩) hHeld ?_ ?_
  rotate_left
  · rintro w' ⟨s0, s1, s2, s3, s4, s5, s6, s7, s8, s9, s10, s11, s12, s13, s14, s15⟩
    go_simp
    with_reducible rfl
  rotate_left
  · simp only [Act.put, List.setIfInBounds_toArray, List.set_cons_zero, List.set_cons_succ, i64_w, i32_w]
    rfl
  refine take_ (i := 13) (N := some 53) (v := ?_) (a' := ?_) #[true, true, true, true, true, true, true, true, false, true, false, false, true, true, false, false, false] rfl rfl (by kernel_rfl) (fun _ _ _ h => h) (Or.inl ⟨by rfl, ?_⟩) hHeld ?_ ?_
  rotate_left
  · rintro w' ⟨s0, s1, s2, s3, s4, s5, s6, s7, s8, s9, s10, s11, s12, s13, s14, s15⟩
    go_simp
    with_reducible rfl
  rotate_left
  · simp only [Act.put, List.setIfInBounds_toArray, List.set_cons_zero, List.set_cons_succ, i64_w, i32_w]
    rfl
  refine pure_ (i := 14) (N := some 54) (v := ?_) (a' := ?_) #[true, true, true, true, true, true, true, true, false, true, false, false, true, true, true, false, false] rfl rfl (by kernel_rfl) (fun _ _ _ h => h) (Or.inl ⟨by rfl, ?_⟩) ?_ ?_
  rotate_left
  · intro w'
    go_simp
    with_reducible rfl
  rotate_left
  · simp only [Act.put, List.setIfInBounds_toArray, List.set_cons_zero, List.set_cons_succ, i64_w, i32_w]
    rfl
  refine one_ (i := 8) (N := some 48) #[true, true, true, true, true, true, true, true, true, true, false, false, true, true, true, false, false] rfl rfl (by kernel_rfl) (by decide) (fun K hK => ?_)
  refine goes_ Tryd.func13 (by kernel_rfl) rfl #[.agg #[.int .i64 c0, .int .u64 c1, .int .u64 c2, .int .i64 c3, .int .i64 c4, .int .i64 c5, .string ⟨c6.toArray⟩]] (by rfl) rfl rfl (by simp only [List.map_toArray, List.map_cons, List.map_nil]; rfl) ?_
  with_reducible refine (print_x c0 c1 c2 c3 c4 c5 c6 _ HFC.out (HT.out.below (hHeld.2.2.2.2.2.2.2.2.2.2.2.2.2.2.1)) (HE.out.below (hHeld.2.2.2.2.2.2.2.2.2.2.2.2.2.2.1))).mono ?_
  rintro e w8 ⟨rfl, hb3⟩
  refine ⟨_, rfl, ?_⟩
  refine hK.out _ _ ⟨pw_cell_below hb3 (hHeld.1), pw_cell_below hb3 (hHeld.2.1), pw_cell_below hb3 (hHeld.2.2.1), pw_cell_below hb3 (hHeld.2.2.2.1), pw_cell_below hb3 (hHeld.2.2.2.2.1), pw_cell_below hb3 (hHeld.2.2.2.2.2.1), pw_cell_below hb3 (hHeld.2.2.2.2.2.2.1), pw_cell_below hb3 (hHeld.2.2.2.2.2.2.2.1), pw_cell_below hb3 (hHeld.2.2.2.2.2.2.2.2.1), pw_cell_below hb3 (hHeld.2.2.2.2.2.2.2.2.2.1), pw_cell_below hb3 (hHeld.2.2.2.2.2.2.2.2.2.2.1), pw_cell_below hb3 (hHeld.2.2.2.2.2.2.2.2.2.2.2.1), pw_cell_below hb3 (hHeld.2.2.2.2.2.2.2.2.2.2.2.2.1), pw_cell_below hb3 (hHeld.2.2.2.2.2.2.2.2.2.2.2.2.2.1), below_then (hHeld.2.2.2.2.2.2.2.2.2.2.2.2.2.2.1) (hHeld.2.2.2.2.2.2.2.2.2.2.2.2.2.2.1).size hb3, (hb3.block _ (blk_lt (hHeld.2.2.2.2.2.2.2.2.2.2.2.2.2.2.2))).trans (hHeld.2.2.2.2.2.2.2.2.2.2.2.2.2.2.2)⟩ (fun hHeld => ?_)
  clear hK K
  refine norm_ (a' := ?_) ?_ ?_
  rotate_left
  · show Act.put _ (some 48) _ = _
    simp only [Act.put, List.setIfInBounds_toArray, List.set_cons_zero, List.set_cons_succ, i64_w, i32_w]
    rfl
  refine one_ (i := 10) (N := some 50) #[true, true, true, true, true, true, true, true, true, true, true, false, true, true, true, false, false] rfl rfl (by kernel_rfl) (by decide) (fun K hK => ?_)
  refine goes_ Tryd.func13 (by kernel_rfl) rfl #[.agg #[.int .i64 d0, .int .u64 d1, .int .u64 d2, .int .i64 d3, .int .i64 d4, .int .i64 d5, .string ⟨d6.toArray⟩]] (by rfl) rfl rfl (by simp only [List.map_toArray, List.map_cons, List.map_nil]; rfl) ?_
  with_reducible refine (print_x d0 d1 d2 d3 d4 d5 d6 _ HFD.out (HT.out.below (hHeld.2.2.2.2.2.2.2.2.2.2.2.2.2.2.1)) (HE.out.below (hHeld.2.2.2.2.2.2.2.2.2.2.2.2.2.2.1))).mono ?_
  rintro e w8 ⟨rfl, hb3⟩
  refine ⟨_, rfl, ?_⟩
  refine hK.out _ _ ⟨pw_cell_below hb3 (hHeld.1), pw_cell_below hb3 (hHeld.2.1), pw_cell_below hb3 (hHeld.2.2.1), pw_cell_below hb3 (hHeld.2.2.2.1), pw_cell_below hb3 (hHeld.2.2.2.2.1), pw_cell_below hb3 (hHeld.2.2.2.2.2.1), pw_cell_below hb3 (hHeld.2.2.2.2.2.2.1), pw_cell_below hb3 (hHeld.2.2.2.2.2.2.2.1), pw_cell_below hb3 (hHeld.2.2.2.2.2.2.2.2.1), pw_cell_below hb3 (hHeld.2.2.2.2.2.2.2.2.2.1), pw_cell_below hb3 (hHeld.2.2.2.2.2.2.2.2.2.2.1), pw_cell_below hb3 (hHeld.2.2.2.2.2.2.2.2.2.2.2.1), pw_cell_below hb3 (hHeld.2.2.2.2.2.2.2.2.2.2.2.2.1), pw_cell_below hb3 (hHeld.2.2.2.2.2.2.2.2.2.2.2.2.2.1), below_then (hHeld.2.2.2.2.2.2.2.2.2.2.2.2.2.2.1) (hHeld.2.2.2.2.2.2.2.2.2.2.2.2.2.2.1).size hb3, (hb3.block _ (blk_lt (hHeld.2.2.2.2.2.2.2.2.2.2.2.2.2.2.2))).trans (hHeld.2.2.2.2.2.2.2.2.2.2.2.2.2.2.2)⟩ (fun hHeld => ?_)
  clear hK K
  refine norm_ (a' := ?_) ?_ ?_
  rotate_left
  · show Act.put _ (some 50) _ = _
    simp only [Act.put, List.setIfInBounds_toArray, List.set_cons_zero, List.set_cons_succ, i64_w, i32_w]
    rfl
  refine pure_ (i := 11) (N := some 51) (v := ?_) (a' := ?_) #[true, true, true, true, true, true, true, true, true, true, true, true, true, true, true, false, false] rfl rfl (by kernel_rfl) (fun _ _ _ h => h) (Or.inl ⟨by rfl, ?_⟩) ?_ ?_
  rotate_left
  · intro w'
    go_simp
    with_reducible rfl
  rotate_left
  · simp only [Act.put, List.setIfInBounds_toArray, List.set_cons_zero, List.set_cons_succ, i64_w, i32_w]
    rfl
  refine pure_ (i := 15) (N := some 55) (v := ?_) (a' := ?_) #[true, true, true, true, true, true, true, true, true, true, true, true, true, true, true, true, false] rfl rfl (by kernel_rfl) (fun _ _ _ h => h) (Or.inl ⟨by rfl, ?_⟩) ?_ ?_
  rotate_left
  · intro w'
    go_simp
    with_reducible rfl
  rotate_left
  · simp only [Act.put, List.setIfInBounds_toArray, List.set_cons_zero, List.set_cons_succ, i64_w, i32_w]
    rfl
  refine pure_ (i := 16) (N := some 56) (v := ?_) (a' := ?_) #[true, true, true, true, true, true, true, true, true, true, true, true, true, true, true, true, true] rfl rfl (by kernel_rfl) (fun _ _ _ h => h) (Or.inl ⟨by rfl, ?_⟩) ?_ ?_
  rotate_left
  · intro w'
    go_simp
    with_reducible rfl
  rotate_left
  · simp only [Act.put, List.setIfInBounds_toArray, List.set_cons_zero, List.set_cons_succ, i64_w, i32_w]
    rfl
  refine done_ (by kernel_rfl) ?_
  have DD := Aside0.mk (hHeld.2.2.2.2.2.2.2.2.2.2.2.2.2.2.1)
  have XB := Aside0.mk (hHeld.2.2.2.2.2.2.2.2.2.2.2.2.2.2.2)
  clear hHeld p0 q0 p1 q1 p2 q2 p3 q3 p4 q4 p5 q5 p6 q6
  --BEHIND
  clear XBd DDr
  have x0 := (blk_cell XB.out 0).trans (show _ = some (.int .i64 b0) from rfl)
  have x1 := (blk_cell XB.out 1).trans (show _ = some (.int .u64 b1) from rfl)
  have x2 := (blk_cell XB.out 2).trans (show _ = some (.int .u64 b2) from rfl)
  have x3 := (blk_cell XB.out 3).trans (show _ = some (.int .i64 b3) from rfl)
  have x4 := (blk_cell XB.out 4).trans (show _ = some (.int .i64 b4) from rfl)
  have x5 := (blk_cell XB.out 5).trans (show _ = some (.int .i64 b5) from rfl)
  have x6 := (blk_cell XB.out 6).trans (show _ = some (.string ⟨b6.toArray⟩) from rfl)
  go_wp2_with fail
  clear x0 x1 x2 x3 x4 x5 x6
  refine (MB.out _ (HT.out.below DD.out) (HE.out.below DD.out)).mono ?_
  rintro e w9 ⟨rfl, hb⟩
  replace XB := Aside0.mk ((hb.block _ (blk_lt XB.out)).trans XB.out)
  have D9 := Aside0.mk (below_then DD.out DD.out.size hb)
  clear hb DD
  have x0 := (blk_cell XB.out 0).trans (show _ = some (.int .i64 b0) from rfl)
  have x1 := (blk_cell XB.out 1).trans (show _ = some (.int .u64 b1) from rfl)
  have x2 := (blk_cell XB.out 2).trans (show _ = some (.int .u64 b2) from rfl)
  have x3 := (blk_cell XB.out 3).trans (show _ = some (.int .i64 b3) from rfl)
  have x4 := (blk_cell XB.out 4).trans (show _ = some (.int .i64 b4) from rfl)
  have x5 := (blk_cell XB.out 5).trans (show _ = some (.int .i64 b5) from rfl)
  have x6 := (blk_cell XB.out 6).trans (show _ = some (.string ⟨b6.toArray⟩) from rfl)
  go_wp2_with fail
  clear x0 x1 x2 x3 x4 x5 x6
  refine (PB.out _ (HT.out.below D9.out) (HE.out.below D9.out)).mono ?_
  rintro e w10 ⟨rfl, hb⟩
  replace XB := Aside0.mk ((hb.block _ (blk_lt XB.out)).trans XB.out)
  have D10 := Aside0.mk (below_then D9.out D9.out.size hb)
  clear hb D9
  go_wp2
  go_ret
  exact ⟨rfl, D10.out⟩
theorem back_any (c d : Call7) (s : List UInt8) (hs : s.length ≤ 281474976710656) (w : World) (ht : Tens w) (he : Errs w) (hfc : c.Fits) (hfd : d.Fits) :
    Calls Tryd.prog 5 #[.agg c.cells, .agg d.cells, .string ⟨s.toArray⟩] w fun e w' => e = .returned (.bool true) ∧ Below w.heap.size w w' := by
  obtain ⟨c0, c1, c2, c3, c4, c5, c6⟩ := c
  obtain ⟨d0, d1, d2, d3, d4, d5, d6⟩ := d
  cases hm : mayL (⟨c0, c1, c2, c3, c4, c5, c6⟩ : Call7) <;> cases hm2 : mayL (⟨d0, d1, d2, d3, d4, d5, d6⟩ : Call7) <;> cases hy : callP s
  · exact back_nnn c0 c1 c2 c3 c4 c5 d0 d1 d2 d3 d4 d5 c6 d6 s hs w ht he hfc hfd hm hm2 hy
  · rename_i b
    obtain ⟨b0, b1, b2, b3, b4, b5, b6⟩ := b
    exact back_nnt c0 c1 c2 c3 c4 c5 d0 d1 d2 d3 d4 d5 b0 b1 b2 b3 b4 b5 c6 d6 b6 s hs w ht he hfc hfd hm hm2 hy
  · exact back_ntn c0 c1 c2 c3 c4 c5 d0 d1 d2 d3 d4 d5 c6 d6 s hs w ht he hfc hfd hm hm2 hy
  · rename_i b
    obtain ⟨b0, b1, b2, b3, b4, b5, b6⟩ := b
    exact back_ntt c0 c1 c2 c3 c4 c5 d0 d1 d2 d3 d4 d5 b0 b1 b2 b3 b4 b5 c6 d6 b6 s hs w ht he hfc hfd hm hm2 hy
  · exact back_tnn c0 c1 c2 c3 c4 c5 d0 d1 d2 d3 d4 d5 c6 d6 s hs w ht he hfc hfd hm hm2 hy
  · rename_i b
    obtain ⟨b0, b1, b2, b3, b4, b5, b6⟩ := b
    exact back_tnt c0 c1 c2 c3 c4 c5 d0 d1 d2 d3 d4 d5 b0 b1 b2 b3 b4 b5 c6 d6 b6 s hs w ht he hfc hfd hm hm2 hy
  · exact back_ttn c0 c1 c2 c3 c4 c5 d0 d1 d2 d3 d4 d5 c6 d6 s hs w ht he hfc hfd hm hm2 hy
  · rename_i b
    obtain ⟨b0, b1, b2, b3, b4, b5, b6⟩ := b
    exact back_ttt c0 c1 c2 c3 c4 c5 d0 d1 d2 d3 d4 d5 b0 b1 b2 b3 b4 b5 c6 d6 b6 s hs w ht he hfc hfd hm hm2 hy
end Go.Proofs.YtljgmbpfeajmhaaDoor
