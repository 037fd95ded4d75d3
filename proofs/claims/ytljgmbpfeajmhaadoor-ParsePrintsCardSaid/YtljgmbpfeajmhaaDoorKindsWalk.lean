/- The walk of the law ParseKinds. -/
import Derived.Test.YtljgmbpfeajmhaaDoorPlain
import Derived.Test.YtljgmbpfeajmhaaDoorFixed
import Derived.Test.YtljgmbpfeajmhaaDoorWords
set_option linter.unusedVariables false
set_option linter.unusedSimpArgs false
namespace Go.Proofs.YtljgmbpfeajmhaaDoor
open Go.Proofs Go.Shelf Go.RowKit Go.Proofs.YtljgmbpfeajmhaaDoorW.PrintWords Go.Proofs.YtljgmbpfeajmhaaDoorW.PrintLast
theorem add_zero' (ad : Addr) : ad.add 0 = ad := rfl
theorem words2_x (s : ByteArray) (hs : s.size ≤ 281474976710656) (w : World) : Calls Tryd.prog 15 #[.string s, .int .i64 2] w fun e w' => ∃ ad n cap, e = .returned (.slice (some ad) n cap) ∧ 0 < n ∧ w'.cell? ad = some (.string ⟨(cut1 32 s.data.toList).1.toArray⟩) ∧ Below w.heap.size w w' := by
  have hw := words_f s hs 1 (by decide)
  have hl : ∃ rest, (wordsL 1 s.data.toList).map bsA = bsA (cut1 32 s.data.toList).1 :: rest := by
    unfold wordsL
    split
    · exact ⟨_, rfl⟩
    · rename_i h
      rw [(cut1_false (by simpa using h)).2.1]
      exact ⟨[], rfl⟩
  obtain ⟨rest, hl⟩ := hl
  rw [hl] at hw
  refine (P.congressref21_Words.calls _ s 2 _ w hw).mono ?_
  rintro e w' ⟨v, rfl, hr, hb⟩
  obtain ⟨A, c, rfl⟩ := Kd.R_slice hr
  obtain ⟨_, _, hC⟩ := Kd.R_reads' hr
  obtain ⟨ad, rfl, hx⟩ := Kd.at_string hC 0 (by omega) (by simp)
  exact ⟨ad, _, c, rfl, by simp, hx, hb⟩
theorem kinds_x (k : Nat) (hk : k < 7) (nm : ByteArray) (hnm : [(⟨#[111, 112, 101, 110]⟩ : ByteArray), ⟨#[99, 108, 111, 115, 101]⟩, ⟨#[109, 105, 110, 116]⟩, ⟨#[114, 101, 118, 111, 107, 101]⟩, ⟨#[106, 111, 105, 110]⟩, ⟨#[108, 101, 97, 118, 101]⟩, ⟨#[115, 101, 110, 100]⟩].getD k ByteArray.empty = nm) (w : World) :
    Calls Tryd.prog 16 #[] w fun e w' => ∃ ad cap, e = .returned (.slice (some ad) 7 cap) ∧ w'.cell? (ad.add k) = some (.string nm) ∧ Below w.heap.size w w' := by
  refine (P.congressref21_Kinds.calls _ w rfl).mono ?_
  rintro e w' ⟨v, rfl, hr, hb⟩
  obtain ⟨A, c, rfl⟩ := Kd.R_slice hr
  obtain ⟨_, _, hC⟩ := Kd.R_reads' hr
  obtain ⟨ad, rfl, hx⟩ := Kd.at_string hC (k : Int) (by omega) (by simp; omega)
  unfold rdOf at hx
  rw [Int.toNat_natCast, hnm] at hx
  exact ⟨ad, c, rfl, hx, hb⟩
theorem ks_no (s : ByteArray) (hl : s.size ≤ 281474976710656) (w : World) (ht : Tens w) (he : Errs w) (hc : callP s.data.toList = none) : Calls Tryd.prog 8 #[.string s] w fun e w' => e = .returned (.tuple #[.agg #[.int .i64 0, .int .u64 0, .int .u64 0, .int .i64 0, .int .i64 0, .int .i64 0, .string ⟨#[]⟩], .int .i64 210]) ∧ Below w.heap.size w w' := parse_none s.data.toList w (by rw [Array.length_toList]; exact hl) ht he hc

set_option maxRecDepth 100000 in
set_option maxHeartbeats 8000000 in
theorem kinds_none (s : ByteArray) (hs : s.size ≤ 281474976710656) (w : World) (ht : Tens w) (he : Errs w) (hy : callP s.data.toList = none) :
    Calls Tryd.prog 7 #[.string s] w fun e w' => e = .returned (.bool true) ∧ Below w.heap.size w w' := by
  have HT := Aside0.mk ht
  have HE := Aside0.mk he
  have HS := Aside0.mk hs
  have HY := Aside0.mk hy
  have D0 := Aside0.mk (Below.refl w.heap.size w)
  clear ht he hs hy
  go_enter Tryd.func7, Tryd.ntmps7
  go_wp2_with fail
  refine (ks_no s HS.out _ (HT.out.below D0.out) (HE.out.below D0.out) HY.out).mono ?_
  rintro e w1 ⟨rfl, hb⟩
  have D1 := Aside0.mk (below_then D0.out D0.out.size hb)
  clear hb D0
  have XA := Aside0.mk (blk_new w1 (.cells #[.int .i64 0, .int .u64 0, .int .u64 0, .int .i64 0, .int .i64 0, .int .i64 0, .string ⟨#[]⟩] 24))
  have E1 := Aside0.mk (below_alloc D1.out (.cells #[.int .i64 0, .int .u64 0, .int .u64 0, .int .i64 0, .int .i64 0, .int .i64 0, .string ⟨#[]⟩] 24))
  obtain ⟨ba, hba⟩ : ∃ ba, ba = w1.heap.size := ⟨_, rfl⟩
  rw [← hba] at XA
  clear D1
  go_wp2_with fail
  rw [← hba]
  clear hba
  generalize w1.alloc (.cells #[.int .i64 0, .int .u64 0, .int .u64 0, .int .i64 0, .int .i64 0, .int .i64 0, .string ⟨#[]⟩] 24) = v1 at XA E1 ⊢
  refine (fixed_q _ (HT.out.below E1.out) (HE.out.below E1.out)).mono ?_
  rintro e w2 ⟨rfl, hb⟩
  replace XA := Aside0.mk ((hb.block _ (blk_lt XA.out)).trans XA.out)
  have D2 := Aside0.mk (below_then E1.out E1.out.size hb)
  clear hb E1
  go_wp2_with fail
  refine (fixed_q _ (HT.out.below D2.out) (HE.out.below D2.out)).mono ?_
  rintro e w3 ⟨rfl, hb⟩
  replace XA := Aside0.mk ((hb.block _ (blk_lt XA.out)).trans XA.out)
  have D3 := Aside0.mk (below_then D2.out D2.out.size hb)
  clear hb D2
  go_wp2
  go_ret
  exact ⟨rfl, D3.out⟩
set_option maxRecDepth 100000 in
set_option maxHeartbeats 8000000 in
theorem kinds_0 (s : ByteArray) (hs : s.size ≤ 281474976710656) (w : World) (ht : Tens w) (he : Errs w) (hy : callP s.data.toList = some ⟨0, 0, 0, 0, 0, 0, []⟩) (hwd : (cut1 32 s.data.toList).1 = [111, 112, 101, 110]) :
    Calls Tryd.prog 7 #[.string s] w fun e w' => e = .returned (.bool true) ∧ Below w.heap.size w w' := by
  have WX := Aside0.mk (fun w1 => words2_x s hs w1)
  rw [hwd] at WX
  have KX := Aside0.mk (fun w1 => kinds_x 0 (by decide) ⟨#[111, 112, 101, 110]⟩ rfl w1)
  have PX : Aside0 (∀ w1 : World, Tens w1 → Errs w1 → Calls Tryd.prog 8 #[.string s] w1 fun e w' => e = .returned (.tuple #[.agg #[.int .i64 0, .int .u64 0, .int .u64 0, .int .i64 0, .int .i64 0, .int .i64 0, .string ⟨#[]⟩], .int .i64 0]) ∧ Below w1.heap.size w1 w') := ⟨fun w1 h1 h2 => parse_some s.data.toList w1 (by rw [Array.length_toList]; exact hs) h1 h2 _ hy⟩
  have HT := Aside0.mk ht
  have HE := Aside0.mk he
  have D0 := Aside0.mk (Below.refl w.heap.size w)
  clear ht he hs hy hwd
  go_enter Tryd.func7, Tryd.ntmps7
  go_wp2_with fail
  refine (PX.out _ (HT.out.below D0.out) (HE.out.below D0.out)).mono ?_
  rintro e w1 ⟨rfl, hb⟩
  have D1 := Aside0.mk (below_then D0.out D0.out.size hb)
  clear hb D0
  have XA := Aside0.mk (blk_new w1 (.cells #[.int .i64 0, .int .u64 0, .int .u64 0, .int .i64 0, .int .i64 0, .int .i64 0, .string ⟨#[]⟩] 24))
  have E1 := Aside0.mk (below_alloc D1.out (.cells #[.int .i64 0, .int .u64 0, .int .u64 0, .int .i64 0, .int .i64 0, .int .i64 0, .string ⟨#[]⟩] 24))
  obtain ⟨ba, hba⟩ : ∃ ba, ba = w1.heap.size := ⟨_, rfl⟩
  rw [← hba] at XA
  clear D1
  go_wp2_with fail
  rw [← hba]
  clear hba
  generalize w1.alloc (.cells #[.int .i64 0, .int .u64 0, .int .u64 0, .int .i64 0, .int .i64 0, .int .i64 0, .string ⟨#[]⟩] 24) = v1 at XA E1 ⊢
  refine (fixed_q _ (HT.out.below E1.out) (HE.out.below E1.out)).mono ?_
  rintro e w2 ⟨rfl, hb⟩
  replace XA := Aside0.mk ((hb.block _ (blk_lt XA.out)).trans XA.out)
  have D2 := Aside0.mk (below_then E1.out E1.out.size hb)
  clear hb E1
  go_wp2_with fail
  have XAd : w2.drew.heap[ba]? = some (.cells #[.int .i64 0, .int .u64 0, .int .u64 0, .int .i64 0, .int .i64 0, .int .i64 0, .string ⟨#[]⟩] 24 (0, 0)) := XA.out
  have XA0 : w2.drew.cell? ⟨ba, 0, none⟩ = some (.int .i64 0) := (blk_cell XA.out 0).trans rfl
  have DDr := below_drew D2.out
  clear XA D2
  refine start_ (n := 20) (S := fun w' => w'.cell? ⟨ba, 0, none⟩ = some (.int .i64 0) ∧ w'.heap[ba]? = some (.cells #[.int .i64 0, .int .u64 0, .int .u64 0, .int .i64 0, .int .i64 0, .int .i64 0, .string ⟨#[]⟩] 24 (0, 0)) ∧ Below w.heap.size w w') (ds := []) #[false, false, false, false, false, false, false, false, false, false, false, false, false, false, false, false, false, false, false, false] (by kernel_rfl) rfl rfl ⟨XA0, XAd, DDr⟩ (fun hHeld => ?_)
  refine pure_ (i := 0) (N := some 17) (v := ?_) (a' := ?_) #[true, false, false, false, false, false, false, false, false, false, false, false, false, false, false, false, false, false, false, false] rfl rfl (by kernel_rfl) (fun _ _ _ h => h) (Or.inl ⟨by rfl, ?_⟩) ?_ ?_
  rotate_left
  · intro w'
    go_simp
    with_reducible rfl
  rotate_left
  · simp only [Act.put, List.setIfInBounds_toArray, List.set_cons_zero, List.set_cons_succ, i64_w, i32_w]
    rfl
  refine take_ (i := 1) (N := some 18) (v := ?_) (a' := ?_) #[true, true, false, false, false, false, false, false, false, false, false, false, false, false, false, false, false, false, false, false] rfl rfl (by kernel_rfl) (fun _ _ _ h => h) (Or.inl ⟨by rfl, ?_⟩) hHeld ?_ ?_
  rotate_left
  · rintro w' ⟨s0, s1, s2⟩
    go_simp
    with_reducible rfl
  rotate_left
  · simp only [Act.put, List.setIfInBounds_toArray, List.set_cons_zero, List.set_cons_succ, i64_w, i32_w]
    rfl
  refine pure_ (i := 2) (N := some 19) (v := ?_) (a' := ?_) #[true, true, true, false, false, false, false, false, false, false, false, false, false, false, false, false, false, false, false, false] rfl rfl (by kernel_rfl) (fun _ _ _ h => h) (Or.inl ⟨by rfl, ?_⟩) ?_ ?_
  rotate_left
  · intro w'
    go_simp
    with_reducible rfl
  rotate_left
  · simp only [Act.put, List.setIfInBounds_toArray, List.set_cons_zero, List.set_cons_succ, i64_w, i32_w]
    rfl
  refine pure_ (i := 3) (N := some 20) (v := ?_) (a' := ?_) #[true, true, true, true, false, false, false, false, false, false, false, false, false, false, false, false, false, false, false, false] rfl rfl (by kernel_rfl) (fun _ _ _ h => h) (Or.inl ⟨by rfl, ?_⟩) ?_ ?_
  rotate_left
  · intro w'
    go_simp
    with_reducible rfl
  rotate_left
  · simp only [Act.put, List.setIfInBounds_toArray, List.set_cons_zero, List.set_cons_succ, i64_w, i32_w]
    rfl
  refine pure_ (i := 4) (N := some 21) (v := ?_) (a' := ?_) #[true, true, true, true, true, false, false, false, false, false, false, false, false, false, false, false, false, false, false, false] rfl rfl (by kernel_rfl) (fun _ _ _ h => h) (Or.inl ⟨by rfl, ?_⟩) ?_ ?_
  rotate_left
  · intro w'
    go_simp
    with_reducible rfl
  rotate_left
  · simp only [Act.put, List.setIfInBounds_toArray, List.set_cons_zero, List.set_cons_succ, i64_w, i32_w]
    rfl
  refine take_ (i := 5) (N := some 22) (v := ?_) (a' := ?_) #[true, true, true, true, true, true, false, false, false, false, false, false, false, false, false, false, false, false, false, false] rfl rfl (by kernel_rfl) (fun _ _ _ h => h) (Or.inl ⟨by rfl, ?_⟩) hHeld ?_ ?_
  rotate_left
  · rintro w' ⟨s0, s1, s2⟩
    go_simp
    with_reducible rfl
  rotate_left
  · simp only [Act.put, List.setIfInBounds_toArray, List.set_cons_zero, List.set_cons_succ, i64_w, i32_w]
    rfl
  refine pure_ (i := 6) (N := some 23) (v := ?_) (a' := ?_) #[true, true, true, true, true, true, true, false, false, false, false, false, false, false, false, false, false, false, false, false] rfl rfl (by kernel_rfl) (fun _ _ _ h => h) (Or.inl ⟨by rfl, ?_⟩) ?_ ?_
  rotate_left
  · intro w'
    go_simp
    with_reducible rfl
  rotate_left
  · simp only [Act.put, List.setIfInBounds_toArray, List.set_cons_zero, List.set_cons_succ, i64_w, i32_w]
    rfl
  refine pure_ (i := 7) (N := some 24) (v := ?_) (a' := ?_) #[true, true, true, true, true, true, true, true, false, false, false, false, false, false, false, false, false, false, false, false] rfl rfl (by kernel_rfl) (fun _ _ _ h => h) (Or.inl ⟨by rfl, ?_⟩) ?_ ?_
  rotate_left
  · intro w'
    go_simp
    with_reducible rfl
  rotate_left
  · simp only [Act.put, List.setIfInBounds_toArray, List.set_cons_zero, List.set_cons_succ, i64_w, i32_w]
    rfl
  refine pure_ (i := 8) (N := some 25) (v := ?_) (a' := ?_) #[true, true, true, true, true, true, true, true, true, false, false, false, false, false, false, false, false, false, false, false] rfl rfl (by kernel_rfl) (fun _ _ _ h => h) (Or.inl ⟨by rfl, ?_⟩) ?_ ?_
  rotate_left
  · intro w'
    go_simp
    with_reducible rfl
  rotate_left
  · simp only [Act.put, List.setIfInBounds_toArray, List.set_cons_zero, List.set_cons_succ, i64_w, i32_w]
    rfl
  refine pure_ (i := 9) (N := some 26) (v := ?_) (a' := ?_) #[true, true, true, true, true, true, true, true, true, true, false, false, false, false, false, false, false, false, false, false] rfl rfl (by kernel_rfl) (fun _ _ _ h => h) (Or.inl ⟨by rfl, ?_⟩) ?_ ?_
  rotate_left
  · intro w'
    go_simp
    with_reducible rfl
  rotate_left
  · simp only [Act.put, List.setIfInBounds_toArray, List.set_cons_zero, List.set_cons_succ, i64_w, i32_w]
    rfl
  refine pure_ (i := 14) (N := some 31) (v := ?_) (a' := ?_) #[true, true, true, true, true, true, true, true, true, true, false, false, false, false, true, false, false, false, false, false] rfl rfl (by kernel_rfl) (fun _ _ _ h => h) (Or.inl ⟨by rfl, ?_⟩) ?_ ?_
  rotate_left
  · intro w'
    go_simp
    with_reducible rfl
  rotate_left
  · simp only [Act.put, List.setIfInBounds_toArray, List.set_cons_zero, List.set_cons_succ, i64_w, i32_w]
    rfl
  refine take_ (i := 15) (N := some 32) (v := ?_) (a' := ?_) #[true, true, true, true, true, true, true, true, true, true, false, false, false, false, true, true, false, false, false, false] rfl rfl (by kernel_rfl) (fun _ _ _ h => h) (Or.inl ⟨by rfl, ?_⟩) hHeld ?_ ?_
  rotate_left
  · rintro w' ⟨s0, s1, s2⟩
    go_simp
    with_reducible rfl
  rotate_left
  · simp only [Act.put, List.setIfInBounds_toArray, List.set_cons_zero, List.set_cons_succ, i64_w, i32_w]
    rfl
  refine one_ (i := 10) (N := some 27) #[true, true, true, true, true, true, true, true, true, true, true, false, false, false, true, true, false, false, false, false] rfl rfl (by kernel_rfl) (by decide) (fun K hK => ?_)
  refine goes_ Tryd.func15 (by kernel_rfl) rfl #[.string s, .int .i64 2] (by rfl) rfl rfl (by simp only [List.map_toArray, List.map_cons, List.map_nil]; rfl) ?_
  with_reducible refine (WX.out _).mono ?_
  rintro e w5 ⟨ad1, n1, cap1, rfl, hn1, hx1, hb⟩
  refine ⟨_, rfl, ?_⟩
  have HX1 := Aside0.mk hx1
  have hn2 : (0 : Int) < (n1 : Int) := by omega
  clear hx1
  refine hK.out _ _ ⟨pw_cell_below hb (hHeld.1), (hb.block _ (blk_lt (hHeld.2.1))).trans (hHeld.2.1), below_then (hHeld.2.2) (hHeld.2.2).size hb⟩ (fun hHeld => ?_)
  clear hK K
  refine norm_ (a' := ?_) ?_ ?_
  rotate_left
  · show Act.put _ (some 27) _ = _
    simp only [Act.put, List.setIfInBounds_toArray, List.set_cons_zero, List.set_cons_succ, i64_w, i32_w]
    rfl
  refine pure_ (i := 11) (N := some 28) (v := ?_) (a' := ?_) #[true, true, true, true, true, true, true, true, true, true, true, true, false, false, true, true, false, false, false, false] rfl rfl (by kernel_rfl) (fun _ _ _ h => h) (Or.inl ⟨by rfl, ?_⟩) ?_ ?_
  rotate_left
  · intro w'
    go_simp
    with_reducible rfl
  rotate_left
  · simp only [Act.put, List.setIfInBounds_toArray, List.set_cons_zero, List.set_cons_succ, i64_w, i32_w]
    rfl
  refine join_ (σ := Addr × Nat) 2 #[true, true, true, true, true, true, true, true, true, true, true, true, true, true, true, true, true, true, false, false] (fun sg_ => [(29, .string ⟨#[111, 112, 101, 110]⟩), (30, .slice (some sg_.1) 7 sg_.2), (33, .pointer (some sg_.1)), (34, .string ⟨#[111, 112, 101, 110]⟩)]) (fun sg_ w' => w'.cell? ⟨ba, 0, none⟩ = some (.int .i64 0) ∧ w'.heap[ba]? = some (.cells #[.int .i64 0, .int .u64 0, .int .u64 0, .int .i64 0, .int .i64 0, .int .i64 0, .string ⟨#[]⟩] 24 (0, 0)) ∧ Below w.heap.size w w') ?_ ?_
  rotate_left
  · intro hCont
    refine two_ (i := 12) (j := 13) (Ni := some 29) (Nj := some 30) #[true, true, true, true, true, true, true, true, true, true, true, true, true, false, true, true, false, false, false, false] #[true, true, true, true, true, true, true, true, true, true, true, true, false, true, true, true, false, false, false, false] rfl rfl rfl rfl (by kernel_rfl) (by decide) (by decide) (fun K hK => ?_) (fun K hK => ?_)
    · skip
      have hz := HX1.out
      refine value_ (w1 := ?_) (v := ?_) (by rfl) rfl ?_ ?_
      rotate_left 2
      · go_simp
        constructor
        · rfl
        · rfl
      clear hz
      refine hK.out _ _ ⟨hHeld.1, hHeld.2.1, hHeld.2.2⟩ (fun hHeld => ?_)
      clear hK K
      refine norm_ (a' := ?_) ?_ ?_
      rotate_left
      · show Act.put _ (some 29) _ = _
        simp only [Act.put, List.setIfInBounds_toArray, List.set_cons_zero, List.set_cons_succ, i64_w, i32_w]
        rfl
      refine one_ (i := 13) (N := some 30) #[true, true, true, true, true, true, true, true, true, true, true, true, true, true, true, true, false, false, false, false] rfl rfl (by kernel_rfl) (by decide) (fun K hK => ?_)
      refine goes_ Tryd.func16 (by kernel_rfl) rfl #[] (by rfl) rfl rfl (by simp only [List.map_toArray, List.map_cons, List.map_nil]) ?_
      with_reducible refine (KX.out _).mono ?_
      rintro e w6 ⟨ad2, cap2, rfl, hx2, hb⟩
      refine ⟨_, rfl, ?_⟩
      have HX2 := Aside0.mk hx2
      replace HX1 := Aside0.mk (pw_cell_below hb HX1.out)
      clear hx2
      refine hK.out _ _ ⟨pw_cell_below hb (hHeld.1), (hb.block _ (blk_lt (hHeld.2.1))).trans (hHeld.2.1), below_then (hHeld.2.2) (hHeld.2.2).size hb⟩ (fun hHeld => ?_)
      clear hK K
      refine norm_ (a' := ?_) ?_ ?_
      rotate_left
      · show Act.put _ (some 30) _ = _
        simp only [Act.put, List.setIfInBounds_toArray, List.set_cons_zero, List.set_cons_succ, i64_w, i32_w]
        rfl
      refine pure_ (i := 16) (N := some 33) (v := ?_) (a' := ?_) #[true, true, true, true, true, true, true, true, true, true, true, true, true, true, true, true, true, false, false, false] rfl rfl (by kernel_rfl) (fun _ _ _ h => h) (Or.inl ⟨by rfl, ?_⟩) ?_ ?_
      rotate_left
      · intro w'
        go_simp
        with_reducible rfl
      rotate_left
      · simp only [Act.put, List.setIfInBounds_toArray, List.set_cons_zero, List.set_cons_succ, i64_w, i32_w]
        rfl
      refine one_ (i := 17) (N := some 34) #[true, true, true, true, true, true, true, true, true, true, true, true, true, true, true, true, true, true, false, false] rfl rfl (by kernel_rfl) (by decide) (fun K hK => ?_)
      have hz : w6.cell? ad2 = some (.string ⟨#[111, 112, 101, 110]⟩) := HX2.out
      refine value_ (w1 := ?_) (v := ?_) (by rfl) rfl ?_ ?_
      rotate_left 2
      · go_simp
        constructor
        · rfl
        · rfl
      clear hz
      refine hK.out _ _ ⟨hHeld.1, hHeld.2.1, hHeld.2.2⟩ (fun hHeld => ?_)
      clear hK K
      refine norm_ (a' := ?_) ?_ ?_
      rotate_left
      · show Act.put _ (some 34) _ = _
        simp only [Act.put, List.setIfInBounds_toArray, List.set_cons_zero, List.set_cons_succ, i64_w, i32_w]
        rfl
      exact norm_ (by simp only [putAll, Act.put, List.setIfInBounds_toArray, List.set_cons_zero, List.set_cons_succ]) (hCont (ad2, cap2) _ ⟨hHeld.1, hHeld.2.1, hHeld.2.2⟩)
    · skip
      refine goes_ Tryd.func16 (by kernel_rfl) rfl #[] (by rfl) rfl rfl (by simp only [List.map_toArray, List.map_cons, List.map_nil]) ?_
      with_reducible refine (KX.out _).mono ?_
      rintro e w6 ⟨ad2, cap2, rfl, hx2, hb⟩
      refine ⟨_, rfl, ?_⟩
      have HX2 := Aside0.mk hx2
      replace HX1 := Aside0.mk (pw_cell_below hb HX1.out)
      clear hx2
      refine hK.out _ _ ⟨pw_cell_below hb (hHeld.1), (hb.block _ (blk_lt (hHeld.2.1))).trans (hHeld.2.1), below_then (hHeld.2.2) (hHeld.2.2).size hb⟩ (fun hHeld => ?_)
      clear hK K
      refine norm_ (a' := ?_) ?_ ?_
      rotate_left
      · show Act.put _ (some 30) _ = _
        simp only [Act.put, List.setIfInBounds_toArray, List.set_cons_zero, List.set_cons_succ, i64_w, i32_w]
        rfl
      refine pure_ (i := 16) (N := some 33) (v := ?_) (a' := ?_) #[true, true, true, true, true, true, true, true, true, true, true, true, false, true, true, true, true, false, false, false] rfl rfl (by kernel_rfl) (fun _ _ _ h => h) (Or.inl ⟨by rfl, ?_⟩) ?_ ?_
      rotate_left
      · intro w'
        go_simp
        with_reducible rfl
      rotate_left
      · simp only [Act.put, List.setIfInBounds_toArray, List.set_cons_zero, List.set_cons_succ, i64_w, i32_w]
        rfl
      refine two_ (i := 12) (j := 17) (Ni := some 29) (Nj := some 34) #[true, true, true, true, true, true, true, true, true, true, true, true, true, true, true, true, true, false, false, false] #[true, true, true, true, true, true, true, true, true, true, true, true, false, true, true, true, true, true, false, false] rfl rfl rfl rfl (by kernel_rfl) (by decide) (by decide) (fun K hK => ?_) (fun K hK => ?_)
      · skip
        have hz := HX1.out
        refine value_ (w1 := ?_) (v := ?_) (by rfl) rfl ?_ ?_
        rotate_left 2
        · go_simp
          constructor
          · rfl
          · rfl
        clear hz
        refine hK.out _ _ ⟨hHeld.1, hHeld.2.1, hHeld.2.2⟩ (fun hHeld => ?_)
        clear hK K
        refine norm_ (a' := ?_) ?_ ?_
        rotate_left
        · show Act.put _ (some 29) _ = _
          simp only [Act.put, List.setIfInBounds_toArray, List.set_cons_zero, List.set_cons_succ, i64_w, i32_w]
          rfl
        refine one_ (i := 17) (N := some 34) #[true, true, true, true, true, true, true, true, true, true, true, true, true, true, true, true, true, true, false, false] rfl rfl (by kernel_rfl) (by decide) (fun K hK => ?_)
        have hz : w6.cell? ad2 = some (.string ⟨#[111, 112, 101, 110]⟩) := HX2.out
        refine value_ (w1 := ?_) (v := ?_) (by rfl) rfl ?_ ?_
        rotate_left 2
        · go_simp
          constructor
          · rfl
          · rfl
        clear hz
        refine hK.out _ _ ⟨hHeld.1, hHeld.2.1, hHeld.2.2⟩ (fun hHeld => ?_)
        clear hK K
        refine norm_ (a' := ?_) ?_ ?_
        rotate_left
        · show Act.put _ (some 34) _ = _
          simp only [Act.put, List.setIfInBounds_toArray, List.set_cons_zero, List.set_cons_succ, i64_w, i32_w]
          rfl
        exact norm_ (by simp only [putAll, Act.put, List.setIfInBounds_toArray, List.set_cons_zero, List.set_cons_succ]) (hCont (ad2, cap2) _ ⟨hHeld.1, hHeld.2.1, hHeld.2.2⟩)
      · skip
        have hz : w6.cell? ad2 = some (.string ⟨#[111, 112, 101, 110]⟩) := HX2.out
        refine value_ (w1 := ?_) (v := ?_) (by rfl) rfl ?_ ?_
        rotate_left 2
        · go_simp
          constructor
          · rfl
          · rfl
        clear hz
        refine hK.out _ _ ⟨hHeld.1, hHeld.2.1, hHeld.2.2⟩ (fun hHeld => ?_)
        clear hK K
        refine norm_ (a' := ?_) ?_ ?_
        rotate_left
        · show Act.put _ (some 34) _ = _
          simp only [Act.put, List.setIfInBounds_toArray, List.set_cons_zero, List.set_cons_succ, i64_w, i32_w]
          rfl
        refine one_ (i := 12) (N := some 29) #[true, true, true, true, true, true, true, true, true, true, true, true, true, true, true, true, true, true, false, false] rfl rfl (by kernel_rfl) (by decide) (fun K hK => ?_)
        have hz := HX1.out
        refine value_ (w1 := ?_) (v := ?_) (by rfl) rfl ?_ ?_
        rotate_left 2
        · go_simp
          constructor
          · rfl
          · rfl
        clear hz
        refine hK.out _ _ ⟨hHeld.1, hHeld.2.1, hHeld.2.2⟩ (fun hHeld => ?_)
        clear hK K
        refine norm_ (a' := ?_) ?_ ?_
        rotate_left
        · show Act.put _ (some 29) _ = _
          simp only [Act.put, List.setIfInBounds_toArray, List.set_cons_zero, List.set_cons_succ, i64_w, i32_w]
          rfl
        exact norm_ (by simp only [putAll, Act.put, List.setIfInBounds_toArray, List.set_cons_zero, List.set_cons_succ]) (hCont (ad2, cap2) _ ⟨hHeld.1, hHeld.2.1, hHeld.2.2⟩)
  rintro sg_ w9 ⟨h1, h2, h3⟩
  have hHeld : w9.cell? ⟨ba, 0, none⟩ = some (.int .i64 0) ∧ w9.heap[ba]? = some (.cells #[.int .i64 0, .int .u64 0, .int .u64 0, .int .i64 0, .int .i64 0, .int .i64 0, .string ⟨#[]⟩] 24 (0, 0)) ∧ Below w.heap.size w w9 := ⟨h1, h2, h3⟩
  clear h1 h2 h3
  refine norm_ (a' := ?_) ?_ ?_
  rotate_left
  · simp only [putAll, Act.put, List.setIfInBounds_toArray, List.set_cons_zero, List.set_cons_succ]
    rfl
  refine pure_ (i := 18) (N := some 35) (v := ?_) (a' := ?_) #[true, true, true, true, true, true, true, true, true, true, true, true, true, true, true, true, true, true, true, false] rfl rfl (by kernel_rfl) (fun _ _ _ h => h) (Or.inl ⟨by rfl, ?_⟩) ?_ ?_
  rotate_left
  · intro w'
    go_simp
    with_reducible rfl
  rotate_left
  · simp only [Act.put, List.setIfInBounds_toArray, List.set_cons_zero, List.set_cons_succ, i64_w, i32_w]
    rfl
  refine pure_ (i := 19) (N := some 36) (v := ?_) (a' := ?_) #[true, true, true, true, true, true, true, true, true, true, true, true, true, true, true, true, true, true, true, true] rfl rfl (by kernel_rfl) (fun _ _ _ h => h) (Or.inl ⟨by rfl, ?_⟩) ?_ ?_
  rotate_left
  · intro w'
    go_simp
    with_reducible rfl
  rotate_left
  · simp only [Act.put, List.setIfInBounds_toArray, List.set_cons_zero, List.set_cons_succ, i64_w, i32_w]
    rfl
  refine done_ (by kernel_rfl) ?_
  have XB := Aside0.mk hHeld.2.1
  have DD := Aside0.mk hHeld.2.2
  clear hHeld XAd XA0 DDr
  have x0 := (blk_cell XB.out 0).trans (show _ = some (.int .i64 0) from rfl)
  have x1 := (blk_cell XB.out 1).trans (show _ = some (.int .u64 0) from rfl)
  have x2 := (blk_cell XB.out 2).trans (show _ = some (.int .u64 0) from rfl)
  have x3 := (blk_cell XB.out 3).trans (show _ = some (.int .i64 0) from rfl)
  have x4 := (blk_cell XB.out 4).trans (show _ = some (.int .i64 0) from rfl)
  have x5 := (blk_cell XB.out 5).trans (show _ = some (.int .i64 0) from rfl)
  have x6 := (blk_cell XB.out 6).trans (show _ = some (.string ⟨#[]⟩) from rfl)
  go_wp2
  go_ret
  exact ⟨rfl, DD.out⟩
set_option maxRecDepth 100000 in
set_option maxHeartbeats 8000000 in
theorem kinds_1 (a1 : Int) (s : ByteArray) (hs : s.size ≤ 281474976710656) (w : World) (ht : Tens w) (he : Errs w) (hy : callP s.data.toList = some ⟨1, a1, 0, 0, 0, 0, []⟩) (hwd : (cut1 32 s.data.toList).1 = [99, 108, 111, 115, 101]) :
    Calls Tryd.prog 7 #[.string s] w fun e w' => e = .returned (.bool true) ∧ Below w.heap.size w w' := by
  have WX := Aside0.mk (fun w1 => words2_x s hs w1)
  rw [hwd] at WX
  have KX := Aside0.mk (fun w1 => kinds_x 1 (by decide) ⟨#[99, 108, 111, 115, 101]⟩ rfl w1)
  have PX : Aside0 (∀ w1 : World, Tens w1 → Errs w1 → Calls Tryd.prog 8 #[.string s] w1 fun e w' => e = .returned (.tuple #[.agg #[.int .i64 1, .int .u64 a1, .int .u64 0, .int .i64 0, .int .i64 0, .int .i64 0, .string ⟨#[]⟩], .int .i64 0]) ∧ Below w1.heap.size w1 w') := ⟨fun w1 h1 h2 => parse_some s.data.toList w1 (by rw [Array.length_toList]; exact hs) h1 h2 _ hy⟩
  have HT := Aside0.mk ht
  have HE := Aside0.mk he
  have D0 := Aside0.mk (Below.refl w.heap.size w)
  clear ht he hs hy hwd
  go_enter Tryd.func7, Tryd.ntmps7
  go_wp2_with fail
  refine (PX.out _ (HT.out.below D0.out) (HE.out.below D0.out)).mono ?_
  rintro e w1 ⟨rfl, hb⟩
  have D1 := Aside0.mk (below_then D0.out D0.out.size hb)
  clear hb D0
  have XA := Aside0.mk (blk_new w1 (.cells #[.int .i64 1, .int .u64 a1, .int .u64 0, .int .i64 0, .int .i64 0, .int .i64 0, .string ⟨#[]⟩] 24))
  have E1 := Aside0.mk (below_alloc D1.out (.cells #[.int .i64 1, .int .u64 a1, .int .u64 0, .int .i64 0, .int .i64 0, .int .i64 0, .string ⟨#[]⟩] 24))
  obtain ⟨ba, hba⟩ : ∃ ba, ba = w1.heap.size := ⟨_, rfl⟩
  rw [← hba] at XA
  clear D1
  go_wp2_with fail
  rw [← hba]
  clear hba
  generalize w1.alloc (.cells #[.int .i64 1, .int .u64 a1, .int .u64 0, .int .i64 0, .int .i64 0, .int .i64 0, .string ⟨#[]⟩] 24) = v1 at XA E1 ⊢
  refine (fixed_q _ (HT.out.below E1.out) (HE.out.below E1.out)).mono ?_
  rintro e w2 ⟨rfl, hb⟩
  replace XA := Aside0.mk ((hb.block _ (blk_lt XA.out)).trans XA.out)
  have D2 := Aside0.mk (below_then E1.out E1.out.size hb)
  clear hb E1
  go_wp2_with fail
  have XAd : w2.drew.heap[ba]? = some (.cells #[.int .i64 1, .int .u64 a1, .int .u64 0, .int .i64 0, .int .i64 0, .int .i64 0, .string ⟨#[]⟩] 24 (0, 0)) := XA.out
  have XA0 : w2.drew.cell? ⟨ba, 0, none⟩ = some (.int .i64 1) := (blk_cell XA.out 0).trans rfl
  have DDr := below_drew D2.out
  clear XA D2
  refine start_ (n := 20) (S := fun w' => w'.cell? ⟨ba, 0, none⟩ = some (.int .i64 1) ∧ w'.heap[ba]? = some (.cells #[.int .i64 1, .int .u64 a1, .int .u64 0, .int .i64 0, .int .i64 0, .int .i64 0, .string ⟨#[]⟩] 24 (0, 0)) ∧ Below w.heap.size w w') (ds := []) #[false, false, false, false, false, false, false, false, false, false, false, false, false, false, false, false, false, false, false, false] (by kernel_rfl) rfl rfl ⟨XA0, XAd, DDr⟩ (fun hHeld => ?_)
  refine pure_ (i := 0) (N := some 17) (v := ?_) (a' := ?_) #[true, false, false, false, false, false, false, false, false, false, false, false, false, false, false, false, false, false, false, false] rfl rfl (by kernel_rfl) (fun _ _ _ h => h) (Or.inl ⟨by rfl, ?_⟩) ?_ ?_
  rotate_left
  · intro w'
    go_simp
    with_reducible rfl
  rotate_left
  · simp only [Act.put, List.setIfInBounds_toArray, List.set_cons_zero, List.set_cons_succ, i64_w, i32_w]
    rfl
  refine take_ (i := 1) (N := some 18) (v := ?_) (a' := ?_) #[true, true, false, false, false, false, false, false, false, false, false, false, false, false, false, false, false, false, false, false] rfl rfl (by kernel_rfl) (fun _ _ _ h => h) (Or.inl ⟨by rfl, ?_⟩) hHeld ?_ ?_
  rotate_left
  · rintro w' ⟨s0, s1, s2⟩
    go_simp
    with_reducible rfl
  rotate_left
  · simp only [Act.put, List.setIfInBounds_toArray, List.set_cons_zero, List.set_cons_succ, i64_w, i32_w]
    rfl
  refine pure_ (i := 2) (N := some 19) (v := ?_) (a' := ?_) #[true, true, true, false, false, false, false, false, false, false, false, false, false, false, false, false, false, false, false, false] rfl rfl (by kernel_rfl) (fun _ _ _ h => h) (Or.inl ⟨by rfl, ?_⟩) ?_ ?_
  rotate_left
  · intro w'
    go_simp
    with_reducible rfl
  rotate_left
  · simp only [Act.put, List.setIfInBounds_toArray, List.set_cons_zero, List.set_cons_succ, i64_w, i32_w]
    rfl
  refine pure_ (i := 3) (N := some 20) (v := ?_) (a' := ?_) #[true, true, true, true, false, false, false, false, false, false, false, false, false, false, false, false, false, false, false, false] rfl rfl (by kernel_rfl) (fun _ _ _ h => h) (Or.inl ⟨by rfl, ?_⟩) ?_ ?_
  rotate_left
  · intro w'
    go_simp
    with_reducible rfl
  rotate_left
  · simp only [Act.put, List.setIfInBounds_toArray, List.set_cons_zero, List.set_cons_succ, i64_w, i32_w]
    rfl
  refine pure_ (i := 4) (N := some 21) (v := ?_) (a' := ?_) #[true, true, true, true, true, false, false, false, false, false, false, false, false, false, false, false, false, false, false, false] rfl rfl (by kernel_rfl) (fun _ _ _ h => h) (Or.inl ⟨by rfl, ?_⟩) ?_ ?_
  rotate_left
  · intro w'
    go_simp
    with_reducible rfl
  rotate_left
  · simp only [Act.put, List.setIfInBounds_toArray, List.set_cons_zero, List.set_cons_succ, i64_w, i32_w]
    rfl
  refine take_ (i := 5) (N := some 22) (v := ?_) (a' := ?_) #[true, true, true, true, true, true, false, false, false, false, false, false, false, false, false, false, false, false, false, false] rfl rfl (by kernel_rfl) (fun _ _ _ h => h) (Or.inl ⟨by rfl, ?_⟩) hHeld ?_ ?_
  rotate_left
  · rintro w' ⟨s0, s1, s2⟩
    go_simp
    with_reducible rfl
  rotate_left
  · simp only [Act.put, List.setIfInBounds_toArray, List.set_cons_zero, List.set_cons_succ, i64_w, i32_w]
    rfl
  refine pure_ (i := 6) (N := some 23) (v := ?_) (a' := ?_) #[true, true, true, true, true, true, true, false, false, false, false, false, false, false, false, false, false, false, false, false] rfl rfl (by kernel_rfl) (fun _ _ _ h => h) (Or.inl ⟨by rfl, ?_⟩) ?_ ?_
  rotate_left
  · intro w'
    go_simp
    with_reducible rfl
  rotate_left
  · simp only [Act.put, List.setIfInBounds_toArray, List.set_cons_zero, List.set_cons_succ, i64_w, i32_w]
    rfl
  refine pure_ (i := 7) (N := some 24) (v := ?_) (a' := ?_) #[true, true, true, true, true, true, true, true, false, false, false, false, false, false, false, false, false, false, false, false] rfl rfl (by kernel_rfl) (fun _ _ _ h => h) (Or.inl ⟨by rfl, ?_⟩) ?_ ?_
  rotate_left
  · intro w'
    go_simp
    with_reducible rfl
  rotate_left
  · simp only [Act.put, List.setIfInBounds_toArray, List.set_cons_zero, List.set_cons_succ, i64_w, i32_w]
    rfl
  refine pure_ (i := 8) (N := some 25) (v := ?_) (a' := ?_) #[true, true, true, true, true, true, true, true, true, false, false, false, false, false, false, false, false, false, false, false] rfl rfl (by kernel_rfl) (fun _ _ _ h => h) (Or.inl ⟨by rfl, ?_⟩) ?_ ?_
  rotate_left
  · intro w'
    go_simp
    with_reducible rfl
  rotate_left
  · simp only [Act.put, List.setIfInBounds_toArray, List.set_cons_zero, List.set_cons_succ, i64_w, i32_w]
    rfl
  refine pure_ (i := 9) (N := some 26) (v := ?_) (a' := ?_) #[true, true, true, true, true, true, true, true, true, true, false, false, false, false, false, false, false, false, false, false] rfl rfl (by kernel_rfl) (fun _ _ _ h => h) (Or.inl ⟨by rfl, ?_⟩) ?_ ?_
  rotate_left
  · intro w'
    go_simp
    with_reducible rfl
  rotate_left
  · simp only [Act.put, List.setIfInBounds_toArray, List.set_cons_zero, List.set_cons_succ, i64_w, i32_w]
    rfl
  refine pure_ (i := 14) (N := some 31) (v := ?_) (a' := ?_) #[true, true, true, true, true, true, true, true, true, true, false, false, false, false, true, false, false, false, false, false] rfl rfl (by kernel_rfl) (fun _ _ _ h => h) (Or.inl ⟨by rfl, ?_⟩) ?_ ?_
  rotate_left
  · intro w'
    go_simp
    with_reducible rfl
  rotate_left
  · simp only [Act.put, List.setIfInBounds_toArray, List.set_cons_zero, List.set_cons_succ, i64_w, i32_w]
    rfl
  refine take_ (i := 15) (N := some 32) (v := ?_) (a' := ?_) #[true, true, true, true, true, true, true, true, true, true, false, false, false, false, true, true, false, false, false, false] rfl rfl (by kernel_rfl) (fun _ _ _ h => h) (Or.inl ⟨by rfl, ?_⟩) hHeld ?_ ?_
  rotate_left
  · rintro w' ⟨s0, s1, s2⟩
    go_simp
    with_reducible rfl
  rotate_left
  · simp only [Act.put, List.setIfInBounds_toArray, List.set_cons_zero, List.set_cons_succ, i64_w, i32_w]
    rfl
  refine one_ (i := 10) (N := some 27) #[true, true, true, true, true, true, true, true, true, true, true, false, false, false, true, true, false, false, false, false] rfl rfl (by kernel_rfl) (by decide) (fun K hK => ?_)
  refine goes_ Tryd.func15 (by kernel_rfl) rfl #[.string s, .int .i64 2] (by rfl) rfl rfl (by simp only [List.map_toArray, List.map_cons, List.map_nil]; rfl) ?_
  with_reducible refine (WX.out _).mono ?_
  rintro e w5 ⟨ad1, n1, cap1, rfl, hn1, hx1, hb⟩
  refine ⟨_, rfl, ?_⟩
  have HX1 := Aside0.mk hx1
  have hn2 : (0 : Int) < (n1 : Int) := by omega
  clear hx1
  refine hK.out _ _ ⟨pw_cell_below hb (hHeld.1), (hb.block _ (blk_lt (hHeld.2.1))).trans (hHeld.2.1), below_then (hHeld.2.2) (hHeld.2.2).size hb⟩ (fun hHeld => ?_)
  clear hK K
  refine norm_ (a' := ?_) ?_ ?_
  rotate_left
  · show Act.put _ (some 27) _ = _
    simp only [Act.put, List.setIfInBounds_toArray, List.set_cons_zero, List.set_cons_succ, i64_w, i32_w]
    rfl
  refine pure_ (i := 11) (N := some 28) (v := ?_) (a' := ?_) #[true, true, true, true, true, true, true, true, true, true, true, true, false, false, true, true, false, false, false, false] rfl rfl (by kernel_rfl) (fun _ _ _ h => h) (Or.inl ⟨by rfl, ?_⟩) ?_ ?_
  rotate_left
  · intro w'
    go_simp
    with_reducible rfl
  rotate_left
  · simp only [Act.put, List.setIfInBounds_toArray, List.set_cons_zero, List.set_cons_succ, i64_w, i32_w]
    rfl
  refine join_ (σ := Addr × Nat) 2 #[true, true, true, true, true, true, true, true, true, true, true, true, true, true, true, true, true, true, false, false] (fun sg_ => [(29, .string ⟨#[99, 108, 111, 115, 101]⟩), (30, .slice (some sg_.1) 7 sg_.2), (33, .pointer (some ⟨sg_.1.block, sg_.1.off + 1, none⟩)), (34, .string ⟨#[99, 108, 111, 115, 101]⟩)]) (fun sg_ w' => w'.cell? ⟨ba, 0, none⟩ = some (.int .i64 1) ∧ w'.heap[ba]? = some (.cells #[.int .i64 1, .int .u64 a1, .int .u64 0, .int .i64 0, .int .i64 0, .int .i64 0, .string ⟨#[]⟩] 24 (0, 0)) ∧ Below w.heap.size w w') ?_ ?_
  rotate_left
  · intro hCont
    refine two_ (i := 12) (j := 13) (Ni := some 29) (Nj := some 30) #[true, true, true, true, true, true, true, true, true, true, true, true, true, false, true, true, false, false, false, false] #[true, true, true, true, true, true, true, true, true, true, true, true, false, true, true, true, false, false, false, false] rfl rfl rfl rfl (by kernel_rfl) (by decide) (by decide) (fun K hK => ?_) (fun K hK => ?_)
    · skip
      have hz := HX1.out
      refine value_ (w1 := ?_) (v := ?_) (by rfl) rfl ?_ ?_
      rotate_left 2
      · go_simp
        constructor
        · rfl
        · rfl
      clear hz
      refine hK.out _ _ ⟨hHeld.1, hHeld.2.1, hHeld.2.2⟩ (fun hHeld => ?_)
      clear hK K
      refine norm_ (a' := ?_) ?_ ?_
      rotate_left
      · show Act.put _ (some 29) _ = _
        simp only [Act.put, List.setIfInBounds_toArray, List.set_cons_zero, List.set_cons_succ, i64_w, i32_w]
        rfl
      refine one_ (i := 13) (N := some 30) #[true, true, true, true, true, true, true, true, true, true, true, true, true, true, true, true, false, false, false, false] rfl rfl (by kernel_rfl) (by decide) (fun K hK => ?_)
      refine goes_ Tryd.func16 (by kernel_rfl) rfl #[] (by rfl) rfl rfl (by simp only [List.map_toArray, List.map_cons, List.map_nil]) ?_
      with_reducible refine (KX.out _).mono ?_
      rintro e w6 ⟨ad2, cap2, rfl, hx2, hb⟩
      refine ⟨_, rfl, ?_⟩
      have HX2 := Aside0.mk hx2
      replace HX1 := Aside0.mk (pw_cell_below hb HX1.out)
      clear hx2
      refine hK.out _ _ ⟨pw_cell_below hb (hHeld.1), (hb.block _ (blk_lt (hHeld.2.1))).trans (hHeld.2.1), below_then (hHeld.2.2) (hHeld.2.2).size hb⟩ (fun hHeld => ?_)
      clear hK K
      refine norm_ (a' := ?_) ?_ ?_
      rotate_left
      · show Act.put _ (some 30) _ = _
        simp only [Act.put, List.setIfInBounds_toArray, List.set_cons_zero, List.set_cons_succ, i64_w, i32_w]
        rfl
      refine pure_ (i := 16) (N := some 33) (v := ?_) (a' := ?_) #[true, true, true, true, true, true, true, true, true, true, true, true, true, true, true, true, true, false, false, false] rfl rfl (by kernel_rfl) (fun _ _ _ h => h) (Or.inl ⟨by rfl, ?_⟩) ?_ ?_
      rotate_left
      · intro w'
        go_simp
        with_reducible rfl
      rotate_left
      · simp only [Act.put, List.setIfInBounds_toArray, List.set_cons_zero, List.set_cons_succ, i64_w, i32_w]
        rfl
      refine one_ (i := 17) (N := some 34) #[true, true, true, true, true, true, true, true, true, true, true, true, true, true, true, true, true, true, false, false] rfl rfl (by kernel_rfl) (by decide) (fun K hK => ?_)
      have hz : w6.cell? ⟨ad2.block, ad2.off + 1, none⟩ = some (.string ⟨#[99, 108, 111, 115, 101]⟩) := HX2.out
      refine value_ (w1 := ?_) (v := ?_) (by rfl) rfl ?_ ?_
      rotate_left 2
      · go_simp
        constructor
        · rfl
        · rfl
      clear hz
      refine hK.out _ _ ⟨hHeld.1, hHeld.2.1, hHeld.2.2⟩ (fun hHeld => ?_)
      clear hK K
      refine norm_ (a' := ?_) ?_ ?_
      rotate_left
      · show Act.put _ (some 34) _ = _
        simp only [Act.put, List.setIfInBounds_toArray, List.set_cons_zero, List.set_cons_succ, i64_w, i32_w]
        rfl
      exact norm_ (by simp only [putAll, Act.put, List.setIfInBounds_toArray, List.set_cons_zero, List.set_cons_succ]) (hCont (ad2, cap2) _ ⟨hHeld.1, hHeld.2.1, hHeld.2.2⟩)
    · skip
      refine goes_ Tryd.func16 (by kernel_rfl) rfl #[] (by rfl) rfl rfl (by simp only [List.map_toArray, List.map_cons, List.map_nil]) ?_
      with_reducible refine (KX.out _).mono ?_
      rintro e w6 ⟨ad2, cap2, rfl, hx2, hb⟩
      refine ⟨_, rfl, ?_⟩
      have HX2 := Aside0.mk hx2
      replace HX1 := Aside0.mk (pw_cell_below hb HX1.out)
      clear hx2
      refine hK.out _ _ ⟨pw_cell_below hb (hHeld.1), (hb.block _ (blk_lt (hHeld.2.1))).trans (hHeld.2.1), below_then (hHeld.2.2) (hHeld.2.2).size hb⟩ (fun hHeld => ?_)
      clear hK K
      refine norm_ (a' := ?_) ?_ ?_
      rotate_left
      · show Act.put _ (some 30) _ = _
        simp only [Act.put, List.setIfInBounds_toArray, List.set_cons_zero, List.set_cons_succ, i64_w, i32_w]
        rfl
      refine pure_ (i := 16) (N := some 33) (v := ?_) (a' := ?_) #[true, true, true, true, true, true, true, true, true, true, true, true, false, true, true, true, true, false, false, false] rfl rfl (by kernel_rfl) (fun _ _ _ h => h) (Or.inl ⟨by rfl, ?_⟩) ?_ ?_
      rotate_left
      · intro w'
        go_simp
        with_reducible rfl
      rotate_left
      · simp only [Act.put, List.setIfInBounds_toArray, List.set_cons_zero, List.set_cons_succ, i64_w, i32_w]
        rfl
      refine two_ (i := 12) (j := 17) (Ni := some 29) (Nj := some 34) #[true, true, true, true, true, true, true, true, true, true, true, true, true, true, true, true, true, false, false, false] #[true, true, true, true, true, true, true, true, true, true, true, true, false, true, true, true, true, true, false, false] rfl rfl rfl rfl (by kernel_rfl) (by decide) (by decide) (fun K hK => ?_) (fun K hK => ?_)
      · skip
        have hz := HX1.out
        refine value_ (w1 := ?_) (v := ?_) (by rfl) rfl ?_ ?_
        rotate_left 2
        · go_simp
          constructor
          · rfl
          · rfl
        clear hz
        refine hK.out _ _ ⟨hHeld.1, hHeld.2.1, hHeld.2.2⟩ (fun hHeld => ?_)
        clear hK K
        refine norm_ (a' := ?_) ?_ ?_
        rotate_left
        · show Act.put _ (some 29) _ = _
          simp only [Act.put, List.setIfInBounds_toArray, List.set_cons_zero, List.set_cons_succ, i64_w, i32_w]
          rfl
        refine one_ (i := 17) (N := some 34) #[true, true, true, true, true, true, true, true, true, true, true, true, true, true, true, true, true, true, false, false] rfl rfl (by kernel_rfl) (by decide) (fun K hK => ?_)
        have hz : w6.cell? ⟨ad2.block, ad2.off + 1, none⟩ = some (.string ⟨#[99, 108, 111, 115, 101]⟩) := HX2.out
        refine value_ (w1 := ?_) (v := ?_) (by rfl) rfl ?_ ?_
        rotate_left 2
        · go_simp
          constructor
          · rfl
          · rfl
        clear hz
        refine hK.out _ _ ⟨hHeld.1, hHeld.2.1, hHeld.2.2⟩ (fun hHeld => ?_)
        clear hK K
        refine norm_ (a' := ?_) ?_ ?_
        rotate_left
        · show Act.put _ (some 34) _ = _
          simp only [Act.put, List.setIfInBounds_toArray, List.set_cons_zero, List.set_cons_succ, i64_w, i32_w]
          rfl
        exact norm_ (by simp only [putAll, Act.put, List.setIfInBounds_toArray, List.set_cons_zero, List.set_cons_succ]) (hCont (ad2, cap2) _ ⟨hHeld.1, hHeld.2.1, hHeld.2.2⟩)
      · skip
        have hz : w6.cell? ⟨ad2.block, ad2.off + 1, none⟩ = some (.string ⟨#[99, 108, 111, 115, 101]⟩) := HX2.out
        refine value_ (w1 := ?_) (v := ?_) (by rfl) rfl ?_ ?_
        rotate_left 2
        · go_simp
          constructor
          · rfl
          · rfl
        clear hz
        refine hK.out _ _ ⟨hHeld.1, hHeld.2.1, hHeld.2.2⟩ (fun hHeld => ?_)
        clear hK K
        refine norm_ (a' := ?_) ?_ ?_
        rotate_left
        · show Act.put _ (some 34) _ = _
          simp only [Act.put, List.setIfInBounds_toArray, List.set_cons_zero, List.set_cons_succ, i64_w, i32_w]
          rfl
        refine one_ (i := 12) (N := some 29) #[true, true, true, true, true, true, true, true, true, true, true, true, true, true, true, true, true, true, false, false] rfl rfl (by kernel_rfl) (by decide) (fun K hK => ?_)
        have hz := HX1.out
        refine value_ (w1 := ?_) (v := ?_) (by rfl) rfl ?_ ?_
        rotate_left 2
        · go_simp
          constructor
          · rfl
          · rfl
        clear hz
        refine hK.out _ _ ⟨hHeld.1, hHeld.2.1, hHeld.2.2⟩ (fun hHeld => ?_)
        clear hK K
        refine norm_ (a' := ?_) ?_ ?_
        rotate_left
        · show Act.put _ (some 29) _ = _
          simp only [Act.put, List.setIfInBounds_toArray, List.set_cons_zero, List.set_cons_succ, i64_w, i32_w]
          rfl
        exact norm_ (by simp only [putAll, Act.put, List.setIfInBounds_toArray, List.set_cons_zero, List.set_cons_succ]) (hCont (ad2, cap2) _ ⟨hHeld.1, hHeld.2.1, hHeld.2.2⟩)
  rintro sg_ w9 ⟨h1, h2, h3⟩
  have hHeld : w9.cell? ⟨ba, 0, none⟩ = some (.int .i64 1) ∧ w9.heap[ba]? = some (.cells #[.int .i64 1, .int .u64 a1, .int .u64 0, .int .i64 0, .int .i64 0, .int .i64 0, .string ⟨#[]⟩] 24 (0, 0)) ∧ Below w.heap.size w w9 := ⟨h1, h2, h3⟩
  clear h1 h2 h3
  refine norm_ (a' := ?_) ?_ ?_
  rotate_left
  · simp only [putAll, Act.put, List.setIfInBounds_toArray, List.set_cons_zero, List.set_cons_succ]
    rfl
  refine pure_ (i := 18) (N := some 35) (v := ?_) (a' := ?_) #[true, true, true, true, true, true, true, true, true, true, true, true, true, true, true, true, true, true, true, false] rfl rfl (by kernel_rfl) (fun _ _ _ h => h) (Or.inl ⟨by rfl, ?_⟩) ?_ ?_
  rotate_left
  · intro w'
    go_simp
    with_reducible rfl
  rotate_left
  · simp only [Act.put, List.setIfInBounds_toArray, List.set_cons_zero, List.set_cons_succ, i64_w, i32_w]
    rfl
  refine pure_ (i := 19) (N := some 36) (v := ?_) (a' := ?_) #[true, true, true, true, true, true, true, true, true, true, true, true, true, true, true, true, true, true, true, true] rfl rfl (by kernel_rfl) (fun _ _ _ h => h) (Or.inl ⟨by rfl, ?_⟩) ?_ ?_
  rotate_left
  · intro w'
    go_simp
    with_reducible rfl
  rotate_left
  · simp only [Act.put, List.setIfInBounds_toArray, List.set_cons_zero, List.set_cons_succ, i64_w, i32_w]
    rfl
  refine done_ (by kernel_rfl) ?_
  have XB := Aside0.mk hHeld.2.1
  have DD := Aside0.mk hHeld.2.2
  clear hHeld XAd XA0 DDr
  have x0 := (blk_cell XB.out 0).trans (show _ = some (.int .i64 1) from rfl)
  have x1 := (blk_cell XB.out 1).trans (show _ = some (.int .u64 a1) from rfl)
  have x2 := (blk_cell XB.out 2).trans (show _ = some (.int .u64 0) from rfl)
  have x3 := (blk_cell XB.out 3).trans (show _ = some (.int .i64 0) from rfl)
  have x4 := (blk_cell XB.out 4).trans (show _ = some (.int .i64 0) from rfl)
  have x5 := (blk_cell XB.out 5).trans (show _ = some (.int .i64 0) from rfl)
  have x6 := (blk_cell XB.out 6).trans (show _ = some (.string ⟨#[]⟩) from rfl)
  go_wp2
  go_ret
  exact ⟨rfl, DD.out⟩
set_option maxRecDepth 100000 in
set_option maxHeartbeats 8000000 in
theorem kinds_2 (a1 a3 : Int) (s : ByteArray) (hs : s.size ≤ 281474976710656) (w : World) (ht : Tens w) (he : Errs w) (hy : callP s.data.toList = some ⟨2, a1, 0, a3, 0, 0, []⟩) (hwd : (cut1 32 s.data.toList).1 = [109, 105, 110, 116]) :
    Calls Tryd.prog 7 #[.string s] w fun e w' => e = .returned (.bool true) ∧ Below w.heap.size w w' := by
  have WX := Aside0.mk (fun w1 => words2_x s hs w1)
  rw [hwd] at WX
  have KX := Aside0.mk (fun w1 => kinds_x 2 (by decide) ⟨#[109, 105, 110, 116]⟩ rfl w1)
  have PX : Aside0 (∀ w1 : World, Tens w1 → Errs w1 → Calls Tryd.prog 8 #[.string s] w1 fun e w' => e = .returned (.tuple #[.agg #[.int .i64 2, .int .u64 a1, .int .u64 0, .int .i64 a3, .int .i64 0, .int .i64 0, .string ⟨#[]⟩], .int .i64 0]) ∧ Below w1.heap.size w1 w') := ⟨fun w1 h1 h2 => parse_some s.data.toList w1 (by rw [Array.length_toList]; exact hs) h1 h2 _ hy⟩
  have HT := Aside0.mk ht
  have HE := Aside0.mk he
  have D0 := Aside0.mk (Below.refl w.heap.size w)
  clear ht he hs hy hwd
  go_enter Tryd.func7, Tryd.ntmps7
  go_wp2_with fail
  refine (PX.out _ (HT.out.below D0.out) (HE.out.below D0.out)).mono ?_
  rintro e w1 ⟨rfl, hb⟩
  have D1 := Aside0.mk (below_then D0.out D0.out.size hb)
  clear hb D0
  have XA := Aside0.mk (blk_new w1 (.cells #[.int .i64 2, .int .u64 a1, .int .u64 0, .int .i64 a3, .int .i64 0, .int .i64 0, .string ⟨#[]⟩] 24))
  have E1 := Aside0.mk (below_alloc D1.out (.cells #[.int .i64 2, .int .u64 a1, .int .u64 0, .int .i64 a3, .int .i64 0, .int .i64 0, .string ⟨#[]⟩] 24))
  obtain ⟨ba, hba⟩ : ∃ ba, ba = w1.heap.size := ⟨_, rfl⟩
  rw [← hba] at XA
  clear D1
  go_wp2_with fail
  rw [← hba]
  clear hba
  generalize w1.alloc (.cells #[.int .i64 2, .int .u64 a1, .int .u64 0, .int .i64 a3, .int .i64 0, .int .i64 0, .string ⟨#[]⟩] 24) = v1 at XA E1 ⊢
  refine (fixed_q _ (HT.out.below E1.out) (HE.out.below E1.out)).mono ?_
  rintro e w2 ⟨rfl, hb⟩
  replace XA := Aside0.mk ((hb.block _ (blk_lt XA.out)).trans XA.out)
  have D2 := Aside0.mk (below_then E1.out E1.out.size hb)
  clear hb E1
  go_wp2_with fail
  have XAd : w2.drew.heap[ba]? = some (.cells #[.int .i64 2, .int .u64 a1, .int .u64 0, .int .i64 a3, .int .i64 0, .int .i64 0, .string ⟨#[]⟩] 24 (0, 0)) := XA.out
  have XA0 : w2.drew.cell? ⟨ba, 0, none⟩ = some (.int .i64 2) := (blk_cell XA.out 0).trans rfl
  have DDr := below_drew D2.out
  clear XA D2
  refine start_ (n := 20) (S := fun w' => w'.cell? ⟨ba, 0, none⟩ = some (.int .i64 2) ∧ w'.heap[ba]? = some (.cells #[.int .i64 2, .int .u64 a1, .int .u64 0, .int .i64 a3, .int .i64 0, .int .i64 0, .string ⟨#[]⟩] 24 (0, 0)) ∧ Below w.heap.size w w') (ds := []) #[false, false, false, false, false, false, false, false, false, false, false, false, false, false, false, false, false, false, false, false] (by kernel_rfl) rfl rfl ⟨XA0, XAd, DDr⟩ (fun hHeld => ?_)
  refine pure_ (i := 0) (N := some 17) (v := ?_) (a' := ?_) #[true, false, false, false, false, false, false, false, false, false, false, false, false, false, false, false, false, false, false, false] rfl rfl (by kernel_rfl) (fun _ _ _ h => h) (Or.inl ⟨by rfl, ?_⟩) ?_ ?_
  rotate_left
  · intro w'
    go_simp
    with_reducible rfl
  rotate_left
  · simp only [Act.put, List.setIfInBounds_toArray, List.set_cons_zero, List.set_cons_succ, i64_w, i32_w]
    rfl
  refine take_ (i := 1) (N := some 18) (v := ?_) (a' := ?_) #[true, true, false, false, false, false, false, false, false, false, false, false, false, false, false, false, false, false, false, false] rfl rfl (by kernel_rfl) (fun _ _ _ h => h) (Or.inl ⟨by rfl, ?_⟩) hHeld ?_ ?_
  rotate_left
  · rintro w' ⟨s0, s1, s2⟩
    go_simp
    with_reducible rfl
  rotate_left
  · simp only [Act.put, List.setIfInBounds_toArray, List.set_cons_zero, List.set_cons_succ, i64_w, i32_w]
    rfl
  refine pure_ (i := 2) (N := some 19) (v := ?_) (a' := ?_) #[true, true, true, false, false, false, false, false, false, false, false, false, false, false, false, false, false, false, false, false] rfl rfl (by kernel_rfl) (fun _ _ _ h => h) (Or.inl ⟨by rfl, ?_⟩) ?_ ?_
  rotate_left
  · intro w'
    go_simp
    with_reducible rfl
  rotate_left
  · simp only [Act.put, List.setIfInBounds_toArray, List.set_cons_zero, List.set_cons_succ, i64_w, i32_w]
    rfl
  refine pure_ (i := 3) (N := some 20) (v := ?_) (a' := ?_) #[true, true, true, true, false, false, false, false, false, false, false, false, false, false, false, false, false, false, false, false] rfl rfl (by kernel_rfl) (fun _ _ _ h => h) (Or.inl ⟨by rfl, ?_⟩) ?_ ?_
  rotate_left
  · intro w'
    go_simp
    with_reducible rfl
  rotate_left
  · simp only [Act.put, List.setIfInBounds_toArray, List.set_cons_zero, List.set_cons_succ, i64_w, i32_w]
    rfl
  refine pure_ (i := 4) (N := some 21) (v := ?_) (a' := ?_) #[true, true, true, true, true, false, false, false, false, false, false, false, false, false, false, false, false, false, false, false] rfl rfl (by kernel_rfl) (fun _ _ _ h => h) (Or.inl ⟨by rfl, ?_⟩) ?_ ?_
  rotate_left
  · intro w'
    go_simp
    with_reducible rfl
  rotate_left
  · simp only [Act.put, List.setIfInBounds_toArray, List.set_cons_zero, List.set_cons_succ, i64_w, i32_w]
    rfl
  refine take_ (i := 5) (N := some 22) (v := ?_) (a' := ?_) #[true, true, true, true, true, true, false, false, false, false, false, false, false, false, false, false, false, false, false, false] rfl rfl (by kernel_rfl) (fun _ _ _ h => h) (Or.inl ⟨by rfl, ?_⟩) hHeld ?_ ?_
  rotate_left
  · rintro w' ⟨s0, s1, s2⟩
    go_simp
    with_reducible rfl
  rotate_left
  · simp only [Act.put, List.setIfInBounds_toArray, List.set_cons_zero, List.set_cons_succ, i64_w, i32_w]
    rfl
  refine pure_ (i := 6) (N := some 23) (v := ?_) (a' := ?_) #[true, true, true, true, true, true, true, false, false, false, false, false, false, false, false, false, false, false, false, false] rfl rfl (by kernel_rfl) (fun _ _ _ h => h) (Or.inl ⟨by rfl, ?_⟩) ?_ ?_
  rotate_left
  · intro w'
    go_simp
    with_reducible rfl
  rotate_left
  · simp only [Act.put, List.setIfInBounds_toArray, List.set_cons_zero, List.set_cons_succ, i64_w, i32_w]
    rfl
  refine pure_ (i := 7) (N := some 24) (v := ?_) (a' := ?_) #[true, true, true, true, true, true, true, true, false, false, false, false, false, false, false, false, false, false, false, false] rfl rfl (by kernel_rfl) (fun _ _ _ h => h) (Or.inl ⟨by rfl, ?_⟩) ?_ ?_
  rotate_left
  · intro w'
    go_simp
    with_reducible rfl
  rotate_left
  · simp only [Act.put, List.setIfInBounds_toArray, List.set_cons_zero, List.set_cons_succ, i64_w, i32_w]
    rfl
  refine pure_ (i := 8) (N := some 25) (v := ?_) (a' := ?_) #[true, true, true, true, true, true, true, true, true, false, false, false, false, false, false, false, false, false, false, false] rfl rfl (by kernel_rfl) (fun _ _ _ h => h) (Or.inl ⟨by rfl, ?_⟩) ?_ ?_
  rotate_left
  · intro w'
    go_simp
    with_reducible rfl
  rotate_left
  · simp only [Act.put, List.setIfInBounds_toArray, List.set_cons_zero, List.set_cons_succ, i64_w, i32_w]
    rfl
  refine pure_ (i := 9) (N := some 26) (v := ?_) (a' := ?_) #[true, true, true, true, true, true, true, true, true, true, false, false, false, false, false, false, false, false, false, false] rfl rfl (by kernel_rfl) (fun _ _ _ h => h) (Or.inl ⟨by rfl, ?_⟩) ?_ ?_
  rotate_left
  · intro w'
    go_simp
    with_reducible rfl
  rotate_left
  · simp only [Act.put, List.setIfInBounds_toArray, List.set_cons_zero, List.set_cons_succ, i64_w, i32_w]
    rfl
  refine pure_ (i := 14) (N := some 31) (v := ?_) (a' := ?_) #[true, true, true, true, true, true, true, true, true, true, false, false, false, false, true, false, false, false, false, false] rfl rfl (by kernel_rfl) (fun _ _ _ h => h) (Or.inl ⟨by rfl, ?_⟩) ?_ ?_
  rotate_left
  · intro w'
    go_simp
    with_reducible rfl
  rotate_left
  · simp only [Act.put, List.setIfInBounds_toArray, List.set_cons_zero, List.set_cons_succ, i64_w, i32_w]
    rfl
  refine take_ (i := 15) (N := some 32) (v := ?_) (a' := ?_) #[true, true, true, true, true, true, true, true, true, true, false, false, false, false, true, true, false, false, false, false] rfl rfl (by kernel_rfl) (fun _ _ _ h => h) (Or.inl ⟨by rfl, ?_⟩) hHeld ?_ ?_
  rotate_left
  · rintro w' ⟨s0, s1, s2⟩
    go_simp
    with_reducible rfl
  rotate_left
  · simp only [Act.put, List.setIfInBounds_toArray, List.set_cons_zero, List.set_cons_succ, i64_w, i32_w]
    rfl
  refine one_ (i := 10) (N := some 27) #[true, true, true, true, true, true, true, true, true, true, true, false, false, false, true, true, false, false, false, false] rfl rfl (by kernel_rfl) (by decide) (fun K hK => ?_)
  refine goes_ Tryd.func15 (by kernel_rfl) rfl #[.string s, .int .i64 2] (by rfl) rfl rfl (by simp only [List.map_toArray, List.map_cons, List.map_nil]; rfl) ?_
  with_reducible refine (WX.out _).mono ?_
  rintro e w5 ⟨ad1, n1, cap1, rfl, hn1, hx1, hb⟩
  refine ⟨_, rfl, ?_⟩
  have HX1 := Aside0.mk hx1
  have hn2 : (0 : Int) < (n1 : Int) := by omega
  clear hx1
  refine hK.out _ _ ⟨pw_cell_below hb (hHeld.1), (hb.block _ (blk_lt (hHeld.2.1))).trans (hHeld.2.1), below_then (hHeld.2.2) (hHeld.2.2).size hb⟩ (fun hHeld => ?_)
  clear hK K
  refine norm_ (a' := ?_) ?_ ?_
  rotate_left
  · show Act.put _ (some 27) _ = _
    simp only [Act.put, List.setIfInBounds_toArray, List.set_cons_zero, List.set_cons_succ, i64_w, i32_w]
    rfl
  refine pure_ (i := 11) (N := some 28) (v := ?_) (a' := ?_) #[true, true, true, true, true, true, true, true, true, true, true, true, false, false, true, true, false, false, false, false] rfl rfl (by kernel_rfl) (fun _ _ _ h => h) (Or.inl ⟨by rfl, ?_⟩) ?_ ?_
  rotate_left
  · intro w'
    go_simp
    with_reducible rfl
  rotate_left
  · simp only [Act.put, List.setIfInBounds_toArray, List.set_cons_zero, List.set_cons_succ, i64_w, i32_w]
    rfl
  refine join_ (σ := Addr × Nat) 2 #[true, true, true, true, true, true, true, true, true, true, true, true, true, true, true, true, true, true, false, false] (fun sg_ => [(29, .string ⟨#[109, 105, 110, 116]⟩), (30, .slice (some sg_.1) 7 sg_.2), (33, .pointer (some ⟨sg_.1.block, sg_.1.off + 2, none⟩)), (34, .string ⟨#[109, 105, 110, 116]⟩)]) (fun sg_ w' => w'.cell? ⟨ba, 0, none⟩ = some (.int .i64 2) ∧ w'.heap[ba]? = some (.cells #[.int .i64 2, .int .u64 a1, .int .u64 0, .int .i64 a3, .int .i64 0, .int .i64 0, .string ⟨#[]⟩] 24 (0, 0)) ∧ Below w.heap.size w w') ?_ ?_
  rotate_left
  · intro hCont
    refine two_ (i := 12) (j := 13) (Ni := some 29) (Nj := some 30) #[true, true, true, true, true, true, true, true, true, true, true, true, true, false, true, true, false, false, false, false] #[true, true, true, true, true, true, true, true, true, true, true, true, false, true, true, true, false, false, false, false] rfl rfl rfl rfl (by kernel_rfl) (by decide) (by decide) (fun K hK => ?_) (fun K hK => ?_)
    · skip
      have hz := HX1.out
      refine value_ (w1 := ?_) (v := ?_) (by rfl) rfl ?_ ?_
      rotate_left 2
      · go_simp
        constructor
        · rfl
        · rfl
      clear hz
      refine hK.out _ _ ⟨hHeld.1, hHeld.2.1, hHeld.2.2⟩ (fun hHeld => ?_)
      clear hK K
      refine norm_ (a' := ?_) ?_ ?_
      rotate_left
      · show Act.put _ (some 29) _ = _
        simp only [Act.put, List.setIfInBounds_toArray, List.set_cons_zero, List.set_cons_succ, i64_w, i32_w]
        rfl
      refine one_ (i := 13) (N := some 30) #[true, true, true, true, true, true, true, true, true, true, true, true, true, true, true, true, false, false, false, false] rfl rfl (by kernel_rfl) (by decide) (fun K hK => ?_)
      refine goes_ Tryd.func16 (by kernel_rfl) rfl #[] (by rfl) rfl rfl (by simp only [List.map_toArray, List.map_cons, List.map_nil]) ?_
      with_reducible refine (KX.out _).mono ?_
      rintro e w6 ⟨ad2, cap2, rfl, hx2, hb⟩
      refine ⟨_, rfl, ?_⟩
      have HX2 := Aside0.mk hx2
      replace HX1 := Aside0.mk (pw_cell_below hb HX1.out)
      clear hx2
      refine hK.out _ _ ⟨pw_cell_below hb (hHeld.1), (hb.block _ (blk_lt (hHeld.2.1))).trans (hHeld.2.1), below_then (hHeld.2.2) (hHeld.2.2).size hb⟩ (fun hHeld => ?_)
      clear hK K
      refine norm_ (a' := ?_) ?_ ?_
      rotate_left
      · show Act.put _ (some 30) _ = _
        simp only [Act.put, List.setIfInBounds_toArray, List.set_cons_zero, List.set_cons_succ, i64_w, i32_w]
        rfl
      refine pure_ (i := 16) (N := some 33) (v := ?_) (a' := ?_) #[true, true, true, true, true, true, true, true, true, true, true, true, true, true, true, true, true, false, false, false] rfl rfl (by kernel_rfl) (fun _ _ _ h => h) (Or.inl ⟨by rfl, ?_⟩) ?_ ?_
      rotate_left
      · intro w'
        go_simp
        with_reducible rfl
      rotate_left
      · simp only [Act.put, List.setIfInBounds_toArray, List.set_cons_zero, List.set_cons_succ, i64_w, i32_w]
        rfl
      refine one_ (i := 17) (N := some 34) #[true, true, true, true, true, true, true, true, true, true, true, true, true, true, true, true, true, true, false, false] rfl rfl (by kernel_rfl) (by decide) (fun K hK => ?_)
      have hz : w6.cell? ⟨ad2.block, ad2.off + 2, none⟩ = some (.string ⟨#[109, 105, 110, 116]⟩) := HX2.out
      refine value_ (w1 := ?_) (v := ?_) (by rfl) rfl ?_ ?_
      rotate_left 2
      · go_simp
        constructor
        · rfl
        · rfl
      clear hz
      refine hK.out _ _ ⟨hHeld.1, hHeld.2.1, hHeld.2.2⟩ (fun hHeld => ?_)
      clear hK K
      refine norm_ (a' := ?_) ?_ ?_
      rotate_left
      · show Act.put _ (some 34) _ = _
        simp only [Act.put, List.setIfInBounds_toArray, List.set_cons_zero, List.set_cons_succ, i64_w, i32_w]
        rfl
      exact norm_ (by simp only [putAll, Act.put, List.setIfInBounds_toArray, List.set_cons_zero, List.set_cons_succ]) (hCont (ad2, cap2) _ ⟨hHeld.1, hHeld.2.1, hHeld.2.2⟩)
    · skip
      refine goes_ Tryd.func16 (by kernel_rfl) rfl #[] (by rfl) rfl rfl (by simp only [List.map_toArray, List.map_cons, List.map_nil]) ?_
      with_reducible refine (KX.out _).mono ?_
      rintro e w6 ⟨ad2, cap2, rfl, hx2, hb⟩
      refine ⟨_, rfl, ?_⟩
      have HX2 := Aside0.mk hx2
      replace HX1 := Aside0.mk (pw_cell_below hb HX1.out)
      clear hx2
      refine hK.out _ _ ⟨pw_cell_below hb (hHeld.1), (hb.block _ (blk_lt (hHeld.2.1))).trans (hHeld.2.1), below_then (hHeld.2.2) (hHeld.2.2).size hb⟩ (fun hHeld => ?_)
      clear hK K
      refine norm_ (a' := ?_) ?_ ?_
      rotate_left
      · show Act.put _ (some 30) _ = _
        simp only [Act.put, List.setIfInBounds_toArray, List.set_cons_zero, List.set_cons_succ, i64_w, i32_w]
        rfl
      refine pure_ (i := 16) (N := some 33) (v := ?_) (a' := ?_) #[true, true, true, true, true, true, true, true, true, true, true, true, false, true, true, true, true, false, false, false] rfl rfl (by kernel_rfl) (fun _ _ _ h => h) (Or.inl ⟨by rfl, ?_⟩) ?_ ?_
      rotate_left
      · intro w'
        go_simp
        with_reducible rfl
      rotate_left
      · simp only [Act.put, List.setIfInBounds_toArray, List.set_cons_zero, List.set_cons_succ, i64_w, i32_w]
        rfl
      refine two_ (i := 12) (j := 17) (Ni := some 29) (Nj := some 34) #[true, true, true, true, true, true, true, true, true, true, true, true, true, true, true, true, true, false, false, false] #[true, true, true, true, true, true, true, true, true, true, true, true, false, true, true, true, true, true, false, false] rfl rfl rfl rfl (by kernel_rfl) (by decide) (by decide) (fun K hK => ?_) (fun K hK => ?_)
      · skip
        have hz := HX1.out
        refine value_ (w1 := ?_) (v := ?_) (by rfl) rfl ?_ ?_
        rotate_left 2
        · go_simp
          constructor
          · rfl
          · rfl
        clear hz
        refine hK.out _ _ ⟨hHeld.1, hHeld.2.1, hHeld.2.2⟩ (fun hHeld => ?_)
        clear hK K
        refine norm_ (a' := ?_) ?_ ?_
        rotate_left
        · show Act.put _ (some 29) _ = _
          simp only [Act.put, List.setIfInBounds_toArray, List.set_cons_zero, List.set_cons_succ, i64_w, i32_w]
          rfl
        refine one_ (i := 17) (N := some 34) #[true, true, true, true, true, true, true, true, true, true, true, true, true, true, true, true, true, true, false, false] rfl rfl (by kernel_rfl) (by decide) (fun K hK => ?_)
        have hz : w6.cell? ⟨ad2.block, ad2.off + 2, none⟩ = some (.string ⟨#[109, 105, 110, 116]⟩) := HX2.out
        refine value_ (w1 := ?_) (v := ?_) (by rfl) rfl ?_ ?_
        rotate_left 2
        · go_simp
          constructor
          · rfl
          · rfl
        clear hz
        refine hK.out _ _ ⟨hHeld.1, hHeld.2.1, hHeld.2.2⟩ (fun hHeld => ?_)
        clear hK K
        refine norm_ (a' := ?_) ?_ ?_
        rotate_left
        · show Act.put _ (some 34) _ = _
          simp only [Act.put, List.setIfInBounds_toArray, List.set_cons_zero, List.set_cons_succ, i64_w, i32_w]
          rfl
        exact norm_ (by simp only [putAll, Act.put, List.setIfInBounds_toArray, List.set_cons_zero, List.set_cons_succ]) (hCont (ad2, cap2) _ ⟨hHeld.1, hHeld.2.1, hHeld.2.2⟩)
      · skip
        have hz : w6.cell? ⟨ad2.block, ad2.off + 2, none⟩ = some (.string ⟨#[109, 105, 110, 116]⟩) := HX2.out
        refine value_ (w1 := ?_) (v := ?_) (by rfl) rfl ?_ ?_
        rotate_left 2
        · go_simp
          constructor
          · rfl
          · rfl
        clear hz
        refine hK.out _ _ ⟨hHeld.1, hHeld.2.1, hHeld.2.2⟩ (fun hHeld => ?_)
        clear hK K
        refine norm_ (a' := ?_) ?_ ?_
        rotate_left
        · show Act.put _ (some 34) _ = _
          simp only [Act.put, List.setIfInBounds_toArray, List.set_cons_zero, List.set_cons_succ, i64_w, i32_w]
          rfl
        refine one_ (i := 12) (N := some 29) #[true, true, true, true, true, true, true, true, true, true, true, true, true, true, true, true, true, true, false, false] rfl rfl (by kernel_rfl) (by decide) (fun K hK => ?_)
        have hz := HX1.out
        refine value_ (w1 := ?_) (v := ?_) (by rfl) rfl ?_ ?_
        rotate_left 2
        · go_simp
          constructor
          · rfl
          · rfl
        clear hz
        refine hK.out _ _ ⟨hHeld.1, hHeld.2.1, hHeld.2.2⟩ (fun hHeld => ?_)
        clear hK K
        refine norm_ (a' := ?_) ?_ ?_
        rotate_left
        · show Act.put _ (some 29) _ = _
          simp only [Act.put, List.setIfInBounds_toArray, List.set_cons_zero, List.set_cons_succ, i64_w, i32_w]
          rfl
        exact norm_ (by simp only [putAll, Act.put, List.setIfInBounds_toArray, List.set_cons_zero, List.set_cons_succ]) (hCont (ad2, cap2) _ ⟨hHeld.1, hHeld.2.1, hHeld.2.2⟩)
  rintro sg_ w9 ⟨h1, h2, h3⟩
  have hHeld : w9.cell? ⟨ba, 0, none⟩ = some (.int .i64 2) ∧ w9.heap[ba]? = some (.cells #[.int .i64 2, .int .u64 a1, .int .u64 0, .int .i64 a3, .int .i64 0, .int .i64 0, .string ⟨#[]⟩] 24 (0, 0)) ∧ Below w.heap.size w w9 := ⟨h1, h2, h3⟩
  clear h1 h2 h3
  refine norm_ (a' := ?_) ?_ ?_
  rotate_left
  · simp only [putAll, Act.put, List.setIfInBounds_toArray, List.set_cons_zero, List.set_cons_succ]
    rfl
  refine pure_ (i := 18) (N := some 35) (v := ?_) (a' := ?_) #[true, true, true, true, true, true, true, true, true, true, true, true, true, true, true, true, true, true, true, false] rfl rfl (by kernel_rfl) (fun _ _ _ h => h) (Or.inl ⟨by rfl, ?_⟩) ?_ ?_
  rotate_left
  · intro w'
    go_simp
    with_reducible rfl
  rotate_left
  · simp only [Act.put, List.setIfInBounds_toArray, List.set_cons_zero, List.set_cons_succ, i64_w, i32_w]
    rfl
  refine pure_ (i := 19) (N := some 36) (v := ?_) (a' := ?_) #[true, true, true, true, true, true, true, true, true, true, true, true, true, true, true, true, true, true, true, true] rfl rfl (by kernel_rfl) (fun _ _ _ h => h) (Or.inl ⟨by rfl, ?_⟩) ?_ ?_
  rotate_left
  · intro w'
    go_simp
    with_reducible rfl
  rotate_left
  · simp only [Act.put, List.setIfInBounds_toArray, List.set_cons_zero, List.set_cons_succ, i64_w, i32_w]
    rfl
  refine done_ (by kernel_rfl) ?_
  have XB := Aside0.mk hHeld.2.1
  have DD := Aside0.mk hHeld.2.2
  clear hHeld XAd XA0 DDr
  have x0 := (blk_cell XB.out 0).trans (show _ = some (.int .i64 2) from rfl)
  have x1 := (blk_cell XB.out 1).trans (show _ = some (.int .u64 a1) from rfl)
  have x2 := (blk_cell XB.out 2).trans (show _ = some (.int .u64 0) from rfl)
  have x3 := (blk_cell XB.out 3).trans (show _ = some (.int .i64 a3) from rfl)
  have x4 := (blk_cell XB.out 4).trans (show _ = some (.int .i64 0) from rfl)
  have x5 := (blk_cell XB.out 5).trans (show _ = some (.int .i64 0) from rfl)
  have x6 := (blk_cell XB.out 6).trans (show _ = some (.string ⟨#[]⟩) from rfl)
  go_wp2
  go_ret
  exact ⟨rfl, DD.out⟩
set_option maxRecDepth 100000 in
set_option maxHeartbeats 8000000 in
theorem kinds_3 (a1 a2 : Int) (s : ByteArray) (hs : s.size ≤ 281474976710656) (w : World) (ht : Tens w) (he : Errs w) (hy : callP s.data.toList = some ⟨3, a1, a2, 0, 0, 0, []⟩) (hwd : (cut1 32 s.data.toList).1 = [114, 101, 118, 111, 107, 101]) :
    Calls Tryd.prog 7 #[.string s] w fun e w' => e = .returned (.bool true) ∧ Below w.heap.size w w' := by
  have WX := Aside0.mk (fun w1 => words2_x s hs w1)
  rw [hwd] at WX
  have KX := Aside0.mk (fun w1 => kinds_x 3 (by decide) ⟨#[114, 101, 118, 111, 107, 101]⟩ rfl w1)
  have PX : Aside0 (∀ w1 : World, Tens w1 → Errs w1 → Calls Tryd.prog 8 #[.string s] w1 fun e w' => e = .returned (.tuple #[.agg #[.int .i64 3, .int .u64 a1, .int .u64 a2, .int .i64 0, .int .i64 0, .int .i64 0, .string ⟨#[]⟩], .int .i64 0]) ∧ Below w1.heap.size w1 w') := ⟨fun w1 h1 h2 => parse_some s.data.toList w1 (by rw [Array.length_toList]; exact hs) h1 h2 _ hy⟩
  have HT := Aside0.mk ht
  have HE := Aside0.mk he
  have D0 := Aside0.mk (Below.refl w.heap.size w)
  clear ht he hs hy hwd
  go_enter Tryd.func7, Tryd.ntmps7
  go_wp2_with fail
  refine (PX.out _ (HT.out.below D0.out) (HE.out.below D0.out)).mono ?_
  rintro e w1 ⟨rfl, hb⟩
  have D1 := Aside0.mk (below_then D0.out D0.out.size hb)
  clear hb D0
  have XA := Aside0.mk (blk_new w1 (.cells #[.int .i64 3, .int .u64 a1, .int .u64 a2, .int .i64 0, .int .i64 0, .int .i64 0, .string ⟨#[]⟩] 24))
  have E1 := Aside0.mk (below_alloc D1.out (.cells #[.int .i64 3, .int .u64 a1, .int .u64 a2, .int .i64 0, .int .i64 0, .int .i64 0, .string ⟨#[]⟩] 24))
  obtain ⟨ba, hba⟩ : ∃ ba, ba = w1.heap.size := ⟨_, rfl⟩
  rw [← hba] at XA
  clear D1
  go_wp2_with fail
  rw [← hba]
  clear hba
  generalize w1.alloc (.cells #[.int .i64 3, .int .u64 a1, .int .u64 a2, .int .i64 0, .int .i64 0, .int .i64 0, .string ⟨#[]⟩] 24) = v1 at XA E1 ⊢
  refine (fixed_q _ (HT.out.below E1.out) (HE.out.below E1.out)).mono ?_
  rintro e w2 ⟨rfl, hb⟩
  replace XA := Aside0.mk ((hb.block _ (blk_lt XA.out)).trans XA.out)
  have D2 := Aside0.mk (below_then E1.out E1.out.size hb)
  clear hb E1
  go_wp2_with fail
  have XAd : w2.drew.heap[ba]? = some (.cells #[.int .i64 3, .int .u64 a1, .int .u64 a2, .int .i64 0, .int .i64 0, .int .i64 0, .string ⟨#[]⟩] 24 (0, 0)) := XA.out
  have XA0 : w2.drew.cell? ⟨ba, 0, none⟩ = some (.int .i64 3) := (blk_cell XA.out 0).trans rfl
  have DDr := below_drew D2.out
  clear XA D2
  refine start_ (n := 20) (S := fun w' => w'.cell? ⟨ba, 0, none⟩ = some (.int .i64 3) ∧ w'.heap[ba]? = some (.cells #[.int .i64 3, .int .u64 a1, .int .u64 a2, .int .i64 0, .int .i64 0, .int .i64 0, .string ⟨#[]⟩] 24 (0, 0)) ∧ Below w.heap.size w w') (ds := []) #[false, false, false, false, false, false, false, false, false, false, false, false, false, false, false, false, false, false, false, false] (by kernel_rfl) rfl rfl ⟨XA0, XAd, DDr⟩ (fun hHeld => ?_)
  refine pure_ (i := 0) (N := some 17) (v := ?_) (a' := ?_) #[true, false, false, false, false, false, false, false, false, false, false, false, false, false, false, false, false, false, false, false] rfl rfl (by kernel_rfl) (fun _ _ _ h => h) (Or.inl ⟨by rfl, ?_⟩) ?_ ?_
  rotate_left
  · intro w'
    go_simp
    with_reducible rfl
  rotate_left
  · simp only [Act.put, List.setIfInBounds_toArray, List.set_cons_zero, List.set_cons_succ, i64_w, i32_w]
    rfl
  refine take_ (i := 1) (N := some 18) (v := ?_) (a' := ?_) #[true, true, false, false, false, false, false, false, false, false, false, false, false, false, false, false, false, false, false, false] rfl rfl (by kernel_rfl) (fun _ _ _ h => h) (Or.inl ⟨by rfl, ?_⟩) hHeld ?_ ?_
  rotate_left
  · rintro w' ⟨s0, s1, s2⟩
    go_simp
    with_reducible rfl
  rotate_left
  · simp only [Act.put, List.setIfInBounds_toArray, List.set_cons_zero, List.set_cons_succ, i64_w, i32_w]
    rfl
  refine pure_ (i := 2) (N := some 19) (v := ?_) (a' := ?_) #[true, true, true, false, false, false, false, false, false, false, false, false, false, false, false, false, false, false, false, false] rfl rfl (by kernel_rfl) (fun _ _ _ h => h) (Or.inl ⟨by rfl, ?_⟩) ?_ ?_
  rotate_left
  · intro w'
    go_simp
    with_reducible rfl
  rotate_left
  · simp only [Act.put, List.setIfInBounds_toArray, List.set_cons_zero, List.set_cons_succ, i64_w, i32_w]
    rfl
  refine pure_ (i := 3) (N := some 20) (v := ?_) (a' := ?_) #[true, true, true, true, false, false, false, false, false, false, false, false, false, false, false, false, false, false, false, false] rfl rfl (by kernel_rfl) (fun _ _ _ h => h) (Or.inl ⟨by rfl, ?_⟩) ?_ ?_
  rotate_left
  · intro w'
    go_simp
    with_reducible rfl
  rotate_left
  · simp only [Act.put, List.setIfInBounds_toArray, List.set_cons_zero, List.set_cons_succ, i64_w, i32_w]
    rfl
  refine pure_ (i := 4) (N := some 21) (v := ?_) (a' := ?_) #[true, true, true, true, true, false, false, false, false, false, false, false, false, false, false, false, false, false, false, false] rfl rfl (by kernel_rfl) (fun _ _ _ h => h) (Or.inl ⟨by rfl, ?_⟩) ?_ ?_
  rotate_left
  · intro w'
    go_simp
    with_reducible rfl
  rotate_left
  · simp only [Act.put, List.setIfInBounds_toArray, List.set_cons_zero, List.set_cons_succ, i64_w, i32_w]
    rfl
  refine take_ (i := 5) (N := some 22) (v := ?_) (a' := ?_) #[true, true, true, true, true, true, false, false, false, false, false, false, false, false, false, false, false, false, false, false] rfl rfl (by kernel_rfl) (fun _ _ _ h => h) (Or.inl ⟨by rfl, ?_⟩) hHeld ?_ ?_
  rotate_left
  · rintro w' ⟨s0, s1, s2⟩
    go_simp
    with_reducible rfl
  rotate_left
  · simp only [Act.put, List.setIfInBounds_toArray, List.set_cons_zero, List.set_cons_succ, i64_w, i32_w]
    rfl
  refine pure_ (i := 6) (N := some 23) (v := ?_) (a' := ?_) #[true, true, true, true, true, true, true, false, false, false, false, false, false, false, false, false, false, false, false, false] rfl rfl (by kernel_rfl) (fun _ _ _ h => h) (Or.inl ⟨by rfl, ?_⟩) ?_ ?_
  rotate_left
  · intro w'
    go_simp
    with_reducible rfl
  rotate_left
  · simp only [Act.put, List.setIfInBounds_toArray, List.set_cons_zero, List.set_cons_succ, i64_w, i32_w]
    rfl
  refine pure_ (i := 7) (N := some 24) (v := ?_) (a' := ?_) #[true, true, true, true, true, true, true, true, false, false, false, false, false, false, false, false, false, false, false, false] rfl rfl (by kernel_rfl) (fun _ _ _ h => h) (Or.inl ⟨by rfl, ?_⟩) ?_ ?_
  rotate_left
  · intro w'
    go_simp
    with_reducible rfl
  rotate_left
  · simp only [Act.put, List.setIfInBounds_toArray, List.set_cons_zero, List.set_cons_succ, i64_w, i32_w]
    rfl
  refine pure_ (i := 8) (N := some 25) (v := ?_) (a' := ?_) #[true, true, true, true, true, true, true, true, true, false, false, false, false, false, false, false, false, false, false, false] rfl rfl (by kernel_rfl) (fun _ _ _ h => h) (Or.inl ⟨by rfl, ?_⟩) ?_ ?_
  rotate_left
  · intro w'
    go_simp
    with_reducible rfl
  rotate_left
  · simp only [Act.put, List.setIfInBounds_toArray, List.set_cons_zero, List.set_cons_succ, i64_w, i32_w]
    rfl
  refine pure_ (i := 9) (N := some 26) (v := ?_) (a' := ?_) #[true, true, true, true, true, true, true, true, true, true, false, false, false, false, false, false, false, false, false, false] rfl rfl (by kernel_rfl) (fun _ _ _ h => h) (Or.inl ⟨by rfl, ?_⟩) ?_ ?_
  rotate_left
  · intro w'
    go_simp
    with_reducible rfl
  rotate_left
  · simp only [Act.put, List.setIfInBounds_toArray, List.set_cons_zero, List.set_cons_succ, i64_w, i32_w]
    rfl
  refine pure_ (i := 14) (N := some 31) (v := ?_) (a' := ?_) #[true, true, true, true, true, true, true, true, true, true, false, false, false, false, true, false, false, false, false, false] rfl rfl (by kernel_rfl) (fun _ _ _ h => h) (Or.inl ⟨by rfl, ?_⟩) ?_ ?_
  rotate_left
  · intro w'
    go_simp
    with_reducible rfl
  rotate_left
  · simp only [Act.put, List.setIfInBounds_toArray, List.set_cons_zero, List.set_cons_succ, i64_w, i32_w]
    rfl
  refine take_ (i := 15) (N := some 32) (v := ?_) (a' := ?_) #[true, true, true, true, true, true, true, true, true, true, false, false, false, false, true, true, false, false, false, false] rfl rfl (by kernel_rfl) (fun _ _ _ h => h) (Or.inl ⟨by rfl, ?_⟩) hHeld ?_ ?_
  rotate_left
  · rintro w' ⟨s0, s1, s2⟩
    go_simp
    with_reducible rfl
  rotate_left
  · simp only [Act.put, List.setIfInBounds_toArray, List.set_cons_zero, List.set_cons_succ, i64_w, i32_w]
    rfl
  refine one_ (i := 10) (N := some 27) #[true, true, true, true, true, true, true, true, true, true, true, false, false, false, true, true, false, false, false, false] rfl rfl (by kernel_rfl) (by decide) (fun K hK => ?_)
  refine goes_ Tryd.func15 (by kernel_rfl) rfl #[.string s, .int .i64 2] (by rfl) rfl rfl (by simp only [List.map_toArray, List.map_cons, List.map_nil]; rfl) ?_
  with_reducible refine (WX.out _).mono ?_
  rintro e w5 ⟨ad1, n1, cap1, rfl, hn1, hx1, hb⟩
  refine ⟨_, rfl, ?_⟩
  have HX1 := Aside0.mk hx1
  have hn2 : (0 : Int) < (n1 : Int) := by omega
  clear hx1
  refine hK.out _ _ ⟨pw_cell_below hb (hHeld.1), (hb.block _ (blk_lt (hHeld.2.1))).trans (hHeld.2.1), below_then (hHeld.2.2) (hHeld.2.2).size hb⟩ (fun hHeld => ?_)
  clear hK K
  refine norm_ (a' := ?_) ?_ ?_
  rotate_left
  · show Act.put _ (some 27) _ = _
    simp only [Act.put, List.setIfInBounds_toArray, List.set_cons_zero, List.set_cons_succ, i64_w, i32_w]
    rfl
  refine pure_ (i := 11) (N := some 28) (v := ?_) (a' := ?_) #[true, true, true, true, true, true, true, true, true, true, true, true, false, false, true, true, false, false, false, false] rfl rfl (by kernel_rfl) (fun _ _ _ h => h) (Or.inl ⟨by rfl, ?_⟩) ?_ ?_
  rotate_left
  · intro w'
    go_simp
    with_reducible rfl
  rotate_left
  · simp only [Act.put, List.setIfInBounds_toArray, List.set_cons_zero, List.set_cons_succ, i64_w, i32_w]
    rfl
  refine join_ (σ := Addr × Nat) 2 #[true, true, true, true, true, true, true, true, true, true, true, true, true, true, true, true, true, true, false, false] (fun sg_ => [(29, .string ⟨#[114, 101, 118, 111, 107, 101]⟩), (30, .slice (some sg_.1) 7 sg_.2), (33, .pointer (some ⟨sg_.1.block, sg_.1.off + 3, none⟩)), (34, .string ⟨#[114, 101, 118, 111, 107, 101]⟩)]) (fun sg_ w' => w'.cell? ⟨ba, 0, none⟩ = some (.int .i64 3) ∧ w'.heap[ba]? = some (.cells #[.int .i64 3, .int .u64 a1, .int .u64 a2, .int .i64 0, .int .i64 0, .int .i64 0, .string ⟨#[]⟩] 24 (0, 0)) ∧ Below w.heap.size w w') ?_ ?_
  rotate_left
  · intro hCont
    refine two_ (i := 12) (j := 13) (Ni := some 29) (Nj := some 30) #[true, true, true, true, true, true, true, true, true, true, true, true, true, false, true, true, false, false, false, false] #[true, true, true, true, true, true, true, true, true, true, true, true, false, true, true, true, false, false, false, false] rfl rfl rfl rfl (by kernel_rfl) (by decide) (by decide) (fun K hK => ?_) (fun K hK => ?_)
    · skip
      have hz := HX1.out
      refine value_ (w1 := ?_) (v := ?_) (by rfl) rfl ?_ ?_
      rotate_left 2
      · go_simp
        constructor
        · rfl
        · rfl
      clear hz
      refine hK.out _ _ ⟨hHeld.1, hHeld.2.1, hHeld.2.2⟩ (fun hHeld => ?_)
      clear hK K
      refine norm_ (a' := ?_) ?_ ?_
      rotate_left
      · show Act.put _ (some 29) _ = _
        simp only [Act.put, List.setIfInBounds_toArray, List.set_cons_zero, List.set_cons_succ, i64_w, i32_w]
        rfl
      refine one_ (i := 13) (N := some 30) #[true, true, true, true, true, true, true, true, true, true, true, true, true, true, true, true, false, false, false, false] rfl rfl (by kernel_rfl) (by decide) (fun K hK => ?_)
      refine goes_ Tryd.func16 (by kernel_rfl) rfl #[] (by rfl) rfl rfl (by simp only [List.map_toArray, List.map_cons, List.map_nil]) ?_
      with_reducible refine (KX.out _).mono ?_
      rintro e w6 ⟨ad2, cap2, rfl, hx2, hb⟩
      refine ⟨_, rfl, ?_⟩
      have HX2 := Aside0.mk hx2
      replace HX1 := Aside0.mk (pw_cell_below hb HX1.out)
      clear hx2
      refine hK.out _ _ ⟨pw_cell_below hb (hHeld.1), (hb.block _ (blk_lt (hHeld.2.1))).trans (hHeld.2.1), below_then (hHeld.2.2) (hHeld.2.2).size hb⟩ (fun hHeld => ?_)
      clear hK K
      refine norm_ (a' := ?_) ?_ ?_
      rotate_left
      · show Act.put _ (some 30) _ = _
        simp only [Act.put, List.setIfInBounds_toArray, List.set_cons_zero, List.set_cons_succ, i64_w, i32_w]
        rfl
      refine pure_ (i := 16) (N := some 33) (v := ?_) (a' := ?_) #[true, true, true, true, true, true, true, true, true, true, true, true, true, true, true, true, true, false, false, false] rfl rfl (by kernel_rfl) (fun _ _ _ h => h) (Or.inl ⟨by rfl, ?_⟩) ?_ ?_
      rotate_left
      · intro w'
        go_simp
        with_reducible rfl
      rotate_left
      · simp only [Act.put, List.setIfInBounds_toArray, List.set_cons_zero, List.set_cons_succ, i64_w, i32_w]
        rfl
      refine one_ (i := 17) (N := some 34) #[true, true, true, true, true, true, true, true, true, true, true, true, true, true, true, true, true, true, false, false] rfl rfl (by kernel_rfl) (by decide) (fun K hK => ?_)
      have hz : w6.cell? ⟨ad2.block, ad2.off + 3, none⟩ = some (.string ⟨#[114, 101, 118, 111, 107, 101]⟩) := HX2.out
      refine value_ (w1 := ?_) (v := ?_) (by rfl) rfl ?_ ?_
      rotate_left 2
      · go_simp
        constructor
        · rfl
        · rfl
      clear hz
      refine hK.out _ _ ⟨hHeld.1, hHeld.2.1, hHeld.2.2⟩ (fun hHeld => ?_)
      clear hK K
      refine norm_ (a' := ?_) ?_ ?_
      rotate_left
      · show Act.put _ (some 34) _ = _
        simp only [Act.put, List.setIfInBounds_toArray, List.set_cons_zero, List.set_cons_succ, i64_w, i32_w]
        rfl
      exact norm_ (by simp only [putAll, Act.put, List.setIfInBounds_toArray, List.set_cons_zero, List.set_cons_succ]) (hCont (ad2, cap2) _ ⟨hHeld.1, hHeld.2.1, hHeld.2.2⟩)
    · skip
      refine goes_ Tryd.func16 (by kernel_rfl) rfl #[] (by rfl) rfl rfl (by simp only [List.map_toArray, List.map_cons, List.map_nil]) ?_
      with_reducible refine (KX.out _).mono ?_
      rintro e w6 ⟨ad2, cap2, rfl, hx2, hb⟩
      refine ⟨_, rfl, ?_⟩
      have HX2 := Aside0.mk hx2
      replace HX1 := Aside0.mk (pw_cell_below hb HX1.out)
      clear hx2
      refine hK.out _ _ ⟨pw_cell_below hb (hHeld.1), (hb.block _ (blk_lt (hHeld.2.1))).trans (hHeld.2.1), below_then (hHeld.2.2) (hHeld.2.2).size hb⟩ (fun hHeld => ?_)
      clear hK K
      refine norm_ (a' := ?_) ?_ ?_
      rotate_left
      · show Act.put _ (some 30) _ = _
        simp only [Act.put, List.setIfInBounds_toArray, List.set_cons_zero, List.set_cons_succ, i64_w, i32_w]
        rfl
      refine pure_ (i := 16) (N := some 33) (v := ?_) (a' := ?_) #[true, true, true, true, true, true, true, true, true, true, true, true, false, true, true, true, true, false, false, false] rfl rfl (by kernel_rfl) (fun _ _ _ h => h) (Or.inl ⟨by rfl, ?_⟩) ?_ ?_
      rotate_left
      · intro w'
        go_simp
        with_reducible rfl
      rotate_left
      · simp only [Act.put, List.setIfInBounds_toArray, List.set_cons_zero, List.set_cons_succ, i64_w, i32_w]
        rfl
      refine two_ (i := 12) (j := 17) (Ni := some 29) (Nj := some 34) #[true, true, true, true, true, true, true, true, true, true, true, true, true, true, true, true, true, false, false, false] #[true, true, true, true, true, true, true, true, true, true, true, true, false, true, true, true, true, true, false, false] rfl rfl rfl rfl (by kernel_rfl) (by decide) (by decide) (fun K hK => ?_) (fun K hK => ?_)
      · skip
        have hz := HX1.out
        refine value_ (w1 := ?_) (v := ?_) (by rfl) rfl ?_ ?_
        rotate_left 2
        · go_simp
          constructor
          · rfl
          · rfl
        clear hz
        refine hK.out _ _ ⟨hHeld.1, hHeld.2.1, hHeld.2.2⟩ (fun hHeld => ?_)
        clear hK K
        refine norm_ (a' := ?_) ?_ ?_
        rotate_left
        · show Act.put _ (some 29) _ = _
          simp only [Act.put, List.setIfInBounds_toArray, List.set_cons_zero, List.set_cons_succ, i64_w, i32_w]
          rfl
        refine one_ (i := 17) (N := some 34) #[true, true, true, true, true, true, true, true, true, true, true, true, true, true, true, true, true, true, false, false] rfl rfl (by kernel_rfl) (by decide) (fun K hK => ?_)
        have hz : w6.cell? ⟨ad2.block, ad2.off + 3, none⟩ = some (.string ⟨#[114, 101, 118, 111, 107, 101]⟩) := HX2.out
        refine value_ (w1 := ?_) (v := ?_) (by rfl) rfl ?_ ?_
        rotate_left 2
        · go_simp
          constructor
          · rfl
          · rfl
        clear hz
        refine hK.out _ _ ⟨hHeld.1, hHeld.2.1, hHeld.2.2⟩ (fun hHeld => ?_)
        clear hK K
        refine norm_ (a' := ?_) ?_ ?_
        rotate_left
        · show Act.put _ (some 34) _ = _
          simp only [Act.put, List.setIfInBounds_toArray, List.set_cons_zero, List.set_cons_succ, i64_w, i32_w]
          rfl
        exact norm_ (by simp only [putAll, Act.put, List.setIfInBounds_toArray, List.set_cons_zero, List.set_cons_succ]) (hCont (ad2, cap2) _ ⟨hHeld.1, hHeld.2.1, hHeld.2.2⟩)
      · skip
        have hz : w6.cell? ⟨ad2.block, ad2.off + 3, none⟩ = some (.string ⟨#[114, 101, 118, 111, 107, 101]⟩) := HX2.out
        refine value_ (w1 := ?_) (v := ?_) (by rfl) rfl ?_ ?_
        rotate_left 2
        · go_simp
          constructor
          · rfl
          · rfl
        clear hz
        refine hK.out _ _ ⟨hHeld.1, hHeld.2.1, hHeld.2.2⟩ (fun hHeld => ?_)
        clear hK K
        refine norm_ (a' := ?_) ?_ ?_
        rotate_left
        · show Act.put _ (some 34) _ = _
          simp only [Act.put, List.setIfInBounds_toArray, List.set_cons_zero, List.set_cons_succ, i64_w, i32_w]
          rfl
        refine one_ (i := 12) (N := some 29) #[true, true, true, true, true, true, true, true, true, true, true, true, true, true, true, true, true, true, false, false] rfl rfl (by kernel_rfl) (by decide) (fun K hK => ?_)
        have hz := HX1.out
        refine value_ (w1 := ?_) (v := ?_) (by rfl) rfl ?_ ?_
        rotate_left 2
        · go_simp
          constructor
          · rfl
          · rfl
        clear hz
        refine hK.out _ _ ⟨hHeld.1, hHeld.2.1, hHeld.2.2⟩ (fun hHeld => ?_)
        clear hK K
        refine norm_ (a' := ?_) ?_ ?_
        rotate_left
        · show Act.put _ (some 29) _ = _
          simp only [Act.put, List.setIfInBounds_toArray, List.set_cons_zero, List.set_cons_succ, i64_w, i32_w]
          rfl
        exact norm_ (by simp only [putAll, Act.put, List.setIfInBounds_toArray, List.set_cons_zero, List.set_cons_succ]) (hCont (ad2, cap2) _ ⟨hHeld.1, hHeld.2.1, hHeld.2.2⟩)
  rintro sg_ w9 ⟨h1, h2, h3⟩
  have hHeld : w9.cell? ⟨ba, 0, none⟩ = some (.int .i64 3) ∧ w9.heap[ba]? = some (.cells #[.int .i64 3, .int .u64 a1, .int .u64 a2, .int .i64 0, .int .i64 0, .int .i64 0, .string ⟨#[]⟩] 24 (0, 0)) ∧ Below w.heap.size w w9 := ⟨h1, h2, h3⟩
  clear h1 h2 h3
  refine norm_ (a' := ?_) ?_ ?_
  rotate_left
  · simp only [putAll, Act.put, List.setIfInBounds_toArray, List.set_cons_zero, List.set_cons_succ]
    rfl
  refine pure_ (i := 18) (N := some 35) (v := ?_) (a' := ?_) #[true, true, true, true, true, true, true, true, true, true, true, true, true, true, true, true, true, true, true, false] rfl rfl (by kernel_rfl) (fun _ _ _ h => h) (Or.inl ⟨by rfl, ?_⟩) ?_ ?_
  rotate_left
  · intro w'
    go_simp
    with_reducible rfl
  rotate_left
  · simp only [Act.put, List.setIfInBounds_toArray, List.set_cons_zero, List.set_cons_succ, i64_w, i32_w]
    rfl
  refine pure_ (i := 19) (N := some 36) (v := ?_) (a' := ?_) #[true, true, true, true, true, true, true, true, true, true, true, true, true, true, true, true, true, true, true, true] rfl rfl (by kernel_rfl) (fun _ _ _ h => h) (Or.inl ⟨by rfl, ?_⟩) ?_ ?_
  rotate_left
  · intro w'
    go_simp
    with_reducible rfl
  rotate_left
  · simp only [Act.put, List.setIfInBounds_toArray, List.set_cons_zero, List.set_cons_succ, i64_w, i32_w]
    rfl
  refine done_ (by kernel_rfl) ?_
  have XB := Aside0.mk hHeld.2.1
  have DD := Aside0.mk hHeld.2.2
  clear hHeld XAd XA0 DDr
  have x0 := (blk_cell XB.out 0).trans (show _ = some (.int .i64 3) from rfl)
  have x1 := (blk_cell XB.out 1).trans (show _ = some (.int .u64 a1) from rfl)
  have x2 := (blk_cell XB.out 2).trans (show _ = some (.int .u64 a2) from rfl)
  have x3 := (blk_cell XB.out 3).trans (show _ = some (.int .i64 0) from rfl)
  have x4 := (blk_cell XB.out 4).trans (show _ = some (.int .i64 0) from rfl)
  have x5 := (blk_cell XB.out 5).trans (show _ = some (.int .i64 0) from rfl)
  have x6 := (blk_cell XB.out 6).trans (show _ = some (.string ⟨#[]⟩) from rfl)
  go_wp2
  go_ret
  exact ⟨rfl, DD.out⟩
set_option maxRecDepth 100000 in
set_option maxHeartbeats 8000000 in
theorem kinds_4 (a1 a4 : Int) (s : ByteArray) (hs : s.size ≤ 281474976710656) (w : World) (ht : Tens w) (he : Errs w) (hy : callP s.data.toList = some ⟨4, a1, 0, 0, a4, 0, []⟩) (hwd : (cut1 32 s.data.toList).1 = [106, 111, 105, 110]) :
    Calls Tryd.prog 7 #[.string s] w fun e w' => e = .returned (.bool true) ∧ Below w.heap.size w w' := by
  have WX := Aside0.mk (fun w1 => words2_x s hs w1)
  rw [hwd] at WX
  have KX := Aside0.mk (fun w1 => kinds_x 4 (by decide) ⟨#[106, 111, 105, 110]⟩ rfl w1)
  have PX : Aside0 (∀ w1 : World, Tens w1 → Errs w1 → Calls Tryd.prog 8 #[.string s] w1 fun e w' => e = .returned (.tuple #[.agg #[.int .i64 4, .int .u64 a1, .int .u64 0, .int .i64 0, .int .i64 a4, .int .i64 0, .string ⟨#[]⟩], .int .i64 0]) ∧ Below w1.heap.size w1 w') := ⟨fun w1 h1 h2 => parse_some s.data.toList w1 (by rw [Array.length_toList]; exact hs) h1 h2 _ hy⟩
  have HT := Aside0.mk ht
  have HE := Aside0.mk he
  have D0 := Aside0.mk (Below.refl w.heap.size w)
  clear ht he hs hy hwd
  go_enter Tryd.func7, Tryd.ntmps7
  go_wp2_with fail
  refine (PX.out _ (HT.out.below D0.out) (HE.out.below D0.out)).mono ?_
  rintro e w1 ⟨rfl, hb⟩
  have D1 := Aside0.mk (below_then D0.out D0.out.size hb)
  clear hb D0
  have XA := Aside0.mk (blk_new w1 (.cells #[.int .i64 4, .int .u64 a1, .int .u64 0, .int .i64 0, .int .i64 a4, .int .i64 0, .string ⟨#[]⟩] 24))
  have E1 := Aside0.mk (below_alloc D1.out (.cells #[.int .i64 4, .int .u64 a1, .int .u64 0, .int .i64 0, .int .i64 a4, .int .i64 0, .string ⟨#[]⟩] 24))
  obtain ⟨ba, hba⟩ : ∃ ba, ba = w1.heap.size := ⟨_, rfl⟩
  rw [← hba] at XA
  clear D1
  go_wp2_with fail
  rw [← hba]
  clear hba
  generalize w1.alloc (.cells #[.int .i64 4, .int .u64 a1, .int .u64 0, .int .i64 0, .int .i64 a4, .int .i64 0, .string ⟨#[]⟩] 24) = v1 at XA E1 ⊢
  refine (fixed_q _ (HT.out.below E1.out) (HE.out.below E1.out)).mono ?_
  rintro e w2 ⟨rfl, hb⟩
  replace XA := Aside0.mk ((hb.block _ (blk_lt XA.out)).trans XA.out)
  have D2 := Aside0.mk (below_then E1.out E1.out.size hb)
  clear hb E1
  go_wp2_with fail
  have XAd : w2.drew.heap[ba]? = some (.cells #[.int .i64 4, .int .u64 a1, .int .u64 0, .int .i64 0, .int .i64 a4, .int .i64 0, .string ⟨#[]⟩] 24 (0, 0)) := XA.out
  have XA0 : w2.drew.cell? ⟨ba, 0, none⟩ = some (.int .i64 4) := (blk_cell XA.out 0).trans rfl
  have DDr := below_drew D2.out
  clear XA D2
  refine start_ (n := 20) (S := fun w' => w'.cell? ⟨ba, 0, none⟩ = some (.int .i64 4) ∧ w'.heap[ba]? = some (.cells #[.int .i64 4, .int .u64 a1, .int .u64 0, .int .i64 0, .int .i64 a4, .int .i64 0, .string ⟨#[]⟩] 24 (0, 0)) ∧ Below w.heap.size w w') (ds := []) #[false, false, false, false, false, false, false, false, false, false, false, false, false, false, false, false, false, false, false, false] (by kernel_rfl) rfl rfl ⟨XA0, XAd, DDr⟩ (fun hHeld => ?_)
  refine pure_ (i := 0) (N := some 17) (v := ?_) (a' := ?_) #[true, false, false, false, false, false, false, false, false, false, false, false, false, false, false, false, false, false, false, false] rfl rfl (by kernel_rfl) (fun _ _ _ h => h) (Or.inl ⟨by rfl, ?_⟩) ?_ ?_
  rotate_left
  · intro w'
    go_simp
    with_reducible rfl
  rotate_left
  · simp only [Act.put, List.setIfInBounds_toArray, List.set_cons_zero, List.set_cons_succ, i64_w, i32_w]
    rfl
  refine take_ (i := 1) (N := some 18) (v := ?_) (a' := ?_) #[true, true, false, false, false, false, false, false, false, false, false, false, false, false, false, false, false, false, false, false] rfl rfl (by kernel_rfl) (fun _ _ _ h => h) (Or.inl ⟨by rfl, ?_⟩) hHeld ?_ ?_
  rotate_left
  · rintro w' ⟨s0, s1, s2⟩
    go_simp
    with_reducible rfl
  rotate_left
  · simp only [Act.put, List.setIfInBounds_toArray, List.set_cons_zero, List.set_cons_succ, i64_w, i32_w]
    rfl
  refine pure_ (i := 2) (N := some 19) (v := ?_) (a' := ?_) #[true, true, true, false, false, false, false, false, false, false, false, false, false, false, false, false, false, false, false, false] rfl rfl (by kernel_rfl) (fun _ _ _ h => h) (Or.inl ⟨by rfl, ?_⟩) ?_ ?_
  rotate_left
  · intro w'
    go_simp
    with_reducible rfl
  rotate_left
  · simp only [Act.put, List.setIfInBounds_toArray, List.set_cons_zero, List.set_cons_succ, i64_w, i32_w]
    rfl
  refine pure_ (i := 3) (N := some 20) (v := ?_) (a' := ?_) #[true, true, true, true, false, false, false, false, false, false, false, false, false, false, false, false, false, false, false, false] rfl rfl (by kernel_rfl) (fun _ _ _ h => h) (Or.inl ⟨by rfl, ?_⟩) ?_ ?_
  rotate_left
  · intro w'
    go_simp
    with_reducible rfl
  rotate_left
  · simp only [Act.put, List.setIfInBounds_toArray, List.set_cons_zero, List.set_cons_succ, i64_w, i32_w]
    rfl
  refine pure_ (i := 4) (N := some 21) (v := ?_) (a' := ?_) #[true, true, true, true, true, false, false, false, false, false, false, false, false, false, false, false, false, false, false, false] rfl rfl (by kernel_rfl) (fun _ _ _ h => h) (Or.inl ⟨by rfl, ?_⟩) ?_ ?_
  rotate_left
  · intro w'
    go_simp
    with_reducible rfl
  rotate_left
  · simp only [Act.put, List.setIfInBounds_toArray, List.set_cons_zero, List.set_cons_succ, i64_w, i32_w]
    rfl
  refine take_ (i := 5) (N := some 22) (v := ?_) (a' := ?_) #[true, true, true, true, true, true, false, false, false, false, false, false, false, false, false, false, false, false, false, false] rfl rfl (by kernel_rfl) (fun _ _ _ h => h) (Or.inl ⟨by rfl, ?_⟩) hHeld ?_ ?_
  rotate_left
  · rintro w' ⟨s0, s1, s2⟩
    go_simp
    with_reducible rfl
  rotate_left
  · simp only [Act.put, List.setIfInBounds_toArray, List.set_cons_zero, List.set_cons_succ, i64_w, i32_w]
    rfl
  refine pure_ (i := 6) (N := some 23) (v := ?_) (a' := ?_) #[true, true, true, true, true, true, true, false, false, false, false, false, false, false, false, false, false, false, false, false] rfl rfl (by kernel_rfl) (fun _ _ _ h => h) (Or.inl ⟨by rfl, ?_⟩) ?_ ?_
  rotate_left
  · intro w'
    go_simp
    with_reducible rfl
  rotate_left
  · simp only [Act.put, List.setIfInBounds_toArray, List.set_cons_zero, List.set_cons_succ, i64_w, i32_w]
    rfl
  refine pure_ (i := 7) (N := some 24) (v := ?_) (a' := ?_) #[true, true, true, true, true, true, true, true, false, false, false, false, false, false, false, false, false, false, false, false] rfl rfl (by kernel_rfl) (fun _ _ _ h => h) (Or.inl ⟨by rfl, ?_⟩) ?_ ?_
  rotate_left
  · intro w'
    go_simp
    with_reducible rfl
  rotate_left
  · simp only [Act.put, List.setIfInBounds_toArray, List.set_cons_zero, List.set_cons_succ, i64_w, i32_w]
    rfl
  refine pure_ (i := 8) (N := some 25) (v := ?_) (a' := ?_) #[true, true, true, true, true, true, true, true, true, false, false, false, false, false, false, false, false, false, false, false] rfl rfl (by kernel_rfl) (fun _ _ _ h => h) (Or.inl ⟨by rfl, ?_⟩) ?_ ?_
  rotate_left
  · intro w'
    go_simp
    with_reducible rfl
  rotate_left
  · simp only [Act.put, List.setIfInBounds_toArray, List.set_cons_zero, List.set_cons_succ, i64_w, i32_w]
    rfl
  refine pure_ (i := 9) (N := some 26) (v := ?_) (a' := ?_) #[true, true, true, true, true, true, true, true, true, true, false, false, false, false, false, false, false, false, false, false] rfl rfl (by kernel_rfl) (fun _ _ _ h => h) (Or.inl ⟨by rfl, ?_⟩) ?_ ?_
  rotate_left
  · intro w'
    go_simp
    with_reducible rfl
  rotate_left
  · simp only [Act.put, List.setIfInBounds_toArray, List.set_cons_zero, List.set_cons_succ, i64_w, i32_w]
    rfl
  refine pure_ (i := 14) (N := some 31) (v := ?_) (a' := ?_) #[true, true, true, true, true, true, true, true, true, true, false, false, false, false, true, false, false, false, false, false] rfl rfl (by kernel_rfl) (fun _ _ _ h => h) (Or.inl ⟨by rfl, ?_⟩) ?_ ?_
  rotate_left
  · intro w'
    go_simp
    with_reducible rfl
  rotate_left
  · simp only [Act.put, List.setIfInBounds_toArray, List.set_cons_zero, List.set_cons_succ, i64_w, i32_w]
    rfl
  refine take_ (i := 15) (N := some 32) (v := ?_) (a' := ?_) #[true, true, true, true, true, true, true, true, true, true, false, false, false, false, true, true, false, false, false, false] rfl rfl (by kernel_rfl) (fun _ _ _ h => h) (Or.inl ⟨by rfl, ?_⟩) hHeld ?_ ?_
  rotate_left
  · rintro w' ⟨s0, s1, s2⟩
    go_simp
    with_reducible rfl
  rotate_left
  · simp only [Act.put, List.setIfInBounds_toArray, List.set_cons_zero, List.set_cons_succ, i64_w, i32_w]
    rfl
  refine one_ (i := 10) (N := some 27) #[true, true, true, true, true, true, true, true, true, true, true, false, false, false, true, true, false, false, false, false] rfl rfl (by kernel_rfl) (by decide) (fun K hK => ?_)
  refine goes_ Tryd.func15 (by kernel_rfl) rfl #[.string s, .int .i64 2] (by rfl) rfl rfl (by simp only [List.map_toArray, List.map_cons, List.map_nil]; rfl) ?_
  with_reducible refine (WX.out _).mono ?_
  rintro e w5 ⟨ad1, n1, cap1, rfl, hn1, hx1, hb⟩
  refine ⟨_, rfl, ?_⟩
  have HX1 := Aside0.mk hx1
  have hn2 : (0 : Int) < (n1 : Int) := by omega
  clear hx1
  refine hK.out _ _ ⟨pw_cell_below hb (hHeld.1), (hb.block _ (blk_lt (hHeld.2.1))).trans (hHeld.2.1), below_then (hHeld.2.2) (hHeld.2.2).size hb⟩ (fun hHeld => ?_)
  clear hK K
  refine norm_ (a' := ?_) ?_ ?_
  rotate_left
  · show Act.put _ (some 27) _ = _
    simp only [Act.put, List.setIfInBounds_toArray, List.set_cons_zero, List.set_cons_succ, i64_w, i32_w]
    rfl
  refine pure_ (i := 11) (N := some 28) (v := ?_) (a' := ?_) #[true, true, true, true, true, true, true, true, true, true, true, true, false, false, true, true, false, false, false, false] rfl rfl (by kernel_rfl) (fun _ _ _ h => h) (Or.inl ⟨by rfl, ?_⟩) ?_ ?_
  rotate_left
  · intro w'
    go_simp
    with_reducible rfl
  rotate_left
  · simp only [Act.put, List.setIfInBounds_toArray, List.set_cons_zero, List.set_cons_succ, i64_w, i32_w]
    rfl
  refine join_ (σ := Addr × Nat) 2 #[true, true, true, true, true, true, true, true, true, true, true, true, true, true, true, true, true, true, false, false] (fun sg_ => [(29, .string ⟨#[106, 111, 105, 110]⟩), (30, .slice (some sg_.1) 7 sg_.2), (33, .pointer (some ⟨sg_.1.block, sg_.1.off + 4, none⟩)), (34, .string ⟨#[106, 111, 105, 110]⟩)]) (fun sg_ w' => w'.cell? ⟨ba, 0, none⟩ = some (.int .i64 4) ∧ w'.heap[ba]? = some (.cells #[.int .i64 4, .int .u64 a1, .int .u64 0, .int .i64 0, .int .i64 a4, .int .i64 0, .string ⟨#[]⟩] 24 (0, 0)) ∧ Below w.heap.size w w') ?_ ?_
  rotate_left
  · intro hCont
    refine two_ (i := 12) (j := 13) (Ni := some 29) (Nj := some 30) #[true, true, true, true, true, true, true, true, true, true, true, true, true, false, true, true, false, false, false, false] #[true, true, true, true, true, true, true, true, true, true, true, true, false, true, true, true, false, false, false, false] rfl rfl rfl rfl (by kernel_rfl) (by decide) (by decide) (fun K hK => ?_) (fun K hK => ?_)
    · skip
      have hz := HX1.out
      refine value_ (w1 := ?_) (v := ?_) (by rfl) rfl ?_ ?_
      rotate_left 2
      · go_simp
        constructor
        · rfl
        · rfl
      clear hz
      refine hK.out _ _ ⟨hHeld.1, hHeld.2.1, hHeld.2.2⟩ (fun hHeld => ?_)
      clear hK K
      refine norm_ (a' := ?_) ?_ ?_
      rotate_left
      · show Act.put _ (some 29) _ = _
        simp only [Act.put, List.setIfInBounds_toArray, List.set_cons_zero, List.set_cons_succ, i64_w, i32_w]
        rfl
      refine one_ (i := 13) (N := some 30) #[true, true, true, true, true, true, true, true, true, true, true, true, true, true, true, true, false, false, false, false] rfl rfl (by kernel_rfl) (by decide) (fun K hK => ?_)
      refine goes_ Tryd.func16 (by kernel_rfl) rfl #[] (by rfl) rfl rfl (by simp only [List.map_toArray, List.map_cons, List.map_nil]) ?_
      with_reducible refine (KX.out _).mono ?_
      rintro e w6 ⟨ad2, cap2, rfl, hx2, hb⟩
      refine ⟨_, rfl, ?_⟩
      have HX2 := Aside0.mk hx2
      replace HX1 := Aside0.mk (pw_cell_below hb HX1.out)
      clear hx2
      refine hK.out _ _ ⟨pw_cell_below hb (hHeld.1), (hb.block _ (blk_lt (hHeld.2.1))).trans (hHeld.2.1), below_then (hHeld.2.2) (hHeld.2.2).size hb⟩ (fun hHeld => ?_)
      clear hK K
      refine norm_ (a' := ?_) ?_ ?_
      rotate_left
      · show Act.put _ (some 30) _ = _
        simp only [Act.put, List.setIfInBounds_toArray, List.set_cons_zero, List.set_cons_succ, i64_w, i32_w]
        rfl
      refine pure_ (i := 16) (N := some 33) (v := ?_) (a' := ?_) #[true, true, true, true, true, true, true, true, true, true, true, true, true, true, true, true, true, false, false, false] rfl rfl (by kernel_rfl) (fun _ _ _ h => h) (Or.inl ⟨by rfl, ?_⟩) ?_ ?_
      rotate_left
      · intro w'
        go_simp
        with_reducible rfl
      rotate_left
      · simp only [Act.put, List.setIfInBounds_toArray, List.set_cons_zero, List.set_cons_succ, i64_w, i32_w]
        rfl
      refine one_ (i := 17) (N := some 34) #[true, true, true, true, true, true, true, true, true, true, true, true, true, true, true, true, true, true, false, false] rfl rfl (by kernel_rfl) (by decide) (fun K hK => ?_)
      have hz : w6.cell? ⟨ad2.block, ad2.off + 4, none⟩ = some (.string ⟨#[106, 111, 105, 110]⟩) := HX2.out
      refine value_ (w1 := ?_) (v := ?_) (by rfl) rfl ?_ ?_
      rotate_left 2
      · go_simp
        constructor
        · rfl
        · rfl
      clear hz
      refine hK.out _ _ ⟨hHeld.1, hHeld.2.1, hHeld.2.2⟩ (fun hHeld => ?_)
      clear hK K
      refine norm_ (a' := ?_) ?_ ?_
      rotate_left
      · show Act.put _ (some 34) _ = _
        simp only [Act.put, List.setIfInBounds_toArray, List.set_cons_zero, List.set_cons_succ, i64_w, i32_w]
        rfl
      exact norm_ (by simp only [putAll, Act.put, List.setIfInBounds_toArray, List.set_cons_zero, List.set_cons_succ]) (hCont (ad2, cap2) _ ⟨hHeld.1, hHeld.2.1, hHeld.2.2⟩)
    · skip
      refine goes_ Tryd.func16 (by kernel_rfl) rfl #[] (by rfl) rfl rfl (by simp only [List.map_toArray, List.map_cons, List.map_nil]) ?_
      with_reducible refine (KX.out _).mono ?_
      rintro e w6 ⟨ad2, cap2, rfl, hx2, hb⟩
      refine ⟨_, rfl, ?_⟩
      have HX2 := Aside0.mk hx2
      replace HX1 := Aside0.mk (pw_cell_below hb HX1.out)
      clear hx2
      refine hK.out _ _ ⟨pw_cell_below hb (hHeld.1), (hb.block _ (blk_lt (hHeld.2.1))).trans (hHeld.2.1), below_then (hHeld.2.2) (hHeld.2.2).size hb⟩ (fun hHeld => ?_)
      clear hK K
      refine norm_ (a' := ?_) ?_ ?_
      rotate_left
      · show Act.put _ (some 30) _ = _
        simp only [Act.put, List.setIfInBounds_toArray, List.set_cons_zero, List.set_cons_succ, i64_w, i32_w]
        rfl
      refine pure_ (i := 16) (N := some 33) (v := ?_) (a' := ?_) #[true, true, true, true, true, true, true, true, true, true, true, true, false, true, true, true, true, false, false, false] rfl rfl (by kernel_rfl) (fun _ _ _ h => h) (Or.inl ⟨by rfl, ?_⟩) ?_ ?_
      rotate_left
      · intro w'
        go_simp
        with_reducible rfl
      rotate_left
      · simp only [Act.put, List.setIfInBounds_toArray, List.set_cons_zero, List.set_cons_succ, i64_w, i32_w]
        rfl
      refine two_ (i := 12) (j := 17) (Ni := some 29) (Nj := some 34) #[true, true, true, true, true, true, true, true, true, true, true, true, true, true, true, true, true, false, false, false] #[true, true, true, true, true, true, true, true, true, true, true, true, false, true, true, true, true, true, false, false] rfl rfl rfl rfl (by kernel_rfl) (by decide) (by decide) (fun K hK => ?_) (fun K hK => ?_)
      · skip
        have hz := HX1.out
        refine value_ (w1 := ?_) (v := ?_) (by rfl) rfl ?_ ?_
        rotate_left 2
        · go_simp
          constructor
          · rfl
          · rfl
        clear hz
        refine hK.out _ _ ⟨hHeld.1, hHeld.2.1, hHeld.2.2⟩ (fun hHeld => ?_)
        clear hK K
        refine norm_ (a' := ?_) ?_ ?_
        rotate_left
        · show Act.put _ (some 29) _ = _
          simp only [Act.put, List.setIfInBounds_toArray, List.set_cons_zero, List.set_cons_succ, i64_w, i32_w]
          rfl
        refine one_ (i := 17) (N := some 34) #[true, true, true, true, true, true, true, true, true, true, true, true, true, true, true, true, true, true, false, false] rfl rfl (by kernel_rfl) (by decide) (fun K hK => ?_)
        have hz : w6.cell? ⟨ad2.block, ad2.off + 4, none⟩ = some (.string ⟨#[106, 111, 105, 110]⟩) := HX2.out
        refine value_ (w1 := ?_) (v := ?_) (by rfl) rfl ?_ ?_
        rotate_left 2
        · go_simp
          constructor
          · rfl
          · rfl
        clear hz
        refine hK.out _ _ ⟨hHeld.1, hHeld.2.1, hHeld.2.2⟩ (fun hHeld => ?_)
        clear hK K
        refine norm_ (a' := ?_) ?_ ?_
        rotate_left
        · show Act.put _ (some 34) _ = _
          simp only [Act.put, List.setIfInBounds_toArray, List.set_cons_zero, List.set_cons_succ, i64_w, i32_w]
          rfl
        exact norm_ (by simp only [putAll, Act.put, List.setIfInBounds_toArray, List.set_cons_zero, List.set_cons_succ]) (hCont (ad2, cap2) _ ⟨hHeld.1, hHeld.2.1, hHeld.2.2⟩)
      · skip
        have hz : w6.cell? ⟨ad2.block, ad2.off + 4, none⟩ = some (.string ⟨#[106, 111, 105, 110]⟩) := HX2.out
        refine value_ (w1 := ?_) (v := ?_) (by rfl) rfl ?_ ?_
        rotate_left 2
        · go_simp
          constructor
          · rfl
          · rfl
        clear hz
        refine hK.out _ _ ⟨hHeld.1, hHeld.2.1, hHeld.2.2⟩ (fun hHeld => ?_)
        clear hK K
        refine norm_ (a' := ?_) ?_ ?_
        rotate_left
        · show Act.put _ (some 34) _ = _
          simp only [Act.put, List.setIfInBounds_toArray, List.set_cons_zero, List.set_cons_succ, i64_w, i32_w]
          rfl
        refine one_ (i := 12) (N := some 29) #[true, true, true, true, true, true, true, true, true, true, true, true, true, true, true, true, true, true, false, false] rfl rfl (by kernel_rfl) (by decide) (fun K hK => ?_)
        have hz := HX1.out
        refine value_ (w1 := ?_) (v := ?_) (by rfl) rfl ?_ ?_
        rotate_left 2
        · go_simp
          constructor
          · rfl
          · rfl
        clear hz
        refine hK.out _ _ ⟨hHeld.1, hHeld.2.1, hHeld.2.2⟩ (fun hHeld => ?_)
        clear hK K
        refine norm_ (a' := ?_) ?_ ?_
        rotate_left
        · show Act.put _ (some 29) _ = _
          simp only [Act.put, List.setIfInBounds_toArray, List.set_cons_zero, List.set_cons_succ, i64_w, i32_w]
          rfl
        exact norm_ (by simp only [putAll, Act.put, List.setIfInBounds_toArray, List.set_cons_zero, List.set_cons_succ]) (hCont (ad2, cap2) _ ⟨hHeld.1, hHeld.2.1, hHeld.2.2⟩)
  rintro sg_ w9 ⟨h1, h2, h3⟩
  have hHeld : w9.cell? ⟨ba, 0, none⟩ = some (.int .i64 4) ∧ w9.heap[ba]? = some (.cells #[.int .i64 4, .int .u64 a1, .int .u64 0, .int .i64 0, .int .i64 a4, .int .i64 0, .string ⟨#[]⟩] 24 (0, 0)) ∧ Below w.heap.size w w9 := ⟨h1, h2, h3⟩
  clear h1 h2 h3
  refine norm_ (a' := ?_) ?_ ?_
  rotate_left
  · simp only [putAll, Act.put, List.setIfInBounds_toArray, List.set_cons_zero, List.set_cons_succ]
    rfl
  refine pure_ (i := 18) (N := some 35) (v := ?_) (a' := ?_) #[true, true, true, true, true, true, true, true, true, true, true, true, true, true, true, true, true, true, true, false] rfl rfl (by kernel_rfl) (fun _ _ _ h => h) (Or.inl ⟨by rfl, ?_⟩) ?_ ?_
  rotate_left
  · intro w'
    go_simp
    with_reducible rfl
  rotate_left
  · simp only [Act.put, List.setIfInBounds_toArray, List.set_cons_zero, List.set_cons_succ, i64_w, i32_w]
    rfl
  refine pure_ (i := 19) (N := some 36) (v := ?_) (a' := ?_) #[true, true, true, true, true, true, true, true, true, true, true, true, true, true, true, true, true, true, true, true] rfl rfl (by kernel_rfl) (fun _ _ _ h => h) (Or.inl ⟨by rfl, ?_⟩) ?_ ?_
  rotate_left
  · intro w'
    go_simp
    with_reducible rfl
  rotate_left
  · simp only [Act.put, List.setIfInBounds_toArray, List.set_cons_zero, List.set_cons_succ, i64_w, i32_w]
    rfl
  refine done_ (by kernel_rfl) ?_
  have XB := Aside0.mk hHeld.2.1
  have DD := Aside0.mk hHeld.2.2
  clear hHeld XAd XA0 DDr
  have x0 := (blk_cell XB.out 0).trans (show _ = some (.int .i64 4) from rfl)
  have x1 := (blk_cell XB.out 1).trans (show _ = some (.int .u64 a1) from rfl)
  have x2 := (blk_cell XB.out 2).trans (show _ = some (.int .u64 0) from rfl)
  have x3 := (blk_cell XB.out 3).trans (show _ = some (.int .i64 0) from rfl)
  have x4 := (blk_cell XB.out 4).trans (show _ = some (.int .i64 a4) from rfl)
  have x5 := (blk_cell XB.out 5).trans (show _ = some (.int .i64 0) from rfl)
  have x6 := (blk_cell XB.out 6).trans (show _ = some (.string ⟨#[]⟩) from rfl)
  go_wp2
  go_ret
  exact ⟨rfl, DD.out⟩
set_option maxRecDepth 100000 in
set_option maxHeartbeats 8000000 in
theorem kinds_5 (a1 a4 : Int) (s : ByteArray) (hs : s.size ≤ 281474976710656) (w : World) (ht : Tens w) (he : Errs w) (hy : callP s.data.toList = some ⟨5, a1, 0, 0, a4, 0, []⟩) (hwd : (cut1 32 s.data.toList).1 = [108, 101, 97, 118, 101]) :
    Calls Tryd.prog 7 #[.string s] w fun e w' => e = .returned (.bool true) ∧ Below w.heap.size w w' := by
  have WX := Aside0.mk (fun w1 => words2_x s hs w1)
  rw [hwd] at WX
  have KX := Aside0.mk (fun w1 => kinds_x 5 (by decide) ⟨#[108, 101, 97, 118, 101]⟩ rfl w1)
  have PX : Aside0 (∀ w1 : World, Tens w1 → Errs w1 → Calls Tryd.prog 8 #[.string s] w1 fun e w' => e = .returned (.tuple #[.agg #[.int .i64 5, .int .u64 a1, .int .u64 0, .int .i64 0, .int .i64 a4, .int .i64 0, .string ⟨#[]⟩], .int .i64 0]) ∧ Below w1.heap.size w1 w') := ⟨fun w1 h1 h2 => parse_some s.data.toList w1 (by rw [Array.length_toList]; exact hs) h1 h2 _ hy⟩
  have HT := Aside0.mk ht
  have HE := Aside0.mk he
  have D0 := Aside0.mk (Below.refl w.heap.size w)
  clear ht he hs hy hwd
  go_enter Tryd.func7, Tryd.ntmps7
  go_wp2_with fail
  refine (PX.out _ (HT.out.below D0.out) (HE.out.below D0.out)).mono ?_
  rintro e w1 ⟨rfl, hb⟩
  have D1 := Aside0.mk (below_then D0.out D0.out.size hb)
  clear hb D0
  have XA := Aside0.mk (blk_new w1 (.cells #[.int .i64 5, .int .u64 a1, .int .u64 0, .int .i64 0, .int .i64 a4, .int .i64 0, .string ⟨#[]⟩] 24))
  have E1 := Aside0.mk (below_alloc D1.out (.cells #[.int .i64 5, .int .u64 a1, .int .u64 0, .int .i64 0, .int .i64 a4, .int .i64 0, .string ⟨#[]⟩] 24))
  obtain ⟨ba, hba⟩ : ∃ ba, ba = w1.heap.size := ⟨_, rfl⟩
  rw [← hba] at XA
  clear D1
  go_wp2_with fail
  rw [← hba]
  clear hba
  generalize w1.alloc (.cells #[.int .i64 5, .int .u64 a1, .int .u64 0, .int .i64 0, .int .i64 a4, .int .i64 0, .string ⟨#[]⟩] 24) = v1 at XA E1 ⊢
  refine (fixed_q _ (HT.out.below E1.out) (HE.out.below E1.out)).mono ?_
  rintro e w2 ⟨rfl, hb⟩
  replace XA := Aside0.mk ((hb.block _ (blk_lt XA.out)).trans XA.out)
  have D2 := Aside0.mk (below_then E1.out E1.out.size hb)
  clear hb E1
  go_wp2_with fail
  have XAd : w2.drew.heap[ba]? = some (.cells #[.int .i64 5, .int .u64 a1, .int .u64 0, .int .i64 0, .int .i64 a4, .int .i64 0, .string ⟨#[]⟩] 24 (0, 0)) := XA.out
  have XA0 : w2.drew.cell? ⟨ba, 0, none⟩ = some (.int .i64 5) := (blk_cell XA.out 0).trans rfl
  have DDr := below_drew D2.out
  clear XA D2
  refine start_ (n := 20) (S := fun w' => w'.cell? ⟨ba, 0, none⟩ = some (.int .i64 5) ∧ w'.heap[ba]? = some (.cells #[.int .i64 5, .int .u64 a1, .int .u64 0, .int .i64 0, .int .i64 a4, .int .i64 0, .string ⟨#[]⟩] 24 (0, 0)) ∧ Below w.heap.size w w') (ds := []) #[false, false, false, false, false, false, false, false, false, false, false, false, false, false, false, false, false, false, false, false] (by kernel_rfl) rfl rfl ⟨XA0, XAd, DDr⟩ (fun hHeld => ?_)
  refine pure_ (i := 0) (N := some 17) (v := ?_) (a' := ?_) #[true, false, false, false, false, false, false, false, false, false, false, false, false, false, false, false, false, false, false, false] rfl rfl (by kernel_rfl) (fun _ _ _ h => h) (Or.inl ⟨by rfl, ?_⟩) ?_ ?_
  rotate_left
  · intro w'
    go_simp
    with_reducible rfl
  rotate_left
  · simp only [Act.put, List.setIfInBounds_toArray, List.set_cons_zero, List.set_cons_succ, i64_w, i32_w]
    rfl
  refine take_ (i := 1) (N := some 18) (v := ?_) (a' := ?_) #[true, true, false, false, false, false, false, false, false, false, false, false, false, false, false, false, false, false, false, false] rfl rfl (by kernel_rfl) (fun _ _ _ h => h) (Or.inl ⟨by rfl, ?_⟩) hHeld ?_ ?_
  rotate_left
  · rintro w' ⟨s0, s1, s2⟩
    go_simp
    with_reducible rfl
  rotate_left
  · simp only [Act.put, List.setIfInBounds_toArray, List.set_cons_zero, List.set_cons_succ, i64_w, i32_w]
    rfl
  refine pure_ (i := 2) (N := some 19) (v := ?_) (a' := ?_) #[true, true, true, false, false, false, false, false, false, false, false, false, false, false, false, false, false, false, false, false] rfl rfl (by kernel_rfl) (fun _ _ _ h => h) (Or.inl ⟨by rfl, ?_⟩) ?_ ?_
  rotate_left
  · intro w'
    go_simp
    with_reducible rfl
  rotate_left
  · simp only [Act.put, List.setIfInBounds_toArray, List.set_cons_zero, List.set_cons_succ, i64_w, i32_w]
    rfl
  refine pure_ (i := 3) (N := some 20) (v := ?_) (a' := ?_) #[true, true, true, true, false, false, false, false, false, false, false, false, false, false, false, false, false, false, false, false] rfl rfl (by kernel_rfl) (fun _ _ _ h => h) (Or.inl ⟨by rfl, ?_⟩) ?_ ?_
  rotate_left
  · intro w'
    go_simp
    with_reducible rfl
  rotate_left
  · simp only [Act.put, List.setIfInBounds_toArray, List.set_cons_zero, List.set_cons_succ, i64_w, i32_w]
    rfl
  refine pure_ (i := 4) (N := some 21) (v := ?_) (a' := ?_) #[true, true, true, true, true, false, false, false, false, false, false, false, false, false, false, false, false, false, false, false] rfl rfl (by kernel_rfl) (fun _ _ _ h => h) (Or.inl ⟨by rfl, ?_⟩) ?_ ?_
  rotate_left
  · intro w'
    go_simp
    with_reducible rfl
  rotate_left
  · simp only [Act.put, List.setIfInBounds_toArray, List.set_cons_zero, List.set_cons_succ, i64_w, i32_w]
    rfl
  refine take_ (i := 5) (N := some 22) (v := ?_) (a' := ?_) #[true, true, true, true, true, true, false, false, false, false, false, false, false, false, false, false, false, false, false, false] rfl rfl (by kernel_rfl) (fun _ _ _ h => h) (Or.inl ⟨by rfl, ?_⟩) hHeld ?_ ?_
  rotate_left
  · rintro w' ⟨s0, s1, s2⟩
    go_simp
    with_reducible rfl
  rotate_left
  · simp only [Act.put, List.setIfInBounds_toArray, List.set_cons_zero, List.set_cons_succ, i64_w, i32_w]
    rfl
  refine pure_ (i := 6) (N := some 23) (v := ?_) (a' := ?_) #[true, true, true, true, true, true, true, false, false, false, false, false, false, false, false, false, false, false, false, false] rfl rfl (by kernel_rfl) (fun _ _ _ h => h) (Or.inl ⟨by rfl, ?_⟩) ?_ ?_
  rotate_left
  · intro w'
    go_simp
    with_reducible rfl
  rotate_left
  · simp only [Act.put, List.setIfInBounds_toArray, List.set_cons_zero, List.set_cons_succ, i64_w, i32_w]
    rfl
  refine pure_ (i := 7) (N := some 24) (v := ?_) (a' := ?_) #[true, true, true, true, true, true, true, true, false, false, false, false, false, false, false, false, false, false, false, false] rfl rfl (by kernel_rfl) (fun _ _ _ h => h) (Or.inl ⟨by rfl, ?_⟩) ?_ ?_
  rotate_left
  · intro w'
    go_simp
    with_reducible rfl
  rotate_left
  · simp only [Act.put, List.setIfInBounds_toArray, List.set_cons_zero, List.set_cons_succ, i64_w, i32_w]
    rfl
  refine pure_ (i := 8) (N := some 25) (v := ?_) (a' := ?_) #[true, true, true, true, true, true, true, true, true, false, false, false, false, false, false, false, false, false, false, false] rfl rfl (by kernel_rfl) (fun _ _ _ h => h) (Or.inl ⟨by rfl, ?_⟩) ?_ ?_
  rotate_left
  · intro w'
    go_simp
    with_reducible rfl
  rotate_left
  · simp only [Act.put, List.setIfInBounds_toArray, List.set_cons_zero, List.set_cons_succ, i64_w, i32_w]
    rfl
  refine pure_ (i := 9) (N := some 26) (v := ?_) (a' := ?_) #[true, true, true, true, true, true, true, true, true, true, false, false, false, false, false, false, false, false, false, false] rfl rfl (by kernel_rfl) (fun _ _ _ h => h) (Or.inl ⟨by rfl, ?_⟩) ?_ ?_
  rotate_left
  · intro w'
    go_simp
    with_reducible rfl
  rotate_left
  · simp only [Act.put, List.setIfInBounds_toArray, List.set_cons_zero, List.set_cons_succ, i64_w, i32_w]
    rfl
  refine pure_ (i := 14) (N := some 31) (v := ?_) (a' := ?_) #[true, true, true, true, true, true, true, true, true, true, false, false, false, false, true, false, false, false, false, false] rfl rfl (by kernel_rfl) (fun _ _ _ h => h) (Or.inl ⟨by rfl, ?_⟩) ?_ ?_
  rotate_left
  · intro w'
    go_simp
    with_reducible rfl
  rotate_left
  · simp only [Act.put, List.setIfInBounds_toArray, List.set_cons_zero, List.set_cons_succ, i64_w, i32_w]
    rfl
  refine take_ (i := 15) (N := some 32) (v := ?_) (a' := ?_) #[true, true, true, true, true, true, true, true, true, true, false, false, false, false, true, true, false, false, false, false] rfl rfl (by kernel_rfl) (fun _ _ _ h => h) (Or.inl ⟨by rfl, ?_⟩) hHeld ?_ ?_
  rotate_left
  · rintro w' ⟨s0, s1, s2⟩
    go_simp
    with_reducible rfl
  rotate_left
  · simp only [Act.put, List.setIfInBounds_toArray, List.set_cons_zero, List.set_cons_succ, i64_w, i32_w]
    rfl
  refine one_ (i := 10) (N := some 27) #[true, true, true, true, true, true, true, true, true, true, true, false, false, false, true, true, false, false, false, false] rfl rfl (by kernel_rfl) (by decide) (fun K hK => ?_)
  refine goes_ Tryd.func15 (by kernel_rfl) rfl #[.string s, .int .i64 2] (by rfl) rfl rfl (by simp only [List.map_toArray, List.map_cons, List.map_nil]; rfl) ?_
  with_reducible refine (WX.out _).mono ?_
  rintro e w5 ⟨ad1, n1, cap1, rfl, hn1, hx1, hb⟩
  refine ⟨_, rfl, ?_⟩
  have HX1 := Aside0.mk hx1
  have hn2 : (0 : Int) < (n1 : Int) := by omega
  clear hx1
  refine hK.out _ _ ⟨pw_cell_below hb (hHeld.1), (hb.block _ (blk_lt (hHeld.2.1))).trans (hHeld.2.1), below_then (hHeld.2.2) (hHeld.2.2).size hb⟩ (fun hHeld => ?_)
  clear hK K
  refine norm_ (a' := ?_) ?_ ?_
  rotate_left
  · show Act.put _ (some 27) _ = _
    simp only [Act.put, List.setIfInBounds_toArray, List.set_cons_zero, List.set_cons_succ, i64_w, i32_w]
    rfl
  refine pure_ (i := 11) (N := some 28) (v := ?_) (a' := ?_) #[true, true, true, true, true, true, true, true, true, true, true, true, false, false, true, true, false, false, false, false] rfl rfl (by kernel_rfl) (fun _ _ _ h => h) (Or.inl ⟨by rfl, ?_⟩) ?_ ?_
  rotate_left
  · intro w'
    go_simp
    with_reducible rfl
  rotate_left
  · simp only [Act.put, List.setIfInBounds_toArray, List.set_cons_zero, List.set_cons_succ, i64_w, i32_w]
    rfl
  refine join_ (σ := Addr × Nat) 2 #[true, true, true, true, true, true, true, true, true, true, true, true, true, true, true, true, true, true, false, false] (fun sg_ => [(29, .string ⟨#[108, 101, 97, 118, 101]⟩), (30, .slice (some sg_.1) 7 sg_.2), (33, .pointer (some ⟨sg_.1.block, sg_.1.off + 5, none⟩)), (34, .string ⟨#[108, 101, 97, 118, 101]⟩)]) (fun sg_ w' => w'.cell? ⟨ba, 0, none⟩ = some (.int .i64 5) ∧ w'.heap[ba]? = some (.cells #[.int .i64 5, .int .u64 a1, .int .u64 0, .int .i64 0, .int .i64 a4, .int .i64 0, .string ⟨#[]⟩] 24 (0, 0)) ∧ Below w.heap.size w w') ?_ ?_
  rotate_left
  · intro hCont
    refine two_ (i := 12) (j := 13) (Ni := some 29) (Nj := some 30) #[true, true, true, true, true, true, true, true, true, true, true, true, true, false, true, true, false, false, false, false] #[true, true, true, true, true, true, true, true, true, true, true, true, false, true, true, true, false, false, false, false] rfl rfl rfl rfl (by kernel_rfl) (by decide) (by decide) (fun K hK => ?_) (fun K hK => ?_)
    · skip
      have hz := HX1.out
      refine value_ (w1 := ?_) (v := ?_) (by rfl) rfl ?_ ?_
      rotate_left 2
      · go_simp
        constructor
        · rfl
        · rfl
      clear hz
      refine hK.out _ _ ⟨hHeld.1, hHeld.2.1, hHeld.2.2⟩ (fun hHeld => ?_)
      clear hK K
      refine norm_ (a' := ?_) ?_ ?_
      rotate_left
      · show Act.put _ (some 29) _ = _
        simp only [Act.put, List.setIfInBounds_toArray, List.set_cons_zero, List.set_cons_succ, i64_w, i32_w]
        rfl
      refine one_ (i := 13) (N := some 30) #[true, true, true, true, true, true, true, true, true, true, true, true, true, true, true, true, false, false, false, false] rfl rfl (by kernel_rfl) (by decide) (fun K hK => ?_)
      refine goes_ Tryd.func16 (by kernel_rfl) rfl #[] (by rfl) rfl rfl (by simp only [List.map_toArray, List.map_cons, List.map_nil]) ?_
      with_reducible refine (KX.out _).mono ?_
      rintro e w6 ⟨ad2, cap2, rfl, hx2, hb⟩
      refine ⟨_, rfl, ?_⟩
      have HX2 := Aside0.mk hx2
      replace HX1 := Aside0.mk (pw_cell_below hb HX1.out)
      clear hx2
      refine hK.out _ _ ⟨pw_cell_below hb (hHeld.1), (hb.block _ (blk_lt (hHeld.2.1))).trans (hHeld.2.1), below_then (hHeld.2.2) (hHeld.2.2).size hb⟩ (fun hHeld => ?_)
      clear hK K
      refine norm_ (a' := ?_) ?_ ?_
      rotate_left
      · show Act.put _ (some 30) _ = _
        simp only [Act.put, List.setIfInBounds_toArray, List.set_cons_zero, List.set_cons_succ, i64_w, i32_w]
        rfl
      refine pure_ (i := 16) (N := some 33) (v := ?_) (a' := ?_) #[true, true, true, true, true, true, true, true, true, true, true, true, true, true, true, true, true, false, false, false] rfl rfl (by kernel_rfl) (fun _ _ _ h => h) (Or.inl ⟨by rfl, ?_⟩) ?_ ?_
      rotate_left
      · intro w'
        go_simp
        with_reducible rfl
      rotate_left
      · simp only [Act.put, List.setIfInBounds_toArray, List.set_cons_zero, List.set_cons_succ, i64_w, i32_w]
        rfl
      refine one_ (i := 17) (N := some 34) #[true, true, true, true, true, true, true, true, true, true, true, true, true, true, true, true, true, true, false, false] rfl rfl (by kernel_rfl) (by decide) (fun K hK => ?_)
      have hz : w6.cell? ⟨ad2.block, ad2.off + 5, none⟩ = some (.string ⟨#[108, 101, 97, 118, 101]⟩) := HX2.out
      refine value_ (w1 := ?_) (v := ?_) (by rfl) rfl ?_ ?_
      rotate_left 2
      · go_simp
        constructor
        · rfl
        · rfl
      clear hz
      refine hK.out _ _ ⟨hHeld.1, hHeld.2.1, hHeld.2.2⟩ (fun hHeld => ?_)
      clear hK K
      refine norm_ (a' := ?_) ?_ ?_
      rotate_left
      · show Act.put _ (some 34) _ = _
        simp only [Act.put, List.setIfInBounds_toArray, List.set_cons_zero, List.set_cons_succ, i64_w, i32_w]
        rfl
      exact norm_ (by simp only [putAll, Act.put, List.setIfInBounds_toArray, List.set_cons_zero, List.set_cons_succ]) (hCont (ad2, cap2) _ ⟨hHeld.1, hHeld.2.1, hHeld.2.2⟩)
    · skip
      refine goes_ Tryd.func16 (by kernel_rfl) rfl #[] (by rfl) rfl rfl (by simp only [List.map_toArray, List.map_cons, List.map_nil]) ?_
      with_reducible refine (KX.out _).mono ?_
      rintro e w6 ⟨ad2, cap2, rfl, hx2, hb⟩
      refine ⟨_, rfl, ?_⟩
      have HX2 := Aside0.mk hx2
      replace HX1 := Aside0.mk (pw_cell_below hb HX1.out)
      clear hx2
      refine hK.out _ _ ⟨pw_cell_below hb (hHeld.1), (hb.block _ (blk_lt (hHeld.2.1))).trans (hHeld.2.1), below_then (hHeld.2.2) (hHeld.2.2).size hb⟩ (fun hHeld => ?_)
      clear hK K
      refine norm_ (a' := ?_) ?_ ?_
      rotate_left
      · show Act.put _ (some 30) _ = _
        simp only [Act.put, List.setIfInBounds_toArray, List.set_cons_zero, List.set_cons_succ, i64_w, i32_w]
        rfl
      refine pure_ (i := 16) (N := some 33) (v := ?_) (a' := ?_) #[true, true, true, true, true, true, true, true, true, true, true, true, false, true, true, true, true, false, false, false] rfl rfl (by kernel_rfl) (fun _ _ _ h => h) (Or.inl ⟨by rfl, ?_⟩) ?_ ?_
      rotate_left
      · intro w'
        go_simp
        with_reducible rfl
      rotate_left
      · simp only [Act.put, List.setIfInBounds_toArray, List.set_cons_zero, List.set_cons_succ, i64_w, i32_w]
        rfl
      refine two_ (i := 12) (j := 17) (Ni := some 29) (Nj := some 34) #[true, true, true, true, true, true, true, true, true, true, true, true, true, true, true, true, true, false, false, false] #[true, true, true, true, true, true, true, true, true, true, true, true, false, true, true, true, true, true, false, false] rfl rfl rfl rfl (by kernel_rfl) (by decide) (by decide) (fun K hK => ?_) (fun K hK => ?_)
      · skip
        have hz := HX1.out
        refine value_ (w1 := ?_) (v := ?_) (by rfl) rfl ?_ ?_
        rotate_left 2
        · go_simp
          constructor
          · rfl
          · rfl
        clear hz
        refine hK.out _ _ ⟨hHeld.1, hHeld.2.1, hHeld.2.2⟩ (fun hHeld => ?_)
        clear hK K
        refine norm_ (a' := ?_) ?_ ?_
        rotate_left
        · show Act.put _ (some 29) _ = _
          simp only [Act.put, List.setIfInBounds_toArray, List.set_cons_zero, List.set_cons_succ, i64_w, i32_w]
          rfl
        refine one_ (i := 17) (N := some 34) #[true, true, true, true, true, true, true, true, true, true, true, true, true, true, true, true, true, true, false, false] rfl rfl (by kernel_rfl) (by decide) (fun K hK => ?_)
        have hz : w6.cell? ⟨ad2.block, ad2.off + 5, none⟩ = some (.string ⟨#[108, 101, 97, 118, 101]⟩) := HX2.out
        refine value_ (w1 := ?_) (v := ?_) (by rfl) rfl ?_ ?_
        rotate_left 2
        · go_simp
          constructor
          · rfl
          · rfl
        clear hz
        refine hK.out _ _ ⟨hHeld.1, hHeld.2.1, hHeld.2.2⟩ (fun hHeld => ?_)
        clear hK K
        refine norm_ (a' := ?_) ?_ ?_
        rotate_left
        · show Act.put _ (some 34) _ = _
          simp only [Act.put, List.setIfInBounds_toArray, List.set_cons_zero, List.set_cons_succ, i64_w, i32_w]
          rfl
        exact norm_ (by simp only [putAll, Act.put, List.setIfInBounds_toArray, List.set_cons_zero, List.set_cons_succ]) (hCont (ad2, cap2) _ ⟨hHeld.1, hHeld.2.1, hHeld.2.2⟩)
      · skip
        have hz : w6.cell? ⟨ad2.block, ad2.off + 5, none⟩ = some (.string ⟨#[108, 101, 97, 118, 101]⟩) := HX2.out
        refine value_ (w1 := ?_) (v := ?_) (by rfl) rfl ?_ ?_
        rotate_left 2
        · go_simp
          constructor
          · rfl
          · rfl
        clear hz
        refine hK.out _ _ ⟨hHeld.1, hHeld.2.1, hHeld.2.2⟩ (fun hHeld => ?_)
        clear hK K
        refine norm_ (a' := ?_) ?_ ?_
        rotate_left
        · show Act.put _ (some 34) _ = _
          simp only [Act.put, List.setIfInBounds_toArray, List.set_cons_zero, List.set_cons_succ, i64_w, i32_w]
          rfl
        refine one_ (i := 12) (N := some 29) #[true, true, true, true, true, true, true, true, true, true, true, true, true, true, true, true, true, true, false, false] rfl rfl (by kernel_rfl) (by decide) (fun K hK => ?_)
        have hz := HX1.out
        refine value_ (w1 := ?_) (v := ?_) (by rfl) rfl ?_ ?_
        rotate_left 2
        · go_simp
          constructor
          · rfl
          · rfl
        clear hz
        refine hK.out _ _ ⟨hHeld.1, hHeld.2.1, hHeld.2.2⟩ (fun hHeld => ?_)
        clear hK K
        refine norm_ (a' := ?_) ?_ ?_
        rotate_left
        · show Act.put _ (some 29) _ = _
          simp only [Act.put, List.setIfInBounds_toArray, List.set_cons_zero, List.set_cons_succ, i64_w, i32_w]
          rfl
        exact norm_ (by simp only [putAll, Act.put, List.setIfInBounds_toArray, List.set_cons_zero, List.set_cons_succ]) (hCont (ad2, cap2) _ ⟨hHeld.1, hHeld.2.1, hHeld.2.2⟩)
  rintro sg_ w9 ⟨h1, h2, h3⟩
  have hHeld : w9.cell? ⟨ba, 0, none⟩ = some (.int .i64 5) ∧ w9.heap[ba]? = some (.cells #[.int .i64 5, .int .u64 a1, .int .u64 0, .int .i64 0, .int .i64 a4, .int .i64 0, .string ⟨#[]⟩] 24 (0, 0)) ∧ Below w.heap.size w w9 := ⟨h1, h2, h3⟩
  clear h1 h2 h3
  refine norm_ (a' := ?_) ?_ ?_
  rotate_left
  · simp only [putAll, Act.put, List.setIfInBounds_toArray, List.set_cons_zero, List.set_cons_succ]
    rfl
  refine pure_ (i := 18) (N := some 35) (v := ?_) (a' := ?_) #[true, true, true, true, true, true, true, true, true, true, true, true, true, true, true, true, true, true, true, false] rfl rfl (by kernel_rfl) (fun _ _ _ h => h) (Or.inl ⟨by rfl, ?_⟩) ?_ ?_
  rotate_left
  · intro w'
    go_simp
    with_reducible rfl
  rotate_left
  · simp only [Act.put, List.setIfInBounds_toArray, List.set_cons_zero, List.set_cons_succ, i64_w, i32_w]
    rfl
  refine pure_ (i := 19) (N := some 36) (v := ?_) (a' := ?_) #[true, true, true, true, true, true, true, true, true, true, true, true, true, true, true, true, true, true, true, true] rfl rfl (by kernel_rfl) (fun _ _ _ h => h) (Or.inl ⟨by rfl, ?_⟩) ?_ ?_
  rotate_left
  · intro w'
    go_simp
    with_reducible rfl
  rotate_left
  · simp only [Act.put, List.setIfInBounds_toArray, List.set_cons_zero, List.set_cons_succ, i64_w, i32_w]
    rfl
  refine done_ (by kernel_rfl) ?_
  have XB := Aside0.mk hHeld.2.1
  have DD := Aside0.mk hHeld.2.2
  clear hHeld XAd XA0 DDr
  have x0 := (blk_cell XB.out 0).trans (show _ = some (.int .i64 5) from rfl)
  have x1 := (blk_cell XB.out 1).trans (show _ = some (.int .u64 a1) from rfl)
  have x2 := (blk_cell XB.out 2).trans (show _ = some (.int .u64 0) from rfl)
  have x3 := (blk_cell XB.out 3).trans (show _ = some (.int .i64 0) from rfl)
  have x4 := (blk_cell XB.out 4).trans (show _ = some (.int .i64 a4) from rfl)
  have x5 := (blk_cell XB.out 5).trans (show _ = some (.int .i64 0) from rfl)
  have x6 := (blk_cell XB.out 6).trans (show _ = some (.string ⟨#[]⟩) from rfl)
  go_wp2
  go_ret
  exact ⟨rfl, DD.out⟩
set_option maxRecDepth 100000 in
set_option maxHeartbeats 8000000 in
theorem kinds_6 (a1 a4 a5 : Int) (a6 : List UInt8) (s : ByteArray) (hs : s.size ≤ 281474976710656) (w : World) (ht : Tens w) (he : Errs w) (hy : callP s.data.toList = some ⟨6, a1, 0, 0, a4, a5, a6⟩) (hwd : (cut1 32 s.data.toList).1 = [115, 101, 110, 100]) :
    Calls Tryd.prog 7 #[.string s] w fun e w' => e = .returned (.bool true) ∧ Below w.heap.size w w' := by
  have WX := Aside0.mk (fun w1 => words2_x s hs w1)
  rw [hwd] at WX
  have KX := Aside0.mk (fun w1 => kinds_x 6 (by decide) ⟨#[115, 101, 110, 100]⟩ rfl w1)
  have PX : Aside0 (∀ w1 : World, Tens w1 → Errs w1 → Calls Tryd.prog 8 #[.string s] w1 fun e w' => e = .returned (.tuple #[.agg #[.int .i64 6, .int .u64 a1, .int .u64 0, .int .i64 0, .int .i64 a4, .int .i64 a5, .string ⟨a6.toArray⟩], .int .i64 0]) ∧ Below w1.heap.size w1 w') := ⟨fun w1 h1 h2 => parse_some s.data.toList w1 (by rw [Array.length_toList]; exact hs) h1 h2 _ hy⟩
  have HT := Aside0.mk ht
  have HE := Aside0.mk he
  have D0 := Aside0.mk (Below.refl w.heap.size w)
  clear ht he hs hy hwd
  go_enter Tryd.func7, Tryd.ntmps7
  go_wp2_with fail
  refine (PX.out _ (HT.out.below D0.out) (HE.out.below D0.out)).mono ?_
  rintro e w1 ⟨rfl, hb⟩
  have D1 := Aside0.mk (below_then D0.out D0.out.size hb)
  clear hb D0
  have XA := Aside0.mk (blk_new w1 (.cells #[.int .i64 6, .int .u64 a1, .int .u64 0, .int .i64 0, .int .i64 a4, .int .i64 a5, .string ⟨a6.toArray⟩] 24))
  have E1 := Aside0.mk (below_alloc D1.out (.cells #[.int .i64 6, .int .u64 a1, .int .u64 0, .int .i64 0, .int .i64 a4, .int .i64 a5, .string ⟨a6.toArray⟩] 24))
  obtain ⟨ba, hba⟩ : ∃ ba, ba = w1.heap.size := ⟨_, rfl⟩
  rw [← hba] at XA
  clear D1
  go_wp2_with fail
  rw [← hba]
  clear hba
  generalize w1.alloc (.cells #[.int .i64 6, .int .u64 a1, .int .u64 0, .int .i64 0, .int .i64 a4, .int .i64 a5, .string ⟨a6.toArray⟩] 24) = v1 at XA E1 ⊢
  refine (fixed_q _ (HT.out.below E1.out) (HE.out.below E1.out)).mono ?_
  rintro e w2 ⟨rfl, hb⟩
  replace XA := Aside0.mk ((hb.block _ (blk_lt XA.out)).trans XA.out)
  have D2 := Aside0.mk (below_then E1.out E1.out.size hb)
  clear hb E1
  go_wp2_with fail
  have XAd : w2.drew.heap[ba]? = some (.cells #[.int .i64 6, .int .u64 a1, .int .u64 0, .int .i64 0, .int .i64 a4, .int .i64 a5, .string ⟨a6.toArray⟩] 24 (0, 0)) := XA.out
  have XA0 : w2.drew.cell? ⟨ba, 0, none⟩ = some (.int .i64 6) := (blk_cell XA.out 0).trans rfl
  have DDr := below_drew D2.out
  clear XA D2
  refine start_ (n := 20) (S := fun w' => w'.cell? ⟨ba, 0, none⟩ = some (.int .i64 6) ∧ w'.heap[ba]? = some (.cells #[.int .i64 6, .int .u64 a1, .int .u64 0, .int .i64 0, .int .i64 a4, .int .i64 a5, .string ⟨a6.toArray⟩] 24 (0, 0)) ∧ Below w.heap.size w w') (ds := []) #[false, false, false, false, false, false, false, false, false, false, false, false, false, false, false, false, false, false, false, false] (by kernel_rfl) rfl rfl ⟨XA0, XAd, DDr⟩ (fun hHeld => ?_)
  refine pure_ (i := 0) (N := some 17) (v := ?_) (a' := ?_) #[true, false, false, false, false, false, false, false, false, false, false, false, false, false, false, false, false, false, false, false] rfl rfl (by kernel_rfl) (fun _ _ _ h => h) (Or.inl ⟨by rfl, ?_⟩) ?_ ?_
  rotate_left
  · intro w'
    go_simp
    with_reducible rfl
  rotate_left
  · simp only [Act.put, List.setIfInBounds_toArray, List.set_cons_zero, List.set_cons_succ, i64_w, i32_w]
    rfl
  refine take_ (i := 1) (N := some 18) (v := ?_) (a' := ?_) #[true, true, false, false, false, false, false, false, false, false, false, false, false, false, false, false, false, false, false, false] rfl rfl (by kernel_rfl) (fun _ _ _ h => h) (Or.inl ⟨by rfl, ?_⟩) hHeld ?_ ?_
  rotate_left
  · rintro w' ⟨s0, s1, s2⟩
    go_simp
    with_reducible rfl
  rotate_left
  · simp only [Act.put, List.setIfInBounds_toArray, List.set_cons_zero, List.set_cons_succ, i64_w, i32_w]
    rfl
  refine pure_ (i := 2) (N := some 19) (v := ?_) (a' := ?_) #[true, true, true, false, false, false, false, false, false, false, false, false, false, false, false, false, false, false, false, false] rfl rfl (by kernel_rfl) (fun _ _ _ h => h) (Or.inl ⟨by rfl, ?_⟩) ?_ ?_
  rotate_left
  · intro w'
    go_simp
    with_reducible rfl
  rotate_left
  · simp only [Act.put, List.setIfInBounds_toArray, List.set_cons_zero, List.set_cons_succ, i64_w, i32_w]
    rfl
  refine pure_ (i := 3) (N := some 20) (v := ?_) (a' := ?_) #[true, true, true, true, false, false, false, false, false, false, false, false, false, false, false, false, false, false, false, false] rfl rfl (by kernel_rfl) (fun _ _ _ h => h) (Or.inl ⟨by rfl, ?_⟩) ?_ ?_
  rotate_left
  · intro w'
    go_simp
    with_reducible rfl
  rotate_left
  · simp only [Act.put, List.setIfInBounds_toArray, List.set_cons_zero, List.set_cons_succ, i64_w, i32_w]
    rfl
  refine pure_ (i := 4) (N := some 21) (v := ?_) (a' := ?_) #[true, true, true, true, true, false, false, false, false, false, false, false, false, false, false, false, false, false, false, false] rfl rfl (by kernel_rfl) (fun _ _ _ h => h) (Or.inl ⟨by rfl, ?_⟩) ?_ ?_
  rotate_left
  · intro w'
    go_simp
    with_reducible rfl
  rotate_left
  · simp only [Act.put, List.setIfInBounds_toArray, List.set_cons_zero, List.set_cons_succ, i64_w, i32_w]
    rfl
  refine take_ (i := 5) (N := some 22) (v := ?_) (a' := ?_) #[true, true, true, true, true, true, false, false, false, false, false, false, false, false, false, false, false, false, false, false] rfl rfl (by kernel_rfl) (fun _ _ _ h => h) (Or.inl ⟨by rfl, ?_⟩) hHeld ?_ ?_
  rotate_left
  · rintro w' ⟨s0, s1, s2⟩
    go_simp
    with_reducible rfl
  rotate_left
  · simp only [Act.put, List.setIfInBounds_toArray, List.set_cons_zero, List.set_cons_succ, i64_w, i32_w]
    rfl
  refine pure_ (i := 6) (N := some 23) (v := ?_) (a' := ?_) #[true, true, true, true, true, true, true, false, false, false, false, false, false, false, false, false, false, false, false, false] rfl rfl (by kernel_rfl) (fun _ _ _ h => h) (Or.inl ⟨by rfl, ?_⟩) ?_ ?_
  rotate_left
  · intro w'
    go_simp
    with_reducible rfl
  rotate_left
  · simp only [Act.put, List.setIfInBounds_toArray, List.set_cons_zero, List.set_cons_succ, i64_w, i32_w]
    rfl
  refine pure_ (i := 7) (N := some 24) (v := ?_) (a' := ?_) #[true, true, true, true, true, true, true, true, false, false, false, false, false, false, false, false, false, false, false, false] rfl rfl (by kernel_rfl) (fun _ _ _ h => h) (Or.inl ⟨by rfl, ?_⟩) ?_ ?_
  rotate_left
  · intro w'
    go_simp
    with_reducible rfl
  rotate_left
  · simp only [Act.put, List.setIfInBounds_toArray, List.set_cons_zero, List.set_cons_succ, i64_w, i32_w]
    rfl
  refine pure_ (i := 8) (N := some 25) (v := ?_) (a' := ?_) #[true, true, true, true, true, true, true, true, true, false, false, false, false, false, false, false, false, false, false, false] rfl rfl (by kernel_rfl) (fun _ _ _ h => h) (Or.inl ⟨by rfl, ?_⟩) ?_ ?_
  rotate_left
  · intro w'
    go_simp
    with_reducible rfl
  rotate_left
  · simp only [Act.put, List.setIfInBounds_toArray, List.set_cons_zero, List.set_cons_succ, i64_w, i32_w]
    rfl
  refine pure_ (i := 9) (N := some 26) (v := ?_) (a' := ?_) #[true, true, true, true, true, true, true, true, true, true, false, false, false, false, false, false, false, false, false, false] rfl rfl (by kernel_rfl) (fun _ _ _ h => h) (Or.inl ⟨by rfl, ?_⟩) ?_ ?_
  rotate_left
  · intro w'
    go_simp
    with_reducible rfl
  rotate_left
  · simp only [Act.put, List.setIfInBounds_toArray, List.set_cons_zero, List.set_cons_succ, i64_w, i32_w]
    rfl
  refine pure_ (i := 14) (N := some 31) (v := ?_) (a' := ?_) #[true, true, true, true, true, true, true, true, true, true, false, false, false, false, true, false, false, false, false, false] rfl rfl (by kernel_rfl) (fun _ _ _ h => h) (Or.inl ⟨by rfl, ?_⟩) ?_ ?_
  rotate_left
  · intro w'
    go_simp
    with_reducible rfl
  rotate_left
  · simp only [Act.put, List.setIfInBounds_toArray, List.set_cons_zero, List.set_cons_succ, i64_w, i32_w]
    rfl
  refine take_ (i := 15) (N := some 32) (v := ?_) (a' := ?_) #[true, true, true, true, true, true, true, true, true, true, false, false, false, false, true, true, false, false, false, false] rfl rfl (by kernel_rfl) (fun _ _ _ h => h) (Or.inl ⟨by rfl, ?_⟩) hHeld ?_ ?_
  rotate_left
  · rintro w' ⟨s0, s1, s2⟩
    go_simp
    with_reducible rfl
  rotate_left
  · simp only [Act.put, List.setIfInBounds_toArray, List.set_cons_zero, List.set_cons_succ, i64_w, i32_w]
    rfl
  refine one_ (i := 10) (N := some 27) #[true, true, true, true, true, true, true, true, true, true, true, false, false, false, true, true, false, false, false, false] rfl rfl (by kernel_rfl) (by decide) (fun K hK => ?_)
  refine goes_ Tryd.func15 (by kernel_rfl) rfl #[.string s, .int .i64 2] (by rfl) rfl rfl (by simp only [List.map_toArray, List.map_cons, List.map_nil]; rfl) ?_
  with_reducible refine (WX.out _).mono ?_
  rintro e w5 ⟨ad1, n1, cap1, rfl, hn1, hx1, hb⟩
  refine ⟨_, rfl, ?_⟩
  have HX1 := Aside0.mk hx1
  have hn2 : (0 : Int) < (n1 : Int) := by omega
  clear hx1
  refine hK.out _ _ ⟨pw_cell_below hb (hHeld.1), (hb.block _ (blk_lt (hHeld.2.1))).trans (hHeld.2.1), below_then (hHeld.2.2) (hHeld.2.2).size hb⟩ (fun hHeld => ?_)
  clear hK K
  refine norm_ (a' := ?_) ?_ ?_
  rotate_left
  · show Act.put _ (some 27) _ = _
    simp only [Act.put, List.setIfInBounds_toArray, List.set_cons_zero, List.set_cons_succ, i64_w, i32_w]
    rfl
  refine pure_ (i := 11) (N := some 28) (v := ?_) (a' := ?_) #[true, true, true, true, true, true, true, true, true, true, true, true, false, false, true, true, false, false, false, false] rfl rfl (by kernel_rfl) (fun _ _ _ h => h) (Or.inl ⟨by rfl, ?_⟩) ?_ ?_
  rotate_left
  · intro w'
    go_simp
    with_reducible rfl
  rotate_left
  · simp only [Act.put, List.setIfInBounds_toArray, List.set_cons_zero, List.set_cons_succ, i64_w, i32_w]
    rfl
  refine join_ (σ := Addr × Nat) 2 #[true, true, true, true, true, true, true, true, true, true, true, true, true, true, true, true, true, true, false, false] (fun sg_ => [(29, .string ⟨#[115, 101, 110, 100]⟩), (30, .slice (some sg_.1) 7 sg_.2), (33, .pointer (some ⟨sg_.1.block, sg_.1.off + 6, none⟩)), (34, .string ⟨#[115, 101, 110, 100]⟩)]) (fun sg_ w' => w'.cell? ⟨ba, 0, none⟩ = some (.int .i64 6) ∧ w'.heap[ba]? = some (.cells #[.int .i64 6, .int .u64 a1, .int .u64 0, .int .i64 0, .int .i64 a4, .int .i64 a5, .string ⟨a6.toArray⟩] 24 (0, 0)) ∧ Below w.heap.size w w') ?_ ?_
  rotate_left
  · intro hCont
    refine two_ (i := 12) (j := 13) (Ni := some 29) (Nj := some 30) #[true, true, true, true, true, true, true, true, true, true, true, true, true, false, true, true, false, false, false, false] #[true, true, true, true, true, true, true, true, true, true, true, true, false, true, true, true, false, false, false, false] rfl rfl rfl rfl (by kernel_rfl) (by decide) (by decide) (fun K hK => ?_) (fun K hK => ?_)
    · skip
      have hz := HX1.out
      refine value_ (w1 := ?_) (v := ?_) (by rfl) rfl ?_ ?_
      rotate_left 2
      · go_simp
        constructor
        · rfl
        · rfl
      clear hz
      refine hK.out _ _ ⟨hHeld.1, hHeld.2.1, hHeld.2.2⟩ (fun hHeld => ?_)
      clear hK K
      refine norm_ (a' := ?_) ?_ ?_
      rotate_left
      · show Act.put _ (some 29) _ = _
        simp only [Act.put, List.setIfInBounds_toArray, List.set_cons_zero, List.set_cons_succ, i64_w, i32_w]
        rfl
      refine one_ (i := 13) (N := some 30) #[true, true, true, true, true, true, true, true, true, true, true, true, true, true, true, true, false, false, false, false] rfl rfl (by kernel_rfl) (by decide) (fun K hK => ?_)
      refine goes_ Tryd.func16 (by kernel_rfl) rfl #[] (by rfl) rfl rfl (by simp only [List.map_toArray, List.map_cons, List.map_nil]) ?_
      with_reducible refine (KX.out _).mono ?_
      rintro e w6 ⟨ad2, cap2, rfl, hx2, hb⟩
      refine ⟨_, rfl, ?_⟩
      have HX2 := Aside0.mk hx2
      replace HX1 := Aside0.mk (pw_cell_below hb HX1.out)
      clear hx2
      refine hK.out _ _ ⟨pw_cell_below hb (hHeld.1), (hb.block _ (blk_lt (hHeld.2.1))).trans (hHeld.2.1), below_then (hHeld.2.2) (hHeld.2.2).size hb⟩ (fun hHeld => ?_)
      clear hK K
      refine norm_ (a' := ?_) ?_ ?_
      rotate_left
      · show Act.put _ (some 30) _ = _
        simp only [Act.put, List.setIfInBounds_toArray, List.set_cons_zero, List.set_cons_succ, i64_w, i32_w]
        rfl
      refine pure_ (i := 16) (N := some 33) (v := ?_) (a' := ?_) #[true, true, true, true, true, true, true, true, true, true, true, true, true, true, true, true, true, false, false, false] rfl rfl (by kernel_rfl) (fun _ _ _ h => h) (Or.inl ⟨by rfl, ?_⟩) ?_ ?_
      rotate_left
      · intro w'
        go_simp
        with_reducible rfl
      rotate_left
      · simp only [Act.put, List.setIfInBounds_toArray, List.set_cons_zero, List.set_cons_succ, i64_w, i32_w]
        rfl
      refine one_ (i := 17) (N := some 34) #[true, true, true, true, true, true, true, true, true, true, true, true, true, true, true, true, true, true, false, false] rfl rfl (by kernel_rfl) (by decide) (fun K hK => ?_)
      have hz : w6.cell? ⟨ad2.block, ad2.off + 6, none⟩ = some (.string ⟨#[115, 101, 110, 100]⟩) := HX2.out
      refine value_ (w1 := ?_) (v := ?_) (by rfl) rfl ?_ ?_
      rotate_left 2
      · go_simp
        constructor
        · rfl
        · rfl
      clear hz
      refine hK.out _ _ ⟨hHeld.1, hHeld.2.1, hHeld.2.2⟩ (fun hHeld => ?_)
      clear hK K
      refine norm_ (a' := ?_) ?_ ?_
      rotate_left
      · show Act.put _ (some 34) _ = _
        simp only [Act.put, List.setIfInBounds_toArray, List.set_cons_zero, List.set_cons_succ, i64_w, i32_w]
        rfl
      exact norm_ (by simp only [putAll, Act.put, List.setIfInBounds_toArray, List.set_cons_zero, List.set_cons_succ]) (hCont (ad2, cap2) _ ⟨hHeld.1, hHeld.2.1, hHeld.2.2⟩)
    · skip
      refine goes_ Tryd.func16 (by kernel_rfl) rfl #[] (by rfl) rfl rfl (by simp only [List.map_toArray, List.map_cons, List.map_nil]) ?_
      with_reducible refine (KX.out _).mono ?_
      rintro e w6 ⟨ad2, cap2, rfl, hx2, hb⟩
      refine ⟨_, rfl, ?_⟩
      have HX2 := Aside0.mk hx2
      replace HX1 := Aside0.mk (pw_cell_below hb HX1.out)
      clear hx2
      refine hK.out _ _ ⟨pw_cell_below hb (hHeld.1), (hb.block _ (blk_lt (hHeld.2.1))).trans (hHeld.2.1), below_then (hHeld.2.2) (hHeld.2.2).size hb⟩ (fun hHeld => ?_)
      clear hK K
      refine norm_ (a' := ?_) ?_ ?_
      rotate_left
      · show Act.put _ (some 30) _ = _
        simp only [Act.put, List.setIfInBounds_toArray, List.set_cons_zero, List.set_cons_succ, i64_w, i32_w]
        rfl
      refine pure_ (i := 16) (N := some 33) (v := ?_) (a' := ?_) #[true, true, true, true, true, true, true, true, true, true, true, true, false, true, true, true, true, false, false, false] rfl rfl (by kernel_rfl) (fun _ _ _ h => h) (Or.inl ⟨by rfl, ?_⟩) ?_ ?_
      rotate_left
      · intro w'
        go_simp
        with_reducible rfl
      rotate_left
      · simp only [Act.put, List.setIfInBounds_toArray, List.set_cons_zero, List.set_cons_succ, i64_w, i32_w]
        rfl
      refine two_ (i := 12) (j := 17) (Ni := some 29) (Nj := some 34) #[true, true, true, true, true, true, true, true, true, true, true, true, true, true, true, true, true, false, false, false] #[true, true, true, true, true, true, true, true, true, true, true, true, false, true, true, true, true, true, false, false] rfl rfl rfl rfl (by kernel_rfl) (by decide) (by decide) (fun K hK => ?_) (fun K hK => ?_)
      · skip
        have hz := HX1.out
        refine value_ (w1 := ?_) (v := ?_) (by rfl) rfl ?_ ?_
        rotate_left 2
        · go_simp
          constructor
          · rfl
          · rfl
        clear hz
        refine hK.out _ _ ⟨hHeld.1, hHeld.2.1, hHeld.2.2⟩ (fun hHeld => ?_)
        clear hK K
        refine norm_ (a' := ?_) ?_ ?_
        rotate_left
        · show Act.put _ (some 29) _ = _
          simp only [Act.put, List.setIfInBounds_toArray, List.set_cons_zero, List.set_cons_succ, i64_w, i32_w]
          rfl
        refine one_ (i := 17) (N := some 34) #[true, true, true, true, true, true, true, true, true, true, true, true, true, true, true, true, true, true, false, false] rfl rfl (by kernel_rfl) (by decide) (fun K hK => ?_)
        have hz : w6.cell? ⟨ad2.block, ad2.off + 6, none⟩ = some (.string ⟨#[115, 101, 110, 100]⟩) := HX2.out
        refine value_ (w1 := ?_) (v := ?_) (by rfl) rfl ?_ ?_
        rotate_left 2
        · go_simp
          constructor
          · rfl
          · rfl
        clear hz
        refine hK.out _ _ ⟨hHeld.1, hHeld.2.1, hHeld.2.2⟩ (fun hHeld => ?_)
        clear hK K
        refine norm_ (a' := ?_) ?_ ?_
        rotate_left
        · show Act.put _ (some 34) _ = _
          simp only [Act.put, List.setIfInBounds_toArray, List.set_cons_zero, List.set_cons_succ, i64_w, i32_w]
          rfl
        exact norm_ (by simp only [putAll, Act.put, List.setIfInBounds_toArray, List.set_cons_zero, List.set_cons_succ]) (hCont (ad2, cap2) _ ⟨hHeld.1, hHeld.2.1, hHeld.2.2⟩)
      · skip
        have hz : w6.cell? ⟨ad2.block, ad2.off + 6, none⟩ = some (.string ⟨#[115, 101, 110, 100]⟩) := HX2.out
        refine value_ (w1 := ?_) (v := ?_) (by rfl) rfl ?_ ?_
        rotate_left 2
        · go_simp
          constructor
          · rfl
          · rfl
        clear hz
        refine hK.out _ _ ⟨hHeld.1, hHeld.2.1, hHeld.2.2⟩ (fun hHeld => ?_)
        clear hK K
        refine norm_ (a' := ?_) ?_ ?_
        rotate_left
        · show Act.put _ (some 34) _ = _
          simp only [Act.put, List.setIfInBounds_toArray, List.set_cons_zero, List.set_cons_succ, i64_w, i32_w]
          rfl
        refine one_ (i := 12) (N := some 29) #[true, true, true, true, true, true, true, true, true, true, true, true, true, true, true, true, true, true, false, false] rfl rfl (by kernel_rfl) (by decide) (fun K hK => ?_)
        have hz := HX1.out
        refine value_ (w1 := ?_) (v := ?_) (by rfl) rfl ?_ ?_
        rotate_left 2
        · go_simp
          constructor
          · rfl
          · rfl
        clear hz
        refine hK.out _ _ ⟨hHeld.1, hHeld.2.1, hHeld.2.2⟩ (fun hHeld => ?_)
        clear hK K
        refine norm_ (a' := ?_) ?_ ?_
        rotate_left
        · show Act.put _ (some 29) _ = _
          simp only [Act.put, List.setIfInBounds_toArray, List.set_cons_zero, List.set_cons_succ, i64_w, i32_w]
          rfl
        exact norm_ (by simp only [putAll, Act.put, List.setIfInBounds_toArray, List.set_cons_zero, List.set_cons_succ]) (hCont (ad2, cap2) _ ⟨hHeld.1, hHeld.2.1, hHeld.2.2⟩)
  rintro sg_ w9 ⟨h1, h2, h3⟩
  have hHeld : w9.cell? ⟨ba, 0, none⟩ = some (.int .i64 6) ∧ w9.heap[ba]? = some (.cells #[.int .i64 6, .int .u64 a1, .int .u64 0, .int .i64 0, .int .i64 a4, .int .i64 a5, .string ⟨a6.toArray⟩] 24 (0, 0)) ∧ Below w.heap.size w w9 := ⟨h1, h2, h3⟩
  clear h1 h2 h3
  refine norm_ (a' := ?_) ?_ ?_
  rotate_left
  · simp only [putAll, Act.put, List.setIfInBounds_toArray, List.set_cons_zero, List.set_cons_succ]
    rfl
  refine pure_ (i := 18) (N := some 35) (v := ?_) (a' := ?_) #[true, true, true, true, true, true, true, true, true, true, true, true, true, true, true, true, true, true, true, false] rfl rfl (by kernel_rfl) (fun _ _ _ h => h) (Or.inl ⟨by rfl, ?_⟩) ?_ ?_
  rotate_left
  · intro w'
    go_simp
    with_reducible rfl
  rotate_left
  · simp only [Act.put, List.setIfInBounds_toArray, List.set_cons_zero, List.set_cons_succ, i64_w, i32_w]
    rfl
  refine pure_ (i := 19) (N := some 36) (v := ?_) (a' := ?_) #[true, true, true, true, true, true, true, true, true, true, true, true, true, true, true, true, true, true, true, true] rfl rfl (by kernel_rfl) (fun _ _ _ h => h) (Or.inl ⟨by rfl, ?_⟩) ?_ ?_
  rotate_left
  · intro w'
    go_simp
    with_reducible rfl
  rotate_left
  · simp only [Act.put, List.setIfInBounds_toArray, List.set_cons_zero, List.set_cons_succ, i64_w, i32_w]
    rfl
  refine done_ (by kernel_rfl) ?_
  have XB := Aside0.mk hHeld.2.1
  have DD := Aside0.mk hHeld.2.2
  clear hHeld XAd XA0 DDr
  have x0 := (blk_cell XB.out 0).trans (show _ = some (.int .i64 6) from rfl)
  have x1 := (blk_cell XB.out 1).trans (show _ = some (.int .u64 a1) from rfl)
  have x2 := (blk_cell XB.out 2).trans (show _ = some (.int .u64 0) from rfl)
  have x3 := (blk_cell XB.out 3).trans (show _ = some (.int .i64 0) from rfl)
  have x4 := (blk_cell XB.out 4).trans (show _ = some (.int .i64 a4) from rfl)
  have x5 := (blk_cell XB.out 5).trans (show _ = some (.int .i64 a5) from rfl)
  have x6 := (blk_cell XB.out 6).trans (show _ = some (.string ⟨a6.toArray⟩) from rfl)
  go_wp2
  go_ret
  exact ⟨rfl, DD.out⟩
theorem kinds_any (s : ByteArray) (hs : s.size ≤ 281474976710656) (w : World) (ht : Tens w) (he : Errs w) :
    Calls Tryd.prog 7 #[.string s] w fun e w' => e = .returned (.bool true) ∧ Below w.heap.size w w' := by
  cases hy : callP s.data.toList with
  | none => exact kinds_none s hs w ht he hy
  | some A =>
    obtain ⟨a0, a1, a2, a3, a4, a5, a6⟩ := A
    have h := said_of hy
    obtain ⟨_, hw, k0, k1, g2, g3, g4, g5, g6, _⟩ := h
    simp only at hw k0 k1 g2 g3 g4 g5 g6
    by_cases e0 : a0 = 0
    · subst e0
      obtain rfl : a3 = 0 := by omega
      obtain rfl : a2 = 0 := by omega
      obtain rfl : a4 = 0 := by omega
      obtain rfl : a1 = 0 := by omega
      obtain ⟨rfl, rfl⟩ : a5 = 0 ∧ a6 = [] := by rcases g5 with g5 | g5; omega; exact g5
      exact kinds_0  s hs w ht he hy hw
    by_cases e1 : a0 = 1
    · subst e1
      obtain rfl : a3 = 0 := by omega
      obtain rfl : a2 = 0 := by omega
      obtain rfl : a4 = 0 := by omega
      obtain ⟨rfl, rfl⟩ : a5 = 0 ∧ a6 = [] := by rcases g5 with g5 | g5; omega; exact g5
      exact kinds_1 a1 s hs w ht he hy hw
    by_cases e2 : a0 = 2
    · subst e2
      obtain rfl : a2 = 0 := by omega
      obtain rfl : a4 = 0 := by omega
      obtain ⟨rfl, rfl⟩ : a5 = 0 ∧ a6 = [] := by rcases g5 with g5 | g5; omega; exact g5
      exact kinds_2 a1 a3 s hs w ht he hy hw
    by_cases e3 : a0 = 3
    · subst e3
      obtain rfl : a3 = 0 := by omega
      obtain rfl : a4 = 0 := by omega
      obtain ⟨rfl, rfl⟩ : a5 = 0 ∧ a6 = [] := by rcases g5 with g5 | g5; omega; exact g5
      exact kinds_3 a1 a2 s hs w ht he hy hw
    by_cases e4 : a0 = 4
    · subst e4
      obtain rfl : a3 = 0 := by omega
      obtain rfl : a2 = 0 := by omega
      obtain ⟨rfl, rfl⟩ : a5 = 0 ∧ a6 = [] := by rcases g5 with g5 | g5; omega; exact g5
      exact kinds_4 a1 a4 s hs w ht he hy hw
    by_cases e5 : a0 = 5
    · subst e5
      obtain rfl : a3 = 0 := by omega
      obtain rfl : a2 = 0 := by omega
      obtain ⟨rfl, rfl⟩ : a5 = 0 ∧ a6 = [] := by rcases g5 with g5 | g5; omega; exact g5
      exact kinds_5 a1 a4 s hs w ht he hy hw
    by_cases e6 : a0 = 6
    · subst e6
      obtain rfl : a3 = 0 := by omega
      obtain rfl : a2 = 0 := by omega
      exact kinds_6 a1 a4 a5 a6 s hs w ht he hy hw
    omega
end Go.Proofs.YtljgmbpfeajmhaaDoor
