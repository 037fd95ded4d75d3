/- The ring's Drop: what it answers and leaves. -/
import Derived.Test.YtmdmoedakmoibaaPeek
namespace Go.Proofs.Ytmdmoedakmoibaa.P
open Go.RowKit Go.Proofs.YtmdmoedakmoibaaW.PrintWords Go.Proofs.YtmdmoedakmoibaaW.PrintLast Go.Proofs.YtmdmoedakmoibaaW.PrintMore
set_option linter.unusedVariables false
set_option linter.unusedSimpArgs false

/-- What stands at place j of the ring. -/
def At (E : List S31) (head room j : Nat) : S31 := E.getD ((head + j) % room) z31
/-- What is not of a session. -/
def filt (s : Int) (q : List S31) : List S31 := q.filter fun e => e.f3 != s
theorem filt_le (s : Int) (q : List S31) : (filt s q).length ≤ q.length := List.length_filter_le _ _
theorem filt_snoc (s : Int) (q : List S31) (x : S31) : filt s (q ++ [x]) = if x.f3 = s then filt s q else filt s q ++ [x] := by
  unfold filt
  rw [List.filter_append]
  by_cases h : x.f3 = s <;> simp [h]
theorem mod_ne {head room i j : Nat} (hi : i < room) (hj : j < room) (h : i ≠ j) : (head + i) % room ≠ (head + j) % room := by
  intro e
  rcases Nat.lt_or_gt_of_ne h with hlt | hlt
  · have := Nat.sub_mod_eq_zero_of_mod_eq e.symm
    rw [show head + j - (head + i) = j - i by omega, Nat.mod_eq_of_lt (by omega)] at this
    omega
  · have := Nat.sub_mod_eq_zero_of_mod_eq e
    rw [show head + i - (head + j) = i - j by omega, Nat.mod_eq_of_lt (by omega)] at this
    omega
theorem At_set_ne {E : List S31} {head room i j : Nat} (x : S31) (hi : i < room) (hj : j < room) (h : i ≠ j) : At (E.set ((head + i) % room) x) head room j = At E head room j := by
  unfold At
  rw [List.getD_eq_getElem?_getD, List.getD_eq_getElem?_getD, List.getElem?_set_ne (mod_ne hi hj h)]
theorem At_set {E : List S31} {head room i : Nat} (x : S31) (hE : E.length = room) (hi : i < room) : At (E.set ((head + i) % room) x) head room i = x := by
  unfold At
  rw [List.getD_eq_getElem?_getD, List.getElem?_set_self (by rw [hE]; exact Nat.mod_lt _ (by omega))]
  rfl
/-- Behind i rounds: what is kept stands first, what is to come stands where it stood. -/
structure Inv1 (q : List S31) (s : Int) (E : List S31) (head room i : Nat) : Prop where
  kept : ∀ j, j < (filt s (q.take i)).length → At E head room j = (filt s (q.take i)).getD j z31
  rest : ∀ j, i ≤ j → j < q.length → At E head room j = q.getD j z31
theorem take_succ' (q : List S31) (i : Nat) (h : i < q.length) : q.take (i + 1) = q.take i ++ [q.getD i z31] := by
  rw [List.take_succ_eq_append_getElem h, List.getD_eq_getElem?_getD, List.getElem?_eq_getElem h]
  rfl
theorem kept_le (q : List S31) (s : Int) (i : Nat) (h : i ≤ q.length) : (filt s (q.take i)).length ≤ i := by
  refine Nat.le_trans (filt_le _ _) ?_
  rw [List.length_take]; omega
theorem Inv1.keep {q : List S31} {s : Int} {E : List S31} {head room i : Nat} (h : Inv1 q s E head room i) (hE : E.length = room) (hq : q.length ≤ room) (hi : i < q.length) (hs : (q.getD i z31).f3 ≠ s) :
    Inv1 q s (E.set ((head + (filt s (q.take i)).length) % room) (q.getD i z31)) head room (i + 1) := by
  have hk := kept_le q s i (by omega)
  have e := filt_snoc s (q.take i) (q.getD i z31)
  rw [if_neg hs, ← take_succ' q i hi] at e
  refine ⟨fun j hj => ?_, fun j h1 h2 => ?_⟩
  · rw [e] at hj ⊢
    rw [List.length_append, List.length_singleton] at hj
    by_cases hjk : j = (filt s (q.take i)).length
    · subst hjk
      rw [At_set _ hE (by omega), List.getD_eq_getElem?_getD (l := filt s (List.take i q) ++ _), List.getElem?_append_right (Nat.le_refl _)]
      simp
    · rw [At_set_ne _ (by omega) (by omega) (fun e => hjk e.symm), h.kept j (by omega), List.getD_eq_getElem?_getD, List.getD_eq_getElem?_getD, List.getElem?_append_left (by omega)]
  · rw [At_set_ne _ (by omega) (by omega) (by omega), h.rest j (by omega) h2]
theorem Inv1.drop {q : List S31} {s : Int} {E : List S31} {head room i : Nat} (h : Inv1 q s E head room i) (hi : i < q.length) (hs : (q.getD i z31).f3 = s) : Inv1 q s E head room (i + 1) := by
  have e := filt_snoc s (q.take i) (q.getD i z31)
  rw [if_pos hs, ← take_succ' q i hi] at e
  exact ⟨fun j hj => by rw [e] at hj ⊢; exact h.kept j hj, fun j h1 h2 => h.rest j (by omega) h2⟩

set_option maxHeartbeats 6400000 in
theorem drop_any {w : World} {g B room cap head : Nat} {E0 : List S31} (q : List S31) (s : Int) (h : RingX w g B room cap head q.length E0) (hq : ∀ j, j < q.length → At E0 head room j = q.getD j z31) :
    Calls Try.prog 14 #[.pointer (some ⟨g, 0, none⟩), .int .u64 s] w fun e w' => ∃ E', e = .returned (.int .i64 ((q.length : Int) - (filt s q).length)) ∧ RingX w' g B room cap head (filt s q).length E' ∧ (∀ j, j < (filt s q).length → At E' head room j = (filt s q).getD j z31) ∧ Only w w' g B := by
  have hG := Aside0.mk h.lt
  have hBl := Aside0.mk h.Blt
  have h64 := h.roomLe
  have hqr := h.heldLe
  have k2 := h.c2
  have HR0 := Aside0.mk h
  have HI0 := Aside0.mk (⟨fun j hj => by simp [filt] at hj, fun j _ h2 => hq j h2⟩ : Inv1 q s E0 head room 0)
  clear h hq
  go_enter Try.func14, Try.ntmps14
  go_wp2
  clear k2
  go_loopw [5, 14] (fun kv iv wr => ∃ (i : Nat) (E : List S31), i ≤ q.length ∧ iv = .int .i64 i ∧ kv = .int .i64 ((filt s (q.take i)).length : Nat) ∧ Aside0 (RingX wr g B room cap head q.length E) ∧ Aside0 (Inv1 q s E head room i) ∧ Aside0 (Only w wr g B)) (fun _ iv _ => q.length - (intOf iv).toNat)
  case atStart => exact ⟨0, E0, Nat.zero_le _, rfl, rfl, HR0, HI0, ⟨Only.refl _ _ _⟩⟩
  case round =>
    obtain ⟨i, E, hi, rfl, rfl, HR, HI, HO⟩ := hrel
    have hkle := kept_le q s i hi
    obtain ⟨k, hk⟩ : ∃ k, (filt s (q.take i)).length = k := ⟨_, rfl⟩
    have HK := Aside0.mk hk
    rw [hk] at hkle
    rw [hk]
    clear hk
    by_cases hlt : i < q.length
    · have hpos : (head + i) % room < room := Nat.mod_lt _ (by omega)
      have hpos2 : (head + k) % room < room := Nat.mod_lt _ (by omega)
      go_wp2_with fail
      refine (at_any HR.out i (by omega) (by omega)).mono ?_
      rintro e w2 ⟨rfl, n2, rfl⟩
      have R2 := Aside0.mk (HR.out.drewN n2)
      have O2 := Aside0.mk (HO.out.drewN n2)
      generalize wr.drewN n2 = w2 at R2 O2
      have hel := el_cells R2.out _ hpos
      obtain ⟨x, hx⟩ : ∃ x, E.getD ((head + i) % room) z31 = x := ⟨_, rfl⟩
      have HXQ := Aside0.mk (show x = q.getD i z31 from hx.symm.trans (HI.out.rest i (Nat.le_refl _) hlt))
      rw [hx] at hel
      clear hx
      obtain ⟨p, hp⟩ : ∃ p, (head + i) % room = p := ⟨_, rfl⟩
      rw [hp] at hel
      rw [hp]
      clear hp hpos
      obtain ⟨y0, y1, y2, y3, y4, y5⟩ := hel
      by_cases hs : x.f3 = s
      · have hb : (x.f3 == s) = true := beq_iff_eq.mpr hs
        have hb2 : (x.f3 != s) = false := by rw [bne, hb]; rfl
        have HS := Aside0.mk hs
        clear hs
        have R3 := Aside0.mk (R2.out.alloc (.cells (ent x).toArray 31))
        have O3 := Aside0.mk (O2.out.alloc (.cells (ent x).toArray 31))
        go_wp2
        go_roundw
        case rel =>
          have hd : (q.getD i z31).f3 = s := by rw [← HXQ.out]; exact HS.out
          have e := filt_snoc s (q.take i) (q.getD i z31)
          rw [if_pos hd, ← take_succ' q i hlt] at e
          exact ⟨i + 1, E, by omega, by go_num, by rw [e, HK.out], R3, ⟨HI.out.drop hlt hd⟩, O3⟩
        case measure => simp [intOf]; omega
      · have hb : (x.f3 == s) = false := beq_eq_false_iff_ne.mpr hs
        have hb2 : (x.f3 != s) = true := by rw [bne, hb]; rfl
        have HS := Aside0.mk hs
        have R3 := R2.out.alloc (.cells (ent x).toArray 31)
        have O3 := O2.out.alloc (.cells (ent x).toArray 31)
        have X3 := Boxed.new w2 x
        clear hs
        go_wp2
        change Code.wp _ _ _ _ (w2.alloc (.cells (ent x).toArray 31))
        generalize w2.alloc (.cells (ent x).toArray 31) = W3 at R3 O3 X3
        obtain ⟨x0, x1, x2, x3, x4, x5⟩ := X3.cells
        clear y0 y1 y2 y3 y4 y5 X3
        refine start_ (n := 6) (S := fun w' => w'.cell? ⟨w2.heap.size, 0, none⟩ = some (.int .i64 x.f0) ∧ w'.cell? ⟨w2.heap.size, 1, none⟩ = some (.int .i64 x.f1) ∧ w'.cell? ⟨w2.heap.size, 2, none⟩ = some (.int .i64 x.f2) ∧ w'.cell? ⟨w2.heap.size, 3, none⟩ = some (.int .u64 x.f3) ∧ w'.cell? ⟨w2.heap.size, 4, none⟩ = some (.int .u64 x.f4) ∧ w'.cell? ⟨w2.heap.size, 5, none⟩ = some (.string x.f5) ∧ RingX w' g B room cap head q.length E ∧ Only w w' g B) (ds := [5]) #[false, false, false, false, false, false] (by kernel_rfl) rfl rfl ⟨x0, x1, x2, x3, x4, x5, R3.drew, O3.drew⟩ (fun hHeld => ?_)
        refine pure_ (i := 0) (N := some 26) (v := ?_) (a' := ?_) #[true, false, false, false, false, false] rfl rfl (by kernel_rfl) (fun _ _ _ h => h) (Or.inl ⟨by rfl, ?_⟩) ?_ ?_
        rotate_left
        · intro w'
          go_simp
          with_reducible rfl
        rotate_left
        · simp only [Act.put, List.setIfInBounds_toArray, List.set_cons_zero, List.set_cons_succ, i64_w, i32_w]
          rfl
        refine pure_ (i := 1) (N := some 27) (v := ?_) (a' := ?_) #[true, true, false, false, false, false] rfl rfl (by kernel_rfl) (fun _ _ _ h => h) (Or.inl ⟨by rfl, ?_⟩) ?_ ?_
        rotate_left
        · intro w'
          go_simp
          with_reducible rfl
        rotate_left
        · simp only [Act.put, List.setIfInBounds_toArray, List.set_cons_zero, List.set_cons_succ, i64_w, i32_w]
          rfl
        refine take_ (i := 3) (N := some 29) (v := ?_) (a' := ?_) #[true, true, false, true, false, false] rfl rfl (by kernel_rfl) (fun _ _ _ h => h) (Or.inl ⟨by rfl, ?_⟩) hHeld ?_ ?_
        rotate_left
        · rintro w' ⟨s0, s1, s2, s3, s4, s5, s6, s7⟩
          go_simp
          with_reducible rfl
        rotate_left
        · simp only [Act.put, List.setIfInBounds_toArray, List.set_cons_zero, List.set_cons_succ, i64_w, i32_w]
          rfl
        refine one_ (i := 2) (N := some 28) #[true, true, true, true, false, false] rfl rfl (by kernel_rfl) (by decide) (fun K hK => ?_)
        refine goes_ Try.func20 (by kernel_rfl) rfl #[.pointer (some ⟨g, 0, none⟩), .int .i64 k] (by rfl) rfl rfl (by simp only [List.map_toArray, List.map_cons, List.map_nil]; rfl) ?_
        with_reducible refine (at_any hHeld.2.2.2.2.2.2.1 k (by omega) (by omega)).mono ?_
        rintro e w3 ⟨rfl, n3, rfl⟩
        refine ⟨_, rfl, ?_⟩
        refine hK.out _ _ ⟨hHeld.1, hHeld.2.1, hHeld.2.2.1, hHeld.2.2.2.1, hHeld.2.2.2.2.1, hHeld.2.2.2.2.2.1, (hHeld.2.2.2.2.2.2.1).drewN n3, (hHeld.2.2.2.2.2.2.2).drewN n3⟩ (fun hHeld => ?_)
        clear hK K
        refine norm_ (a' := ?_) ?_ ?_
        rotate_left
        · show Act.put _ (some 28) _ = _
          simp only [Act.put, List.setIfInBounds_toArray, List.set_cons_zero, List.set_cons_succ, i64_w, i32_w]
          rfl
        refine pure_ (i := 4) (N := some 30) (v := ?_) (a' := ?_) #[true, true, true, true, true, false] rfl rfl (by kernel_rfl) (fun _ _ _ h => h) (Or.inl ⟨by rfl, ?_⟩) ?_ ?_
        rotate_left
        · intro w'
          go_simp
          with_reducible rfl
        rotate_left
        · simp only [Act.put, List.setIfInBounds_toArray, List.set_cons_zero, List.set_cons_succ, i64_w, i32_w]
          rfl
        refine last_ (i := 5) (N := none) #[true, true, true, true, true, true] rfl rfl (by kernel_rfl) (by decide) (fun K hK => ?_)
        refine skip_ (w1 := _) (by rfl) rfl (store_step rfl rfl rfl (store_el (x := x) (hHeld.2.2.2.2.2.2.1) _ hpos2).1) ?_
        refine hK.out _ _ ?_
        clear hK K
        refine done_ (by kernel_rfl) ?_
        have hst := store_el (R3.drew.drewN n3) _ hpos2 (x := x)
        have R5 := Aside0.mk hst.2.1
        have O5 := Aside0.mk ((O3.drew.drewN n3).trans hst.2.2)
        generalize (W3.drew.drewN n3).setCells B ((head + k) % room * 6) (ent x) = W5 at R5 O5
        clear hst x0 x1 x2 x3 x4 x5 R3 O3
        go_wp2
        go_roundw
        case rel =>
          have hd : (q.getD i z31).f3 ≠ s := by rw [← HXQ.out]; exact HS.out
          have e := filt_snoc s (q.take i) (q.getD i z31)
          rw [if_neg hd, ← take_succ' q i hlt] at e
          have HI2 := HI.out.keep R2.out.len hqr hlt hd
          rw [HK.out, ← HXQ.out] at HI2
          exact ⟨i + 1, _, by omega, by go_num, by rw [e, List.length_append, HK.out, List.length_singleton]; go_num, R5, ⟨HI2⟩, O5⟩
        case measure => simp [intOf]; omega
    · obtain rfl : i = q.length := by omega
      have k2 := HR.out.c2
      have HQ := Aside0.mk (show filt s (q.take q.length) = filt s q by rw [List.take_length])
      go_wp2
      clear k2
      have HJ0 := Aside0.mk (show ∀ j, j < k → At E head room j = (filt s q).getD j z31 from fun j hj => by
        have := HI.out.kept j (by rw [HK.out]; exact hj)
        rwa [HQ.out] at this)
      go_loopw [9] (fun iv wt => ∃ (i : Nat) (E : List S31), k ≤ i ∧ i ≤ q.length ∧ iv = .int .i64 i ∧ Aside0 (RingX wt g B room cap head q.length E) ∧ Aside0 (∀ j, j < k → At E head room j = (filt s q).getD j z31) ∧ Aside0 (Only w wt g B)) (fun iv _ => q.length - (intOf iv).toNat)
      case atStart => exact ⟨k, E, Nat.le_refl _, hkle, rfl, HR, HJ0, HO⟩
      case round =>
        clear HJ0 HR HO HI
        obtain ⟨i, E, hki, hiq, rfl, HR, HJ, HO⟩ := hrel
        have k2 := HR.out.c2
        by_cases hlt : i < q.length
        · have hpos : (head + i) % room < room := Nat.mod_lt _ (by omega)
          go_wp2_with fail
          refine (at_any HR.out i (by omega) (by omega)).mono ?_
          rintro e w2 ⟨rfl, n2, rfl⟩
          clear k2
          have R2 := Aside0.mk (HR.out.drewN n2)
          have O2 := Aside0.mk (HO.out.drewN n2)
          generalize wr.drewN n2 = w2 at R2 O2
          have hst := store_el R2.out _ hpos (x := z31)
          have R5 := Aside0.mk hst.2.1
          have O5 := Aside0.mk (O2.out.trans hst.2.2)
          have HST := Aside0.mk hst.1
          clear hst
          go_wp2_with (first | ((with_reducible refine gate_store (t := 31) (p := 53) rfl ?_); refine store_event (t := 31) (p := 53) (w1 := _) rfl rfl rfl (store_step rfl rfl rfl HST.out) ?_; intro w5 hw5; rw [← hw5] at R5 O5; clear hw5))
          go_roundw
          case rel => exact ⟨i + 1, _, by omega, by omega, by go_num, R5, ⟨fun j hj => by rw [At_set_ne _ (by omega) (by omega) (by omega)]; exact HJ.out j hj⟩, O5⟩
          case measure => simp [intOf]; omega
        · obtain rfl : i = q.length := by omega
          have hf2 := HR.out.fr 2
          go_wp2
          go_ret
          have R6 := HR.out.setHeld k (by omega)
          have e : k = (filt s q).length := by rw [← HK.out, HQ.out]
          refine ⟨E, by rw [← e]; rfl, by rw [← e]; exact R6, by rw [← e]; exact HJ.out, HO.out.setCell (.inl rfl) _⟩
end Go.Proofs.Ytmdmoedakmoibaa.P
