/- The walk of the law RingClears. -/
import Derived.Test.YtmdmoedakmoibaaDropsWalk
namespace Go.Proofs.Ytmdmoedakmoibaa.P
open Go.RowKit Go.Proofs.YtmdmoedakmoibaaW.PrintWords Go.Proofs.YtmdmoedakmoibaaW.PrintLast Go.Proofs.YtmdmoedakmoibaaW.PrintMore
attribute [local go_sem high] eqA31
set_option linter.unusedVariables false
set_option linter.unusedSimpArgs false

set_option maxHeartbeats 1600000 in
theorem clears_no (room : Int) (h : room < 0 ∨ 64 < room) (A1 A2 : Option Addr) (n1 c1 n2 c2 : Nat) (w : World) :
    Calls Try.prog 4 #[.int .i64 room, .slice A1 n1 c1, .slice A2 n2 c2] w fun e w' => e = .returned (.bool true) ∧ Below w.heap.size w w' := by
  have H := Aside0.mk h
  clear h
  go_enter Try.func4, Try.ntmps4
  go_wp2_with fail
  refine (new_no room H.out w).mono ?_
  rintro e w1 ⟨rfl, rfl⟩
  go_wp2_with fail
  refine (new_no room H.out w).mono ?_
  rintro e w1 ⟨rfl, rfl⟩
  go_wp2_with fail
  refine (fixed_q w).mono ?_
  rintro e w1 ⟨rfl, hb⟩
  have L1 := Aside0.mk hb
  clear hb
  go_wp2_with fail
  refine (fixed_q w1).mono ?_
  rintro e w2 ⟨rfl, hb⟩
  have L2 := Aside0.mk (below_then L1.out L1.out.size hb)
  clear hb
  go_wp2
  go_ret
  exact ⟨rfl, L2.out⟩
set_option maxHeartbeats 25600000 in
theorem clears_yes (room : Nat) (hroom : room ≤ 64) (A1 : Option Addr) (n1 c1 : Nat) (l1 : List S31) (A2 : Option Addr) (n2 c2 : Nat) (l2 : List S31) (w : World) (hr1 : Kd.C k31 w A1 n1 l1) (hm1 : n1 ≤ maxLen) (hr2 : Kd.C k31 w A2 n2 l2) (hm2 : n2 ≤ maxLen) :
    Calls Try.prog 4 #[.int .i64 room, .slice A1 n1 c1, .slice A2 n2 c2] w fun e w' => e = .returned (.bool true) ∧ Below w.heap.size w w' := by
  have HC1 := Aside0.mk hr1
  have HC2 := Aside0.mk hr2
  have hn1 : n1 ≤ 9223372036854775807 := hm1
  have hn2 : n2 ≤ 9223372036854775807 := hm2
  clear hr1 hr2 hm1 hm2
  go_enter Try.func4, Try.ntmps4
  go_wp2_with fail
  refine (new_q room hroom w).mono ?_
  rintro e w1 ⟨g, B, rfl, hg, hB, hR, hL⟩
  have HR := Aside0.mk hR
  have HL := Aside0.mk hL
  have Hg := Aside0.mk hg
  have HB := Aside0.mk hB
  clear hR hL hg hB
  go_wp2_with fail
  refine (new_q room hroom w1).mono ?_
  rintro e w2 ⟨g2, B2, rfl, hg, hB, hR, hL⟩
  have HF := Aside0.mk (show Far g B g2 B2 from by have := HR.out.lt; have := HR.out.Blt; exact ⟨by omega, by omega, by omega, by omega⟩)
  have HL2 := Aside0.mk (below_then HL.out HL.out.size hL)
  have HR1 := Aside0.mk (HR.out.below hL)
  have HR2 := Aside0.mk hR
  have Hg2 := Aside0.mk (Nat.le_trans HL.out.size hg)
  have HB2 := Aside0.mk (Nat.le_trans HL.out.size hB)
  clear hR hL hg hB HL HR
  go_wp2_with fail
  refine (fixed_q w2).mono ?_
  rintro e w3 ⟨rfl, hb⟩
  have L3 := Aside0.mk (below_then HL2.out HL2.out.size hb)
  have R3 := Aside0.mk (HR1.out.below hb)
  have S3 := Aside0.mk (HR2.out.below hb)
  clear hb HL2 HR1 HR2
  go_wp2
  go_loopw [11] (fun iv wr => ∃ (k : Nat) (q : List S31), k ≤ n1 ∧ k ≤ 100 ∧ iv = .int .i64 k ∧ Aside0 (RingQ wr g B room q) ∧ Aside0 (RingQ wr g2 B2 room []) ∧ Aside0 (Below w.heap.size w wr)) (fun iv _ => 100 - (intOf iv).toNat)
  case atStart => exact ⟨0, [], Nat.zero_le _, Nat.zero_le _, rfl, R3, S3, L3⟩
  case round =>
    clear R3 S3 L3
    obtain ⟨k, q, hkn, hk100, rfl, HR, HS, HL⟩ := hrel
    by_cases hlt : k < n1 ∧ k < 100
    · obtain ⟨hlt1, hlt2⟩ := hlt
      obtain ⟨ad, hA, y0, y1, y2, y3, y4, y5⟩ := rd_at (Kd.C_below HC1.out HL.out) k hlt1
      subst hA
      obtain ⟨x, hx⟩ : ∃ x, l1.getD k z31 = x := ⟨_, rfl⟩
      rw [hx] at y0 y1 y2 y3 y4 y5
      clear hx
      go_wp2_with fail
      refine (push_q HR.out x).mono ?_
      rintro e w4 ⟨rfl, hR, hO⟩
      have L4 := Aside0.mk (Only.step HL.out Hg.out HB.out hO)
      have S4 := Aside0.mk (HS.out.far hO HF.out.symm)
      have R4 := Aside0.mk hR
      obtain ⟨q4, hq4⟩ : ∃ q4, (if q.length < room then q ++ [x] else q) = q4 := ⟨_, rfl⟩
      rw [hq4] at R4
      clear hR hO HR HS HL y0 y1 y2 y3 y4 y5 hq4
      by_cases h3 : k % 3 = 1
      · have h3a : ((k : Int).tmod 3 == 1) = true := by
          rw [beq_iff_eq, Int.tmod_eq_emod_of_nonneg (by omega)]; omega
        have h3b : ((k : Int) % 3 == 1) = true := by rw [beq_iff_eq]; omega
        go_wp2_with fail
        refine (pop_q R4.out).mono ?_
        rintro e w5 ⟨rfl, hR, hO⟩
        have L5 := Aside0.mk (Only.step L4.out Hg.out HB.out hO)
        have S5 := Aside0.mk (S4.out.far hO HF.out.symm)
        have R5 := Aside0.mk hR
        clear hR hO R4 S4 L4
        go_wp2
        go_roundw
        case rel => exact ⟨k + 1, q4.tail, by omega, by omega, by go_num, R5, S5, L5⟩
        case measure => simp [intOf]; omega
      · have h3a : ((k : Int).tmod 3 == 1) = false := by
          rw [beq_eq_false_iff_ne, Int.tmod_eq_emod_of_nonneg (by omega)]; omega
        have h3b : ((k : Int) % 3 == 1) = false := by rw [beq_eq_false_iff_ne]; omega
        go_wp2
        go_roundw
        case rel => exact ⟨k + 1, q4, by omega, by omega, by go_num, R4, S4, L4⟩
        case measure => simp [intOf]; omega
    · by_cases h1 : k < n1
      all_goals
        go_wp2_with fail
        refine (clear_q HR.out).mono ?_
        rintro e w4 ⟨rfl, hR, hO⟩
        have L4 := Aside0.mk (Only.step HL.out Hg.out HB.out hO)
        have S4 := Aside0.mk (HS.out.far hO HF.out.symm)
        have R4 := Aside0.mk hR
        clear hR hO HR HS HL
        go_wp2_with fail
        refine (many_q R4.out).mono ?_
        rintro e w5 ⟨rfl, n5, rfl⟩
        have R5 := Aside0.mk (R4.out.drewN n5)
        have S5 := Aside0.mk (S4.out.drewN n5)
        have L5 := Aside0.mk (pw_below_drewN L4.out n5)
        clear R4 S4 L4
        generalize w4.drewN n5 = w5 at R5 S5 L5
        go_wp2_with fail
        refine (room_q R5.out).mono ?_
        rintro e w6 ⟨rfl, n6, rfl⟩
        have R6 := Aside0.mk (R5.out.drewN n6)
        have S6 := Aside0.mk (S5.out.drewN n6)
        have L6 := Aside0.mk (pw_below_drewN L5.out n6)
        clear R5 S5 L5
        generalize w5.drewN n6 = w6 at R6 S6 L6
        go_wp2
        go_loopw [12] (fun iv wt => ∃ (i : Nat) (q : List S31), i ≤ n2 ∧ i ≤ 100 ∧ iv = .int .i64 i ∧ Aside0 (RingQ wt g B room q) ∧ Aside0 (RingQ wt g2 B2 room q) ∧ Aside0 (Below w.heap.size w wt)) (fun iv _ => 100 - (intOf iv).toNat)
        case atStart => exact ⟨0, [], Nat.zero_le _, Nat.zero_le _, rfl, R6, S6, L6⟩
        case round =>
          clear R6 S6 L6
          obtain ⟨i, q, hin, hi100, rfl, HR, HS, HL⟩ := hrel
          by_cases hlt2 : i < n2 ∧ i < 100
          · obtain ⟨hlt3, hlt4⟩ := hlt2
            obtain ⟨x, hx⟩ : ∃ x, l2.getD i z31 = x := ⟨_, rfl⟩
            obtain ⟨ad, hA, _⟩ := rd_at (Kd.C_below HC2.out HL.out) i hlt3
            subst hA
            have hcell : ∀ W', Below w.heap.size w W' → W'.cell? (ad.add (i * 6)) = some (.int .i64 x.f0) ∧ W'.cell? ⟨(ad.add (i * 6)).block, (ad.add (i * 6)).off + 1, none⟩ = some (.int .i64 x.f1) ∧ W'.cell? ⟨(ad.add (i * 6)).block, (ad.add (i * 6)).off + 2, none⟩ = some (.int .i64 x.f2) ∧
                W'.cell? ⟨(ad.add (i * 6)).block, (ad.add (i * 6)).off + 3, none⟩ = some (.int .u64 x.f3) ∧ W'.cell? ⟨(ad.add (i * 6)).block, (ad.add (i * 6)).off + 4, none⟩ = some (.int .u64 x.f4) ∧ W'.cell? ⟨(ad.add (i * 6)).block, (ad.add (i * 6)).off + 5, none⟩ = some (.string x.f5) := by
              intro W' hb
              obtain ⟨ad', hA', y0, y1, y2, y3, y4, y5⟩ := rd_at (Kd.C_below HC2.out hb) i hlt3
              obtain rfl : ad = ad' := by injection hA'
              rw [hx] at y0 y1 y2 y3 y4 y5
              exact ⟨y0, y1, y2, y3, y4, y5⟩
            have HCELL := Aside0.mk hcell
            clear hcell hx
            by_cases hql : q.length < room
            · have hi1 : ((i : Int)).toNat = i := Int.toNat_natCast i
              have hi0 : (0 : Int) ≤ (i : Int) := by omega
              have hiN : (i : Int) < (n2 : Int) := by omega
              go_wp2
              refine start_ (n := 13) (S := fun w' => w'.cell? (ad.add (i * 6)) = some (.int .i64 x.f0) ∧ w'.cell? ⟨(ad.add (i * 6)).block, (ad.add (i * 6)).off + 1, none⟩ = some (.int .i64 x.f1) ∧ w'.cell? ⟨(ad.add (i * 6)).block, (ad.add (i * 6)).off + 2, none⟩ = some (.int .i64 x.f2) ∧ w'.cell? ⟨(ad.add (i * 6)).block, (ad.add (i * 6)).off + 3, none⟩ = some (.int .u64 x.f3) ∧ w'.cell? ⟨(ad.add (i * 6)).block, (ad.add (i * 6)).off + 4, none⟩ = some (.int .u64 x.f4) ∧ w'.cell? ⟨(ad.add (i * 6)).block, (ad.add (i * 6)).off + 5, none⟩ = some (.string x.f5) ∧ RingQ w' g2 B2 room q ∧ Below w.heap.size w w') (ds := [11]) #[false, false, false, false, false, false, false, false, false, false, false, false, false] (by kernel_rfl) rfl rfl ⟨(HCELL.out _ HL.out.drew).1, (HCELL.out _ HL.out.drew).2.1, (HCELL.out _ HL.out.drew).2.2.1, (HCELL.out _ HL.out.drew).2.2.2.1, (HCELL.out _ HL.out.drew).2.2.2.2.1, (HCELL.out _ HL.out.drew).2.2.2.2.2, HS.out.drew, HL.out.drew⟩ (fun hHeld => ?_)
              refine pure_ (i := 0) (N := some 89) (v := ?_) (a' := ?_) #[true, false, false, false, false, false, false, false, false, false, false, false, false] rfl rfl (by kernel_rfl) (fun _ _ _ h => h) (Or.inl ⟨by rfl, ?_⟩) ?_ ?_
              rotate_left
              · intro w'
                go_simp
                with_reducible rfl
              rotate_left
              · simp only [Act.put, List.setIfInBounds_toArray, List.set_cons_zero, List.set_cons_succ, i64_w, i32_w]
                rfl
              refine pure_ (i := 1) (N := some 90) (v := ?_) (a' := ?_) #[true, true, false, false, false, false, false, false, false, false, false, false, false] rfl rfl (by kernel_rfl) (fun _ _ _ h => h) (Or.inl ⟨by rfl, ?_⟩) ?_ ?_
              rotate_left
              · intro w'
                go_simp
                with_reducible rfl
              rotate_left
              · simp only [Act.put, List.setIfInBounds_toArray, List.set_cons_zero, List.set_cons_succ, i64_w, i32_w]
                rfl
              refine pure_ (i := 2) (N := some 91) (v := ?_) (a' := ?_) #[true, true, true, false, false, false, false, false, false, false, false, false, false] rfl rfl (by kernel_rfl) (fun _ _ _ h => h) (Or.inl ⟨by rfl, ?_⟩) ?_ ?_
              rotate_left
              · intro w'
                go_simp
                with_reducible rfl
              rotate_left
              · simp only [Act.put, List.setIfInBounds_toArray, List.set_cons_zero, List.set_cons_succ, i64_w, i32_w]
                rfl
              refine pure_ (i := 3) (N := some 92) (v := ?_) (a' := ?_) #[true, true, true, true, false, false, false, false, false, false, false, false, false] rfl rfl (by kernel_rfl) (fun _ _ _ h => h) (Or.inl ⟨by rfl, ?_⟩) ?_ ?_
              rotate_left
              · intro w'
                go_simp
                with_reducible rfl
              rotate_left
              · simp only [Act.put, List.setIfInBounds_toArray, List.set_cons_zero, List.set_cons_succ, i64_w, i32_w]
                rfl
              refine pure_ (i := 6) (N := some 95) (v := ?_) (a' := ?_) #[true, true, true, true, false, false, true, false, false, false, false, false, false] rfl rfl (by kernel_rfl) (fun _ _ _ h => h) (Or.inl ⟨by rfl, ?_⟩) ?_ ?_
              rotate_left
              · intro w'
                go_simp
                with_reducible rfl
              rotate_left
              · simp only [Act.put, List.setIfInBounds_toArray, List.set_cons_zero, List.set_cons_succ, i64_w, i32_w]
                rfl
              refine pure_ (i := 7) (N := some 96) (v := ?_) (a' := ?_) #[true, true, true, true, false, false, true, true, false, false, false, false, false] rfl rfl (by kernel_rfl) (fun _ _ _ h => h) (Or.inl ⟨by rfl, ?_⟩) ?_ ?_
              rotate_left
              · intro w'
                go_simp
                with_reducible rfl
              rotate_left
              · simp only [Act.put, List.setIfInBounds_toArray, List.set_cons_zero, List.set_cons_succ, i64_w, i32_w]
                rfl
              refine pure_ (i := 8) (N := some 97) (v := ?_) (a' := ?_) #[true, true, true, true, false, false, true, true, true, false, false, false, false] rfl rfl (by kernel_rfl) (fun _ _ _ h => h) (Or.inl ⟨by rfl, ?_⟩) ?_ ?_
              rotate_left
              · intro w'
                go_simp
                with_reducible rfl
              rotate_left
              · simp only [Act.put, List.setIfInBounds_toArray, List.set_cons_zero, List.set_cons_succ, i64_w, i32_w]
                rfl
              refine pure_ (i := 9) (N := some 98) (v := ?_) (a' := ?_) #[true, true, true, true, false, false, true, true, true, true, false, false, false] rfl rfl (by kernel_rfl) (fun _ _ _ h => h) (Or.inl ⟨by rfl, ?_⟩) ?_ ?_
              rotate_left
              · intro w'
                go_simp
                with_reducible rfl
              rotate_left
              · simp only [Act.put, List.setIfInBounds_toArray, List.set_cons_zero, List.set_cons_succ, i64_w, i32_w]
                rfl
              refine take_ (i := 4) (N := some 93) (v := ?_) (a' := ?_) #[true, true, true, true, true, false, true, true, true, true, false, false, false] rfl rfl (by kernel_rfl) (fun _ _ _ h => h) (Or.inl ⟨by rfl, ?_⟩) hHeld ?_ ?_
              rotate_left
              · rintro w' ⟨s0, s1, s2, s3, s4, s5, s6, s7⟩
                go_simp
                with_reducible rfl
              rotate_left
              · simp only [Act.put, List.setIfInBounds_toArray, List.set_cons_zero, List.set_cons_succ, i64_w, i32_w]
                rfl
              refine take_ (i := 10) (N := some 99) (v := ?_) (a' := ?_) #[true, true, true, true, true, false, true, true, true, true, true, false, false] rfl rfl (by kernel_rfl) (fun _ _ _ h => h) (Or.inl ⟨by rfl, ?_⟩) hHeld ?_ ?_
              rotate_left
              · rintro w' ⟨s0, s1, s2, s3, s4, s5, s6, s7⟩
                go_simp
                with_reducible rfl
              rotate_left
              · simp only [Act.put, List.setIfInBounds_toArray, List.set_cons_zero, List.set_cons_succ, i64_w, i32_w]
                rfl
              refine one_ (i := 5) (N := some 94) #[true, true, true, true, true, true, true, true, true, true, true, false, false] rfl rfl (by kernel_rfl) (by decide) (fun K hK => ?_)
              refine goes_ Try.func9 (by kernel_rfl) rfl #[.pointer (some ⟨g, 0, none⟩), .agg #[.int .i64 x.f0, .int .i64 x.f1, .int .i64 x.f2, .int .u64 x.f3, .int .u64 x.f4, .string x.f5]] (by rfl) rfl rfl (by simp only [List.map_toArray, List.map_cons, List.map_nil]; rfl) ?_
              with_reducible refine (push_lt HR.out.drew hql x).mono ?_
              rintro e w3 ⟨rfl, hR9, hO9⟩
              refine ⟨_, rfl, ?_⟩
              have L9 := Only.step (hHeld.2.2.2.2.2.2.2) Hg.out HB.out hO9
              have R9 := Aside0.mk hR9
              have S9 := Aside0.mk ((hHeld.2.2.2.2.2.2.1).far hO9 HF.out.symm)
              refine hK.out _ _ ⟨(HCELL.out _ L9).1, (HCELL.out _ L9).2.1, (HCELL.out _ L9).2.2.1, (HCELL.out _ L9).2.2.2.1, (HCELL.out _ L9).2.2.2.2.1, (HCELL.out _ L9).2.2.2.2.2, S9.out, L9⟩ (fun hHeld => ?_)
              clear hK K
              refine norm_ (a' := ?_) ?_ ?_
              rotate_left
              · show Act.put _ (some 94) _ = _
                simp only [Act.put, List.setIfInBounds_toArray, List.set_cons_zero, List.set_cons_succ, i64_w, i32_w]
                rfl
              refine last_ (i := 11) (N := some 100) #[true, true, true, true, true, true, true, true, true, true, true, true, false] rfl rfl (by kernel_rfl) (by decide) (fun K hK => ?_)
              refine goes_ Try.func9 (by kernel_rfl) rfl #[.pointer (some ⟨g2, 0, none⟩), .agg #[.int .i64 x.f0, .int .i64 x.f1, .int .i64 x.f2, .int .u64 x.f3, .int .u64 x.f4, .string x.f5]] (by rfl) rfl rfl (by simp only [List.map_toArray, List.map_cons, List.map_nil]; rfl) ?_
              with_reducible refine (push_lt hHeld.2.2.2.2.2.2.1 hql x).mono ?_
              rintro e w4 ⟨rfl, hS8, hO8⟩
              refine ⟨_, rfl, ?_⟩
              have L8 := Aside0.mk (Only.step (hHeld.2.2.2.2.2.2.2) Hg2.out HB2.out hO8)
              have S8 := Aside0.mk hS8
              have R8 := Aside0.mk (R9.out.far hO8 HF.out)
              clear hS8 hO8
              refine hK.out _ _ ?_
              clear hK K
              refine norm_ (a' := ?_) ?_ ?_
              rotate_left
              · show Act.put _ (some 100) _ = _
                simp only [Act.put, List.setIfInBounds_toArray, List.set_cons_zero, List.set_cons_succ, i64_w, i32_w]
                rfl
              refine pure_ (i := 12) (N := some 101) (v := ?_) (a' := ?_) #[true, true, true, true, true, true, true, true, true, true, true, true, true] rfl rfl (by kernel_rfl) (fun _ _ _ h => h) (Or.inl ⟨by rfl, ?_⟩) ?_ ?_
              rotate_left
              · intro w'
                go_simp
                with_reducible rfl
              rotate_left
              · simp only [Act.put, List.setIfInBounds_toArray, List.set_cons_zero, List.set_cons_succ, i64_w, i32_w]
                rfl
              refine done_ (by kernel_rfl) ?_
              go_wp2
              go_roundw
              case rel => exact ⟨i + 1, _, by omega, by omega, by go_num, R8, S8, L8⟩
              case measure => simp [intOf]; omega
            · have hql : room ≤ q.length := by omega
              have hi1 : ((i : Int)).toNat = i := Int.toNat_natCast i
              have hi0 : (0 : Int) ≤ (i : Int) := by omega
              have hiN : (i : Int) < (n2 : Int) := by omega
              go_wp2
              refine start_ (n := 13) (S := fun w' => w'.cell? (ad.add (i * 6)) = some (.int .i64 x.f0) ∧ w'.cell? ⟨(ad.add (i * 6)).block, (ad.add (i * 6)).off + 1, none⟩ = some (.int .i64 x.f1) ∧ w'.cell? ⟨(ad.add (i * 6)).block, (ad.add (i * 6)).off + 2, none⟩ = some (.int .i64 x.f2) ∧ w'.cell? ⟨(ad.add (i * 6)).block, (ad.add (i * 6)).off + 3, none⟩ = some (.int .u64 x.f3) ∧ w'.cell? ⟨(ad.add (i * 6)).block, (ad.add (i * 6)).off + 4, none⟩ = some (.int .u64 x.f4) ∧ w'.cell? ⟨(ad.add (i * 6)).block, (ad.add (i * 6)).off + 5, none⟩ = some (.string x.f5) ∧ RingQ w' g2 B2 room q ∧ Below w.heap.size w w') (ds := [11]) #[false, false, false, false, false, false, false, false, false, false, false, false, false] (by kernel_rfl) rfl rfl ⟨(HCELL.out _ HL.out.drew).1, (HCELL.out _ HL.out.drew).2.1, (HCELL.out _ HL.out.drew).2.2.1, (HCELL.out _ HL.out.drew).2.2.2.1, (HCELL.out _ HL.out.drew).2.2.2.2.1, (HCELL.out _ HL.out.drew).2.2.2.2.2, HS.out.drew, HL.out.drew⟩ (fun hHeld => ?_)
              refine pure_ (i := 0) (N := some 89) (v := ?_) (a' := ?_) #[true, false, false, false, false, false, false, false, false, false, false, false, false] rfl rfl (by kernel_rfl) (fun _ _ _ h => h) (Or.inl ⟨by rfl, ?_⟩) ?_ ?_
              rotate_left
              · intro w'
                go_simp
                with_reducible rfl
              rotate_left
              · simp only [Act.put, List.setIfInBounds_toArray, List.set_cons_zero, List.set_cons_succ, i64_w, i32_w]
                rfl
              refine pure_ (i := 1) (N := some 90) (v := ?_) (a' := ?_) #[true, true, false, false, false, false, false, false, false, false, false, false, false] rfl rfl (by kernel_rfl) (fun _ _ _ h => h) (Or.inl ⟨by rfl, ?_⟩) ?_ ?_
              rotate_left
              · intro w'
                go_simp
                with_reducible rfl
              rotate_left
              · simp only [Act.put, List.setIfInBounds_toArray, List.set_cons_zero, List.set_cons_succ, i64_w, i32_w]
                rfl
              refine pure_ (i := 2) (N := some 91) (v := ?_) (a' := ?_) #[true, true, true, false, false, false, false, false, false, false, false, false, false] rfl rfl (by kernel_rfl) (fun _ _ _ h => h) (Or.inl ⟨by rfl, ?_⟩) ?_ ?_
              rotate_left
              · intro w'
                go_simp
                with_reducible rfl
              rotate_left
              · simp only [Act.put, List.setIfInBounds_toArray, List.set_cons_zero, List.set_cons_succ, i64_w, i32_w]
                rfl
              refine pure_ (i := 3) (N := some 92) (v := ?_) (a' := ?_) #[true, true, true, true, false, false, false, false, false, false, false, false, false] rfl rfl (by kernel_rfl) (fun _ _ _ h => h) (Or.inl ⟨by rfl, ?_⟩) ?_ ?_
              rotate_left
              · intro w'
                go_simp
                with_reducible rfl
              rotate_left
              · simp only [Act.put, List.setIfInBounds_toArray, List.set_cons_zero, List.set_cons_succ, i64_w, i32_w]
                rfl
              refine pure_ (i := 6) (N := some 95) (v := ?_) (a' := ?_) #[true, true, true, true, false, false, true, false, false, false, false, false, false] rfl rfl (by kernel_rfl) (fun _ _ _ h => h) (Or.inl ⟨by rfl, ?_⟩) ?_ ?_
              rotate_left
              · intro w'
                go_simp
                with_reducible rfl
              rotate_left
              · simp only [Act.put, List.setIfInBounds_toArray, List.set_cons_zero, List.set_cons_succ, i64_w, i32_w]
                rfl
              refine pure_ (i := 7) (N := some 96) (v := ?_) (a' := ?_) #[true, true, true, true, false, false, true, true, false, false, false, false, false] rfl rfl (by kernel_rfl) (fun _ _ _ h => h) (Or.inl ⟨by rfl, ?_⟩) ?_ ?_
              rotate_left
              · intro w'
                go_simp
                with_reducible rfl
              rotate_left
              · simp only [Act.put, List.setIfInBounds_toArray, List.set_cons_zero, List.set_cons_succ, i64_w, i32_w]
                rfl
              refine pure_ (i := 8) (N := some 97) (v := ?_) (a' := ?_) #[true, true, true, true, false, false, true, true, true, false, false, false, false] rfl rfl (by kernel_rfl) (fun _ _ _ h => h) (Or.inl ⟨by rfl, ?_⟩) ?_ ?_
              rotate_left
              · intro w'
                go_simp
                with_reducible rfl
              rotate_left
              · simp only [Act.put, List.setIfInBounds_toArray, List.set_cons_zero, List.set_cons_succ, i64_w, i32_w]
                rfl
              refine pure_ (i := 9) (N := some 98) (v := ?_) (a' := ?_) #[true, true, true, true, false, false, true, true, true, true, false, false, false] rfl rfl (by kernel_rfl) (fun _ _ _ h => h) (Or.inl ⟨by rfl, ?_⟩) ?_ ?_
              rotate_left
              · intro w'
                go_simp
                with_reducible rfl
              rotate_left
              · simp only [Act.put, List.setIfInBounds_toArray, List.set_cons_zero, List.set_cons_succ, i64_w, i32_w]
                rfl
              refine take_ (i := 4) (N := some 93) (v := ?_) (a' := ?_) #[true, true, true, true, true, false, true, true, true, true, false, false, false] rfl rfl (by kernel_rfl) (fun _ _ _ h => h) (Or.inl ⟨by rfl, ?_⟩) hHeld ?_ ?_
              rotate_left
              · rintro w' ⟨s0, s1, s2, s3, s4, s5, s6, s7⟩
                go_simp
                with_reducible rfl
              rotate_left
              · simp only [Act.put, List.setIfInBounds_toArray, List.set_cons_zero, List.set_cons_succ, i64_w, i32_w]
                rfl
              refine take_ (i := 10) (N := some 99) (v := ?_) (a' := ?_) #[true, true, true, true, true, false, true, true, true, true, true, false, false] rfl rfl (by kernel_rfl) (fun _ _ _ h => h) (Or.inl ⟨by rfl, ?_⟩) hHeld ?_ ?_
              rotate_left
              · rintro w' ⟨s0, s1, s2, s3, s4, s5, s6, s7⟩
                go_simp
                with_reducible rfl
              rotate_left
              · simp only [Act.put, List.setIfInBounds_toArray, List.set_cons_zero, List.set_cons_succ, i64_w, i32_w]
                rfl
              refine one_ (i := 5) (N := some 94) #[true, true, true, true, true, true, true, true, true, true, true, false, false] rfl rfl (by kernel_rfl) (by decide) (fun K hK => ?_)
              refine goes_ Try.func9 (by kernel_rfl) rfl #[.pointer (some ⟨g, 0, none⟩), .agg #[.int .i64 x.f0, .int .i64 x.f1, .int .i64 x.f2, .int .u64 x.f3, .int .u64 x.f4, .string x.f5]] (by rfl) rfl rfl (by simp only [List.map_toArray, List.map_cons, List.map_nil]; rfl) ?_
              with_reducible refine (push_ge HR.out.drew hql x).mono ?_
              rintro e w3 ⟨rfl, hR9, hO9⟩
              refine ⟨_, rfl, ?_⟩
              have L9 := Only.step (hHeld.2.2.2.2.2.2.2) Hg.out HB.out hO9
              have R9 := Aside0.mk hR9
              have S9 := Aside0.mk ((hHeld.2.2.2.2.2.2.1).far hO9 HF.out.symm)
              refine hK.out _ _ ⟨(HCELL.out _ L9).1, (HCELL.out _ L9).2.1, (HCELL.out _ L9).2.2.1, (HCELL.out _ L9).2.2.2.1, (HCELL.out _ L9).2.2.2.2.1, (HCELL.out _ L9).2.2.2.2.2, S9.out, L9⟩ (fun hHeld => ?_)
              clear hK K
              refine norm_ (a' := ?_) ?_ ?_
              rotate_left
              · show Act.put _ (some 94) _ = _
                simp only [Act.put, List.setIfInBounds_toArray, List.set_cons_zero, List.set_cons_succ, i64_w, i32_w]
                rfl
              refine last_ (i := 11) (N := some 100) #[true, true, true, true, true, true, true, true, true, true, true, true, false] rfl rfl (by kernel_rfl) (by decide) (fun K hK => ?_)
              refine goes_ Try.func9 (by kernel_rfl) rfl #[.pointer (some ⟨g2, 0, none⟩), .agg #[.int .i64 x.f0, .int .i64 x.f1, .int .i64 x.f2, .int .u64 x.f3, .int .u64 x.f4, .string x.f5]] (by rfl) rfl rfl (by simp only [List.map_toArray, List.map_cons, List.map_nil]; rfl) ?_
              with_reducible refine (push_ge hHeld.2.2.2.2.2.2.1 hql x).mono ?_
              rintro e w4 ⟨rfl, hS8, hO8⟩
              refine ⟨_, rfl, ?_⟩
              have L8 := Aside0.mk (Only.step (hHeld.2.2.2.2.2.2.2) Hg2.out HB2.out hO8)
              have S8 := Aside0.mk hS8
              have R8 := Aside0.mk (R9.out.far hO8 HF.out)
              clear hS8 hO8
              refine hK.out _ _ ?_
              clear hK K
              refine norm_ (a' := ?_) ?_ ?_
              rotate_left
              · show Act.put _ (some 100) _ = _
                simp only [Act.put, List.setIfInBounds_toArray, List.set_cons_zero, List.set_cons_succ, i64_w, i32_w]
                rfl
              refine pure_ (i := 12) (N := some 101) (v := ?_) (a' := ?_) #[true, true, true, true, true, true, true, true, true, true, true, true, true] rfl rfl (by kernel_rfl) (fun _ _ _ h => h) (Or.inl ⟨by rfl, ?_⟩) ?_ ?_
              rotate_left
              · intro w'
                go_simp
                with_reducible rfl
              rotate_left
              · simp only [Act.put, List.setIfInBounds_toArray, List.set_cons_zero, List.set_cons_succ, i64_w, i32_w]
                rfl
              refine done_ (by kernel_rfl) ?_
              go_wp2
              go_roundw
              case rel => exact ⟨i + 1, _, by omega, by omega, by go_num, R8, S8, L8⟩
              case measure => simp [intOf]; omega
          · have hq64 : q.length ≤ 64 := Nat.le_trans HR.out.le hroom
            by_cases h2 : i < n2
            all_goals
              go_wp2
              go_loopw [13] (fun iv wt => ∃ (k : Nat) (q : List S31), k ≤ 65 ∧ q.length ≤ 64 - k ∧ iv = .int .i64 k ∧ Aside0 (RingQ wt g B room q) ∧ Aside0 (RingQ wt g2 B2 room q) ∧ Aside0 (Below w.heap.size w wt)) (fun iv _ => 65 - (intOf iv).toNat)
              case atStart => exact ⟨0, q, by omega, by omega, rfl, HR, HS, HL⟩
              case round =>
                clear HR HS HL
                obtain ⟨i, p, hi65, hpl, rfl, HR, HS, HL⟩ := hrel
                by_cases hlt3 : i ≤ 64
                · cases p with
                  | nil =>
                    go_wp2_with fail
                    refine (pop_nil HR.out).mono ?_
                    rintro e v1 ⟨rfl, hR, hO⟩
                    have L1 := Aside0.mk (below_alloc (Only.step HL.out Hg.out HB.out hO) (.cells (ent z31).toArray 31))
                    have R1 := Aside0.mk (hR.alloc (.cells (ent z31).toArray 31))
                    have S1 := Aside0.mk ((HS.out.far hO HF.out.symm).alloc (.cells (ent z31).toArray 31))
                    have X1 := Aside0.mk (Boxed.new v1 z31)
                    have hblt : v1.heap.size ≠ g2 ∧ v1.heap.size ≠ B2 := by have h1 := (HS.out.far hO HF.out.symm).lt; have h2 := (HS.out.far hO HF.out.symm).Blt; exact ⟨by omega, by omega⟩
                    have HBL := Aside0.mk hblt
                    clear hR hO HR HS HL hblt
                    go_wp2_with fail
                    change Calls _ _ _ (v1.alloc (.cells (ent z31).toArray 31)) _
                    generalize hb1 : v1.heap.size = b1 at *
                    generalize v1.alloc (.cells (ent z31).toArray 31) = v2 at *
                    clear hb1
                    refine (pop_nil S1.out).mono ?_
                    rintro e v3 ⟨rfl, hR, hO⟩
                    have L3 := Aside0.mk (below_alloc (Only.step L1.out Hg2.out HB2.out hO) (.cells (ent z31).toArray 31))
                    have S3 := Aside0.mk (hR.alloc (.cells (ent z31).toArray 31))
                    have R3 := Aside0.mk ((R1.out.far hO HF.out).alloc (.cells (ent z31).toArray 31))
                    obtain ⟨x0, x1, x2, x3, x4, x5⟩ := (X1.out.only hO HBL.out.1 HBL.out.2).cells
                    have hb1l : b1 < v3.heap.size := Nat.lt_of_lt_of_le (blk_lt X1.out.blk) hO.size
                    change _ = some (Value.int .i64 0) at x0 x1 x2
                    change _ = some (Value.int .u64 0) at x3 x4
                    change _ = some (Value.string ⟨#[]⟩) at x5
                    clear hR hO R1 S1 L1 X1 HBL
                    go_wp2
                    go_roundw
                    case rel => exact ⟨i + 1, [], by omega, by simp, by go_num, R3, S3, L3⟩
                    case measure => simp [intOf]; omega
                  | cons x l =>
                    rw [List.length_cons] at hpl
                    go_wp2_with fail
                    refine (pop_cons HR.out).mono ?_
                    rintro e v1 ⟨rfl, hR, hO⟩
                    have L1 := Aside0.mk (below_alloc (Only.step HL.out Hg.out HB.out hO) (.cells (ent x).toArray 31))
                    have R1 := Aside0.mk (hR.alloc (.cells (ent x).toArray 31))
                    have S1 := Aside0.mk ((HS.out.far hO HF.out.symm).alloc (.cells (ent x).toArray 31))
                    have X1 := Aside0.mk (Boxed.new v1 x)
                    have hblt : v1.heap.size ≠ g2 ∧ v1.heap.size ≠ B2 := by have h1 := (HS.out.far hO HF.out.symm).lt; have h2 := (HS.out.far hO HF.out.symm).Blt; exact ⟨by omega, by omega⟩
                    have HBL := Aside0.mk hblt
                    clear hR hO HR HS HL hblt
                    go_wp2_with fail
                    change Calls _ _ _ (v1.alloc (.cells (ent x).toArray 31)) _
                    generalize hb1 : v1.heap.size = b1 at *
                    generalize v1.alloc (.cells (ent x).toArray 31) = v2 at *
                    clear hb1
                    refine (pop_cons S1.out).mono ?_
                    rintro e v3 ⟨rfl, hR, hO⟩
                    have L3 := Aside0.mk (below_alloc (Only.step L1.out Hg2.out HB2.out hO) (.cells (ent x).toArray 31))
                    have S3 := Aside0.mk (hR.alloc (.cells (ent x).toArray 31))
                    have R3 := Aside0.mk ((R1.out.far hO HF.out).alloc (.cells (ent x).toArray 31))
                    obtain ⟨x0, x1, x2, x3, x4, x5⟩ := (X1.out.only hO HBL.out.1 HBL.out.2).cells
                    have hb1l : b1 < v3.heap.size := Nat.lt_of_lt_of_le (blk_lt X1.out.blk) hO.size
                    clear hR hO R1 S1 L1 X1 HBL
                    go_wp2
                    go_roundw
                    case rel => exact ⟨i + 1, l, by omega, by omega, by go_num, R3, S3, L3⟩
                    case measure => simp [intOf]; omega
                · go_wp2
                  go_ret
                  exact ⟨rfl, HL.out⟩
theorem clears_any (room : Int) (A1 : Option Addr) (n1 c1 : Nat) (l1 : List S31) (A2 : Option Addr) (n2 c2 : Nat) (l2 : List S31) (w : World) (hr1 : Kd.C k31 w A1 n1 l1) (_ : n1 ≤ c1) (hm1 : n1 ≤ maxLen) (hr2 : Kd.C k31 w A2 n2 l2) (_ : n2 ≤ c2) (hm2 : n2 ≤ maxLen) :
    Calls Try.prog 4 #[.int .i64 room, .slice A1 n1 c1, .slice A2 n2 c2] w fun e w' => e = .returned (.bool true) ∧ Below w.heap.size w w' := by
  by_cases h : room < 0 ∨ 64 < room
  · exact clears_no room h A1 A2 n1 c1 n2 c2 w
  · obtain ⟨r, rfl⟩ := Int.eq_ofNat_of_zero_le (show 0 ≤ room by omega)
    exact clears_yes r (by omega) A1 n1 c1 l1 A2 n2 c2 l2 w hr1 hm1 hr2 hm2
end Go.Proofs.Ytmdmoedakmoibaa.P
