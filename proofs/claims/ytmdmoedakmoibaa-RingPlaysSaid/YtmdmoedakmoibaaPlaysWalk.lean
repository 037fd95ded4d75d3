/- The walk of the law RingPlays. -/
import Derived.Test.YtmdmoedakmoibaaAct
namespace Go.Proofs.Ytmdmoedakmoibaa.P
open Go.RowKit Go.Proofs.YtmdmoedakmoibaaW.PrintWords Go.Proofs.YtmdmoedakmoibaaW.PrintLast Go.Proofs.YtmdmoedakmoibaaW.PrintMore
attribute [local go_sem high] eqA31
set_option linter.unusedVariables false
set_option linter.unusedSimpArgs false

set_option maxHeartbeats 3200000 in
set_option maxRecDepth 100000 in
theorem plays_no (room : Int) (h : room < 0 ∨ 64 < room) (A1 : Option Addr) (n1 c1 : Nat) (w : World) :
    Calls Try.prog 6 #[.int .i64 room, .slice A1 n1 c1] w fun e w' => e = .returned (.bool true) ∧ Below w.heap.size w w' := by
  have H := Aside0.mk h
  go_enter Try.func6, Try.ntmps6
  go_wp2_with fail
  refine (new_no room H.out w).mono ?_
  rintro e w1 ⟨rfl, rfl⟩
  go_wp2_with fail
  refine (fixed_q w).mono ?_
  rintro e w1 ⟨rfl, hb⟩
  have L1 := Aside0.mk hb
  clear hb
  by_cases h0 : 0 ≤ room
  · have h64 : ¬ room ≤ 64 := by omega
    go_wp2_with ((with_reducible refine gate_dst (N := 45) rfl ?_); refine Kd.R_lit k31 _ 31 ?hg (N := 45) ?hd (xs := ([] : List S31)) (inner := []) (ok := fun _ => True) (okp := fun _ => True) ?hr ?hp (fun _ hk => hk) trivial (Below.refl _ _) (Nat.le_refl _) (by simp) ?_; (case hd => rfl); (case hg => rfl); (case hr => first | (go_simp; done) | (go_simp; rfl)); (case hp => exact Reps.none _ _); intro v4 w4 ho hb hg_ hnew; have L2 := Aside0.mk (below_then L1.out L1.out.size hb); clear L1 ho hb hg_ hnew)
    go_loopw [8] (fun iv wr => iv = .int .i64 0 ∧ Aside0 (Below w.heap.size w wr)) (fun _ _ => 0)
    case atStart => exact ⟨rfl, L2⟩
    case round =>
      clear L2
      obtain ⟨rfl, HL⟩ := hrel
      go_wp2
      go_ret
      exact ⟨rfl, HL.out⟩
  · go_wp2_with ((with_reducible refine gate_dst (N := 45) rfl ?_); refine Kd.R_lit k31 _ 31 ?hg (N := 45) ?hd (xs := ([] : List S31)) (inner := []) (ok := fun _ => True) (okp := fun _ => True) ?hr ?hp (fun _ hk => hk) trivial (Below.refl _ _) (Nat.le_refl _) (by simp) ?_; (case hd => rfl); (case hg => rfl); (case hr => first | (go_simp; done) | (go_simp; rfl)); (case hp => exact Reps.none _ _); intro v4 w4 ho hb hg_ hnew; have L2 := Aside0.mk (below_then L1.out L1.out.size hb); clear L1 ho hb hg_ hnew)
    go_loopw [8] (fun iv wr => iv = .int .i64 0 ∧ Aside0 (Below w.heap.size w wr)) (fun _ _ => 0)
    case atStart => exact ⟨rfl, L2⟩
    case round =>
      clear L2
      obtain ⟨rfl, HL⟩ := hrel
      go_wp2
      go_ret
      exact ⟨rfl, HL.out⟩
set_option maxHeartbeats 25600000 in
set_option maxRecDepth 100000 in
theorem plays_yes (room : Nat) (hroom : room ≤ 64) (A1 : Option Addr) (n1 c1 : Nat) (l1 : List S42) (w : World) (hr1 : Kd.C k42 w A1 n1 l1) (hm1 : n1 ≤ maxLen) :
    Calls Try.prog 6 #[.int .i64 room, .slice A1 n1 c1] w fun e w' => e = .returned (.bool true) ∧ Below w.heap.size w w' := by
  have HC1 := Aside0.mk hr1
  have hn1 : n1 ≤ 9223372036854775807 := hm1
  clear hr1 hm1
  go_enter Try.func6, Try.ntmps6
  go_wp2_with fail
  refine (new_q room hroom w).mono ?_
  rintro e w1 ⟨g, B, rfl, hg, hB, hR, hL⟩
  have HR := Aside0.mk hR
  have HL := Aside0.mk hL
  have Hg := Aside0.mk hg
  have HB := Aside0.mk hB
  clear hR hL hg hB
  go_wp2_with fail
  refine (fixed_q w1).mono ?_
  rintro e w3 ⟨rfl, hb⟩
  have L3 := Aside0.mk (below_then HL.out HL.out.size hb)
  have R3 := Aside0.mk (HR.out.below hb)
  clear hb HL HR
  have h64 : (room : Int) ≤ 64 := by omega
  have h00 : (0 : Int) ≤ (room : Int) := by omega
  go_wp2_with ((with_reducible refine gate_dst (N := 45) rfl ?_); refine Kd.R_lit k31 _ 31 ?hg (N := 45) ?hd (xs := ([] : List S31)) (inner := []) (ok := fun _ => True) (okp := fun _ => True) ?hr ?hp (fun _ hk => hk) trivial (Below.refl _ _) (Nat.le_refl _) (by simp) ?_; (case hd => rfl); (case hg => rfl); (case hr => first | (go_simp; done) | (go_simp; rfl)); (case hp => exact Reps.none _ _); intro v4 w4 ho hb hg_ hnew; obtain ⟨A4, c4, rfl⟩ := Kd.R_slice ho; have S4 := Aside0.mk (Seen.of_row (q := []) ho R3.out.lt R3.out.Blt); have L4 := Aside0.mk (below_then L3.out L3.out.size hb); have R4 := Aside0.mk (R3.out.below hb); clear L3 R3 ho hb hg_ hnew)
  go_loopw [7, 8] (fun v7 iv wr => ∃ (k : Nat) (q : List S31) (A : Option Addr) (c : Nat), k ≤ n1 ∧ k ≤ 300 ∧ v7 = .slice A q.length c ∧ iv = .int .i64 k ∧ Aside0 (Seen wr g B A c q) ∧ Aside0 (RingQ wr g B room q) ∧ Aside0 (Below w.heap.size w wr)) (fun _ iv _ => 300 - (intOf iv).toNat)
  case atStart => exact ⟨0, [], A4, c4, Nat.zero_le _, Nat.zero_le _, rfl, rfl, S4, R4, L4⟩
  case round =>
    clear S4 R4 L4
    obtain ⟨k, q, A, c, hkn, hk300, rfl, rfl, HS, HR, HL⟩ := hrel
    by_cases hlt : k < n1 ∧ k < 300
    · obtain ⟨hlt1, hlt2⟩ := hlt
      obtain ⟨x, hx⟩ : ∃ x, l1.getD k z42 = x := ⟨_, rfl⟩
      obtain ⟨ad, hA, hat⟩ := act_at (Kd.C_below HC1.out HL.out) k hlt1
      subst hA
      rw [hx] at hat
      clear hx
      obtain ⟨a0, a1, a2, a3, a4, a5, a6, a7, a8⟩ := hat
      have X1 := Aside0.mk (BoxAct.new wr x)
      have S1 := Aside0.mk (HS.out.alloc (.cells (act x).toArray 42))
      have R1 := Aside0.mk (HR.out.alloc (.cells (act x).toArray 42))
      have L1 := Aside0.mk (below_alloc HL.out (.cells (act x).toArray 42))
      have HBL := Aside0.mk (show wr.heap.size ≠ g ∧ wr.heap.size ≠ B from by have h1 := HR.out.lt; have h2 := HR.out.Blt; exact ⟨by omega, by omega⟩)
      have HQ := Aside0.mk (show q.length ≤ 64 from Nat.le_trans HR.out.le hroom)
      clear HS HR HL
      by_cases d0 : x.d = 0
      · have e0 : (x.d == 0) = true := beq_iff_eq.mpr d0
        clear d0
        go_wp2_with fail
        change Calls _ _ _ (wr.alloc (.cells (act x).toArray 42)) _
        generalize hb1 : wr.heap.size = b1 at *
        generalize wr.alloc (.cells (act x).toArray 42) = w1 at *
        clear a0 a1 a2 a3 a4 a5 a6 a7 a8 hb1
        by_cases hql : q.length < room
        · refine (rpush_lt A c q room x.e w1 S1.out.read (by omega) HQ.out).mono ?_
          rintro e w2 ⟨v, rfl, hr, hb⟩
          obtain ⟨q5, hq5⟩ : ∃ q5, q5 = q ++ [x.e] := ⟨_, rfl⟩
          rw [← hq5] at hr
          obtain ⟨A2, c2, rfl⟩ := Kd.R_slice hr
          have X2 := Aside0.mk (X1.out.below hb)
          have S2 := Aside0.mk (Seen.of_row hr R1.out.lt R1.out.Blt)
          have R2 := Aside0.mk (R1.out.below hb)
          have L2 := Aside0.mk (below_then L1.out L1.out.size hb)
          have N5 := Aside0.mk hq5
          clear hr hb hq5 X1 S1 R1 L1
          obtain ⟨a0, a1, a2, a3, a4, a5, a6, a7, a8⟩ := X2.out.cells

          go_wp2_with fail
          refine (push_lt R2.out hql x.e).mono ?_
          rintro e w3 ⟨rfl, hR, hO⟩
          rw [← N5.out] at hR
          have S3 := Aside0.mk (S2.out.only hO)
          have R3 := Aside0.mk hR
          have L3 := Aside0.mk (Only.step L2.out Hg.out HB.out hO)
          clear hR hO X2 S2 R2 L2 a0 a1 a2 a3 a4 a5 a6 a7 a8
          go_wp2_with fail

          refine (many_q R3.out).mono ?_
          rintro e w9 ⟨rfl, n9, rfl⟩
          have S9 := Aside0.mk (S3.out.drewN n9)
          have R9 := Aside0.mk (R3.out.drewN n9)
          have L9 := Aside0.mk (pw_below_drewN L3.out n9)
          clear S3 R3 L3
          generalize w3.drewN n9 = w9 at *
          go_wp2_with fail
          refine (room_q R9.out).mono ?_
          rintro e w10 ⟨rfl, n10, rfl⟩
          have S10 := Aside0.mk (S9.out.drewN n10)
          have R10 := Aside0.mk (R9.out.drewN n10)
          have L10 := Aside0.mk (pw_below_drewN L9.out n10)
          clear S9 R9 L9
          generalize w9.drewN n10 = w10 at *
          go_wp2
          go_roundw
          case rel => exact ⟨k + 1, q5, A2, c2, by omega, by omega, rfl, by go_num, S10, R10, L10⟩
          case measure => simp [intOf]; omega
        · refine (rpush_ge A c q room x.e w1 (by omega)).mono ?_
          rintro e w2 ⟨rfl, hb⟩
          have X2 := Aside0.mk (X1.out.below hb)
          have S2 := Aside0.mk (S1.out.below hb)
          have R2 := Aside0.mk (R1.out.below hb)
          have L2 := Aside0.mk (below_then L1.out L1.out.size hb)
          clear hb X1 S1 R1 L1
          obtain ⟨a0, a1, a2, a3, a4, a5, a6, a7, a8⟩ := X2.out.cells

          go_wp2_with fail
          refine (push_ge R2.out (by omega) x.e).mono ?_
          rintro e w3 ⟨rfl, hR, hO⟩
          have S3 := Aside0.mk (S2.out.only hO)
          have R3 := Aside0.mk hR
          have L3 := Aside0.mk (Only.step L2.out Hg.out HB.out hO)
          clear hR hO X2 S2 R2 L2 a0 a1 a2 a3 a4 a5 a6 a7 a8
          go_wp2_with fail

          refine (many_q R3.out).mono ?_
          rintro e w9 ⟨rfl, n9, rfl⟩
          have S9 := Aside0.mk (S3.out.drewN n9)
          have R9 := Aside0.mk (R3.out.drewN n9)
          have L9 := Aside0.mk (pw_below_drewN L3.out n9)
          clear S3 R3 L3
          generalize w3.drewN n9 = w9 at *
          go_wp2_with fail
          refine (room_q R9.out).mono ?_
          rintro e w10 ⟨rfl, n10, rfl⟩
          have S10 := Aside0.mk (S9.out.drewN n10)
          have R10 := Aside0.mk (R9.out.drewN n10)
          have L10 := Aside0.mk (pw_below_drewN L9.out n10)
          clear S9 R9 L9
          generalize w9.drewN n10 = w10 at *
          go_wp2
          go_roundw
          case rel => exact ⟨k + 1, q, A, c, by omega, by omega, rfl, by go_num, S10, R10, L10⟩
          case measure => simp [intOf]; omega
      have e0 : (x.d == 0) = false := beq_eq_false_iff_ne.mpr d0
      by_cases d1 : x.d = 1
      · have e1 : (x.d == 1) = true := beq_iff_eq.mpr d1
        clear d0 d1
        cases q with
        | nil =>
          go_wp2_with fail
          change Calls _ _ _ (wr.alloc (.cells (act x).toArray 42)) _
          generalize hb1 : wr.heap.size = b1 at *
          generalize wr.alloc (.cells (act x).toArray 42) = w1 at *
          clear a0 a1 a2 a3 a4 a5 a6 a7 a8 hb1

          refine (rpeek_nil 0 S1.out.read).mono ?_
          rintro e w2 ⟨rfl, hb⟩
          have S2 := Aside0.mk ((S1.out.below hb).alloc (.cells (ent z31).toArray 31))
          have R2 := Aside0.mk ((R1.out.below hb).alloc (.cells (ent z31).toArray 31))
          have L2 := Aside0.mk (below_alloc (below_then L1.out L1.out.size hb) (.cells (ent z31).toArray 31))
          have Y2 := Aside0.mk (Boxed.new w2 z31)
          have HB2 := Aside0.mk (show w2.heap.size ≠ g ∧ w2.heap.size ≠ B from by have h1 := (R1.out.below hb).lt; have h2 := (R1.out.below hb).Blt; exact ⟨by omega, by omega⟩)
          clear hb X1 S1 R1 L1 HBL
          go_wp2_with fail
          change Calls _ _ _ (w2.alloc (.cells (ent z31).toArray 31)) _
          generalize hb2 : w2.heap.size = b2 at *
          generalize w2.alloc (.cells (ent z31).toArray 31) = w3 at *
          clear hb2
          refine (pop_nil R2.out).mono ?_
          rintro e w4 ⟨rfl, hR, hO⟩
          have S4 := Aside0.mk ((S2.out.only hO).alloc (.cells (ent z31).toArray 31))
          have R4 := Aside0.mk (hR.alloc (.cells (ent z31).toArray 31))
          have L4 := Aside0.mk (below_alloc (Only.step L2.out Hg.out HB.out hO) (.cells (ent z31).toArray 31))
          obtain ⟨x0, x1, x2, x3, x4, x5⟩ := (Y2.out.only hO HB2.out.1 HB2.out.2).cells
          have hb2l : b2 < w4.heap.size := Nat.lt_of_lt_of_le (blk_lt Y2.out.blk) hO.size
          change _ = some (Value.int .i64 0) at x0 x1 x2
          change _ = some (Value.int .u64 0) at x3 x4
          change _ = some (Value.string ⟨#[]⟩) at x5
          clear hR hO S2 R2 L2 Y2 HB2
          go_wp2_with fail

          change Calls _ _ _ (w4.alloc (.cells (ent z31).toArray 31)) _
          clear x0 x1 x2 x3 x4 x5 hb2l
          generalize w4.alloc (.cells (ent z31).toArray 31) = w5 at *

          refine (many_q R4.out).mono ?_
          rintro e w9 ⟨rfl, n9, rfl⟩
          have S9 := Aside0.mk (S4.out.drewN n9)
          have R9 := Aside0.mk (R4.out.drewN n9)
          have L9 := Aside0.mk (pw_below_drewN L4.out n9)
          clear S4 R4 L4
          generalize w5.drewN n9 = w9 at *
          go_wp2_with fail
          refine (room_q R9.out).mono ?_
          rintro e w10 ⟨rfl, n10, rfl⟩
          have S10 := Aside0.mk (S9.out.drewN n10)
          have R10 := Aside0.mk (R9.out.drewN n10)
          have L10 := Aside0.mk (pw_below_drewN L9.out n10)
          clear S9 R9 L9
          generalize w9.drewN n10 = w10 at *
          go_wp2
          go_roundw
          case rel => exact ⟨k + 1, ([] : List S31), A, c, by omega, by omega, rfl, by go_num, S10, R10, L10⟩
          case measure => simp [intOf]; omega
        | cons f l =>
          obtain ⟨ad0, hA0, _⟩ := rd_at S1.out.read 0 (by simp)
          subst hA0
          have HLC := Aside0.mk (show l.length + 1 ≤ c from S1.out.le)
          have hsl1 : (1 : Int) ≤ (c : Int) := by have := S1.out.le; rw [List.length_cons] at this; omega
          by_cases hc1 : c = 1
          · obtain rfl : l = [] := List.eq_nil_of_length_eq_zero (by have := HLC.out; omega)
            subst hc1
            go_wp2_with fail
            change Calls _ _ _ (wr.alloc (.cells (act x).toArray 42)) _
            generalize hb1 : wr.heap.size = b1 at *
            generalize wr.alloc (.cells (act x).toArray 42) = w1 at *
            clear a0 a1 a2 a3 a4 a5 a6 a7 a8 hb1

            refine (rpeek_cons f [] S1.out.read S1.out.le).mono ?_
            rintro e w2 ⟨rfl, hb⟩
            have S2 := Aside0.mk ((S1.out.below hb).alloc (.cells (ent f).toArray 31))
            have R2 := Aside0.mk ((R1.out.below hb).alloc (.cells (ent f).toArray 31))
            have L2 := Aside0.mk (below_alloc (below_then L1.out L1.out.size hb) (.cells (ent f).toArray 31))
            have Y2 := Aside0.mk (Boxed.new w2 f)
            have HB2 := Aside0.mk (show w2.heap.size ≠ g ∧ w2.heap.size ≠ B from by have h1 := (R1.out.below hb).lt; have h2 := (R1.out.below hb).Blt; exact ⟨by omega, by omega⟩)
            clear hb X1 S1 R1 L1 HBL
            go_wp2_with fail
            change Calls _ _ _ (w2.alloc (.cells (ent f).toArray 31)) _
            generalize hb2 : w2.heap.size = b2 at *
            generalize w2.alloc (.cells (ent f).toArray 31) = w3 at *
            clear hb2
            refine (pop_cons R2.out).mono ?_
            rintro e w4 ⟨rfl, hR, hO⟩
            have S4 := Aside0.mk ((S2.out.only hO).alloc (.cells (ent f).toArray 31))
            have R4 := Aside0.mk (hR.alloc (.cells (ent f).toArray 31))
            have L4 := Aside0.mk (below_alloc (Only.step L2.out Hg.out HB.out hO) (.cells (ent f).toArray 31))
            obtain ⟨x0, x1, x2, x3, x4, x5⟩ := (Y2.out.only hO HB2.out.1 HB2.out.2).cells
            have hb2l : b2 < w4.heap.size := Nat.lt_of_lt_of_le (blk_lt Y2.out.blk) hO.size
            clear hR hO S2 R2 L2 Y2 HB2
            go_wp2_with fail

            change Calls _ _ _ (w4.alloc (.cells (ent f).toArray 31)) _
            clear x0 x1 x2 x3 x4 x5 hb2l
            generalize w4.alloc (.cells (ent f).toArray 31) = w5 at *
            have S5 := Aside0.mk (Seen.tail0 (w := w5) (g := g) (B := B) (some ad0))

            refine (many_q R4.out).mono ?_
            rintro e w9 ⟨rfl, n9, rfl⟩
            have S9 := Aside0.mk (S5.out.drewN n9)
            have R9 := Aside0.mk (R4.out.drewN n9)
            have L9 := Aside0.mk (pw_below_drewN L4.out n9)
            clear S5 R4 L4
            generalize w5.drewN n9 = w9 at *
            go_wp2_with fail
            refine (room_q R9.out).mono ?_
            rintro e w10 ⟨rfl, n10, rfl⟩
            have S10 := Aside0.mk (S9.out.drewN n10)
            have R10 := Aside0.mk (R9.out.drewN n10)
            have L10 := Aside0.mk (pw_below_drewN L9.out n10)
            clear S9 R9 L9
            generalize w9.drewN n10 = w10 at *
            go_wp2
            go_roundw
            case rel => exact ⟨k + 1, ([] : List S31), (some ad0), 0, by omega, by omega, rfl, by go_num, S10, R10, L10⟩
            case measure => simp [intOf]; omega
          · have hc2 : 2 ≤ c := by have := HLC.out; omega
            go_wp2_with fail
            change Calls _ _ _ (wr.alloc (.cells (act x).toArray 42)) _
            generalize hb1 : wr.heap.size = b1 at *
            generalize wr.alloc (.cells (act x).toArray 42) = w1 at *
            clear a0 a1 a2 a3 a4 a5 a6 a7 a8 hb1

            refine (rpeek_cons f l S1.out.read S1.out.le).mono ?_
            rintro e w2 ⟨rfl, hb⟩
            have S2 := Aside0.mk ((S1.out.below hb).alloc (.cells (ent f).toArray 31))
            have R2 := Aside0.mk ((R1.out.below hb).alloc (.cells (ent f).toArray 31))
            have L2 := Aside0.mk (below_alloc (below_then L1.out L1.out.size hb) (.cells (ent f).toArray 31))
            have Y2 := Aside0.mk (Boxed.new w2 f)
            have HB2 := Aside0.mk (show w2.heap.size ≠ g ∧ w2.heap.size ≠ B from by have h1 := (R1.out.below hb).lt; have h2 := (R1.out.below hb).Blt; exact ⟨by omega, by omega⟩)
            clear hb X1 S1 R1 L1 HBL
            go_wp2_with fail
            change Calls _ _ _ (w2.alloc (.cells (ent f).toArray 31)) _
            generalize hb2 : w2.heap.size = b2 at *
            generalize w2.alloc (.cells (ent f).toArray 31) = w3 at *
            clear hb2
            refine (pop_cons R2.out).mono ?_
            rintro e w4 ⟨rfl, hR, hO⟩
            have S4 := Aside0.mk ((S2.out.only hO).alloc (.cells (ent f).toArray 31))
            have R4 := Aside0.mk (hR.alloc (.cells (ent f).toArray 31))
            have L4 := Aside0.mk (below_alloc (Only.step L2.out Hg.out HB.out hO) (.cells (ent f).toArray 31))
            obtain ⟨x0, x1, x2, x3, x4, x5⟩ := (Y2.out.only hO HB2.out.1 HB2.out.2).cells
            have hb2l : b2 < w4.heap.size := Nat.lt_of_lt_of_le (blk_lt Y2.out.blk) hO.size
            clear hR hO S2 R2 L2 Y2 HB2
            go_wp2_with fail

            change Calls _ _ _ (w4.alloc (.cells (ent f).toArray 31)) _
            clear x0 x1 x2 x3 x4 x5 hb2l
            generalize w4.alloc (.cells (ent f).toArray 31) = w5 at *
            have S5 := Aside0.mk S4.out.tail
            clear S4

            refine (many_q R4.out).mono ?_
            rintro e w9 ⟨rfl, n9, rfl⟩
            have S9 := Aside0.mk (S5.out.drewN n9)
            have R9 := Aside0.mk (R4.out.drewN n9)
            have L9 := Aside0.mk (pw_below_drewN L4.out n9)
            clear S5 R4 L4
            generalize w5.drewN n9 = w9 at *
            go_wp2_with fail
            refine (room_q R9.out).mono ?_
            rintro e w10 ⟨rfl, n10, rfl⟩
            have S10 := Aside0.mk (S9.out.drewN n10)
            have R10 := Aside0.mk (R9.out.drewN n10)
            have L10 := Aside0.mk (pw_below_drewN L9.out n10)
            clear S9 R9 L9
            generalize w9.drewN n10 = w10 at *
            go_wp2
            go_roundw
            case rel => exact ⟨k + 1, l, (some ⟨ad0.block, ad0.off + 6, none⟩), (c - 1), by omega, by omega, rfl, by go_num, S10, R10, L10⟩
            case measure => simp [intOf]; omega
      have e1 : (x.d == 1) = false := beq_eq_false_iff_ne.mpr d1
      by_cases d2 : x.d = 2
      · have e2 : (x.d == 2) = true := beq_iff_eq.mpr d2
        clear d0 d1 d2
        obtain ⟨y, hy⟩ : ∃ y, (if 0 ≤ x.i ∧ x.i < (q.length : Int) then q.getD x.i.toNat z31 else z31) = y := ⟨_, rfl⟩
        obtain ⟨pb, hpb⟩ : ∃ pb, decide (0 ≤ x.i ∧ x.i < (q.length : Int)) = pb := ⟨_, rfl⟩
        have HY := Aside0.mk hy
        have HPB := Aside0.mk hpb
        clear hy hpb

        go_wp2_with fail
        change Calls _ _ _ (wr.alloc (.cells (act x).toArray 42)) _
        generalize hb1 : wr.heap.size = b1 at *
        generalize wr.alloc (.cells (act x).toArray 42) = w1 at *
        clear a0 a1 a2 a3 a4 a5 a6 a7 a8 hb1

        have hpk := rpeek_q A c q x.i w1 S1.out.read S1.out.le
        rw [HY.out, HPB.out] at hpk
        unfold entV at hpk
        refine hpk.mono ?_
        clear hpk
        rintro e w2 ⟨rfl, hb⟩
        have X2 := Aside0.mk ((X1.out.below hb).below (below_alloc (Below.refl _ _) (.cells (ent y).toArray 31)))
        have S2 := Aside0.mk ((S1.out.below hb).alloc (.cells (ent y).toArray 31))
        have R2 := Aside0.mk ((R1.out.below hb).alloc (.cells (ent y).toArray 31))
        have L2 := Aside0.mk (below_alloc (below_then L1.out L1.out.size hb) (.cells (ent y).toArray 31))
        have Y2 := Aside0.mk (Boxed.new w2 y)
        obtain ⟨_, a1, _⟩ := X2.out.cells
        change (w2.alloc (.cells #[.int .i64 y.f0, .int .i64 y.f1, .int .i64 y.f2, .int .u64 y.f3, .int .u64 y.f4, .string y.f5] 31)).cell? _ = _ at a1
        clear hb X1 S1 R1 L1 HBL
        go_wp2_with fail
        change Calls _ _ _ (w2.alloc (.cells (ent y).toArray 31)) _
        change (w2.alloc (.cells (ent y).toArray 31)).cell? _ = _ at a1
        generalize hb2 : w2.heap.size = b2 at *
        generalize w2.alloc (.cells (ent y).toArray 31) = w3 at *
        clear hb2 a1
        have hpk := peek_q R2.out x.i
        rw [HY.out, HPB.out] at hpk
        unfold entV at hpk
        refine hpk.mono ?_
        clear hpk
        rintro e w4 ⟨rfl, hR, hb⟩
        have S4 := Aside0.mk ((S2.out.below hb).alloc (.cells (ent y).toArray 31))
        have R4 := Aside0.mk (hR.alloc (.cells (ent y).toArray 31))
        have L4 := Aside0.mk (below_alloc (below_then L2.out L2.out.size hb) (.cells (ent y).toArray 31))
        obtain ⟨x0, x1, x2, x3, x4, x5⟩ := (Y2.out.below hb).cells
        have hb2l : b2 < w4.heap.size := Nat.lt_of_lt_of_le (blk_lt Y2.out.blk) hb.size
        clear hR hb S2 R2 L2 Y2 X2
        go_wp2_with fail

        change Calls _ _ _ (w4.alloc (.cells (ent y).toArray 31)) _
        clear x0 x1 x2 x3 x4 x5 hb2l
        generalize w4.alloc (.cells (ent y).toArray 31) = w5 at *

        refine (many_q R4.out).mono ?_
        rintro e w9 ⟨rfl, n9, rfl⟩
        have S9 := Aside0.mk (S4.out.drewN n9)
        have R9 := Aside0.mk (R4.out.drewN n9)
        have L9 := Aside0.mk (pw_below_drewN L4.out n9)
        clear S4 R4 L4
        generalize w5.drewN n9 = w9 at *
        go_wp2_with fail
        refine (room_q R9.out).mono ?_
        rintro e w10 ⟨rfl, n10, rfl⟩
        have S10 := Aside0.mk (S9.out.drewN n10)
        have R10 := Aside0.mk (R9.out.drewN n10)
        have L10 := Aside0.mk (pw_below_drewN L9.out n10)
        clear S9 R9 L9
        generalize w9.drewN n10 = w10 at *
        go_wp2
        go_roundw
        case rel => exact ⟨k + 1, q, A, c, by omega, by omega, rfl, by go_num, S10, R10, L10⟩
        case measure => simp [intOf]; omega
      have e2 : (x.d == 2) = false := beq_eq_false_iff_ne.mpr d2
      by_cases d3 : x.d = 3
      · have e3 : (x.d == 3) = true := beq_iff_eq.mpr d3
        clear d0 d1 d2 d3
        go_wp2_with fail
        change Calls _ _ _ (wr.alloc (.cells (act x).toArray 42)) _
        generalize hb1 : wr.heap.size = b1 at *
        generalize wr.alloc (.cells (act x).toArray 42) = w1 at *
        clear a0 a1 a2 a3 a4 a5 a6 a7 a8 hb1

        refine (rdrop_q A c q x.s w1 S1.out.read S1.out.le HQ.out).mono ?_
        rintro e w2 ⟨v, rfl, hr, hb⟩
        obtain ⟨q5, hq5⟩ : ∃ q5, q5 = filt x.s q := ⟨_, rfl⟩
        have HF := Aside0.mk (show q5.length ≤ q.length from by rw [hq5]; exact filt_le _ _)
        rw [← hq5] at hr
        obtain ⟨A2, c2, rfl⟩ := Kd.R_slice hr
        have X2 := Aside0.mk (X1.out.below hb)
        have S2 := Aside0.mk (Seen.of_row hr R1.out.lt R1.out.Blt)
        have R2 := Aside0.mk (R1.out.below hb)
        have L2 := Aside0.mk (below_then L1.out L1.out.size hb)
        have N5 := Aside0.mk hq5
        have hw5 : IntKind.i64.wrap ((q.length : Int) - (q5.length : Int)) = (q.length : Int) - (q5.length : Int) := by
          have h1 := HF.out
          have h2 := HQ.out
          exact IntWalk.i64_in _ (by omega)
        clear hr hb hq5 X1 S1 R1 L1
        obtain ⟨a0, a1, a2, a3, a4, a5, a6, a7, a8⟩ := X2.out.cells

        go_wp2_with fail
        refine (drop_q R2.out x.s).mono ?_
        rintro e w3 ⟨rfl, hR, hO⟩
        rw [← N5.out] at hR
        have S3 := Aside0.mk (S2.out.only hO)
        have R3 := Aside0.mk hR
        have L3 := Aside0.mk (Only.step L2.out Hg.out HB.out hO)
        rw [← N5.out]
        clear hR hO X2 S2 R2 L2 a0 a1 a2 a3 a4 a5 a6 a7 a8
        go_wp2_with fail

        refine (many_q R3.out).mono ?_
        rintro e w9 ⟨rfl, n9, rfl⟩
        have S9 := Aside0.mk (S3.out.drewN n9)
        have R9 := Aside0.mk (R3.out.drewN n9)
        have L9 := Aside0.mk (pw_below_drewN L3.out n9)
        clear S3 R3 L3
        generalize w3.drewN n9 = w9 at *
        go_wp2_with fail
        refine (room_q R9.out).mono ?_
        rintro e w10 ⟨rfl, n10, rfl⟩
        have S10 := Aside0.mk (S9.out.drewN n10)
        have R10 := Aside0.mk (R9.out.drewN n10)
        have L10 := Aside0.mk (pw_below_drewN L9.out n10)
        clear S9 R9 L9
        generalize w9.drewN n10 = w10 at *
        go_wp2
        go_roundw
        case rel => exact ⟨k + 1, q5, A2, c2, by omega, by omega, rfl, by go_num, S10, R10, L10⟩
        case measure => simp [intOf]; omega
      have e3 : (x.d == 3) = false := beq_eq_false_iff_ne.mpr d3
      by_cases d4 : x.d = 4
      · have e4 : (x.d == 4) = true := beq_iff_eq.mpr d4
        clear d0 d1 d2 d3 d4
        go_wp2_with fail
        change Calls _ _ _ (wr.alloc (.cells (act x).toArray 42)) _
        generalize hb1 : wr.heap.size = b1 at *
        generalize wr.alloc (.cells (act x).toArray 42) = w1 at *
        clear a0 a1 a2 a3 a4 a5 a6 a7 a8 hb1

        refine (clear_q R1.out).mono ?_
        rintro e w3 ⟨rfl, hR, hO⟩
        have S3 := Aside0.mk (Seen.nil w3 g B)
        have R3 := Aside0.mk hR
        have L3 := Aside0.mk (Only.step L1.out Hg.out HB.out hO)
        clear hR hO X1 S1 R1 L1
        go_wp2_with fail

        refine (many_q R3.out).mono ?_
        rintro e w9 ⟨rfl, n9, rfl⟩
        have S9 := Aside0.mk (S3.out.drewN n9)
        have R9 := Aside0.mk (R3.out.drewN n9)
        have L9 := Aside0.mk (pw_below_drewN L3.out n9)
        clear S3 R3 L3
        generalize w3.drewN n9 = w9 at *
        go_wp2_with fail
        refine (room_q R9.out).mono ?_
        rintro e w10 ⟨rfl, n10, rfl⟩
        have S10 := Aside0.mk (S9.out.drewN n10)
        have R10 := Aside0.mk (R9.out.drewN n10)
        have L10 := Aside0.mk (pw_below_drewN L9.out n10)
        clear S9 R9 L9
        generalize w9.drewN n10 = w10 at *
        go_wp2
        go_roundw
        case rel => exact ⟨k + 1, ([] : List S31), none, 0, by omega, by omega, rfl, by go_num, S10, R10, L10⟩
        case measure => simp [intOf]; omega
      have e4 : (x.d == 4) = false := beq_eq_false_iff_ne.mpr d4
      clear d0 d1 d2 d3 d4

      go_wp2_with fail
      change Calls _ _ _ (wr.alloc (.cells (act x).toArray 42)) _
      generalize hb1 : wr.heap.size = b1 at *
      generalize wr.alloc (.cells (act x).toArray 42) = w1 at *
      clear a0 a1 a2 a3 a4 a5 a6 a7 a8 hb1

      refine (many_q R1.out).mono ?_
      rintro e w9 ⟨rfl, n9, rfl⟩
      have S9 := Aside0.mk (S1.out.drewN n9)
      have R9 := Aside0.mk (R1.out.drewN n9)
      have L9 := Aside0.mk (pw_below_drewN L1.out n9)
      clear S1 R1 L1
      generalize w1.drewN n9 = w9 at *
      go_wp2_with fail
      refine (room_q R9.out).mono ?_
      rintro e w10 ⟨rfl, n10, rfl⟩
      have S10 := Aside0.mk (S9.out.drewN n10)
      have R10 := Aside0.mk (R9.out.drewN n10)
      have L10 := Aside0.mk (pw_below_drewN L9.out n10)
      clear S9 R9 L9
      generalize w9.drewN n10 = w10 at *
      go_wp2
      go_roundw
      case rel => exact ⟨k + 1, q, A, c, by omega, by omega, rfl, by go_num, S10, R10, L10⟩
      case measure => simp [intOf]; omega
    · by_cases h1 : k < n1
      all_goals
        go_wp2
        go_ret
        exact ⟨rfl, HL.out⟩
theorem plays_any (room : Int) (A1 : Option Addr) (n1 c1 : Nat) (l1 : List S42) (w : World) (hr1 : Kd.C k42 w A1 n1 l1) (_ : n1 ≤ c1) (hm1 : n1 ≤ maxLen) :
    Calls Try.prog 6 #[.int .i64 room, .slice A1 n1 c1] w fun e w' => e = .returned (.bool true) ∧ Below w.heap.size w w' := by
  by_cases h : room < 0 ∨ 64 < room
  · exact plays_no room h A1 n1 c1 w
  · obtain ⟨r, rfl⟩ := Int.eq_ofNat_of_zero_le (show 0 ≤ room by omega)
    exact plays_yes r (by omega) A1 n1 c1 l1 w hr1 hm1
end Go.Proofs.Ytmdmoedakmoibaa.P
