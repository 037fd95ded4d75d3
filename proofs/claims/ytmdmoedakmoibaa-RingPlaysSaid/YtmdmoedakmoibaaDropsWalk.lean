/- The walk of the law RingDrops. -/
import Derived.Test.YtmdmoedakmoibaaFixed
namespace Go.Proofs.Ytmdmoedakmoibaa.P
open Go.RowKit Go.Proofs.YtmdmoedakmoibaaW.PrintWords Go.Proofs.YtmdmoedakmoibaaW.PrintLast Go.Proofs.YtmdmoedakmoibaaW.PrintMore
attribute [local go_sem high] eqA31
set_option linter.unusedVariables false
set_option linter.unusedSimpArgs false

/-- Two rings with no block in common. -/
def Far (g B g2 B2 : Nat) : Prop := g ≠ g2 ∧ g ≠ B2 ∧ B ≠ g2 ∧ B ≠ B2
theorem Far.symm {g B g2 B2 : Nat} (h : Far g B g2 B2) : Far g2 B2 g B := ⟨h.1.symm, h.2.2.1.symm, h.2.1.symm, h.2.2.2.symm⟩
theorem RingQ.far {w w' : World} {g B room g2 B2 : Nat} {q : List S31} (h : RingQ w g B room q) (ho : Only w w' g2 B2) (hf : Far g B g2 B2) : RingQ w' g B room q := h.only ho hf.1 hf.2.1 hf.2.2.1 hf.2.2.2
/-- The cells of an element that is read. -/
theorem rd_at {w : World} {A : Option Addr} {n : Nat} {xs : List S31} (h : Kd.C k31 w A n xs) (i : Nat) (hi : i < n) : ∃ ad, A = some ad ∧ w.cell? (ad.add (i * 6)) = some (.int .i64 (xs.getD i z31).f0) ∧ w.cell? ⟨(ad.add (i * 6)).block, (ad.add (i * 6)).off + 1, none⟩ = some (.int .i64 (xs.getD i z31).f1) ∧ w.cell? ⟨(ad.add (i * 6)).block, (ad.add (i * 6)).off + 2, none⟩ = some (.int .i64 (xs.getD i z31).f2) ∧
    w.cell? ⟨(ad.add (i * 6)).block, (ad.add (i * 6)).off + 3, none⟩ = some (.int .u64 (xs.getD i z31).f3) ∧ w.cell? ⟨(ad.add (i * 6)).block, (ad.add (i * 6)).off + 4, none⟩ = some (.int .u64 (xs.getD i z31).f4) ∧ w.cell? ⟨(ad.add (i * 6)).block, (ad.add (i * 6)).off + 5, none⟩ = some (.string (xs.getD i z31).f5) := by
  have := at_T31 h (i : Int) (by omega) (by omega)
  unfold rd_T31 at this
  rwa [Int.toNat_natCast] at this
theorem take_next (xs : List S31) (k : Nat) (h : k < xs.length) : xs.take (k + 1) = xs.take k ++ [xs.getD k z31] := take_succ' xs k h

set_option maxHeartbeats 12800000 in
theorem drops_any (A : Option Addr) (n c : Nat) (xs : List S31) (s : Int) (w : World) (hr : Kd.C k31 w A n xs) (hnc : n ≤ c) (hn : n ≤ maxLen) :
    Calls Try.prog 5 #[.slice A n c, .int .u64 s] w fun e w' => e = .returned (.bool true) ∧ Below w.heap.size w w' := by
  have hn2 : n ≤ 9223372036854775807 := hn
  clear hn
  have hxl := Kd.C_len hr
  have HC := Aside0.mk hr
  have HXL := Aside0.mk hxl
  clear hr hxl
  go_enter Try.func5, Try.ntmps5
  go_wp2_with fail
  refine (new_q 64 (by decide) w).mono ?_
  rintro e w1 ⟨g, B, rfl, hg, hB, hR, hL⟩
  have HR := Aside0.mk hR
  have HL := Aside0.mk hL
  have Hg := Aside0.mk hg
  have HB := Aside0.mk hB
  clear hR hL hg hB
  go_wp2_with fail
  refine (new_q 64 (by decide) w1).mono ?_
  rintro e w2 ⟨g2, B2, rfl, hg, hB, hR, hL⟩
  have HF := Aside0.mk (show Far g B g2 B2 from by have := HR.out.lt; have := HR.out.Blt; exact ⟨by omega, by omega, by omega, by omega⟩)
  have HL2 := Aside0.mk (below_then HL.out HL.out.size hL)
  have HR1 := Aside0.mk (HR.out.below hL)
  have HR2 := Aside0.mk hR
  have Hg2 := Aside0.mk (Nat.le_trans HL.out.size hg)
  have HB2 := Aside0.mk (Nat.le_trans HL.out.size hB)
  clear hR hL hg hB HL HR
  go_wp2_with fail
  refine (fixed_q w2).mono ?_
  rintro e w3 ⟨rfl, hb⟩
  have L3 := Aside0.mk (below_then HL2.out HL2.out.size hb)
  have R3 := Aside0.mk (HR1.out.below hb)
  have S3 := Aside0.mk (HR2.out.below hb)
  clear hb HL2 HR1 HR2
  go_wp2
  go_loopw [9] (fun iv wr => ∃ k : Nat, k ≤ n ∧ k ≤ 64 ∧ iv = .int .i64 k ∧ Aside0 (RingQ wr g B 64 (xs.take k)) ∧ Aside0 (RingQ wr g2 B2 64 (filt s (xs.take k))) ∧ Aside0 (Below w.heap.size w wr)) (fun iv _ => 64 - (intOf iv).toNat)
  case atStart => exact ⟨0, Nat.zero_le _, Nat.zero_le _, rfl, R3, S3, L3⟩
  case round =>
    clear R3 S3 L3
    obtain ⟨k, hkn, hk64, rfl, HR, HS, HL⟩ := hrel
    by_cases hlt : k < n ∧ k < 64
    · obtain ⟨hlt1, hlt2⟩ := hlt
      have hkx : (xs.take k).length < 64 := by rw [List.length_take]; omega
      have hkf : (filt s (xs.take k)).length < 64 := Nat.lt_of_le_of_lt (filt_le _ _) hkx
      obtain ⟨ad, hA, y0, y1, y2, y3, y4, y5⟩ := rd_at (Kd.C_below HC.out HL.out) k hlt1
      subst hA
      obtain ⟨x, hx⟩ : ∃ x, xs.getD k z31 = x := ⟨_, rfl⟩
      have HX := Aside0.mk hx
      rw [hx] at y0 y1 y2 y3 y4 y5
      have HXL2 := Aside0.mk hkx
      have HXF := Aside0.mk hkf
      clear hx hkx hkf
      go_wp2_with fail
      refine (push_lt HR.out HXL2.out x).mono ?_
      rintro e w4 ⟨rfl, hR, hO⟩
      have L4 := Aside0.mk (Only.step HL.out Hg.out HB.out hO)
      have R4 := Aside0.mk hR
      have S4 := Aside0.mk (HS.out.far hO HF.out.symm)
      clear hR hO HR HS HL y0 y1 y2 y3 y4 y5
      obtain ⟨ad2, hA2, y0, y1, y2, y3, y4, y5⟩ := rd_at (Kd.C_below HC.out L4.out) k hlt1
      obtain rfl : ad = ad2 := by injection hA2
      rw [HX.out] at y0 y1 y2 y3 y4 y5
      have e1 := take_next xs k (by rw [HXL.out]; exact hlt1)
      rw [HX.out] at e1
      have HE1 := Aside0.mk e1
      clear e1 hA2
      by_cases hs : x.f3 = s
      · have hb : (x.f3 == s) = true := beq_iff_eq.mpr hs
        have hb2 : (x.f3 != s) = false := by rw [bne, hb]; rfl
        have e2 := filt_snoc s (xs.take k) x
        rw [if_pos hs, ← HE1.out] at e2
        have HE2 := Aside0.mk e2
        clear e2 hs
        go_wp2
        go_roundw
        case rel => exact ⟨k + 1, by omega, by omega, by go_num, ⟨by rw [HE1.out]; exact R4.out⟩, ⟨by rw [HE2.out]; exact S4.out⟩, L4⟩
        case measure => simp [intOf]; omega
      · have hb : (x.f3 == s) = false := beq_eq_false_iff_ne.mpr hs
        have hb2 : (x.f3 != s) = true := by rw [bne, hb]; rfl
        have e2 := filt_snoc s (xs.take k) x
        rw [if_neg hs, ← HE1.out] at e2
        have HE2 := Aside0.mk e2
        clear e2 hs
        go_wp2_with fail
        refine (push_lt S4.out HXF.out x).mono ?_
        rintro e w5 ⟨rfl, hR, hO⟩
        have L5 := Aside0.mk (Only.step L4.out Hg2.out HB2.out hO)
        have S5 := Aside0.mk hR
        have R5 := Aside0.mk (R4.out.far hO HF.out)
        clear hR hO R4 S4 L4 y0 y1 y2 y3 y4 y5
        go_wp2
        go_roundw
        case rel => exact ⟨k + 1, by omega, by omega, by go_num, ⟨by rw [HE1.out]; exact R5.out⟩, ⟨by rw [HE2.out]; exact S5.out⟩, L5⟩
        case measure => simp [intOf]; omega
    · by_cases h1 : k < n
      all_goals
        have hql := HR.out.le
        obtain ⟨q, hq⟩ : ∃ q, xs.take k = q := ⟨_, rfl⟩
        rw [hq] at HR HS hql
        clear hq
        have hfl := HS.out.le
        obtain ⟨F, hf⟩ : ∃ F, filt s q = F := ⟨_, rfl⟩
        have HFQ := Aside0.mk hf
        rw [hf] at HS hfl
        clear hf
        go_wp2_with fail
        refine (many_q HR.out).mono ?_
        rintro e w4 ⟨rfl, n4, rfl⟩
        have R4 := Aside0.mk (HR.out.drewN n4)
        have S4 := Aside0.mk (HS.out.drewN n4)
        have L4 := Aside0.mk (pw_below_drewN HL.out n4)
        clear HR HS HL
        generalize wr.drewN n4 = w4 at R4 S4 L4
        go_wp2_with fail
        refine (many_q S4.out).mono ?_
        rintro e w5 ⟨rfl, n5, rfl⟩
        have R5 := Aside0.mk (R4.out.drewN n5)
        have S5 := Aside0.mk (S4.out.drewN n5)
        have L5 := Aside0.mk (pw_below_drewN L4.out n5)
        clear R4 S4 L4
        generalize w4.drewN n5 = w5 at R5 S5 L5
        go_wp2_with fail
        refine (drop_q R5.out s).mono ?_
        rintro e w6 ⟨rfl, hR, hO⟩
        have L6 := Aside0.mk (Only.step L5.out Hg.out HB.out hO)
        have S6 := Aside0.mk (S5.out.far hO HF.out.symm)
        rw [HFQ.out] at hR
        rw [HFQ.out]
        have R6 := Aside0.mk hR
        clear hR hO R5 S5 L5
        go_wp2_with fail
        refine (many_q R6.out).mono ?_
        rintro e w7 ⟨rfl, n7, rfl⟩
        have R7 := Aside0.mk (R6.out.drewN n7)
        have S7 := Aside0.mk (S6.out.drewN n7)
        have L7 := Aside0.mk (pw_below_drewN L6.out n7)
        clear R6 S6 L6
        generalize w6.drewN n7 = w7 at R7 S7 L7
        go_wp2_with fail
        refine (many_q S7.out).mono ?_
        rintro e w8 ⟨rfl, n8, rfl⟩
        have R8 := Aside0.mk (R7.out.drewN n8)
        have S8 := Aside0.mk (S7.out.drewN n8)
        have L8 := Aside0.mk (pw_below_drewN L7.out n8)
        clear R7 S7 L7
        generalize w7.drewN n8 = w8 at R8 S8 L8
        go_wp2
        go_loopw [11] (fun iv wt => ∃ (k : Nat) (q : List S31), k ≤ 65 ∧ q.length ≤ 64 - k ∧ iv = .int .i64 k ∧ Aside0 (RingQ wt g B 64 q) ∧ Aside0 (RingQ wt g2 B2 64 q) ∧ Aside0 (Below w.heap.size w wt)) (fun iv _ => 65 - (intOf iv).toNat)
        case atStart => exact ⟨0, F, by omega, by omega, rfl, R8, S8, L8⟩
        case round =>
          clear R8 S8 L8
          obtain ⟨i, p, hi65, hpl, rfl, HR, HS, HL⟩ := hrel
          by_cases hlt3 : i ≤ 64
          · cases p with
            | nil =>
              go_wp2_with fail
              refine (pop_nil HR.out).mono ?_
              rintro e v1 ⟨rfl, hR, hO⟩
              have L1 := Aside0.mk (below_alloc (Only.step HL.out Hg.out HB.out hO) (.cells (ent z31).toArray 31))
              have R1 := Aside0.mk (hR.alloc (.cells (ent z31).toArray 31))
              have S1 := Aside0.mk ((HS.out.far hO HF.out.symm).alloc (.cells (ent z31).toArray 31))
              have X1 := Aside0.mk (Boxed.new v1 z31)
              have hblt : v1.heap.size ≠ g2 ∧ v1.heap.size ≠ B2 := by have h1 := (HS.out.far hO HF.out.symm).lt; have h2 := (HS.out.far hO HF.out.symm).Blt; exact ⟨by omega, by omega⟩
              have HBL := Aside0.mk hblt
              clear hR hO HR HS HL hblt
              go_wp2_with fail
              change Calls _ _ _ (v1.alloc (.cells (ent z31).toArray 31)) _
              generalize hb1 : v1.heap.size = b1 at *
              generalize v1.alloc (.cells (ent z31).toArray 31) = v2 at *
              clear hb1
              refine (pop_nil S1.out).mono ?_
              rintro e v3 ⟨rfl, hR, hO⟩
              have L3 := Aside0.mk (below_alloc (Only.step L1.out Hg2.out HB2.out hO) (.cells (ent z31).toArray 31))
              have S3 := Aside0.mk (hR.alloc (.cells (ent z31).toArray 31))
              have R3 := Aside0.mk ((R1.out.far hO HF.out).alloc (.cells (ent z31).toArray 31))
              obtain ⟨x0, x1, x2, x3, x4, x5⟩ := (X1.out.only hO HBL.out.1 HBL.out.2).cells
              have hb1l : b1 < v3.heap.size := Nat.lt_of_lt_of_le (blk_lt X1.out.blk) hO.size
              change _ = some (Value.int .i64 0) at x0 x1 x2
              change _ = some (Value.int .u64 0) at x3 x4
              change _ = some (Value.string ⟨#[]⟩) at x5
              clear hR hO R1 S1 L1 X1 HBL
              go_wp2
              go_roundw
              case rel => exact ⟨i + 1, [], by omega, by simp, by go_num, R3, S3, L3⟩
              case measure => simp [intOf]; omega
            | cons x l =>
              rw [List.length_cons] at hpl
              go_wp2_with fail
              refine (pop_cons HR.out).mono ?_
              rintro e v1 ⟨rfl, hR, hO⟩
              have L1 := Aside0.mk (below_alloc (Only.step HL.out Hg.out HB.out hO) (.cells (ent x).toArray 31))
              have R1 := Aside0.mk (hR.alloc (.cells (ent x).toArray 31))
              have S1 := Aside0.mk ((HS.out.far hO HF.out.symm).alloc (.cells (ent x).toArray 31))
              have X1 := Aside0.mk (Boxed.new v1 x)
              have hblt : v1.heap.size ≠ g2 ∧ v1.heap.size ≠ B2 := by have h1 := (HS.out.far hO HF.out.symm).lt; have h2 := (HS.out.far hO HF.out.symm).Blt; exact ⟨by omega, by omega⟩
              have HBL := Aside0.mk hblt
              clear hR hO HR HS HL hblt
              go_wp2_with fail
              change Calls _ _ _ (v1.alloc (.cells (ent x).toArray 31)) _
              generalize hb1 : v1.heap.size = b1 at *
              generalize v1.alloc (.cells (ent x).toArray 31) = v2 at *
              clear hb1
              refine (pop_cons S1.out).mono ?_
              rintro e v3 ⟨rfl, hR, hO⟩
              have L3 := Aside0.mk (below_alloc (Only.step L1.out Hg2.out HB2.out hO) (.cells (ent x).toArray 31))
              have S3 := Aside0.mk (hR.alloc (.cells (ent x).toArray 31))
              have R3 := Aside0.mk ((R1.out.far hO HF.out).alloc (.cells (ent x).toArray 31))
              obtain ⟨x0, x1, x2, x3, x4, x5⟩ := (X1.out.only hO HBL.out.1 HBL.out.2).cells
              have hb1l : b1 < v3.heap.size := Nat.lt_of_lt_of_le (blk_lt X1.out.blk) hO.size
              clear hR hO R1 S1 L1 X1 HBL
              go_wp2
              go_roundw
              case rel => exact ⟨i + 1, l, by omega, by omega, by go_num, R3, S3, L3⟩
              case measure => simp [intOf]; omega
          · obtain rfl : i = 65 := by omega
            obtain rfl : p = [] := List.length_eq_zero_iff.mp (by omega)
            go_wp2_with fail
            refine (congresslaw06_text.calls ⟨#[120]⟩ 1 0 0 0 0 ⟨#[120]⟩ _ rfl).mono ?_
            rintro e v1 ⟨rfl, hb⟩
            have R1 := Aside0.mk (HR.out.below hb)
            have L1 := Aside0.mk (below_then HL.out HL.out.size hb)
            clear hb HR HS HL
            go_wp2_with fail
            refine (push_lt R1.out (by decide) (sent ⟨#[120]⟩)).mono ?_
            rintro e v2 ⟨rfl, hR, hO⟩
            have R2 := Aside0.mk hR
            have L2 := Aside0.mk (Only.step L1.out Hg.out HB.out hO)
            clear hR hO R1 L1
            go_wp2_with fail
            refine (many_q R2.out).mono ?_
            rintro e v3 ⟨rfl, n3, rfl⟩
            go_wp2
            go_ret
            exact ⟨rfl, pw_below_drewN L2.out n3⟩
end Go.Proofs.Ytmdmoedakmoibaa.P
