/- The walk of the law RingOrders. -/
import Derived.Test.YtmdmoedakmoibaaMine
namespace Go.Proofs.Ytmdmoedakmoibaa.P
open Go.RowKit Go.Proofs.YtmdmoedakmoibaaW.PrintWords Go.Proofs.YtmdmoedakmoibaaW.PrintLast Go.Proofs.YtmdmoedakmoibaaW.PrintMore
attribute [local go_sem high] eqA31
set_option linter.unusedVariables false
set_option linter.unusedSimpArgs false

set_option maxHeartbeats 1600000 in
theorem orders_no (room : Int) (h : room < 0 ∨ 64 < room) (A1 : Option Addr) (n1 c1 : Nat) (A2 : Option Addr) (n2 c2 : Nat) (w : World) :
    Calls Try.prog 3 #[.int .i64 room, .slice A1 n1 c1, .slice A2 n2 c2] w fun e w' => e = .returned (.bool true) ∧ Below w.heap.size w w' := by
  have H := Aside0.mk h
  clear h
  go_enter Try.func3, Try.ntmps3
  go_wp2_with fail
  refine (new_no room H.out w).mono ?_
  rintro e w1 ⟨rfl, rfl⟩
  go_wp2_with fail
  refine (fixed_q w).mono ?_
  rintro e w1 ⟨rfl, hb⟩
  have L1 := Aside0.mk hb
  clear hb
  go_wp2_with fail
  refine (fixed_q w1).mono ?_
  rintro e w2 ⟨rfl, hb⟩
  have L2 := Aside0.mk (below_then L1.out L1.out.size hb)
  clear hb
  go_wp2
  go_ret
  exact ⟨rfl, L2.out⟩
set_option maxHeartbeats 25600000 in
set_option maxRecDepth 100000 in
theorem orders_yes (room : Nat) (hroom : room ≤ 64) (A1 : Option Addr) (n1 c1 : Nat) (l1 : List S31) (A2 : Option Addr) (n2 c2 : Nat) (l2 : List Bool) (w : World) (hr1 : Kd.C k31 w A1 n1 l1) (hm1 : n1 ≤ maxLen) (hr2 : Kd.C Kd.bool w A2 n2 l2) (hm2 : n2 ≤ maxLen) :
    Calls Try.prog 3 #[.int .i64 room, .slice A1 n1 c1, .slice A2 n2 c2] w fun e w' => e = .returned (.bool true) ∧ Below w.heap.size w w' := by
  have HC1 := Aside0.mk hr1
  have HC2 := Aside0.mk hr2
  have hn1 : n1 ≤ 9223372036854775807 := hm1
  have hn2 : n2 ≤ 9223372036854775807 := hm2
  clear hr1 hr2 hm1 hm2
  go_enter Try.func3, Try.ntmps3
  go_wp2_with fail
  refine (new_q room hroom w).mono ?_
  rintro e w1 ⟨g, B, rfl, hg, hB, hR, hL⟩
  have HR := Aside0.mk hR
  have HL := Aside0.mk hL
  have Hg := Aside0.mk hg
  have HB := Aside0.mk hB
  clear hR hL hg hB
  go_wp2_with fail
  refine (fixed_q w1).mono ?_
  rintro e w3 ⟨rfl, hb⟩
  have L3 := Aside0.mk (below_then HL.out HL.out.size hb)
  have R3 := Aside0.mk (HR.out.below hb)
  clear hb HL HR
  go_wp2_with (first
    | ((with_reducible refine gate_dst (N := 31) rfl ?_); refine Kd.R_lit k31 _ 31 ?hg (N := 31) ?hd (xs := ([] : List S31)) (inner := []) (ok := fun _ => True) (okp := fun _ => True) ?hr ?hp (fun _ hk => hk) trivial (Below.refl _ _) (Nat.le_refl _) (by simp) ?_; (case hd => rfl); (case hg => rfl); (case hr => first | (go_simp; done) | (go_simp; rfl)); (case hp => exact Reps.none _ _); intro vt0 w4 ho hb hg_ hnew; obtain ⟨At, ct, rfl⟩ := Kd.R_slice ho;
        have M4 := Aside0.mk (Mine.of (w0 := w) (Kd.R_lower ho L3.out.size)); have O4 := Aside0.mk (Off.new R3.out.lt R3.out.Blt hnew); have L4 := Aside0.mk (below_then L3.out L3.out.size hb); have R4 := Aside0.mk (R3.out.below hb); clear R3 L3 ho hb hg_ hnew)
    | ((with_reducible refine gate_dst (N := 32) rfl ?_); refine Kd.R_lit k31 _ 31 ?hg (N := 32) ?hd (xs := ([] : List S31)) (inner := []) (ok := fun _ => True) (okp := fun _ => True) ?hr ?hp (fun _ hk => hk) trivial (Below.refl _ _) (Nat.le_refl _) (by simp) ?_; (case hd => rfl); (case hg => rfl); (case hr => first | (go_simp; done) | (go_simp; rfl)); (case hp => exact Reps.none _ _); intro vc0 w5 ho hb hg_ hnew; obtain ⟨Ac, cc, rfl⟩ := Kd.R_slice ho;
        have T5 := Aside0.mk (Two.start R4.out M4.out O4.out ho L4.out.size hb hnew); have L5 := Aside0.mk (below_then L4.out L4.out.size hb); clear R4 L4 M4 O4 ho hb hg_ hnew))
  go_wp2
  go_loopw [9, 10, 11] (fun v9 v10 iv wr => ∃ (k : Nat) (q tk cm : List S31) (At Ac : Option Addr) (ct cc : Nat), k ≤ n1 ∧ k ≤ 300 ∧ v9 = .slice At tk.length ct ∧ v10 = .slice Ac cm.length cc ∧ iv = .int .i64 k ∧ tk.length ≤ k ∧ Aside0 (tk = cm ++ q) ∧ Aside0 (Two w wr g B room q (.slice At tk.length ct) tk (.slice Ac cm.length cc) cm) ∧ Aside0 (Below w.heap.size w wr)) (fun _ _ iv _ => 300 - (intOf iv).toNat)
  case atStart => exact ⟨0, [], [], [], At, Ac, ct, cc, Nat.zero_le _, Nat.zero_le _, rfl, rfl, rfl, Nat.le_refl _, ⟨rfl⟩, T5, L5⟩
  case round =>
    clear T5 L5
    obtain ⟨k, q, tk, cm, At, Ac, ct, cc, hkn, hk300, rfl, rfl, rfl, htk, HE, HT, HL⟩ := hrel
    have hlen : tk.length = cm.length + q.length := by rw [HE.out, List.length_append]
    have hq64 : q.length ≤ room := HT.out.ring.le
    by_cases hlt : k < n1 ∧ k < 300
    · obtain ⟨hlt1, hlt2⟩ := hlt
      obtain ⟨x, hx⟩ : ∃ x, l1.getD k z31 = x := ⟨_, rfl⟩
      obtain ⟨ad, hA, y0, y1, y2, y3, y4, y5⟩ := rd_at (Kd.C_below HC1.out HL.out) k hlt1
      subst hA
      rw [hx] at y0 y1 y2 y3 y4 y5
      have hcell : ∀ W', Below w.heap.size w W' → W'.cell? (ad.add (k * 6)) = some (.int .i64 x.f0) ∧ W'.cell? ⟨(ad.add (k * 6)).block, (ad.add (k * 6)).off + 1, none⟩ = some (.int .i64 x.f1) ∧ W'.cell? ⟨(ad.add (k * 6)).block, (ad.add (k * 6)).off + 2, none⟩ = some (.int .i64 x.f2) ∧
          W'.cell? ⟨(ad.add (k * 6)).block, (ad.add (k * 6)).off + 3, none⟩ = some (.int .u64 x.f3) ∧ W'.cell? ⟨(ad.add (k * 6)).block, (ad.add (k * 6)).off + 4, none⟩ = some (.int .u64 x.f4) ∧ W'.cell? ⟨(ad.add (k * 6)).block, (ad.add (k * 6)).off + 5, none⟩ = some (.string x.f5) := by
        intro W' hb
        obtain ⟨ad', hA', y0, y1, y2, y3, y4, y5⟩ := rd_at (Kd.C_below HC1.out hb) k hlt1
        obtain rfl : ad = ad' := by injection hA'
        rw [hx] at y0 y1 y2 y3 y4 y5
        exact ⟨y0, y1, y2, y3, y4, y5⟩
      have HCELL := Aside0.mk hcell
      clear hcell hx
      have hw1 : IntKind.i64.wrap ((tk.length : Int) - (cm.length : Int)) = (q.length : Int) := by
        rw [IntWalk.i64_in _ (by omega)]; omega
      obtain ⟨pb, hpb⟩ : ∃ pb : Bool, (∀ W', Below w.heap.size w W' → k < n2 → ∃ ad2, A2 = some ad2 ∧ W'.cell? (ad2.add k) = some (.bool pb)) := by
        refine ⟨rdOf false l2 (k : Int), fun W' hb hk2 => ?_⟩
        obtain ⟨ad2, e2, hc2⟩ := Kd.at_bool (Kd.C_below HC2.out hb) (k : Int) (by omega) (by omega)
        rw [Int.toNat_natCast] at hc2
        exact ⟨ad2, e2, hc2⟩
      have HPB := Aside0.mk hpb
      have HLEN := Aside0.mk hlen
      have HQ := Aside0.mk hq64
      have HTK := Aside0.mk htk
      clear hpb hlen hq64 htk
      by_cases hk2 : k < n2
      · obtain ⟨ad2, e2, _⟩ := HPB.out _ HL.out hk2
        subst e2
        have HP2 := Aside0.mk (show ∀ W', Below w.heap.size w W' → W'.cell? (ad2.add k) = some (.bool pb) from fun W' hb => by
          obtain ⟨ad3, e3, h3⟩ := HPB.out W' hb hk2
          obtain rfl : ad2 = ad3 := by injection e3
          exact h3)
        clear HPB
        cases pb with
        | true =>
          by_cases hql : q.length < room
          · have hqb : decide ((q.length : Int) < (room : Int)) = true := decide_eq_true (by omega)
            go_wp2_with fail
            refine (push_lt HT.out.ring hql x).mono ?_
            rintro e w4 ⟨rfl, hR, hO⟩
            have L4 := Aside0.mk (Only.step HL.out Hg.out HB.out hO)
            have T4 := Aside0.mk (HT.out.only hO hR)
            have LM := Aside0.mk (show (tk.length + 1) * 56 ≤ 140737488355328 from by have := HTK.out; omega)
            obtain ⟨tk5, htk5⟩ : ∃ tk5, tk5 = tk ++ [x] := ⟨_, rfl⟩
            obtain ⟨q5, hq5⟩ : ∃ q5, q5 = q ++ [x] := ⟨_, rfl⟩
            have N5 := Aside0.mk htk5
            have E5 := Aside0.mk (show tk5 = cm ++ q5 from by rw [htk5, hq5, HE.out, List.append_assoc])
            have HTK5 := Aside0.mk (show tk5.length ≤ k + 1 from by rw [htk5, List.length_append, List.length_singleton]; have := HTK.out; omega)
            rw [← hq5] at T4
            obtain ⟨y0, y1, y2, y3, y4, y5⟩ := HCELL.out w4 L4.out
            clear hR hO HT HL htk5 hq5 HE HTK
            go_wp2_with ((with_reducible refine gate_builtin (b := .append) (xs := #[.tmp 64, .tmp 69]) rfl ?_); at_builtin; refine Kd.R_append k31 (w0 := w) w.heap.size rfl (.tmp 64) (.tmp 69) 22 31 (.agg #[(.int .i64 0), (.int .i64 0), (.int .i64 0), (.int .u64 0), (.int .u64 0), (.string ⟨#[]⟩)]) 56 rfl Try.underlying22 info31 rfl (by decide) (by omega) (.slice At tk.length ct) tk x [.int .i64 x.f0, .int .i64 x.f1, .int .i64 x.f2, .int .u64 x.f3, .int .u64 x.f4, .string x.f5] (fun _ => True) (fun _ => False) rfl ?hx ?aP (fun _ hk => hk.elim) ?aF ?aO ?aB ?aS ?aL ?_; (case hx => first | rfl | (rw [World.size_alloc]; rfl)); (case aP => exact k31_mkM _ _ _ x); (case aB => exact L4.out); (case aF => exact (fun _ _ => trivial)); (case aO => exact T4.out.t.any); (case aS => exact L4.out.size); (case aL => have := LM.out; omega); intro v5 w5 ho hb hg hat; rw [← N5.out] at ho; obtain ⟨At5, ct5, rfl⟩ := Kd.R_slice ho; have T5 := Aside0.mk (T4.out.putT ho hg hat); have L5 := Aside0.mk hb; clear y0 y1 y2 y3 y4 y5; have z5 := HP2.out w5 L5.out; clear ho hb hg hat T4 L4)

            cases q5 with
            | nil =>
              have HGT := Aside0.mk (show decide (cm.length < tk5.length) = false from decide_eq_false (by have h1 := congrArg List.length E5.out; rw [List.append_nil] at h1; omega))
              refine (pop_nil T5.out.ring).mono ?_
              rintro e w6 ⟨rfl, hR, hO⟩
              have T6 := Aside0.mk ((T5.out.only hO hR).below (below_alloc (Below.refl _ _) (.cells (ent z31).toArray 31)))
              have L6 := Aside0.mk (below_alloc (Only.step L5.out Hg.out HB.out hO) (.cells (ent z31).toArray 31))
              clear hR hO T5 L5
              have hgt := HGT.out
              clear HGT
              go_wp2_with fail
              change Calls _ _ _ (w6.alloc (.cells (ent z31).toArray 31)) _
              generalize w6.alloc (.cells (ent z31).toArray 31) = w7 at *
              have HW := Aside0.mk (show IntKind.i64.wrap ((tk5.length : Int) - (cm.length : Int)) = (([] : List S31).length : Int) from by
                have h1 := congrArg List.length E5.out
                rw [List.length_append] at h1
                have h2 := T6.out.ring.le
                rw [IntWalk.i64_in _ (by omega)]; omega)
              have HLE := Aside0.mk (show ([] : List S31).length ≤ room from T6.out.ring.le)
              refine (many_q T6.out.ring).mono ?_
              rintro e w9 ⟨rfl, n9, rfl⟩
              have T9 := Aside0.mk (T6.out.drewN n9)
              have L9 := Aside0.mk (pw_below_drewN L6.out n9)
              clear T6 L6
              generalize w7.drewN n9 = w9 at *
              have hw9 := HW.out
              have hle9 := HLE.out
              clear HW HLE
              go_wp2_with fail
              refine (many_q T9.out.ring).mono ?_
              rintro e w10 ⟨rfl, n10, rfl⟩
              have T10 := Aside0.mk (T9.out.drewN n10)
              have L10 := Aside0.mk (pw_below_drewN L9.out n10)
              clear T9 L9
              generalize w9.drewN n10 = w10 at *
              go_wp2
              go_roundw
              case rel => exact ⟨k + 1, ([] : List S31), tk5, cm, At5, Ac, ct5, cc, by omega, by omega, rfl, rfl, by go_num, by have := HTK5.out; omega, E5, T10, L10⟩
              case measure => simp [intOf]; omega
            | cons f l =>
              have HGT := Aside0.mk (show decide (cm.length < tk5.length) = true from decide_eq_true (by have h1 := congrArg List.length E5.out; rw [List.length_append, List.length_cons] at h1; omega))
              refine (pop_cons T5.out.ring).mono ?_
              rintro e w6 ⟨rfl, hR, hO⟩
              have T6 := Aside0.mk ((T5.out.only hO hR).below (below_alloc (Below.refl _ _) (.cells (ent f).toArray 31)))
              have L6 := Aside0.mk (below_alloc (Only.step L5.out Hg.out HB.out hO) (.cells (ent f).toArray 31))
              obtain ⟨x0, x1, x2, x3, x4, x5⟩ := (Boxed.new w6 f).cells
              clear hR hO T5 L5
              have hgt := HGT.out
              clear HGT
              obtain ⟨cm8, hcm8⟩ : ∃ cm8, cm8 = cm ++ [f] := ⟨_, rfl⟩
              have N8 := Aside0.mk hcm8
              have E8 := Aside0.mk (show tk5 = cm8 ++ l from by rw [hcm8, List.append_assoc]; exact E5.out)
              have LMC := Aside0.mk (show (cm.length + 1) * 56 ≤ 140737488355328 from by have h1 := congrArg List.length E5.out; rw [List.length_append] at h1; have := HTK5.out; omega)
              clear hcm8
              change (w6.alloc (.cells #[.int .i64 f.f0, .int .i64 f.f1, .int .i64 f.f2, .int .u64 f.f3, .int .u64 f.f4, .string f.f5] 31)).cell? _ = _ at x0 x1 x2 x3 x4 x5
              go_wp2_with ((with_reducible refine gate_builtin (b := .append) (xs := #[.tmp 94, .tmp 96]) rfl ?_); at_builtin; refine Kd.R_append k31 (w0 := w) w.heap.size rfl (.tmp 94) (.tmp 96) 22 31 (.agg #[(.int .i64 0), (.int .i64 0), (.int .i64 0), (.int .u64 0), (.int .u64 0), (.string ⟨#[]⟩)]) 56 rfl Try.underlying22 info31 rfl (by decide) (by omega) (.slice Ac cm.length cc) cm f [.int .i64 f.f0, .int .i64 f.f1, .int .i64 f.f2, .int .u64 f.f3, .int .u64 f.f4, .string f.f5] (fun _ => True) (fun _ => False) rfl ?hx ?aP (fun _ hk => hk.elim) ?aF ?aO ?aB ?aS ?aL ?_; (case hx => first | rfl | (rw [World.size_alloc]; rfl)); (case aP => exact k31_mkM _ _ _ f); (case aB => exact L6.out); (case aF => exact (fun _ _ => trivial)); (case aO => exact T6.out.c.any); (case aS => exact L6.out.size); (case aL => have := LMC.out; omega); intro v8 w8 ho hb hg hat; rw [← N8.out] at ho; obtain ⟨Ac8, cc8, rfl⟩ := Kd.R_slice ho; have T8 := Aside0.mk (T6.out.putC ho hg hat); have L8 := Aside0.mk hb; clear x0 x1 x2 x3 x4 x5; clear ho hb hg hat T6 L6)
              have HW := Aside0.mk (show IntKind.i64.wrap ((tk5.length : Int) - (cm8.length : Int)) = (l.length : Int) from by
                have h1 := congrArg List.length E8.out
                rw [List.length_append] at h1
                have h2 := T8.out.ring.le
                rw [IntWalk.i64_in _ (by omega)]; omega)
              have HLE := Aside0.mk (show l.length ≤ room from T8.out.ring.le)
              refine (many_q T8.out.ring).mono ?_
              rintro e w9 ⟨rfl, n9, rfl⟩
              have T9 := Aside0.mk (T8.out.drewN n9)
              have L9 := Aside0.mk (pw_below_drewN L8.out n9)
              clear T8 L8
              generalize w8.drewN n9 = w9 at *
              have hw9 := HW.out
              have hle9 := HLE.out
              clear HW HLE
              go_wp2_with fail
              refine (many_q T9.out.ring).mono ?_
              rintro e w10 ⟨rfl, n10, rfl⟩
              have T10 := Aside0.mk (T9.out.drewN n10)
              have L10 := Aside0.mk (pw_below_drewN L9.out n10)
              clear T9 L9
              generalize w9.drewN n10 = w10 at *
              go_wp2
              go_roundw
              case rel => exact ⟨k + 1, l, tk5, cm8, At5, Ac8, ct5, cc8, by omega, by omega, rfl, rfl, by go_num, by have := HTK5.out; omega, E8, T10, L10⟩
              case measure => simp [intOf]; omega
          · have hqb : decide ((q.length : Int) < (room : Int)) = false := decide_eq_false (by omega)
            go_wp2_with fail
            refine (push_ge HT.out.ring (by omega) x).mono ?_
            rintro e w4 ⟨rfl, hR, hO⟩
            have L4 := Aside0.mk (Only.step HL.out Hg.out HB.out hO)
            have T4 := Aside0.mk (HT.out.only hO hR)
            have HTK5 := Aside0.mk (show tk.length ≤ k + 1 from by have := HTK.out; omega)
            have z4 := HP2.out w4 L4.out
            clear hR hO HT HL y0 y1 y2 y3 y4 y5
            go_wp2_with fail

            cases q with
            | nil =>
              have HGT := Aside0.mk (show decide (cm.length < tk.length) = false from decide_eq_false (by have h1 := congrArg List.length HE.out; rw [List.append_nil] at h1; omega))
              refine (pop_nil T4.out.ring).mono ?_
              rintro e w6 ⟨rfl, hR, hO⟩
              have T6 := Aside0.mk ((T4.out.only hO hR).below (below_alloc (Below.refl _ _) (.cells (ent z31).toArray 31)))
              have L6 := Aside0.mk (below_alloc (Only.step L4.out Hg.out HB.out hO) (.cells (ent z31).toArray 31))
              clear hR hO T4 L4
              have hgt := HGT.out
              clear HGT
              go_wp2_with fail
              change Calls _ _ _ (w6.alloc (.cells (ent z31).toArray 31)) _
              generalize w6.alloc (.cells (ent z31).toArray 31) = w7 at *
              have HW := Aside0.mk (show IntKind.i64.wrap ((tk.length : Int) - (cm.length : Int)) = (([] : List S31).length : Int) from by
                have h1 := congrArg List.length HE.out
                rw [List.length_append] at h1
                have h2 := T6.out.ring.le
                rw [IntWalk.i64_in _ (by omega)]; omega)
              have HLE := Aside0.mk (show ([] : List S31).length ≤ room from T6.out.ring.le)
              refine (many_q T6.out.ring).mono ?_
              rintro e w9 ⟨rfl, n9, rfl⟩
              have T9 := Aside0.mk (T6.out.drewN n9)
              have L9 := Aside0.mk (pw_below_drewN L6.out n9)
              clear T6 L6
              generalize w7.drewN n9 = w9 at *
              have hw9 := HW.out
              have hle9 := HLE.out
              clear HW HLE
              go_wp2_with fail
              refine (many_q T9.out.ring).mono ?_
              rintro e w10 ⟨rfl, n10, rfl⟩
              have T10 := Aside0.mk (T9.out.drewN n10)
              have L10 := Aside0.mk (pw_below_drewN L9.out n10)
              clear T9 L9
              generalize w9.drewN n10 = w10 at *
              go_wp2
              go_roundw
              case rel => exact ⟨k + 1, ([] : List S31), tk, cm, At, Ac, ct, cc, by omega, by omega, rfl, rfl, by go_num, by have := HTK5.out; omega, HE, T10, L10⟩
              case measure => simp [intOf]; omega
            | cons f l =>
              have HGT := Aside0.mk (show decide (cm.length < tk.length) = true from decide_eq_true (by have h1 := congrArg List.length HE.out; rw [List.length_append, List.length_cons] at h1; omega))
              refine (pop_cons T4.out.ring).mono ?_
              rintro e w6 ⟨rfl, hR, hO⟩
              have T6 := Aside0.mk ((T4.out.only hO hR).below (below_alloc (Below.refl _ _) (.cells (ent f).toArray 31)))
              have L6 := Aside0.mk (below_alloc (Only.step L4.out Hg.out HB.out hO) (.cells (ent f).toArray 31))
              obtain ⟨x0, x1, x2, x3, x4, x5⟩ := (Boxed.new w6 f).cells
              clear hR hO T4 L4
              have hgt := HGT.out
              clear HGT
              obtain ⟨cm8, hcm8⟩ : ∃ cm8, cm8 = cm ++ [f] := ⟨_, rfl⟩
              have N8 := Aside0.mk hcm8
              have E8 := Aside0.mk (show tk = cm8 ++ l from by rw [hcm8, List.append_assoc]; exact HE.out)
              have LMC := Aside0.mk (show (cm.length + 1) * 56 ≤ 140737488355328 from by have h1 := congrArg List.length HE.out; rw [List.length_append] at h1; have := HTK5.out; omega)
              clear hcm8
              change (w6.alloc (.cells #[.int .i64 f.f0, .int .i64 f.f1, .int .i64 f.f2, .int .u64 f.f3, .int .u64 f.f4, .string f.f5] 31)).cell? _ = _ at x0 x1 x2 x3 x4 x5
              go_wp2_with ((with_reducible refine gate_builtin (b := .append) (xs := #[.tmp 94, .tmp 96]) rfl ?_); at_builtin; refine Kd.R_append k31 (w0 := w) w.heap.size rfl (.tmp 94) (.tmp 96) 22 31 (.agg #[(.int .i64 0), (.int .i64 0), (.int .i64 0), (.int .u64 0), (.int .u64 0), (.string ⟨#[]⟩)]) 56 rfl Try.underlying22 info31 rfl (by decide) (by omega) (.slice Ac cm.length cc) cm f [.int .i64 f.f0, .int .i64 f.f1, .int .i64 f.f2, .int .u64 f.f3, .int .u64 f.f4, .string f.f5] (fun _ => True) (fun _ => False) rfl ?hx ?aP (fun _ hk => hk.elim) ?aF ?aO ?aB ?aS ?aL ?_; (case hx => first | rfl | (rw [World.size_alloc]; rfl)); (case aP => exact k31_mkM _ _ _ f); (case aB => exact L6.out); (case aF => exact (fun _ _ => trivial)); (case aO => exact T6.out.c.any); (case aS => exact L6.out.size); (case aL => have := LMC.out; omega); intro v8 w8 ho hb hg hat; rw [← N8.out] at ho; obtain ⟨Ac8, cc8, rfl⟩ := Kd.R_slice ho; have T8 := Aside0.mk (T6.out.putC ho hg hat); have L8 := Aside0.mk hb; clear x0 x1 x2 x3 x4 x5; clear ho hb hg hat T6 L6)
              have HW := Aside0.mk (show IntKind.i64.wrap ((tk.length : Int) - (cm8.length : Int)) = (l.length : Int) from by
                have h1 := congrArg List.length E8.out
                rw [List.length_append] at h1
                have h2 := T8.out.ring.le
                rw [IntWalk.i64_in _ (by omega)]; omega)
              have HLE := Aside0.mk (show l.length ≤ room from T8.out.ring.le)
              refine (many_q T8.out.ring).mono ?_
              rintro e w9 ⟨rfl, n9, rfl⟩
              have T9 := Aside0.mk (T8.out.drewN n9)
              have L9 := Aside0.mk (pw_below_drewN L8.out n9)
              clear T8 L8
              generalize w8.drewN n9 = w9 at *
              have hw9 := HW.out
              have hle9 := HLE.out
              clear HW HLE
              go_wp2_with fail
              refine (many_q T9.out.ring).mono ?_
              rintro e w10 ⟨rfl, n10, rfl⟩
              have T10 := Aside0.mk (T9.out.drewN n10)
              have L10 := Aside0.mk (pw_below_drewN L9.out n10)
              clear T9 L9
              generalize w9.drewN n10 = w10 at *
              go_wp2
              go_roundw
              case rel => exact ⟨k + 1, l, tk, cm8, At, Ac8, ct, cc8, by omega, by omega, rfl, rfl, by go_num, by have := HTK5.out; omega, E8, T10, L10⟩
              case measure => simp [intOf]; omega
        | false =>
          by_cases hql : q.length < room
          · have hqb : decide ((q.length : Int) < (room : Int)) = true := decide_eq_true (by omega)
            go_wp2_with fail
            refine (push_lt HT.out.ring hql x).mono ?_
            rintro e w4 ⟨rfl, hR, hO⟩
            have L4 := Aside0.mk (Only.step HL.out Hg.out HB.out hO)
            have T4 := Aside0.mk (HT.out.only hO hR)
            have LM := Aside0.mk (show (tk.length + 1) * 56 ≤ 140737488355328 from by have := HTK.out; omega)
            obtain ⟨tk5, htk5⟩ : ∃ tk5, tk5 = tk ++ [x] := ⟨_, rfl⟩
            obtain ⟨q5, hq5⟩ : ∃ q5, q5 = q ++ [x] := ⟨_, rfl⟩
            have N5 := Aside0.mk htk5
            have E5 := Aside0.mk (show tk5 = cm ++ q5 from by rw [htk5, hq5, HE.out, List.append_assoc])
            have HTK5 := Aside0.mk (show tk5.length ≤ k + 1 from by rw [htk5, List.length_append, List.length_singleton]; have := HTK.out; omega)
            rw [← hq5] at T4
            obtain ⟨y0, y1, y2, y3, y4, y5⟩ := HCELL.out w4 L4.out
            clear hR hO HT HL htk5 hq5 HE HTK
            go_wp2_with ((with_reducible refine gate_builtin (b := .append) (xs := #[.tmp 64, .tmp 69]) rfl ?_); at_builtin; refine Kd.R_append k31 (w0 := w) w.heap.size rfl (.tmp 64) (.tmp 69) 22 31 (.agg #[(.int .i64 0), (.int .i64 0), (.int .i64 0), (.int .u64 0), (.int .u64 0), (.string ⟨#[]⟩)]) 56 rfl Try.underlying22 info31 rfl (by decide) (by omega) (.slice At tk.length ct) tk x [.int .i64 x.f0, .int .i64 x.f1, .int .i64 x.f2, .int .u64 x.f3, .int .u64 x.f4, .string x.f5] (fun _ => True) (fun _ => False) rfl ?hx ?aP (fun _ hk => hk.elim) ?aF ?aO ?aB ?aS ?aL ?_; (case hx => first | rfl | (rw [World.size_alloc]; rfl)); (case aP => exact k31_mkM _ _ _ x); (case aB => exact L4.out); (case aF => exact (fun _ _ => trivial)); (case aO => exact T4.out.t.any); (case aS => exact L4.out.size); (case aL => have := LM.out; omega); intro v5 w5 ho hb hg hat; rw [← N5.out] at ho; obtain ⟨At5, ct5, rfl⟩ := Kd.R_slice ho; have T5 := Aside0.mk (T4.out.putT ho hg hat); have L5 := Aside0.mk hb; clear y0 y1 y2 y3 y4 y5; have z5 := HP2.out w5 L5.out; clear ho hb hg hat T4 L4)

            have HW := Aside0.mk (show IntKind.i64.wrap ((tk5.length : Int) - (cm.length : Int)) = (q5.length : Int) from by
              have h1 := congrArg List.length E5.out
              rw [List.length_append] at h1
              have h2 := T5.out.ring.le
              rw [IntWalk.i64_in _ (by omega)]; omega)
            have HLE := Aside0.mk (show q5.length ≤ room from T5.out.ring.le)
            refine (many_q T5.out.ring).mono ?_
            rintro e w9 ⟨rfl, n9, rfl⟩
            have T9 := Aside0.mk (T5.out.drewN n9)
            have L9 := Aside0.mk (pw_below_drewN L5.out n9)
            clear T5 L5
            generalize w5.drewN n9 = w9 at *
            have hw9 := HW.out
            have hle9 := HLE.out
            clear HW HLE
            go_wp2_with fail
            refine (many_q T9.out.ring).mono ?_
            rintro e w10 ⟨rfl, n10, rfl⟩
            have T10 := Aside0.mk (T9.out.drewN n10)
            have L10 := Aside0.mk (pw_below_drewN L9.out n10)
            clear T9 L9
            generalize w9.drewN n10 = w10 at *
            go_wp2
            go_roundw
            case rel => exact ⟨k + 1, q5, tk5, cm, At5, Ac, ct5, cc, by omega, by omega, rfl, rfl, by go_num, by have := HTK5.out; omega, E5, T10, L10⟩
            case measure => simp [intOf]; omega
          · have hqb : decide ((q.length : Int) < (room : Int)) = false := decide_eq_false (by omega)
            go_wp2_with fail
            refine (push_ge HT.out.ring (by omega) x).mono ?_
            rintro e w4 ⟨rfl, hR, hO⟩
            have L4 := Aside0.mk (Only.step HL.out Hg.out HB.out hO)
            have T4 := Aside0.mk (HT.out.only hO hR)
            have HTK5 := Aside0.mk (show tk.length ≤ k + 1 from by have := HTK.out; omega)
            have z4 := HP2.out w4 L4.out
            clear hR hO HT HL y0 y1 y2 y3 y4 y5
            go_wp2_with fail

            have HW := Aside0.mk (show IntKind.i64.wrap ((tk.length : Int) - (cm.length : Int)) = (q.length : Int) from by
              have h1 := congrArg List.length HE.out
              rw [List.length_append] at h1
              have h2 := T4.out.ring.le
              rw [IntWalk.i64_in _ (by omega)]; omega)
            have HLE := Aside0.mk (show q.length ≤ room from T4.out.ring.le)
            refine (many_q T4.out.ring).mono ?_
            rintro e w9 ⟨rfl, n9, rfl⟩
            have T9 := Aside0.mk (T4.out.drewN n9)
            have L9 := Aside0.mk (pw_below_drewN L4.out n9)
            clear T4 L4
            generalize w4.drewN n9 = w9 at *
            have hw9 := HW.out
            have hle9 := HLE.out
            clear HW HLE
            go_wp2_with fail
            refine (many_q T9.out.ring).mono ?_
            rintro e w10 ⟨rfl, n10, rfl⟩
            have T10 := Aside0.mk (T9.out.drewN n10)
            have L10 := Aside0.mk (pw_below_drewN L9.out n10)
            clear T9 L9
            generalize w9.drewN n10 = w10 at *
            go_wp2
            go_roundw
            case rel => exact ⟨k + 1, q, tk, cm, At, Ac, ct, cc, by omega, by omega, rfl, rfl, by go_num, by have := HTK5.out; omega, HE, T10, L10⟩
            case measure => simp [intOf]; omega
      · clear HPB
        by_cases hql : q.length < room
        · have hqb : decide ((q.length : Int) < (room : Int)) = true := decide_eq_true (by omega)
          go_wp2_with fail
          refine (push_lt HT.out.ring hql x).mono ?_
          rintro e w4 ⟨rfl, hR, hO⟩
          have L4 := Aside0.mk (Only.step HL.out Hg.out HB.out hO)
          have T4 := Aside0.mk (HT.out.only hO hR)
          have LM := Aside0.mk (show (tk.length + 1) * 56 ≤ 140737488355328 from by have := HTK.out; omega)
          obtain ⟨tk5, htk5⟩ : ∃ tk5, tk5 = tk ++ [x] := ⟨_, rfl⟩
          obtain ⟨q5, hq5⟩ : ∃ q5, q5 = q ++ [x] := ⟨_, rfl⟩
          have N5 := Aside0.mk htk5
          have E5 := Aside0.mk (show tk5 = cm ++ q5 from by rw [htk5, hq5, HE.out, List.append_assoc])
          have HTK5 := Aside0.mk (show tk5.length ≤ k + 1 from by rw [htk5, List.length_append, List.length_singleton]; have := HTK.out; omega)
          rw [← hq5] at T4
          obtain ⟨y0, y1, y2, y3, y4, y5⟩ := HCELL.out w4 L4.out
          clear hR hO HT HL htk5 hq5 HE HTK
          go_wp2_with ((with_reducible refine gate_builtin (b := .append) (xs := #[.tmp 64, .tmp 69]) rfl ?_); at_builtin; refine Kd.R_append k31 (w0 := w) w.heap.size rfl (.tmp 64) (.tmp 69) 22 31 (.agg #[(.int .i64 0), (.int .i64 0), (.int .i64 0), (.int .u64 0), (.int .u64 0), (.string ⟨#[]⟩)]) 56 rfl Try.underlying22 info31 rfl (by decide) (by omega) (.slice At tk.length ct) tk x [.int .i64 x.f0, .int .i64 x.f1, .int .i64 x.f2, .int .u64 x.f3, .int .u64 x.f4, .string x.f5] (fun _ => True) (fun _ => False) rfl ?hx ?aP (fun _ hk => hk.elim) ?aF ?aO ?aB ?aS ?aL ?_; (case hx => first | rfl | (rw [World.size_alloc]; rfl)); (case aP => exact k31_mkM _ _ _ x); (case aB => exact L4.out); (case aF => exact (fun _ _ => trivial)); (case aO => exact T4.out.t.any); (case aS => exact L4.out.size); (case aL => have := LM.out; omega); intro v5 w5 ho hb hg hat; rw [← N5.out] at ho; obtain ⟨At5, ct5, rfl⟩ := Kd.R_slice ho; have T5 := Aside0.mk (T4.out.putT ho hg hat); have L5 := Aside0.mk hb; clear y0 y1 y2 y3 y4 y5; clear ho hb hg hat T4 L4)

          have HW := Aside0.mk (show IntKind.i64.wrap ((tk5.length : Int) - (cm.length : Int)) = (q5.length : Int) from by
            have h1 := congrArg List.length E5.out
            rw [List.length_append] at h1
            have h2 := T5.out.ring.le
            rw [IntWalk.i64_in _ (by omega)]; omega)
          have HLE := Aside0.mk (show q5.length ≤ room from T5.out.ring.le)
          refine (many_q T5.out.ring).mono ?_
          rintro e w9 ⟨rfl, n9, rfl⟩
          have T9 := Aside0.mk (T5.out.drewN n9)
          have L9 := Aside0.mk (pw_below_drewN L5.out n9)
          clear T5 L5
          generalize w5.drewN n9 = w9 at *
          have hw9 := HW.out
          have hle9 := HLE.out
          clear HW HLE
          go_wp2_with fail
          refine (many_q T9.out.ring).mono ?_
          rintro e w10 ⟨rfl, n10, rfl⟩
          have T10 := Aside0.mk (T9.out.drewN n10)
          have L10 := Aside0.mk (pw_below_drewN L9.out n10)
          clear T9 L9
          generalize w9.drewN n10 = w10 at *
          go_wp2
          go_roundw
          case rel => exact ⟨k + 1, q5, tk5, cm, At5, Ac, ct5, cc, by omega, by omega, rfl, rfl, by go_num, by have := HTK5.out; omega, E5, T10, L10⟩
          case measure => simp [intOf]; omega
        · have hqb : decide ((q.length : Int) < (room : Int)) = false := decide_eq_false (by omega)
          go_wp2_with fail
          refine (push_ge HT.out.ring (by omega) x).mono ?_
          rintro e w4 ⟨rfl, hR, hO⟩
          have L4 := Aside0.mk (Only.step HL.out Hg.out HB.out hO)
          have T4 := Aside0.mk (HT.out.only hO hR)
          have HTK5 := Aside0.mk (show tk.length ≤ k + 1 from by have := HTK.out; omega)
          clear hR hO HT HL y0 y1 y2 y3 y4 y5
          go_wp2_with fail

          have HW := Aside0.mk (show IntKind.i64.wrap ((tk.length : Int) - (cm.length : Int)) = (q.length : Int) from by
            have h1 := congrArg List.length HE.out
            rw [List.length_append] at h1
            have h2 := T4.out.ring.le
            rw [IntWalk.i64_in _ (by omega)]; omega)
          have HLE := Aside0.mk (show q.length ≤ room from T4.out.ring.le)
          refine (many_q T4.out.ring).mono ?_
          rintro e w9 ⟨rfl, n9, rfl⟩
          have T9 := Aside0.mk (T4.out.drewN n9)
          have L9 := Aside0.mk (pw_below_drewN L4.out n9)
          clear T4 L4
          generalize w4.drewN n9 = w9 at *
          have hw9 := HW.out
          have hle9 := HLE.out
          clear HW HLE
          go_wp2_with fail
          refine (many_q T9.out.ring).mono ?_
          rintro e w10 ⟨rfl, n10, rfl⟩
          have T10 := Aside0.mk (T9.out.drewN n10)
          have L10 := Aside0.mk (pw_below_drewN L9.out n10)
          clear T9 L9
          generalize w9.drewN n10 = w10 at *
          go_wp2
          go_roundw
          case rel => exact ⟨k + 1, q, tk, cm, At, Ac, ct, cc, by omega, by omega, rfl, rfl, by go_num, by have := HTK5.out; omega, HE, T10, L10⟩
          case measure => simp [intOf]; omega
    · have hgt := HT.out.ring.le
      have HQ := Aside0.mk hq64
      have HLEN := Aside0.mk hlen
      clear hgt hq64 hlen
      by_cases h1 : k < n1
      all_goals
        go_wp2
        go_loopw [14] (fun iv wt => ∃ i : Nat, i ≤ cm.length ∧ iv = .int .i64 i ∧ Aside0 (Two w wt g B room q (.slice At tk.length ct) tk (.slice Ac cm.length cc) cm) ∧ Aside0 (Below w.heap.size w wt)) (fun iv _ => cm.length - (intOf iv).toNat)
        case atStart => exact ⟨0, Nat.zero_le _, rfl, HT, HL⟩
        case round =>
          clear HT HL
          obtain ⟨i, hic, rfl, HT, HL⟩ := hrel
          by_cases hi : i < cm.length
          · obtain ⟨ad1, e1, a0, a1, a2, a3, a4, a5⟩ := rd_at HT.out.c.reads i hi
            obtain ⟨ad2, e2, b0, b1, b2, b3, b4, b5⟩ := rd_at HT.out.t.reads i (by have := HLEN.out; omega)
            have hsame : tk.getD i z31 = cm.getD i z31 := by
              rw [HE.out, List.getD_eq_getElem?_getD, List.getElem?_append_left hi, List.getD_eq_getElem?_getD]
            rw [hsame] at b0 b1 b2 b3 b4 b5
            obtain ⟨y, hy⟩ : ∃ y, cm.getD i z31 = y := ⟨_, rfl⟩
            rw [hy] at a0 a1 a2 a3 a4 a5 b0 b1 b2 b3 b4 b5
            clear hy hsame
            subst e1 e2
            have hi1 : ((i : Int)).toNat = i := Int.toNat_natCast i
            have hi0 : (0 : Int) ≤ (i : Int) := by omega
            have hiN : (i : Int) < (cm.length : Int) := by omega
            have hiT : (i : Int) < (tk.length : Int) := by have := HLEN.out; omega
            have HIC := Aside0.mk hic
            have hcl : cm.length ≤ 300 := by have := HLEN.out; omega
            go_wp2
            go_quiet (fail)
            go_wp2
            go_roundw
            case rel => exact ⟨i + 1, by omega, by go_num, ⟨HT.out.drewN _⟩, ⟨pw_below_drewN HL.out _⟩⟩
            case measure => simp [intOf]; omega
          · go_wp2
            go_ret
            exact ⟨rfl, HL.out⟩
theorem orders_any (room : Int) (A1 : Option Addr) (n1 c1 : Nat) (l1 : List S31) (A2 : Option Addr) (n2 c2 : Nat) (l2 : List Bool) (w : World) (hr1 : Kd.C k31 w A1 n1 l1) (_ : n1 ≤ c1) (hm1 : n1 ≤ maxLen) (hr2 : Kd.C Kd.bool w A2 n2 l2) (_ : n2 ≤ c2) (hm2 : n2 ≤ maxLen) :
    Calls Try.prog 3 #[.int .i64 room, .slice A1 n1 c1, .slice A2 n2 c2] w fun e w' => e = .returned (.bool true) ∧ Below w.heap.size w w' := by
  by_cases h : room < 0 ∨ 64 < room
  · exact orders_no room h A1 n1 c1 A2 n2 c2 w
  · obtain ⟨r, rfl⟩ := Int.eq_ofNat_of_zero_le (show 0 ≤ room by omega)
    exact orders_yes r (by omega) A1 n1 c1 l1 A2 n2 c2 l2 w hr1 hm1 hr2 hm2
end Go.Proofs.Ytmdmoedakmoibaa.P
