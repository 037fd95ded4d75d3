/- The walk of the law AuditGrows. -/
import Derived.Test.YtoeioacgpildpaaDoorGrowsPlain
set_option linter.unusedVariables false
set_option linter.unusedSimpArgs false
namespace Go.Proofs.YtoeioacgpildpaaDoor
open Go.Proofs Go.Shelf Go.RowKit Go.Sort Go.Proofs.YtoeioacgpildpaaDoorW.PrintWords Go.Proofs.YtoeioacgpildpaaDoorW.PrintLast Go.Proofs.YtoeioacgpildpaaDoorW.PrintMore
open Go.Proofs.YtoeioacgpildpaaDoor.P (S27 k27 z27 rd_T27 at_T27 info27 k27_mkM k27_openM)

set_option maxHeartbeats 12800000 in
set_option maxRecDepth 100000 in
theorem grows_any (A : Option Addr) (n c : Nat) (l : List S27) (A2 : Option Addr) (n2 c2 : Nat) (m : List S27) (w : World) (hC : Kd.C k27 w A n l) (hnc : n ≤ c) (hC2 : Kd.C k27 w A2 n2 m) (hm2 : n2 ≤ maxLen) (hl : n + 100 < 3518437208883)
    (hf : ∀ x ∈ m, 0 ≤ x.f1 ∧ x.f1 < 4294967296) (htab : Tens w) :
    Calls Tryd.prog 4 #[.slice A n c, .slice A2 n2 c2] w fun e w' => e = .returned (.bool true) ∧ Below w.heap.size w w' := by
  obtain rfl := Kd.C_len hC
  have HML := Aside0.mk (Kd.C_len hC2)
  have HC := Aside0.mk hC
  have HC2 := Aside0.mk hC2
  have HNC := Aside0.mk hnc
  have hn2 : n2 ≤ 9223372036854775807 := hm2
  have HL := Aside0.mk hl
  have HF := Aside0.mk hf
  have HT := Aside0.mk htab
  clear hC hC2 hnc hm2 hl hf htab
  go_enter Tryd.func4, Tryd.ntmps4
  go_wp2_with fail
  refine (fixed_q w HT.out).mono ?_
  rintro e w1 ⟨rfl, hb⟩
  have L1 := Aside0.mk hb
  clear hb
  have HS := Aside0.mk (show l.length < 2305843009213693952 from by have := HL.out; omega)
  go_wp2_with fail
  have hck := check_q (Kd.C_below HC.out L1.out) HNC.out HS.out
  cases hcl : checkL l
  · rw [hcl] at hck
    refine hck.mono ?_
    clear hck
    rintro e w2 ⟨rfl, hb⟩
    have L2 := Aside0.mk (below_then L1.out L1.out.size hb)
    clear hb L1
    go_wp2_with fail
    refine (fixed_q w2 (HT.out.below L2.out)).mono ?_
    rintro e w3 ⟨rfl, hb⟩
    have L3 := Aside0.mk (below_then L2.out L2.out.size hb)
    clear hb L2
    go_wp2
    first | go_ret | go_ret2
    exact ⟨rfl, L3.out⟩
  · rw [hcl] at hck
    refine hck.mono ?_
    clear hck
    rintro e w2 ⟨rfl, hb⟩
    have L2 := Aside0.mk (below_then L1.out L1.out.size hb)
    have HCL := Aside0.mk hcl
    clear hb L1 hcl
    go_wp2_with fail
    refine (failed_q (Kd.C_below HC.out L2.out) HNC.out HS.out).mono ?_
    rintro e w3 ⟨rfl, hb⟩
    have L3 := Aside0.mk (below_then L2.out L2.out.size hb)
    have C3 := Aside0.mk (Kd.C_below HC.out L3.out)
    clear hb L2
    go_wp2
    go_loopw [5, 6, 7] (fun v5 v6 iv wr => ∃ (i : Nat) (a : List S27) (Aa : Option Addr) (ca : Nat), i ≤ n2 ∧ i ≤ 100 ∧ v5 = .slice Aa a.length ca ∧ v6 = .int .i64 (cntF a : Nat) ∧ iv = .int .i64 i ∧ Aside0 (a.length ≤ l.length + i) ∧ Aside0 (a.length ≤ ca) ∧ Aside0 (Kd.C k27 wr Aa a.length a) ∧ Aside0 (checkL a = true) ∧ Aside0 (Below w.heap.size w wr)) (fun _ _ iv _ => 100 - (intOf iv).toNat)
    case atStart => exact ⟨0, l, A, c, Nat.zero_le _, Nat.zero_le _, rfl, rfl, rfl, ⟨Nat.le_refl _⟩, HNC, C3, HCL, L3⟩
    case round =>
      clear C3 L3
      obtain ⟨i, a, Aa, ca, hin, hi100, rfl, rfl, rfl, HAL, HCA, CA, CK, LA⟩ := hrel
      have HSA := Aside0.mk (show a.length < 3518437208883 from by have h1 := HL.out; have h2 := HAL.out; omega)
      by_cases hlt : i < n2 ∧ i < 100
      · obtain ⟨hlt1, hlt2⟩ := hlt
        obtain ⟨x, hx⟩ : ∃ x, m.getD i z27 = x := ⟨_, rfl⟩
        obtain ⟨ad, hA, y0, y1, y2, y3⟩ := rd_at27 (Kd.C_below HC2.out LA.out) i hlt1
        subst hA
        have HFX := Aside0.mk (HF.out _ (show m.getD i z27 ∈ m from by
          rw [List.getD_eq_getElem?_getD, List.getElem?_eq_getElem (by rw [HML.out]; exact hlt1)]
          exact List.getElem_mem _))
        rw [hx] at y0 y1 y2 y3 HFX
        clear hx
        have X1 := Aside0.mk (blk_new wr (.cells #[.int .u64 x.f0, .int .u32 x.f1, .string x.f2, .int .i64 x.f3] 27))
        have L1 := Aside0.mk (below_alloc LA.out (.cells #[.int .u64 x.f0, .int .u32 x.f1, .string x.f2, .int .i64 x.f3] 27))
        have C1 := Aside0.mk (Kd.C_below CA.out (below_alloc (Below.refl _ _) (.cells #[.int .u64 x.f0, .int .u32 x.f1, .string x.f2, .int .i64 x.f3] 27)))
        go_wp2_with fail
        generalize hb8 : wr.heap.size = b8 at *
        generalize wr.alloc (.cells #[.int .u64 x.f0, .int .u32 x.f1, .string x.f2, .int .i64 x.f3] 27) = w4 at *
        clear hb8 y0 y1 y2 y3 LA CA
        refine (add_q Aa a.length ca a x.f1 x.f2 x.f3 w4 C1.out HSA.out HFX.out.1 HFX.out.2).mono ?_
        rintro e w5 ⟨v, rfl, hr, hb⟩
        have HBL := Aside0.mk (addL_len a x.f1 x.f2 x.f3)
        have HBC := Aside0.mk (cntF_add a x.f1 x.f2 x.f3)
        have CKB := Aside0.mk (check_add a x.f1 x.f2 x.f3 CK.out)
        have HNEW := Aside0.mk (show (addL a x.f1 x.f2 x.f3).getD a.length z27 = newR a x.f1 x.f2 x.f3 from getD_new)
        have HEQ := Aside0.mk (addL_eq a x.f1 x.f2 x.f3)
        obtain ⟨b, hbb⟩ : ∃ b, b = addL a x.f1 x.f2 x.f3 := ⟨_, rfl⟩
        rw [← hbb] at hr HBL HBC CKB HNEW HEQ
        clear hbb
        obtain ⟨Ab, cb, rfl⟩ := Kd.R_slice hr
        obtain ⟨_, hcb, hCb⟩ := Kd.R_reads' hr
        obtain ⟨ab, hAb, _⟩ := rd_at27 hCb 0 (by rw [HBL.out]; omega)
        subst hAb
        have CB := Aside0.mk hCb
        have X5 := Aside0.mk ((hb.block _ (blk_lt X1.out)).trans X1.out)
        have C5 := Aside0.mk (Kd.C_below C1.out hb)
        have L5 := Aside0.mk (below_then L1.out L1.out.size hb)
        have KCB := Aside0.mk hcb
        have hbl := HBL.out
        have hcb1 : (a.length : Int) ≤ (cb : Int) := by omega
        have hsa := HSA.out
        clear hr hCb hb hcb X1 C1 L1
        rw [hbl]
        go_wp2_with fail
        refine (same_q (l := a) (c := cb) (c2 := ca) (A := some ab) (A2 := Aa) (C_take (n := b.length) (ys := [newR a x.f1 x.f2 x.f3]) (by have := CB.out; rwa [← HEQ.out])) (by have := KCB.out; omega) C5.out HCA.out (by omega)).mono ?_
        rintro e w6 ⟨rfl, hb⟩
        have X6 := Aside0.mk ((hb.block _ (blk_lt X5.out)).trans X5.out)
        have CB6 := Aside0.mk (Kd.C_below CB.out hb)
        have L6 := Aside0.mk (below_then L5.out L5.out.size hb)
        clear hb X5 CB C5 L5
        go_wp2_with fail
        have hck := check_q (l := b) (c := cb) CB6.out KCB.out (by omega)
        rw [CKB.out, hbl] at hck
        refine hck.mono ?_
        clear hck
        rintro e w7 ⟨rfl, hb⟩
        have X7 := Aside0.mk ((hb.block _ (blk_lt X6.out)).trans X6.out)
        have CB7 := Aside0.mk (Kd.C_below CB6.out hb)
        have L7 := Aside0.mk (below_then L6.out L6.out.size hb)
        clear hb X6 CB6 L6
        obtain ⟨ab2, hab2, y0, y1, y2, y3⟩ := rd_at27 CB7.out a.length (by omega)
        obtain rfl : ab = ab2 := by injection hab2
        clear hab2
        rw [HNEW.out] at y0 y1 y2 y3
        have hw0 : IntKind.u64.wrap ((a.length : Int) + 1) = (a.length : Int) + 1 := by rw [IntKind.wrap_u64]; omega
        change _ = some (Value.int .u64 (IntKind.u64.wrap ((a.length : Int) + 1))) at y0
        rw [hw0] at y0
        change _ = some (Value.int .u32 (tickL a x.f1)) at y1
        change _ = some (Value.string x.f2) at y2
        change _ = some (Value.int .i64 x.f3) at y3
        have hT : x.f1 ≤ tickL a x.f1 := tickL_ge a x.f1
        generalize tickL a x.f1 = T at y1 hT
        have X8 := blk_alloc X7.out (.cells #[.int .u64 ((a.length : Int) + 1), .int .u32 T, .string x.f2, .int .i64 x.f3] 27)
        have x1 := (blk_cell X8 1).trans (show _ = some (.int .u32 x.f1) from rfl)
        have x2 := (blk_cell X8 2).trans (show _ = some (.string x.f2) from rfl)
        have x3 := (blk_cell X8 3).trans (show _ = some (.int .i64 x.f3) from rfl)
        clear X8 X7
        clear hw0 HNEW HEQ
        go_wp2_with fail
        · have hne : (x.f3 != 0) = true := by assumption
          have hcw : wrap64 ((cntF a : Int) + 1) = ((cntF b : Nat) : Int) := by
            rw [HBC.out, if_neg (bne_iff_ne.mp hne)]
            have := cntF_le a
            unfold wrap64
            omega
          exact ⟨⟨i + 1, b, some ab, cb, by omega, by omega, by rw [hbl], by rw [hcw], by go_num, ⟨by have := HAL.out; omega⟩, KCB, Aside0.mk (Kd.C_below CB7.out (below_alloc (Below.refl _ _) _)), CKB, Aside0.mk (below_alloc L7.out _)⟩, by simp [intOf]; omega⟩
        · have hne : (x.f3 != 0) = false := by assumption
          have hcw : ((cntF a : Nat) : Int) = ((cntF b : Nat) : Int) := by
            rw [HBC.out, if_pos (bne_eq_false_iff_eq.mp hne), Nat.add_zero]
          exact ⟨⟨i + 1, b, some ab, cb, by omega, by omega, by rw [hbl], by rw [hcw], by go_num, ⟨by have := HAL.out; omega⟩, KCB, Aside0.mk (Kd.C_below CB7.out (below_alloc (Below.refl _ _) _)), CKB, Aside0.mk (below_alloc L7.out _)⟩, by simp [intOf]; omega⟩
      · have HSL := Aside0.mk (show a.length < 2305843009213693952 from by have := HSA.out; omega)
        by_cases h1 : i < n2
        · have h2 : ¬ i < 100 := fun h => hlt ⟨h1, h⟩
          clear hlt
          go_wp2_with fail
          refine (failed_q CA.out HCA.out HSL.out).mono ?_
          rintro e w8 ⟨rfl, hb⟩
          have L8 := Aside0.mk (below_then LA.out LA.out.size hb)
          clear hb
          go_wp2
          go_ret
          exact ⟨rfl, L8.out⟩
        · clear hlt
          go_wp2_with fail
          refine (failed_q CA.out HCA.out HSL.out).mono ?_
          rintro e w8 ⟨rfl, hb⟩
          have L8 := Aside0.mk (below_then LA.out LA.out.size hb)
          clear hb
          go_wp2
          go_ret
          exact ⟨rfl, L8.out⟩
end Go.Proofs.YtoeioacgpildpaaDoor
