/- The walk of the law AuditParts. -/
import Derived.Test.YtoeioacgpildpaaDoorFixed
set_option linter.unusedVariables false
set_option linter.unusedSimpArgs false
namespace Go.Proofs.YtoeioacgpildpaaDoor
open Go.Proofs Go.Shelf Go.RowKit Go.Sort Go.Proofs.YtoeioacgpildpaaDoorW.PrintWords Go.Proofs.YtoeioacgpildpaaDoorW.PrintLast Go.Proofs.YtoeioacgpildpaaDoorW.PrintMore
open Go.Proofs.YtoeioacgpildpaaDoor.P (S27 k27 z27 rd_T27 at_T27 info27 k27_mkM k27_openM)

theorem textR_append (l m : List S27) : textR (l ++ m) = textR l ++ textR m := by unfold textR; rw [List.flatMap_append]
theorem cntF_append (l m : List S27) : cntF (l ++ m) = cntF l + cntF m := by unfold cntF; rw [List.filter_append, List.length_append]
set_option maxHeartbeats 6400000 in
set_option maxRecDepth 100000 in
theorem parts_any (A : Option Addr) (n c : Nat) (l : List S27) (A2 : Option Addr) (n2 c2 : Nat) (m : List S27) (w : World) (hC : Kd.C k27 w A n l) (hnc : n ≤ c) (hC2 : Kd.C k27 w A2 n2 m) (hnc2 : n2 ≤ c2) (hl : n + n2 ≤ 4194304)
    (hf : ∀ x ∈ l, FitsR x) (hf2 : ∀ x ∈ m, FitsR x) (hlen : (textR l).length + (textR m).length ≤ 140737488355328) (htab : Tens w) :
    Calls Tryd.prog 5 #[.slice A n c, .slice A2 n2 c2] w fun e w' => e = .returned (.bool true) ∧ Below w.heap.size w w' := by
  obtain rfl := Kd.C_len hC
  obtain rfl := Kd.C_len hC2
  have HC := Aside0.mk hC
  have HC2 := Aside0.mk hC2
  have HNC := Aside0.mk hnc
  have HNC2 := Aside0.mk hnc2
  have HL := Aside0.mk hl
  have HF := Aside0.mk hf
  have HF2 := Aside0.mk hf2
  have HLEN := Aside0.mk hlen
  have HT := Aside0.mk htab
  have HB := Aside0.mk (Below.refl w.heap.size w)
  obtain ⟨y0, hy0⟩ : ∃ y : List S27, y = ([] : List S27) := ⟨_, rfl⟩
  have N0 := Aside0.mk hy0
  have LZ := Aside0.mk (show y0.length = 0 from by rw [hy0]; rfl)
  obtain ⟨y1, hy1⟩ : ∃ y : List S27, y = l := ⟨_, rfl⟩
  have N1 := Aside0.mk hy1
  have LZ1 := Aside0.mk (show y1.length = l.length from by rw [hy1])
  clear hC hC2 hnc hnc2 hl hf hf2 hlen htab hy0 hy1
  go_enter Tryd.func5, Tryd.ntmps5
  go_wp2_with (first
    | ((with_reducible refine gate_dst (N := 6) rfl ?_); refine Kd.R_lit k27 _ 27 ?hg (N := 6) ?hd (xs := ([] : List S27)) (inner := []) (ok := fun _ => True) (okp := fun _ => True) ?hr ?hp (fun _ hk => hk) trivial (Below.refl _ _) (Nat.le_refl _) (by simp) ?_; (case hd => rfl); (case hg => rfl); (case hr => first | (go_simp; done) | (go_simp; rfl)); (case hp => exact Reps.none _ _); intro v1 w2 ho hb hg_ hnew; rw [← N0.out] at ho; have HO := Aside0.mk (Kd.R_lower ho HB.out.size); have HB2 := Aside0.mk (below_step HB.out hb); clear HB ho hb hg_ hnew)
    | ((with_reducible refine gate_builtin (b := .append) (xs := #[.tmp 6, .tmp 7]) rfl ?_); at_builtin; refine Kd.R_append_rows k27 (w0 := w) w.heap.size rfl (.tmp 6) (.tmp 7) 22 27 (.agg #[(.int .u64 0), (.int .u32 0), (.string ⟨#[]⟩), (.int .i64 0)]) 40 rfl Tryd.underlying22 info27 rfl (by decide) (by omega) v1 y0 l _ _ _ (fun _ => True) (fun _ => False) rfl rfl ?aO ?aR (fun _ _ h => h) (fun _ h => h.elim) ?aF ?aB ?aS ?aL ?_; (case aR => exact Kd.C_below HC.out HB2.out); (case aB => exact HB2.out); (case aF => exact fun _ _ => trivial); (case aO => exact HO.out); (case aS => exact HB2.out.size); (case aL => have := HL.out; have := LZ.out; omega); intro v2 w3 ho hb hg hat; rw [N0.out, List.nil_append, ← N1.out] at ho; have HO3 := Aside0.mk ho; have HB3 := Aside0.mk hb; clear HO HB2 ho hb hg hat)
    | ((with_reducible refine gate_builtin (b := .append) (xs := #[.tmp 8, .tmp 9]) rfl ?_); at_builtin; refine Kd.R_append_rows k27 (w0 := w) w.heap.size rfl (.tmp 8) (.tmp 9) 22 27 (.agg #[(.int .u64 0), (.int .u32 0), (.string ⟨#[]⟩), (.int .i64 0)]) 40 rfl Tryd.underlying22 info27 rfl (by decide) (by omega) v2 y1 m _ _ _ (fun _ => True) (fun _ => False) rfl rfl ?aO ?aR (fun _ _ h => h) (fun _ h => h.elim) ?aF ?aB ?aS ?aL ?_; (case aR => exact Kd.C_below HC2.out HB3.out); (case aB => exact HB3.out); (case aF => exact fun _ _ => trivial); (case aO => exact HO3.out); (case aS => exact HB3.out.size); (case aL => have := HL.out; have := LZ1.out; omega); intro v3 w4 ho hb hg hat; rw [N1.out] at ho; have HO4 := Aside0.mk ho; have HB4 := Aside0.mk hb; clear HO3 HB3 ho hb hg hat)
    | fail)
  obtain ⟨b, hbm⟩ : ∃ b, b = l ++ m := ⟨_, rfl⟩
  have R4 := HO4.out
  rw [← hbm] at R4
  obtain ⟨A4, c4, rfl⟩ := Kd.R_slice R4
  obtain ⟨_, hc4, hC4⟩ := Kd.R_reads' R4
  have C4 := Aside0.mk hC4
  have K4 := Aside0.mk hc4
  have BM := Aside0.mk hbm
  clear R4 HO4 hc4 hC4 hbm
  refine (fixed_q w4 (HT.out.below HB4.out)).mono ?_
  rintro e w5 ⟨rfl, hb⟩
  have C5 := Aside0.mk (Kd.C_below C4.out hb)
  have L5 := Aside0.mk (below_then HB4.out HB4.out.size hb)
  clear hb C4 HB4
  have HFB := Aside0.mk (show ∀ x ∈ b, FitsR x from by
    rw [BM.out]
    intro x hx
    rcases List.mem_append.1 hx with h | h
    · exact HF.out x h
    · exact HF2.out x h)
  have HLB := Aside0.mk (show b.length ≤ 4194304 from by rw [BM.out, List.length_append]; exact HL.out)
  go_wp2_with fail
  refine (text_q A4 b.length c4 b w5 C5.out (by have := HLB.out; unfold maxLen; omega) HFB.out (by rw [BM.out, textR_append, List.length_append]; exact HLEN.out) (HT.out.below L5.out)).mono ?_
  rintro e w6 ⟨rfl, hb⟩
  have C6 := Aside0.mk (Kd.C_below C5.out hb)
  have L6 := Aside0.mk (below_then L5.out L5.out.size hb)
  clear hb C5 L5
  go_wp2_with fail
  refine (text_q A l.length c l w6 (Kd.C_below HC.out L6.out) (by have := HL.out; unfold maxLen; omega) HF.out (by have := HLEN.out; omega) (HT.out.below L6.out)).mono ?_
  rintro e w7 ⟨rfl, hb⟩
  have C7 := Aside0.mk (Kd.C_below C6.out hb)
  have L7 := Aside0.mk (below_then L6.out L6.out.size hb)
  clear hb C6 L6
  go_wp2_with fail
  refine (text_q A2 m.length c2 m w7 (Kd.C_below HC2.out L7.out) (by have := HL.out; unfold maxLen; omega) HF2.out (by have := HLEN.out; omega) (HT.out.below L7.out)).mono ?_
  rintro e w8 ⟨rfl, hb⟩
  have C8 := Aside0.mk (Kd.C_below C7.out hb)
  have L8 := Aside0.mk (below_then L7.out L7.out.size hb)
  clear hb C7 L7
  obtain ⟨sl, hsl⟩ : ∃ sl : ByteArray, sl = ⟨(textR l).toArray⟩ := ⟨_, rfl⟩
  obtain ⟨sm, hsm⟩ : ∃ sm : ByteArray, sm = ⟨(textR m).toArray⟩ := ⟨_, rfl⟩
  have hsb : (⟨(textR b).toArray⟩ : ByteArray) = sl ++ sm := by
    rw [BM.out, textR_append, hsl, hsm]
    apply ByteArray.ext
    simp [ByteArray.data_append]
  have hz : (9223372036854775807 < sl.size + sm.size) = False := eq_false (by
    rw [hsl, hsm, size_arr, size_arr]
    have := HLEN.out
    omega)
  rw [hsb, ← hsl, ← hsm]
  clear hsb hsl hsm
  have HL2 := Aside0.mk (show l.length < 2305843009213693952 ∧ m.length < 2305843009213693952 ∧ b.length < 2305843009213693952 from by have := HL.out; have := HLB.out; omega)
  go_wp2_with fail
  refine (failed_q C8.out K4.out HL2.out.2.2).mono ?_
  rintro e w9 ⟨rfl, hb⟩
  have L9 := Aside0.mk (below_then L8.out L8.out.size hb)
  clear hb L8 C8
  go_wp2_with fail
  refine (failed_q (Kd.C_below HC.out L9.out) HNC.out HL2.out.1).mono ?_
  rintro e w10 ⟨rfl, hb⟩
  have L10 := Aside0.mk (below_then L9.out L9.out.size hb)
  clear hb L9
  go_wp2_with fail
  refine (failed_q (Kd.C_below HC2.out L10.out) HNC2.out HL2.out.2.1).mono ?_
  rintro e w11 ⟨rfl, hb⟩
  have L11 := Aside0.mk (below_then L10.out L10.out.size hb)
  clear hb L10
  have hcnt : cntF b = cntF l + cntF m := by rw [BM.out, cntF_append]
  have hcw : IntKind.i64.wrap ((cntF l : Int) + (cntF m : Int)) = (cntF l : Int) + (cntF m : Int) := by
    have h1 := cntF_le l
    have h2 := cntF_le m
    have := HL.out
    exact IntWalk.i64_in _ (by omega)
  rw [hcnt]
  go_wp2
  first | go_ret | go_ret2
  exact ⟨rfl, L11.out⟩
end Go.Proofs.YtoeioacgpildpaaDoor
