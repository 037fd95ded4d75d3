/- The walk of the law AuditBack. -/
import Derived.Test.YtoeioacgpildpaaDoorRead
import Derived.Test.YtoeioacgpildpaaDoorFixed
set_option linter.unusedVariables false
set_option linter.unusedSimpArgs false
namespace Go.Proofs.YtoeioacgpildpaaDoor
open Go.Proofs Go.Shelf Go.RowKit Go.Sort Go.Proofs.YtoeioacgpildpaaDoorW.PrintWords Go.Proofs.YtoeioacgpildpaaDoorW.PrintLast Go.Proofs.YtoeioacgpildpaaDoorW.PrintMore
open Go.Proofs.YtoeioacgpildpaaDoor.P (S27 k27 z27)
theorem same_m2 {A1 A2 : Option Addr} {m n c1 c2 : Nat} {ys : List S27} {w : World} (h1 : Kd.C k27 w A1 m ys) (k1 : m ≤ c1) (h2 : Kd.C k27 w A2 n ys) (k2 : n ≤ c2) (hm : m = ys.length) (hn : n = ys.length) (hl : ys.length < 2305843009213693952) :
    Calls Tryd.prog 11 #[.slice A1 m c1, .slice A2 n c2] w fun e w' => e = .returned (.bool true) ∧ Below w.heap.size w w' := by
  obtain rfl : n = m := by omega
  exact same_m h1 k1 h2 k2 hm hl
theorem check_m {A : Option Addr} {m c : Nat} {ys : List S27} {b : Bool} {w : World} (h1 : Kd.C k27 w A m ys) (k1 : m ≤ c) (hm : m = ys.length) (hl : ys.length < 2305843009213693952) (hb : checkL ys = b) :
    Calls Tryd.prog 12 #[.slice A m c] w fun e w' => e = .returned (.bool b) ∧ Below w.heap.size w w' := by
  subst hm
  subst hb
  exact P.audit_Check.calls _ A c ys _ w h1 k1 (check_f ys (by omega))
set_option maxRecDepth 100000 in
set_option maxHeartbeats 8000000 in
theorem back_11 (L : Option Addr) (n c : Nat) (l : List S27) (x0 x1 : Int) (x2 : ByteArray) (x3 : Int) (s tx ln : ByteArray) (ys zs : List S27) (hl : l.length < 2305843009213693952) (hzs : zs.length < 2305843009213693952) (hnl : n = l.length) (hnc : n ≤ c) (hys : ys = l) (hck : checkL l = true) (hcz : checkL zs = true) (w : World) (hC : Kd.C k27 w L n l) (ht : Tens w) (he : Errs w)
    (TX : ∀ w1 : World, Tens w1 → Kd.C k27 w1 L n l → Calls Tryd.prog 16 #[.slice L n c] w1 fun e w' => e = .returned (.string tx) ∧ Below w1.heap.size w1 w')
    (RX : ∀ w1 : World, Tens w1 → Errs w1 → Calls Tryd.prog 19 #[.string tx] w1 fun e w' => ∃ v, e = .returned (.tuple #[v, .bool true]) ∧ Kd.R k27 27 w' w1.heap.size (fun _ => True) v ys ∧ Below w1.heap.size w1 w')
    (LX : ∀ w1 : World, Tens w1 → Calls Tryd.prog 21 #[.agg #[.int .u64 x0, .int .u32 x1, .string x2, .int .i64 x3]] w1 fun e w' => e = .returned (.string ln) ∧ Below w1.heap.size w1 w')
    (PX : ∀ w1 : World, Tens w1 → Errs w1 → Calls Tryd.prog 17 #[.string ln] w1 fun e w' => e = .returned (.tuple #[.agg #[.int .u64 x0, .int .u32 x1, .string x2, .int .i64 x3], .bool true]) ∧ Below w1.heap.size w1 w')
    (RS : ∀ w1 : World, Tens w1 → Errs w1 → Calls Tryd.prog 19 #[.string s] w1 fun e w' => ∃ v, e = .returned (.tuple #[v, .bool true]) ∧ Kd.R k27 27 w' w1.heap.size (fun _ => True) v zs ∧ Below w1.heap.size w1 w')
    (TZ : ∀ (w1 : World) (A : Option Addr) (m d : Nat), Tens w1 → Kd.C k27 w1 A m zs → Calls Tryd.prog 16 #[.slice A m d] w1 fun e w' => e = .returned (.string s) ∧ Below w1.heap.size w1 w') :
    Calls Tryd.prog 7 #[.slice L n c, .agg #[.int .u64 x0, .int .u32 x1, .string x2, .int .i64 x3], .string s] w fun e w' => e = .returned (.bool true) ∧ Below w.heap.size w w' := by
  have TX := Aside0.mk TX
  have RX := Aside0.mk RX
  have LX := Aside0.mk LX
  have PX := Aside0.mk PX
  have RS := Aside0.mk RS
  have TZ := Aside0.mk TZ
  have HC := Aside0.mk hC
  have HT := Aside0.mk ht
  have HE := Aside0.mk he
  have HL := Aside0.mk hl
  have HZS := Aside0.mk hzs
  have HNL := Aside0.mk hnl
  have HNC := Aside0.mk hnc
  have HCK := Aside0.mk hck
  have HCZ := Aside0.mk hcz
  clear hcz
  subst hys
  have D0 := Aside0.mk (below_alloc (Below.refl w.heap.size w) (.cells #[.int .u64 x0, .int .u32 x1, .string x2, .int .i64 x3] 27))
  have BX := Aside0.mk (blk_new w (.cells #[.int .u64 x0, .int .u32 x1, .string x2, .int .i64 x3] 27))
  clear hC ht he hl hzs hnl hnc hck
  go_enter Tryd.func7, Tryd.ntmps7
  go_wp2_with fail
  obtain ⟨bx, hbx⟩ : ∃ b, b = w.heap.size := ⟨_, rfl⟩
  rw [← hbx] at BX ⊢
  clear hbx
  generalize w.alloc (.cells #[.int .u64 x0, .int .u32 x1, .string x2, .int .i64 x3] 27) = v0 at BX D0 ⊢
  refine (TX.out _ (HT.out.below D0.out) (Kd.C_below HC.out D0.out)).mono ?_
  rintro e w1 ⟨rfl, hb⟩
  replace BX := Aside0.mk ((hb.block _ (blk_lt BX.out)).trans BX.out)
  have D1 := Aside0.mk (below_then D0.out D0.out.size hb)
  clear hb D0
  go_wp2_with fail
  refine (RX.out _ (HT.out.below D1.out) (HE.out.below D1.out)).mono ?_
  rintro e w2 ⟨v1, rfl, hr, hb⟩
  replace BX := Aside0.mk ((hb.block _ (blk_lt BX.out)).trans BX.out)
  have D2 := Aside0.mk (below_then D1.out D1.out.size hb)
  clear hb D1
  obtain ⟨A1, c1, rfl⟩ := Kd.R_slice hr
  obtain ⟨_, hc1, hC1⟩ := Kd.R_reads' hr
  have C1 := Aside0.mk hC1
  have K1 := Aside0.mk hc1
  clear hr hc1 hC1
  obtain ⟨m1, hm1⟩ : ∃ m, m = ys.length := ⟨_, rfl⟩
  have HM1 := Aside0.mk hm1
  rw [← hm1]
  rw [← hm1] at C1 K1
  clear hm1
  have x_0 := (blk_cell BX.out 0).trans (show _ = some (.int .u64 x0) from rfl)
  have x_1 := (blk_cell BX.out 1).trans (show _ = some (.int .u32 x1) from rfl)
  have x_2 := (blk_cell BX.out 2).trans (show _ = some (.string x2) from rfl)
  have x_3 := (blk_cell BX.out 3).trans (show _ = some (.int .i64 x3) from rfl)
  go_wp2_with fail
  clear x_0 x_1 x_2 x_3
  refine (LX.out _ (HT.out.below D2.out)).mono ?_
  rintro e w3 ⟨rfl, hb⟩
  replace BX := Aside0.mk ((hb.block _ (blk_lt BX.out)).trans BX.out)
  replace C1 := Aside0.mk (Kd.C_below C1.out hb)
  have D3 := Aside0.mk (below_then D2.out D2.out.size hb)
  clear hb D2
  go_wp2_with fail
  refine (PX.out _ (HT.out.below D3.out) (HE.out.below D3.out)).mono ?_
  rintro e w4 ⟨rfl, hb⟩
  replace BX := Aside0.mk ((hb.block _ (blk_lt BX.out)).trans BX.out)
  replace C1 := Aside0.mk (Kd.C_below C1.out hb)
  have D4 := Aside0.mk (below_then D3.out D3.out.size hb)
  clear hb D3
  replace BX := Aside0.mk (blk_alloc BX.out (.cells #[.int .u64 x0, .int .u32 x1, .string x2, .int .i64 x3] 27))
  replace C1 := Aside0.mk (Kd.C_alloc C1.out (.cells #[.int .u64 x0, .int .u32 x1, .string x2, .int .i64 x3] 27))
  have BA := Aside0.mk (blk_new w4 (.cells #[.int .u64 x0, .int .u32 x1, .string x2, .int .i64 x3] 27))
  replace D4 := Aside0.mk (below_alloc D4.out (.cells #[.int .u64 x0, .int .u32 x1, .string x2, .int .i64 x3] 27))
  go_wp2_with fail
  obtain ⟨ba, hba⟩ : ∃ b, b = w4.heap.size := ⟨_, rfl⟩
  rw [← hba] at BA ⊢
  clear hba
  generalize w4.alloc (.cells #[.int .u64 x0, .int .u32 x1, .string x2, .int .i64 x3] 27) = v4 at BX BA C1 D4 ⊢
  refine (RS.out _ (HT.out.below D4.out) (HE.out.below D4.out)).mono ?_
  rintro e w5 ⟨v2, rfl, hr, hb⟩
  replace BX := Aside0.mk ((hb.block _ (blk_lt BX.out)).trans BX.out)
  replace BA := Aside0.mk ((hb.block _ (blk_lt BA.out)).trans BA.out)
  replace C1 := Aside0.mk (Kd.C_below C1.out hb)
  have D5 := Aside0.mk (below_then D4.out D4.out.size hb)
  clear hb D4
  obtain ⟨A2, c2, rfl⟩ := Kd.R_slice hr
  obtain ⟨_, hc2, hC2⟩ := Kd.R_reads' hr
  have C2 := Aside0.mk hC2
  have K2 := Aside0.mk hc2
  clear hr hc2 hC2
  obtain ⟨m2, hm2⟩ : ∃ m, m = zs.length := ⟨_, rfl⟩
  have HM2 := Aside0.mk hm2
  rw [← hm2]
  rw [← hm2] at C2 K2
  clear hm2
  go_wp2_with fail
  refine (fixed_q _ (HT.out.below D5.out)).mono ?_
  rintro e w6 ⟨rfl, hb⟩
  replace BX := Aside0.mk ((hb.block _ (blk_lt BX.out)).trans BX.out)
  replace BA := Aside0.mk ((hb.block _ (blk_lt BA.out)).trans BA.out)
  replace C1 := Aside0.mk (Kd.C_below C1.out hb)
  replace C2 := Aside0.mk (Kd.C_below C2.out hb)
  have D6 := Aside0.mk (below_then D5.out D5.out.size hb)
  clear hb D5
  go_wp2_with fail
  refine (check_m (Kd.C_below HC.out D6.out) HNC.out HNL.out HL.out HCK.out).mono ?_
  rintro e w7 ⟨rfl, hb⟩
  replace BX := Aside0.mk ((hb.block _ (blk_lt BX.out)).trans BX.out)
  replace BA := Aside0.mk ((hb.block _ (blk_lt BA.out)).trans BA.out)
  replace C1 := Aside0.mk (Kd.C_below C1.out hb)
  replace C2 := Aside0.mk (Kd.C_below C2.out hb)
  have D7 := Aside0.mk (below_then D6.out D6.out.size hb)
  clear hb D6
  go_wp2_with fail
  refine (same_m2 C1.out K1.out (Kd.C_below HC.out D7.out) HNC.out HM1.out HNL.out HL.out).mono ?_
  rintro e w8 ⟨rfl, hb⟩
  replace BX := Aside0.mk ((hb.block _ (blk_lt BX.out)).trans BX.out)
  replace BA := Aside0.mk ((hb.block _ (blk_lt BA.out)).trans BA.out)
  replace C1 := Aside0.mk (Kd.C_below C1.out hb)
  replace C2 := Aside0.mk (Kd.C_below C2.out hb)
  have D8 := Aside0.mk (below_then D7.out D7.out.size hb)
  clear hb D7
  have x_0 := (blk_cell BX.out 0).trans (show _ = some (.int .u64 x0) from rfl)
  have a_0 := (blk_cell BA.out 0).trans (show _ = some (.int .u64 x0) from rfl)
  have x_1 := (blk_cell BX.out 1).trans (show _ = some (.int .u32 x1) from rfl)
  have a_1 := (blk_cell BA.out 1).trans (show _ = some (.int .u32 x1) from rfl)
  have x_2 := (blk_cell BX.out 2).trans (show _ = some (.string x2) from rfl)
  have a_2 := (blk_cell BA.out 2).trans (show _ = some (.string x2) from rfl)
  have x_3 := (blk_cell BX.out 3).trans (show _ = some (.int .i64 x3) from rfl)
  have a_3 := (blk_cell BA.out 3).trans (show _ = some (.int .i64 x3) from rfl)
  go_wp2_with fail
  clear x_0 x_1 x_2 x_3 a_0 a_1 a_2 a_3
  refine (TZ.out _ _ _ _ (HT.out.below D8.out) C2.out).mono ?_
  rintro e w9 ⟨rfl, hb⟩
  replace BX := Aside0.mk ((hb.block _ (blk_lt BX.out)).trans BX.out)
  replace BA := Aside0.mk ((hb.block _ (blk_lt BA.out)).trans BA.out)
  replace C1 := Aside0.mk (Kd.C_below C1.out hb)
  replace C2 := Aside0.mk (Kd.C_below C2.out hb)
  have D9 := Aside0.mk (below_then D8.out D8.out.size hb)
  clear hb D8
  go_wp2_with fail
  refine (check_m C2.out K2.out HM2.out HZS.out HCZ.out).mono ?_
  rintro e w10 ⟨rfl, hb⟩
  replace BX := Aside0.mk ((hb.block _ (blk_lt BX.out)).trans BX.out)
  replace BA := Aside0.mk ((hb.block _ (blk_lt BA.out)).trans BA.out)
  replace C1 := Aside0.mk (Kd.C_below C1.out hb)
  replace C2 := Aside0.mk (Kd.C_below C2.out hb)
  have D10 := Aside0.mk (below_then D9.out D9.out.size hb)
  clear hb D9
  go_wp2
  go_ret
  exact ⟨by first | rfl | simp, D10.out⟩
set_option maxRecDepth 100000 in
set_option maxHeartbeats 8000000 in
theorem back_10 (L : Option Addr) (n c : Nat) (l : List S27) (x0 x1 : Int) (x2 : ByteArray) (x3 : Int) (s tx ln : ByteArray) (ys zs : List S27) (hl : l.length < 2305843009213693952) (hzs : zs.length < 2305843009213693952) (hnl : n = l.length) (hnc : n ≤ c) (hys : ys = l) (hck : checkL l = true) (w : World) (hC : Kd.C k27 w L n l) (ht : Tens w) (he : Errs w)
    (TX : ∀ w1 : World, Tens w1 → Kd.C k27 w1 L n l → Calls Tryd.prog 16 #[.slice L n c] w1 fun e w' => e = .returned (.string tx) ∧ Below w1.heap.size w1 w')
    (RX : ∀ w1 : World, Tens w1 → Errs w1 → Calls Tryd.prog 19 #[.string tx] w1 fun e w' => ∃ v, e = .returned (.tuple #[v, .bool true]) ∧ Kd.R k27 27 w' w1.heap.size (fun _ => True) v ys ∧ Below w1.heap.size w1 w')
    (LX : ∀ w1 : World, Tens w1 → Calls Tryd.prog 21 #[.agg #[.int .u64 x0, .int .u32 x1, .string x2, .int .i64 x3]] w1 fun e w' => e = .returned (.string ln) ∧ Below w1.heap.size w1 w')
    (PX : ∀ w1 : World, Tens w1 → Errs w1 → Calls Tryd.prog 17 #[.string ln] w1 fun e w' => e = .returned (.tuple #[.agg #[.int .u64 x0, .int .u32 x1, .string x2, .int .i64 x3], .bool true]) ∧ Below w1.heap.size w1 w')
    (RS : ∀ w1 : World, Tens w1 → Errs w1 → Calls Tryd.prog 19 #[.string s] w1 fun e w' => ∃ v, e = .returned (.tuple #[v, .bool false]) ∧ Kd.R k27 27 w' w1.heap.size (fun _ => True) v zs ∧ Below w1.heap.size w1 w') :
    Calls Tryd.prog 7 #[.slice L n c, .agg #[.int .u64 x0, .int .u32 x1, .string x2, .int .i64 x3], .string s] w fun e w' => e = .returned (.bool true) ∧ Below w.heap.size w w' := by
  have TX := Aside0.mk TX
  have RX := Aside0.mk RX
  have LX := Aside0.mk LX
  have PX := Aside0.mk PX
  have RS := Aside0.mk RS
  have HC := Aside0.mk hC
  have HT := Aside0.mk ht
  have HE := Aside0.mk he
  have HL := Aside0.mk hl
  have HZS := Aside0.mk hzs
  have HNL := Aside0.mk hnl
  have HNC := Aside0.mk hnc
  have HCK := Aside0.mk hck
  subst hys
  have D0 := Aside0.mk (below_alloc (Below.refl w.heap.size w) (.cells #[.int .u64 x0, .int .u32 x1, .string x2, .int .i64 x3] 27))
  have BX := Aside0.mk (blk_new w (.cells #[.int .u64 x0, .int .u32 x1, .string x2, .int .i64 x3] 27))
  clear hC ht he hl hzs hnl hnc hck
  go_enter Tryd.func7, Tryd.ntmps7
  go_wp2_with fail
  obtain ⟨bx, hbx⟩ : ∃ b, b = w.heap.size := ⟨_, rfl⟩
  rw [← hbx] at BX ⊢
  clear hbx
  generalize w.alloc (.cells #[.int .u64 x0, .int .u32 x1, .string x2, .int .i64 x3] 27) = v0 at BX D0 ⊢
  refine (TX.out _ (HT.out.below D0.out) (Kd.C_below HC.out D0.out)).mono ?_
  rintro e w1 ⟨rfl, hb⟩
  replace BX := Aside0.mk ((hb.block _ (blk_lt BX.out)).trans BX.out)
  have D1 := Aside0.mk (below_then D0.out D0.out.size hb)
  clear hb D0
  go_wp2_with fail
  refine (RX.out _ (HT.out.below D1.out) (HE.out.below D1.out)).mono ?_
  rintro e w2 ⟨v1, rfl, hr, hb⟩
  replace BX := Aside0.mk ((hb.block _ (blk_lt BX.out)).trans BX.out)
  have D2 := Aside0.mk (below_then D1.out D1.out.size hb)
  clear hb D1
  obtain ⟨A1, c1, rfl⟩ := Kd.R_slice hr
  obtain ⟨_, hc1, hC1⟩ := Kd.R_reads' hr
  have C1 := Aside0.mk hC1
  have K1 := Aside0.mk hc1
  clear hr hc1 hC1
  obtain ⟨m1, hm1⟩ : ∃ m, m = ys.length := ⟨_, rfl⟩
  have HM1 := Aside0.mk hm1
  rw [← hm1]
  rw [← hm1] at C1 K1
  clear hm1
  have x_0 := (blk_cell BX.out 0).trans (show _ = some (.int .u64 x0) from rfl)
  have x_1 := (blk_cell BX.out 1).trans (show _ = some (.int .u32 x1) from rfl)
  have x_2 := (blk_cell BX.out 2).trans (show _ = some (.string x2) from rfl)
  have x_3 := (blk_cell BX.out 3).trans (show _ = some (.int .i64 x3) from rfl)
  go_wp2_with fail
  clear x_0 x_1 x_2 x_3
  refine (LX.out _ (HT.out.below D2.out)).mono ?_
  rintro e w3 ⟨rfl, hb⟩
  replace BX := Aside0.mk ((hb.block _ (blk_lt BX.out)).trans BX.out)
  replace C1 := Aside0.mk (Kd.C_below C1.out hb)
  have D3 := Aside0.mk (below_then D2.out D2.out.size hb)
  clear hb D2
  go_wp2_with fail
  refine (PX.out _ (HT.out.below D3.out) (HE.out.below D3.out)).mono ?_
  rintro e w4 ⟨rfl, hb⟩
  replace BX := Aside0.mk ((hb.block _ (blk_lt BX.out)).trans BX.out)
  replace C1 := Aside0.mk (Kd.C_below C1.out hb)
  have D4 := Aside0.mk (below_then D3.out D3.out.size hb)
  clear hb D3
  replace BX := Aside0.mk (blk_alloc BX.out (.cells #[.int .u64 x0, .int .u32 x1, .string x2, .int .i64 x3] 27))
  replace C1 := Aside0.mk (Kd.C_alloc C1.out (.cells #[.int .u64 x0, .int .u32 x1, .string x2, .int .i64 x3] 27))
  have BA := Aside0.mk (blk_new w4 (.cells #[.int .u64 x0, .int .u32 x1, .string x2, .int .i64 x3] 27))
  replace D4 := Aside0.mk (below_alloc D4.out (.cells #[.int .u64 x0, .int .u32 x1, .string x2, .int .i64 x3] 27))
  go_wp2_with fail
  obtain ⟨ba, hba⟩ : ∃ b, b = w4.heap.size := ⟨_, rfl⟩
  rw [← hba] at BA ⊢
  clear hba
  generalize w4.alloc (.cells #[.int .u64 x0, .int .u32 x1, .string x2, .int .i64 x3] 27) = v4 at BX BA C1 D4 ⊢
  refine (RS.out _ (HT.out.below D4.out) (HE.out.below D4.out)).mono ?_
  rintro e w5 ⟨v2, rfl, hr, hb⟩
  replace BX := Aside0.mk ((hb.block _ (blk_lt BX.out)).trans BX.out)
  replace BA := Aside0.mk ((hb.block _ (blk_lt BA.out)).trans BA.out)
  replace C1 := Aside0.mk (Kd.C_below C1.out hb)
  have D5 := Aside0.mk (below_then D4.out D4.out.size hb)
  clear hb D4
  obtain ⟨A2, c2, rfl⟩ := Kd.R_slice hr
  obtain ⟨_, hc2, hC2⟩ := Kd.R_reads' hr
  have C2 := Aside0.mk hC2
  have K2 := Aside0.mk hc2
  clear hr hc2 hC2
  obtain ⟨m2, hm2⟩ : ∃ m, m = zs.length := ⟨_, rfl⟩
  have HM2 := Aside0.mk hm2
  rw [← hm2]
  rw [← hm2] at C2 K2
  clear hm2
  go_wp2_with fail
  refine (fixed_q _ (HT.out.below D5.out)).mono ?_
  rintro e w6 ⟨rfl, hb⟩
  replace BX := Aside0.mk ((hb.block _ (blk_lt BX.out)).trans BX.out)
  replace BA := Aside0.mk ((hb.block _ (blk_lt BA.out)).trans BA.out)
  replace C1 := Aside0.mk (Kd.C_below C1.out hb)
  replace C2 := Aside0.mk (Kd.C_below C2.out hb)
  have D6 := Aside0.mk (below_then D5.out D5.out.size hb)
  clear hb D5
  go_wp2_with fail
  refine (check_m (Kd.C_below HC.out D6.out) HNC.out HNL.out HL.out HCK.out).mono ?_
  rintro e w7 ⟨rfl, hb⟩
  replace BX := Aside0.mk ((hb.block _ (blk_lt BX.out)).trans BX.out)
  replace BA := Aside0.mk ((hb.block _ (blk_lt BA.out)).trans BA.out)
  replace C1 := Aside0.mk (Kd.C_below C1.out hb)
  replace C2 := Aside0.mk (Kd.C_below C2.out hb)
  have D7 := Aside0.mk (below_then D6.out D6.out.size hb)
  clear hb D6
  go_wp2_with fail
  refine (same_m2 C1.out K1.out (Kd.C_below HC.out D7.out) HNC.out HM1.out HNL.out HL.out).mono ?_
  rintro e w8 ⟨rfl, hb⟩
  replace BX := Aside0.mk ((hb.block _ (blk_lt BX.out)).trans BX.out)
  replace BA := Aside0.mk ((hb.block _ (blk_lt BA.out)).trans BA.out)
  replace C1 := Aside0.mk (Kd.C_below C1.out hb)
  replace C2 := Aside0.mk (Kd.C_below C2.out hb)
  have D8 := Aside0.mk (below_then D7.out D7.out.size hb)
  clear hb D7
  have x_0 := (blk_cell BX.out 0).trans (show _ = some (.int .u64 x0) from rfl)
  have a_0 := (blk_cell BA.out 0).trans (show _ = some (.int .u64 x0) from rfl)
  have x_1 := (blk_cell BX.out 1).trans (show _ = some (.int .u32 x1) from rfl)
  have a_1 := (blk_cell BA.out 1).trans (show _ = some (.int .u32 x1) from rfl)
  have x_2 := (blk_cell BX.out 2).trans (show _ = some (.string x2) from rfl)
  have a_2 := (blk_cell BA.out 2).trans (show _ = some (.string x2) from rfl)
  have x_3 := (blk_cell BX.out 3).trans (show _ = some (.int .i64 x3) from rfl)
  have a_3 := (blk_cell BA.out 3).trans (show _ = some (.int .i64 x3) from rfl)
  go_wp2
  go_ret
  exact ⟨by first | rfl | simp, D8.out⟩
set_option maxRecDepth 100000 in
set_option maxHeartbeats 8000000 in
theorem back_01 (L : Option Addr) (n c : Nat) (l : List S27) (x0 x1 : Int) (x2 : ByteArray) (x3 : Int) (s tx ln : ByteArray) (ys zs : List S27) (hl : l.length < 2305843009213693952) (hzs : zs.length < 2305843009213693952) (hnl : n = l.length) (hnc : n ≤ c) (hck : checkL l = false) (hcz : checkL zs = true) (w : World) (hC : Kd.C k27 w L n l) (ht : Tens w) (he : Errs w)
    (TX : ∀ w1 : World, Tens w1 → Kd.C k27 w1 L n l → Calls Tryd.prog 16 #[.slice L n c] w1 fun e w' => e = .returned (.string tx) ∧ Below w1.heap.size w1 w')
    (RX : ∀ w1 : World, Tens w1 → Errs w1 → Calls Tryd.prog 19 #[.string tx] w1 fun e w' => ∃ v, e = .returned (.tuple #[v, .bool false]) ∧ Kd.R k27 27 w' w1.heap.size (fun _ => True) v ys ∧ Below w1.heap.size w1 w')
    (LX : ∀ w1 : World, Tens w1 → Calls Tryd.prog 21 #[.agg #[.int .u64 x0, .int .u32 x1, .string x2, .int .i64 x3]] w1 fun e w' => e = .returned (.string ln) ∧ Below w1.heap.size w1 w')
    (PX : ∀ w1 : World, Tens w1 → Errs w1 → Calls Tryd.prog 17 #[.string ln] w1 fun e w' => e = .returned (.tuple #[.agg #[.int .u64 x0, .int .u32 x1, .string x2, .int .i64 x3], .bool true]) ∧ Below w1.heap.size w1 w')
    (RS : ∀ w1 : World, Tens w1 → Errs w1 → Calls Tryd.prog 19 #[.string s] w1 fun e w' => ∃ v, e = .returned (.tuple #[v, .bool true]) ∧ Kd.R k27 27 w' w1.heap.size (fun _ => True) v zs ∧ Below w1.heap.size w1 w')
    (TZ : ∀ (w1 : World) (A : Option Addr) (m d : Nat), Tens w1 → Kd.C k27 w1 A m zs → Calls Tryd.prog 16 #[.slice A m d] w1 fun e w' => e = .returned (.string s) ∧ Below w1.heap.size w1 w') :
    Calls Tryd.prog 7 #[.slice L n c, .agg #[.int .u64 x0, .int .u32 x1, .string x2, .int .i64 x3], .string s] w fun e w' => e = .returned (.bool true) ∧ Below w.heap.size w w' := by
  have TX := Aside0.mk TX
  have RX := Aside0.mk RX
  have LX := Aside0.mk LX
  have PX := Aside0.mk PX
  have RS := Aside0.mk RS
  have TZ := Aside0.mk TZ
  have HC := Aside0.mk hC
  have HT := Aside0.mk ht
  have HE := Aside0.mk he
  have HL := Aside0.mk hl
  have HZS := Aside0.mk hzs
  have HNL := Aside0.mk hnl
  have HNC := Aside0.mk hnc
  have HCK := Aside0.mk hck
  have HCZ := Aside0.mk hcz
  clear hcz
  have D0 := Aside0.mk (below_alloc (Below.refl w.heap.size w) (.cells #[.int .u64 x0, .int .u32 x1, .string x2, .int .i64 x3] 27))
  have BX := Aside0.mk (blk_new w (.cells #[.int .u64 x0, .int .u32 x1, .string x2, .int .i64 x3] 27))
  clear hC ht he hl hzs hnl hnc hck
  go_enter Tryd.func7, Tryd.ntmps7
  go_wp2_with fail
  obtain ⟨bx, hbx⟩ : ∃ b, b = w.heap.size := ⟨_, rfl⟩
  rw [← hbx] at BX ⊢
  clear hbx
  generalize w.alloc (.cells #[.int .u64 x0, .int .u32 x1, .string x2, .int .i64 x3] 27) = v0 at BX D0 ⊢
  refine (TX.out _ (HT.out.below D0.out) (Kd.C_below HC.out D0.out)).mono ?_
  rintro e w1 ⟨rfl, hb⟩
  replace BX := Aside0.mk ((hb.block _ (blk_lt BX.out)).trans BX.out)
  have D1 := Aside0.mk (below_then D0.out D0.out.size hb)
  clear hb D0
  go_wp2_with fail
  refine (RX.out _ (HT.out.below D1.out) (HE.out.below D1.out)).mono ?_
  rintro e w2 ⟨v1, rfl, hr, hb⟩
  replace BX := Aside0.mk ((hb.block _ (blk_lt BX.out)).trans BX.out)
  have D2 := Aside0.mk (below_then D1.out D1.out.size hb)
  clear hb D1
  obtain ⟨A1, c1, rfl⟩ := Kd.R_slice hr
  obtain ⟨_, hc1, hC1⟩ := Kd.R_reads' hr
  have C1 := Aside0.mk hC1
  have K1 := Aside0.mk hc1
  clear hr hc1 hC1
  obtain ⟨m1, hm1⟩ : ∃ m, m = ys.length := ⟨_, rfl⟩
  have HM1 := Aside0.mk hm1
  rw [← hm1]
  rw [← hm1] at C1 K1
  clear hm1
  have x_0 := (blk_cell BX.out 0).trans (show _ = some (.int .u64 x0) from rfl)
  have x_1 := (blk_cell BX.out 1).trans (show _ = some (.int .u32 x1) from rfl)
  have x_2 := (blk_cell BX.out 2).trans (show _ = some (.string x2) from rfl)
  have x_3 := (blk_cell BX.out 3).trans (show _ = some (.int .i64 x3) from rfl)
  go_wp2_with fail
  clear x_0 x_1 x_2 x_3
  refine (LX.out _ (HT.out.below D2.out)).mono ?_
  rintro e w3 ⟨rfl, hb⟩
  replace BX := Aside0.mk ((hb.block _ (blk_lt BX.out)).trans BX.out)
  replace C1 := Aside0.mk (Kd.C_below C1.out hb)
  have D3 := Aside0.mk (below_then D2.out D2.out.size hb)
  clear hb D2
  go_wp2_with fail
  refine (PX.out _ (HT.out.below D3.out) (HE.out.below D3.out)).mono ?_
  rintro e w4 ⟨rfl, hb⟩
  replace BX := Aside0.mk ((hb.block _ (blk_lt BX.out)).trans BX.out)
  replace C1 := Aside0.mk (Kd.C_below C1.out hb)
  have D4 := Aside0.mk (below_then D3.out D3.out.size hb)
  clear hb D3
  replace BX := Aside0.mk (blk_alloc BX.out (.cells #[.int .u64 x0, .int .u32 x1, .string x2, .int .i64 x3] 27))
  replace C1 := Aside0.mk (Kd.C_alloc C1.out (.cells #[.int .u64 x0, .int .u32 x1, .string x2, .int .i64 x3] 27))
  have BA := Aside0.mk (blk_new w4 (.cells #[.int .u64 x0, .int .u32 x1, .string x2, .int .i64 x3] 27))
  replace D4 := Aside0.mk (below_alloc D4.out (.cells #[.int .u64 x0, .int .u32 x1, .string x2, .int .i64 x3] 27))
  go_wp2_with fail
  obtain ⟨ba, hba⟩ : ∃ b, b = w4.heap.size := ⟨_, rfl⟩
  rw [← hba] at BA ⊢
  clear hba
  generalize w4.alloc (.cells #[.int .u64 x0, .int .u32 x1, .string x2, .int .i64 x3] 27) = v4 at BX BA C1 D4 ⊢
  refine (RS.out _ (HT.out.below D4.out) (HE.out.below D4.out)).mono ?_
  rintro e w5 ⟨v2, rfl, hr, hb⟩
  replace BX := Aside0.mk ((hb.block _ (blk_lt BX.out)).trans BX.out)
  replace BA := Aside0.mk ((hb.block _ (blk_lt BA.out)).trans BA.out)
  replace C1 := Aside0.mk (Kd.C_below C1.out hb)
  have D5 := Aside0.mk (below_then D4.out D4.out.size hb)
  clear hb D4
  obtain ⟨A2, c2, rfl⟩ := Kd.R_slice hr
  obtain ⟨_, hc2, hC2⟩ := Kd.R_reads' hr
  have C2 := Aside0.mk hC2
  have K2 := Aside0.mk hc2
  clear hr hc2 hC2
  obtain ⟨m2, hm2⟩ : ∃ m, m = zs.length := ⟨_, rfl⟩
  have HM2 := Aside0.mk hm2
  rw [← hm2]
  rw [← hm2] at C2 K2
  clear hm2
  go_wp2_with fail
  refine (fixed_q _ (HT.out.below D5.out)).mono ?_
  rintro e w6 ⟨rfl, hb⟩
  replace BX := Aside0.mk ((hb.block _ (blk_lt BX.out)).trans BX.out)
  replace BA := Aside0.mk ((hb.block _ (blk_lt BA.out)).trans BA.out)
  replace C1 := Aside0.mk (Kd.C_below C1.out hb)
  replace C2 := Aside0.mk (Kd.C_below C2.out hb)
  have D6 := Aside0.mk (below_then D5.out D5.out.size hb)
  clear hb D5
  go_wp2_with fail
  refine (check_m (Kd.C_below HC.out D6.out) HNC.out HNL.out HL.out HCK.out).mono ?_
  rintro e w7 ⟨rfl, hb⟩
  replace BX := Aside0.mk ((hb.block _ (blk_lt BX.out)).trans BX.out)
  replace BA := Aside0.mk ((hb.block _ (blk_lt BA.out)).trans BA.out)
  replace C1 := Aside0.mk (Kd.C_below C1.out hb)
  replace C2 := Aside0.mk (Kd.C_below C2.out hb)
  have D7 := Aside0.mk (below_then D6.out D6.out.size hb)
  clear hb D6
  have x_0 := (blk_cell BX.out 0).trans (show _ = some (.int .u64 x0) from rfl)
  have a_0 := (blk_cell BA.out 0).trans (show _ = some (.int .u64 x0) from rfl)
  have x_1 := (blk_cell BX.out 1).trans (show _ = some (.int .u32 x1) from rfl)
  have a_1 := (blk_cell BA.out 1).trans (show _ = some (.int .u32 x1) from rfl)
  have x_2 := (blk_cell BX.out 2).trans (show _ = some (.string x2) from rfl)
  have a_2 := (blk_cell BA.out 2).trans (show _ = some (.string x2) from rfl)
  have x_3 := (blk_cell BX.out 3).trans (show _ = some (.int .i64 x3) from rfl)
  have a_3 := (blk_cell BA.out 3).trans (show _ = some (.int .i64 x3) from rfl)
  go_wp2_with fail
  clear x_0 x_1 x_2 x_3 a_0 a_1 a_2 a_3
  refine (TZ.out _ _ _ _ (HT.out.below D7.out) C2.out).mono ?_
  rintro e w8 ⟨rfl, hb⟩
  replace BX := Aside0.mk ((hb.block _ (blk_lt BX.out)).trans BX.out)
  replace BA := Aside0.mk ((hb.block _ (blk_lt BA.out)).trans BA.out)
  replace C1 := Aside0.mk (Kd.C_below C1.out hb)
  replace C2 := Aside0.mk (Kd.C_below C2.out hb)
  have D8 := Aside0.mk (below_then D7.out D7.out.size hb)
  clear hb D7
  go_wp2_with fail
  refine (check_m C2.out K2.out HM2.out HZS.out HCZ.out).mono ?_
  rintro e w9 ⟨rfl, hb⟩
  replace BX := Aside0.mk ((hb.block _ (blk_lt BX.out)).trans BX.out)
  replace BA := Aside0.mk ((hb.block _ (blk_lt BA.out)).trans BA.out)
  replace C1 := Aside0.mk (Kd.C_below C1.out hb)
  replace C2 := Aside0.mk (Kd.C_below C2.out hb)
  have D9 := Aside0.mk (below_then D8.out D8.out.size hb)
  clear hb D8
  go_wp2
  go_ret
  exact ⟨by first | rfl | simp, D9.out⟩
set_option maxRecDepth 100000 in
set_option maxHeartbeats 8000000 in
theorem back_00 (L : Option Addr) (n c : Nat) (l : List S27) (x0 x1 : Int) (x2 : ByteArray) (x3 : Int) (s tx ln : ByteArray) (ys zs : List S27) (hl : l.length < 2305843009213693952) (hzs : zs.length < 2305843009213693952) (hnl : n = l.length) (hnc : n ≤ c) (hck : checkL l = false) (w : World) (hC : Kd.C k27 w L n l) (ht : Tens w) (he : Errs w)
    (TX : ∀ w1 : World, Tens w1 → Kd.C k27 w1 L n l → Calls Tryd.prog 16 #[.slice L n c] w1 fun e w' => e = .returned (.string tx) ∧ Below w1.heap.size w1 w')
    (RX : ∀ w1 : World, Tens w1 → Errs w1 → Calls Tryd.prog 19 #[.string tx] w1 fun e w' => ∃ v, e = .returned (.tuple #[v, .bool false]) ∧ Kd.R k27 27 w' w1.heap.size (fun _ => True) v ys ∧ Below w1.heap.size w1 w')
    (LX : ∀ w1 : World, Tens w1 → Calls Tryd.prog 21 #[.agg #[.int .u64 x0, .int .u32 x1, .string x2, .int .i64 x3]] w1 fun e w' => e = .returned (.string ln) ∧ Below w1.heap.size w1 w')
    (PX : ∀ w1 : World, Tens w1 → Errs w1 → Calls Tryd.prog 17 #[.string ln] w1 fun e w' => e = .returned (.tuple #[.agg #[.int .u64 x0, .int .u32 x1, .string x2, .int .i64 x3], .bool true]) ∧ Below w1.heap.size w1 w')
    (RS : ∀ w1 : World, Tens w1 → Errs w1 → Calls Tryd.prog 19 #[.string s] w1 fun e w' => ∃ v, e = .returned (.tuple #[v, .bool false]) ∧ Kd.R k27 27 w' w1.heap.size (fun _ => True) v zs ∧ Below w1.heap.size w1 w') :
    Calls Tryd.prog 7 #[.slice L n c, .agg #[.int .u64 x0, .int .u32 x1, .string x2, .int .i64 x3], .string s] w fun e w' => e = .returned (.bool true) ∧ Below w.heap.size w w' := by
  have TX := Aside0.mk TX
  have RX := Aside0.mk RX
  have LX := Aside0.mk LX
  have PX := Aside0.mk PX
  have RS := Aside0.mk RS
  have HC := Aside0.mk hC
  have HT := Aside0.mk ht
  have HE := Aside0.mk he
  have HL := Aside0.mk hl
  have HZS := Aside0.mk hzs
  have HNL := Aside0.mk hnl
  have HNC := Aside0.mk hnc
  have HCK := Aside0.mk hck
  have D0 := Aside0.mk (below_alloc (Below.refl w.heap.size w) (.cells #[.int .u64 x0, .int .u32 x1, .string x2, .int .i64 x3] 27))
  have BX := Aside0.mk (blk_new w (.cells #[.int .u64 x0, .int .u32 x1, .string x2, .int .i64 x3] 27))
  clear hC ht he hl hzs hnl hnc hck
  go_enter Tryd.func7, Tryd.ntmps7
  go_wp2_with fail
  obtain ⟨bx, hbx⟩ : ∃ b, b = w.heap.size := ⟨_, rfl⟩
  rw [← hbx] at BX ⊢
  clear hbx
  generalize w.alloc (.cells #[.int .u64 x0, .int .u32 x1, .string x2, .int .i64 x3] 27) = v0 at BX D0 ⊢
  refine (TX.out _ (HT.out.below D0.out) (Kd.C_below HC.out D0.out)).mono ?_
  rintro e w1 ⟨rfl, hb⟩
  replace BX := Aside0.mk ((hb.block _ (blk_lt BX.out)).trans BX.out)
  have D1 := Aside0.mk (below_then D0.out D0.out.size hb)
  clear hb D0
  go_wp2_with fail
  refine (RX.out _ (HT.out.below D1.out) (HE.out.below D1.out)).mono ?_
  rintro e w2 ⟨v1, rfl, hr, hb⟩
  replace BX := Aside0.mk ((hb.block _ (blk_lt BX.out)).trans BX.out)
  have D2 := Aside0.mk (below_then D1.out D1.out.size hb)
  clear hb D1
  obtain ⟨A1, c1, rfl⟩ := Kd.R_slice hr
  obtain ⟨_, hc1, hC1⟩ := Kd.R_reads' hr
  have C1 := Aside0.mk hC1
  have K1 := Aside0.mk hc1
  clear hr hc1 hC1
  obtain ⟨m1, hm1⟩ : ∃ m, m = ys.length := ⟨_, rfl⟩
  have HM1 := Aside0.mk hm1
  rw [← hm1]
  rw [← hm1] at C1 K1
  clear hm1
  have x_0 := (blk_cell BX.out 0).trans (show _ = some (.int .u64 x0) from rfl)
  have x_1 := (blk_cell BX.out 1).trans (show _ = some (.int .u32 x1) from rfl)
  have x_2 := (blk_cell BX.out 2).trans (show _ = some (.string x2) from rfl)
  have x_3 := (blk_cell BX.out 3).trans (show _ = some (.int .i64 x3) from rfl)
  go_wp2_with fail
  clear x_0 x_1 x_2 x_3
  refine (LX.out _ (HT.out.below D2.out)).mono ?_
  rintro e w3 ⟨rfl, hb⟩
  replace BX := Aside0.mk ((hb.block _ (blk_lt BX.out)).trans BX.out)
  replace C1 := Aside0.mk (Kd.C_below C1.out hb)
  have D3 := Aside0.mk (below_then D2.out D2.out.size hb)
  clear hb D2
  go_wp2_with fail
  refine (PX.out _ (HT.out.below D3.out) (HE.out.below D3.out)).mono ?_
  rintro e w4 ⟨rfl, hb⟩
  replace BX := Aside0.mk ((hb.block _ (blk_lt BX.out)).trans BX.out)
  replace C1 := Aside0.mk (Kd.C_below C1.out hb)
  have D4 := Aside0.mk (below_then D3.out D3.out.size hb)
  clear hb D3
  replace BX := Aside0.mk (blk_alloc BX.out (.cells #[.int .u64 x0, .int .u32 x1, .string x2, .int .i64 x3] 27))
  replace C1 := Aside0.mk (Kd.C_alloc C1.out (.cells #[.int .u64 x0, .int .u32 x1, .string x2, .int .i64 x3] 27))
  have BA := Aside0.mk (blk_new w4 (.cells #[.int .u64 x0, .int .u32 x1, .string x2, .int .i64 x3] 27))
  replace D4 := Aside0.mk (below_alloc D4.out (.cells #[.int .u64 x0, .int .u32 x1, .string x2, .int .i64 x3] 27))
  go_wp2_with fail
  obtain ⟨ba, hba⟩ : ∃ b, b = w4.heap.size := ⟨_, rfl⟩
  rw [← hba] at BA ⊢
  clear hba
  generalize w4.alloc (.cells #[.int .u64 x0, .int .u32 x1, .string x2, .int .i64 x3] 27) = v4 at BX BA C1 D4 ⊢
  refine (RS.out _ (HT.out.below D4.out) (HE.out.below D4.out)).mono ?_
  rintro e w5 ⟨v2, rfl, hr, hb⟩
  replace BX := Aside0.mk ((hb.block _ (blk_lt BX.out)).trans BX.out)
  replace BA := Aside0.mk ((hb.block _ (blk_lt BA.out)).trans BA.out)
  replace C1 := Aside0.mk (Kd.C_below C1.out hb)
  have D5 := Aside0.mk (below_then D4.out D4.out.size hb)
  clear hb D4
  obtain ⟨A2, c2, rfl⟩ := Kd.R_slice hr
  obtain ⟨_, hc2, hC2⟩ := Kd.R_reads' hr
  have C2 := Aside0.mk hC2
  have K2 := Aside0.mk hc2
  clear hr hc2 hC2
  obtain ⟨m2, hm2⟩ : ∃ m, m = zs.length := ⟨_, rfl⟩
  have HM2 := Aside0.mk hm2
  rw [← hm2]
  rw [← hm2] at C2 K2
  clear hm2
  go_wp2_with fail
  refine (fixed_q _ (HT.out.below D5.out)).mono ?_
  rintro e w6 ⟨rfl, hb⟩
  replace BX := Aside0.mk ((hb.block _ (blk_lt BX.out)).trans BX.out)
  replace BA := Aside0.mk ((hb.block _ (blk_lt BA.out)).trans BA.out)
  replace C1 := Aside0.mk (Kd.C_below C1.out hb)
  replace C2 := Aside0.mk (Kd.C_below C2.out hb)
  have D6 := Aside0.mk (below_then D5.out D5.out.size hb)
  clear hb D5
  go_wp2_with fail
  refine (check_m (Kd.C_below HC.out D6.out) HNC.out HNL.out HL.out HCK.out).mono ?_
  rintro e w7 ⟨rfl, hb⟩
  replace BX := Aside0.mk ((hb.block _ (blk_lt BX.out)).trans BX.out)
  replace BA := Aside0.mk ((hb.block _ (blk_lt BA.out)).trans BA.out)
  replace C1 := Aside0.mk (Kd.C_below C1.out hb)
  replace C2 := Aside0.mk (Kd.C_below C2.out hb)
  have D7 := Aside0.mk (below_then D6.out D6.out.size hb)
  clear hb D6
  have x_0 := (blk_cell BX.out 0).trans (show _ = some (.int .u64 x0) from rfl)
  have a_0 := (blk_cell BA.out 0).trans (show _ = some (.int .u64 x0) from rfl)
  have x_1 := (blk_cell BX.out 1).trans (show _ = some (.int .u32 x1) from rfl)
  have a_1 := (blk_cell BA.out 1).trans (show _ = some (.int .u32 x1) from rfl)
  have x_2 := (blk_cell BX.out 2).trans (show _ = some (.string x2) from rfl)
  have a_2 := (blk_cell BA.out 2).trans (show _ = some (.string x2) from rfl)
  have x_3 := (blk_cell BX.out 3).trans (show _ = some (.int .i64 x3) from rfl)
  have a_3 := (blk_cell BA.out 3).trans (show _ = some (.int .i64 x3) from rfl)
  go_wp2
  go_ret
  exact ⟨by first | rfl | simp, D7.out⟩
theorem back_any (L : Option Addr) (n c : Nat) (l : List S27) (x : S27) (s : ByteArray) (w : World) (hC : Kd.C k27 w L n l) (hnc : n ≤ c) (hn : n ≤ maxLen) (hf : ∀ x ∈ l, FitsR x) (hlen : (textR l).length ≤ 1000000000) (hx : FitsR x) (hxs : x.f2.size ≤ 100000000) (hs : s.size ≤ 1000000000) (ht : Tens w) (he : Errs w) :
    Calls Tryd.prog 7 #[.slice L n c, recV x, .string s] w fun e w' => e = .returned (.bool true) ∧ Below w.heap.size w w' := by
  have hnl := Kd.C_len hC
  have hll := textR_length l
  have hsl : s.data.toList.length = s.size := Array.length_toList
  obtain ⟨r, hr⟩ := isRead_ex s.data.toList
  have hrl := isRead_len hr
  have hlx : (lineR x).length ≤ 1000000000 := by
    have := line_len x.f0.toNat x.f1.toNat x.f3 x.f2 (by have := hx.1; have := hx.2.1; omega) (by have := hx.2.2.1; have := hx.2.2.2.1; omega) hx.2.2.2.2.1 hx.2.2.2.2.2.1
    unfold lineR
    omega
  obtain ⟨o, ho⟩ := isRead_ex (textR l)
  have hO := isRead_text ho hf rfl
  have TX := fun (w1 : World) (h1 : Tens w1) (h2 : Kd.C k27 w1 L n l) => text_q L n c l w1 h2 hn hf (by omega) h1
  have RX := fun (w1 : World) (h1 : Tens w1) (h2 : Errs w1) => read_q (bsA (textR l)) (by rw [bsA_size]; exact hlen) o ho w1 h1 h2
  have LX := fun (w1 : World) (h1 : Tens w1) => line_r x hx h1 (Below.refl _ _)
  have PX := fun (w1 : World) (h1 : Tens w1) (h2 : Errs w1) => parse_q (bsA (lineR x)) (by rw [bsA_size]; exact hlx) (some x) ⟨hx, rfl⟩ w1 h1 h2
  have RSX := fun (w1 : World) (h1 : Tens w1) (h2 : Errs w1) => read_q s hs r hr w1 h1 h2
  obtain ⟨x0, x1, x2, x3⟩ := x
  have TZ : ∀ zs, r = some zs → ∀ (w1 : World) (A : Option Addr) (m d : Nat), Tens w1 → Kd.C k27 w1 A m zs → Calls Tryd.prog 16 #[.slice A m d] w1 fun e w' => e = .returned (.string s) ∧ Below w1.heap.size w1 w' := by
    intro zs hz w1 A m d h1 h2
    subst hz
    obtain ⟨g1, g2, g3⟩ := hr
    have hm := Kd.C_len h2
    have hzl := textR_length zs
    have := text_q A m d zs w1 h2 (by rw [g2] at hzl; unfold maxLen; omega) g1 (by rw [g2]; omega) h1
    rw [g2] at this
    exact this
  cases hck : checkL l with
  | true =>
    rw [hck, if_pos rfl] at hO
    subst hO
    cases r with
    | some zs => exact back_11 L n c l x0 x1 x2 x3 s _ _ l zs (by omega) (by have : zs.length ≤ s.data.toList.length := hrl; omega) hnl.symm hnc rfl hck hr.2.2 w hC ht he TX RX LX PX RSX (TZ zs rfl)
    | none => exact back_10 L n c l x0 x1 x2 x3 s _ _ l [] (by omega) (by decide) hnl.symm hnc rfl hck w hC ht he TX RX LX PX RSX
  | false =>
    rw [hck, if_neg Bool.false_ne_true] at hO
    subst hO
    cases r with
    | some zs => exact back_01 L n c l x0 x1 x2 x3 s _ _ [] zs (by omega) (by have : zs.length ≤ s.data.toList.length := hrl; omega) hnl.symm hnc hck hr.2.2 w hC ht he TX RX LX PX RSX (TZ zs rfl)
    | none => exact back_00 L n c l x0 x1 x2 x3 s _ _ [] [] (by omega) (by decide) hnl.symm hnc hck w hC ht he TX RX LX PX RSX
end Go.Proofs.YtoeioacgpildpaaDoor
