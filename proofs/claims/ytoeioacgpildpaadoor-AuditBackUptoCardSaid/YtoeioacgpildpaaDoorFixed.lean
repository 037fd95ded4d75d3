/- The calls whose answers the document fixes: they are as it says; and the printed functions as calls. -/
import Derived.Test.YtoeioacgpildpaaDoorPlain
set_option linter.unusedVariables false
set_option linter.unusedSimpArgs false
namespace Go.Proofs.YtoeioacgpildpaaDoor
open Go.Proofs Go.Shelf Go.RowKit Go.Sort Go.Proofs.YtoeioacgpildpaaDoorW.PrintWords Go.Proofs.YtoeioacgpildpaaDoorW.PrintLast Go.Proofs.YtoeioacgpildpaaDoorW.PrintMore
open Go.Proofs.YtoeioacgpildpaaDoor.P (S27 k27 z27 rd_T27 at_T27 info27 k27_mkM k27_openM)

section
variable {w : World} {A : Option Addr} {c : Nat} {l : List S27}
theorem below_of_drawn {w w' : World} (h : Drawn0 w w') : Below w.heap.size w w' := by
  obtain ⟨m, rfl⟩ := drawn0_ex h
  exact pw_below_drewN (Below.refl _ _) m
theorem check_q (hC : Kd.C k27 w A l.length l) (hc : l.length ≤ c) (hl : l.length < 2305843009213693952) :
    Calls Tryd.prog 12 #[.slice A l.length c] w fun e w' => e = .returned (.bool (checkL l)) ∧ Below w.heap.size w w' := P.audit_Check.calls _ A c l _ w hC hc (check_f l (by omega))
theorem rcheck_q (hC : Kd.C k27 w A l.length l) (hc : l.length ≤ c) (hl : l.length < 2305843009213693952) :
    Calls Tryd.prog 13 #[.slice A l.length c] w fun e w' => e = .returned (.bool (checkL l)) ∧ Below w.heap.size w w' := (P.congressref20_Check.calls _ A c l _ w hC hc (rcheck_f l (by omega))).mono fun e w' ⟨he, hd⟩ => ⟨he, below_of_drawn hd⟩
theorem failed_q (hC : Kd.C k27 w A l.length l) (hc : l.length ≤ c) (hl : l.length < 2305843009213693952) :
    Calls Tryd.prog 14 #[.slice A l.length c] w fun e w' => e = .returned (.int .i64 (cntF l : Nat)) ∧ Below w.heap.size w w' := P.audit_Failed.calls _ A c l _ w hC hc (failed_f l hl)
theorem same_q {A2 : Option Addr} {c2 : Nat} (hC : Kd.C k27 w A l.length l) (hc : l.length ≤ c) (hC2 : Kd.C k27 w A2 l.length l) (hc2 : l.length ≤ c2) (hl : l.length < 2305843009213693952) :
    Calls Tryd.prog 11 #[.slice A l.length c, .slice A2 l.length c2] w fun e w' => e = .returned (.bool true) ∧ Below w.heap.size w w' := (P.congressref20_Same.calls _ A c l A2 c2 l _ w hC hc hC2 hc2 (same_f l (by omega))).mono fun e w' ⟨he, hd⟩ => ⟨he, below_of_drawn hd⟩
end
def fr1 : S27 := ⟨1, 7, ⟨#[111, 112, 101, 110]⟩, 0⟩
def fr2 : S27 := ⟨2, 7, ⟨#[97, 34, 98]⟩, 1⟩
theorem fadd1 : addL [] 7 ⟨#[111, 112, 101, 110]⟩ 0 = [fr1] := rfl
theorem fadd2 : addL [fr1] 3 ⟨#[97, 34, 98]⟩ 1 = [fr1, fr2] := rfl
theorem ffit1 : FitsR fr1 := by unfold FitsR fr1; refine ⟨?_, ?_, ?_, ?_, ?_, ?_, ?_⟩ <;> decide
theorem ffit2 : FitsR fr2 := by unfold FitsR fr2; refine ⟨?_, ?_, ?_, ?_, ?_, ?_, ?_⟩ <;> decide
theorem fline1 : (⟨(lineR fr1).toArray⟩ : ByteArray) = ⟨#[49, 32, 55, 32, 48, 32, 34, 111, 112, 101, 110, 34, 10]⟩ := by kernel_rfl
theorem ftext2 : (⟨(textR [fr1, fr2]).toArray⟩ : ByteArray) = ⟨#[49, 32, 55, 32, 48, 32, 34, 111, 112, 101, 110, 34, 10, 50, 32, 55, 32, 49, 32, 34, 97, 37, 50, 50, 98, 34, 10]⟩ := by kernel_rfl
theorem fcheck : checkL [fr1, fr2] = true := by decide
theorem fcnt2 : cntF [fr1, fr2] = 1 := by decide
theorem fcnt1 : cntF [fr1] = 0 := by decide
set_option maxHeartbeats 6400000 in
set_option maxRecDepth 100000 in
theorem fixed_q (w : World) (htab : Tens w) : Calls Tryd.prog 10 #[] w fun e w' => e = .returned (.bool true) ∧ Below w.heap.size w w' := by
  go_enter Tryd.func10, Tryd.ntmps10
  go_wp2_with fail
  refine (add_q none 0 0 [] 7 ⟨#[111, 112, 101, 110]⟩ 0 w (Kd.C_nil k27 w) (by decide) (by decide) (by decide)).mono ?_
  rintro e w1 ⟨v1, rfl, hr, hb⟩
  rw [fadd1] at hr
  obtain ⟨A1, c1, rfl⟩ := Kd.R_slice hr
  obtain ⟨_, hc1, hC1⟩ := Kd.R_reads' hr
  have C1 := Aside0.mk hC1
  have CL1 := Aside0.mk hc1
  have L1 := Aside0.mk hb
  clear hr hb hc1 hC1
  go_wp2_with fail
  refine (add_q A1 1 c1 [fr1] 3 ⟨#[97, 34, 98]⟩ 1 w1 C1.out (by decide) (by decide) (by decide)).mono ?_
  rintro e w2 ⟨v2, rfl, hr, hb⟩
  rw [fadd2] at hr
  obtain ⟨A2, c2, rfl⟩ := Kd.R_slice hr
  obtain ⟨_, hc2, hC2⟩ := Kd.R_reads' hr
  have C2 := Aside0.mk hC2
  have CL2 := Aside0.mk hc2
  have D1 := Aside0.mk (Kd.C_below C1.out hb)
  have L2 := Aside0.mk (below_then L1.out L1.out.size hb)
  clear hr hb hc2 hC2 C1 L1
  obtain ⟨ad, hA, y0, y1, y2, y3⟩ := rd_at27 D1.out 0 (by decide)
  subst hA
  rw [show ad.add (0 * 4) = ad from rfl] at y0 y1 y2 y3
  change _ = some (Value.int .u64 1) at y0
  change _ = some (Value.int .u32 7) at y1
  change _ = some (Value.string ⟨#[111, 112, 101, 110]⟩) at y2
  change _ = some (Value.int .i64 0) at y3
  go_wp2_with fail
  have hline := line_r fr1 ffit1 htab L2.out
  rw [fline1] at hline
  refine hline.mono ?_
  clear hline
  rintro e w3 ⟨rfl, hb⟩
  have C3 := Aside0.mk (Kd.C_below C2.out hb)
  have D3 := Aside0.mk (Kd.C_below D1.out hb)
  have L3 := Aside0.mk (below_then L2.out L2.out.size hb)
  clear hb y0 y1 y2 y3 C2 D1 L2
  go_wp2_with fail
  have htext := text_q A2 2 c2 [fr1, fr2] w3 C3.out (by decide) (by intro x hx; rcases List.mem_cons.1 hx with rfl | hx; exact ffit1; rcases List.mem_cons.1 hx with rfl | hx; exact ffit2; exact absurd hx List.not_mem_nil) (by rw [← size_arr, ftext2]; decide) (htab.below L3.out)
  rw [ftext2] at htext
  refine htext.mono ?_
  clear htext
  rintro e w4 ⟨rfl, hb⟩
  have C4 := Aside0.mk (Kd.C_below C3.out hb)
  have D4 := Aside0.mk (Kd.C_below D3.out hb)
  have L4 := Aside0.mk (below_then L3.out L3.out.size hb)
  clear hb C3 D3 L3
  go_wp2_with fail
  have hck := check_q (l := [fr1, fr2]) (c := c2) C4.out CL2.out (by decide)
  rw [fcheck] at hck
  refine hck.mono ?_
  clear hck
  rintro e w5 ⟨rfl, hb⟩
  have C5 := Aside0.mk (Kd.C_below C4.out hb)
  have D5 := Aside0.mk (Kd.C_below D4.out hb)
  have L5 := Aside0.mk (below_then L4.out L4.out.size hb)
  clear hb C4 D4 L4
  go_wp2_with fail
  have hf := failed_q (l := [fr1, fr2]) (c := c2) C5.out CL2.out (by decide)
  rw [fcnt2] at hf
  refine hf.mono ?_
  clear hf
  rintro e w6 ⟨rfl, hb⟩
  have D6 := Aside0.mk (Kd.C_below D5.out hb)
  have L6 := Aside0.mk (below_then L5.out L5.out.size hb)
  clear hb C5 D5 L5
  go_wp2_with fail
  have hf := failed_q (l := [fr1]) (c := c1) D6.out CL1.out (by decide)
  rw [fcnt1] at hf
  refine hf.mono ?_
  clear hf
  rintro e w7 ⟨rfl, hb⟩
  have L7 := Aside0.mk (below_then L6.out L6.out.size hb)
  clear hb D6 L6
  go_wp2
  first | go_ret | go_ret2
  exact ⟨rfl, L7.out⟩
end Go.Proofs.YtoeioacgpildpaaDoor
