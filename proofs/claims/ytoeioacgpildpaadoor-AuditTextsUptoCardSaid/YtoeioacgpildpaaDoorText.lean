/- The text of records: what the program writes, for every list whose text is not too long. -/
import Derived.Test.YtoeioacgpildpaaDoorLine
set_option linter.unusedVariables false
set_option linter.unusedSimpArgs false
namespace Go.Proofs.YtoeioacgpildpaaDoor
open Go.Proofs Go.Shelf Go.RowKit Go.Sort Go.Proofs.YtoeioacgpildpaaDoorW.PrintWords Go.Proofs.YtoeioacgpildpaaDoorW.PrintLast Go.Proofs.YtoeioacgpildpaaDoorW.PrintMore
open Go.Proofs.YtoeioacgpildpaaDoor.P (S27 k27 z27 rd_T27 at_T27)

/-- A record whose numbers fit their kinds, and whose call is not too long. -/
def FitsR (x : S27) : Prop := 0 ≤ x.f0 ∧ x.f0 < 18446744073709551616 ∧ 0 ≤ x.f1 ∧ x.f1 < 4294967296 ∧ -9223372036854775808 ≤ x.f3 ∧ x.f3 ≤ 9223372036854775807 ∧ x.f2.size ≤ 35184372088832
def lineR (x : S27) : List UInt8 := lineB x.f0.toNat x.f1.toNat x.f3 x.f2.data.toList
def textR (l : List S27) : List UInt8 := l.flatMap lineR
theorem line_r (x : S27) (h : FitsR x) {w0 w : World} (ht : Tens w0) (hb : Below w0.heap.size w0 w) :
    Calls Tryd.prog 21 #[.agg #[.int .u64 x.f0, .int .u32 x.f1, .string x.f2, .int .i64 x.f3]] w fun e w' => e = .returned (.string ⟨(lineR x).toArray⟩) ∧ Below w.heap.size w w' := by
  obtain ⟨h0, h1, h2, h3, h4, h5, h6⟩ := h
  have := line_q x.f0.toNat x.f1.toNat x.f3 x.f2 (by omega) (by omega) h4 h5 h6 w (ht.below hb)
  rw [show ((x.f0.toNat : Nat) : Int) = x.f0 from by omega, show ((x.f1.toNat : Nat) : Int) = x.f1 from by omega] at this
  exact this
theorem rd_at27 {w : World} {A : Option Addr} {n : Nat} {xs : List S27} (h : Kd.C k27 w A n xs) (i : Nat) (hi : i < n) : ∃ ad, A = some ad ∧ w.cell? (ad.add (i * 4)) = some (.int .u64 (xs.getD i z27).f0) ∧ w.cell? ⟨(ad.add (i * 4)).block, (ad.add (i * 4)).off + 1, none⟩ = some (.int .u32 (xs.getD i z27).f1) ∧ w.cell? ⟨(ad.add (i * 4)).block, (ad.add (i * 4)).off + 2, none⟩ = some (.string (xs.getD i z27).f2) ∧
    w.cell? ⟨(ad.add (i * 4)).block, (ad.add (i * 4)).off + 3, none⟩ = some (.int .i64 (xs.getD i z27).f3) := by
  have := at_T27 h (i : Int) (by omega) (by omega)
  unfold rd_T27 at this
  rwa [Int.toNat_natCast] at this
theorem textR_take {l : List S27} {i : Nat} (h : i < l.length) : textR (l.take (i + 1)) = textR (l.take i) ++ lineR (l.getD i z27) := by
  have h2 : l.take (i + 1) = l.take i ++ [l.getD i z27] := by
    rw [List.take_add_one, List.getD_eq_getElem?_getD, List.getElem?_eq_getElem h]; rfl
  rw [h2]
  unfold textR
  rw [List.flatMap_append]
  simp
theorem textR_le (l : List S27) (i : Nat) : (textR (l.take i)).length ≤ (textR l).length := by
  have h : textR l = textR (l.take i) ++ textR (l.drop i) := by
    unfold textR
    rw [← List.flatMap_append, List.take_append_drop]
  rw [h, List.length_append]
  omega
set_option maxHeartbeats 12800000 in
set_option maxRecDepth 100000 in
theorem text_q (A : Option Addr) (n c : Nat) (l : List S27) (w : World) (hC : Kd.C k27 w A n l) (hn : n ≤ maxLen) (hf : ∀ x ∈ l, FitsR x) (hlen : (textR l).length ≤ 140737488355328) (htab : Tens w) :
    Calls Tryd.prog 16 #[.slice A n c] w fun e w' => e = .returned (.string ⟨(textR l).toArray⟩) ∧ Below w.heap.size w w' := by
  have hn2 : n ≤ 9223372036854775807 := hn
  have hl := Kd.C_len hC
  have HC := Aside0.mk hC
  have HF := Aside0.mk hf
  have HLEN := Aside0.mk hlen
  have HT := Aside0.mk htab
  have HL := Aside0.mk hl
  have DB := Aside0.mk (fresh_builder w)
  have DL := Aside0.mk (below_alloc (Below.refl w.heap.size w) (.cells #[.pointer none, .slice none 0 0] 45))
  have DS := Aside0.mk (show w.heap.size + 1 ≤ (w.alloc (.cells #[.pointer none, .slice none 0 0] 45)).heap.size from by rw [World.size_alloc]; omega)
  clear hC hf hlen htab hn hl
  go_enter Tryd.func16, Tryd.ntmps16
  go_wp2
  generalize w.alloc (.cells #[.pointer none, .slice none 0 0] 45) = w2 at *
  go_loopw [8] (fun iv wr => ∃ i : Nat, i ≤ n ∧ iv = .int .i64 i ∧ Aside0 (Lib.IsBuilderF 45 5 w.heap.size w.heap.size (Lib.byteCells (textR (l.take i))) wr) ∧ Aside0 (Below w.heap.size w wr) ∧ Aside0 (w.heap.size + 1 ≤ wr.heap.size)) (fun iv _ => n - (intOf iv).toNat)
  case atStart => exact ⟨0, Nat.zero_le _, rfl, DB, DL, DS⟩
  case round =>
    clear DB DL DS
    obtain ⟨i, hin, rfl, HB, HL1, HZ⟩ := hrel
    by_cases hlt : i < n
    · obtain ⟨x, hx⟩ : ∃ x, l.getD i z27 = x := ⟨_, rfl⟩
      obtain ⟨ad, hA, y0, y1, y2, y3⟩ := rd_at27 (Kd.C_below HC.out HL1.out) i hlt
      subst hA
      have HTX := Aside0.mk (textR_take (l := l) (i := i) (by rw [HL.out]; exact hlt))
      have HFX := Aside0.mk (HF.out _ (show l.getD i z27 ∈ l from by
        rw [List.getD_eq_getElem?_getD, List.getElem?_eq_getElem (by rw [HL.out]; exact hlt)]
        exact List.getElem_mem _))
      rw [hx] at y0 y1 y2 y3 HTX HFX
      clear hx
      have B1 := Aside0.mk (Lib.IsBuilderF.alloc HB.out (.cells #[.int .u64 x.f0, .int .u32 x.f1, .string x.f2, .int .i64 x.f3] 27))
      have L1 := Aside0.mk (below_alloc HL1.out (.cells #[.int .u64 x.f0, .int .u32 x.f1, .string x.f2, .int .i64 x.f3] 27))
      have Z1 := Aside0.mk (show w.heap.size + 1 ≤ (wr.alloc (.cells #[.int .u64 x.f0, .int .u32 x.f1, .string x.f2, .int .i64 x.f3] 27)).heap.size from by have := HZ.out; rw [World.size_alloc]; omega)
      go_wp2_with fail
      refine (line_r x HFX.out HT.out L1.out).mono ?_
      rintro e w3 ⟨rfl, hb⟩
      have B3 := Aside0.mk (IsBuilderF_below B1.out hb)
      have L3 := Aside0.mk (below_then L1.out L1.out.size hb)
      have Z3 := Aside0.mk (Nat.le_trans Z1.out hb.size)
      clear hb B1 L1 Z1 HB HL1 HZ
      go_wp2_with fail
      refine (writeString_k w.heap.size w.heap.size _ ⟨(lineR x).toArray⟩ w3 B3.out (by
        rw [Lib.byteCells_length, size_arr, ← List.length_append, ← HTX.out]
        exact Nat.le_trans (textR_le l (i + 1)) HLEN.out) L3.out.size).mono ?_
      rintro e w4 ⟨rfl, hW, hB4, hO4⟩
      have B4 := Aside0.mk (show Lib.IsBuilderF 45 5 w.heap.size w.heap.size (Lib.byteCells (textR (l.take (i + 1)))) w4 from by
        rw [HTX.out, Lib.byteCells_append]
        exact .inr hW)
      have L4 := Aside0.mk (below_ge L3.out hB4)
      have Z4 := Aside0.mk (Nat.le_trans Z3.out hB4.size)
      clear hW hB4 hO4 B3 L3 Z3 y0 y1 y2 y3
      go_wp2
      go_roundw
      case rel => exact ⟨i + 1, by omega, by go_num, B4, L4, Z4⟩
      case measure => simp [intOf]; omega
    · have hie : i = n := by omega
      have BL := Aside0.mk (show Lib.IsBuilderF 45 5 w.heap.size w.heap.size (Lib.byteCells (textR l)) wr from by
        have := HB.out
        rw [List.take_of_length_le (by rw [HL.out]; exact Nat.le_of_eq hie.symm)] at this
        exact this)
      go_wp2_with fail
      refine (Tryd.Builder_String_any_k w.heap.size w.heap.size (textR l) wr BL.out HL1.out.size).mono ?_
      rintro e w8 ⟨rfl, hW, hB8, hO8⟩
      have L8 := Aside0.mk (below_ge HL1.out hB8)
      clear hW hB8 hO8 HB HL1
      go_wp2
      go_ret
      exact ⟨rfl, L8.out⟩
end Go.Proofs.YtoeioacgpildpaaDoor
