/- The document's Parse: what record a line says, for every text. -/
import Derived.Test.YtoeioacgpildpaaDoorParse
import Derived.Test.YtoeioacgpildpaaDoorP7
set_option linter.unusedVariables false
set_option linter.unusedSimpArgs false
namespace Go.Proofs.YtoeioacgpildpaaDoor
open Go.Proofs Go.Shelf Go.RowKit Go.Proofs.YtoeioacgpildpaaDoorW.PrintWords Go.Proofs.YtoeioacgpildpaaDoorW.PrintLast Go.Proofs.YtoeioacgpildpaaDoorW.PrintMore
open Go.Proofs.YtoeioacgpildpaaDoor.P (S27 k27 z27)
/-- A text is the line of a record; or it is the line of none. -/
def IsParse (s : List UInt8) : Option S27 → Prop
  | some r => FitsR r ∧ lineR r = s
  | none => ∀ r, FitsR r → lineR r ≠ s
theorem isParse_ex (s : List UInt8) : ∃ o, IsParse s o := by
  by_cases h : ∃ r, FitsR r ∧ lineR r = s
  · obtain ⟨r, hr⟩ := h
    exact ⟨some r, hr⟩
  · exact ⟨none, fun r hf hl => h ⟨r, hf, hl⟩⟩
theorem lineB_eq (n t : Nat) (k : Int) (c : List UInt8) : lineB n t k c = Lib.decDigits n ++ 32 :: (Lib.decDigits t ++ 32 :: (Lib.itoa k ++ 32 :: 34 :: (quoted c ++ [34, 10]))) := by
  unfold lineB headB
  simp
theorem itoa_noblank (k : Int) : (32 : UInt8) ∉ Lib.itoa k := by
  unfold Lib.itoa
  split
  · intro h
    rcases List.mem_cons.1 h with h | h
    · revert h; decide
    · exact dec_noblank _ h
  · exact dec_noblank _
theorem line_cuts (n t : Nat) (k : Int) (c : List UInt8) : cut1 32 (lineB n t k c) = (Lib.decDigits n, Lib.decDigits t ++ 32 :: (Lib.itoa k ++ 32 :: 34 :: (quoted c ++ [34, 10])), true) ∧
    cut1 32 (Lib.decDigits t ++ 32 :: (Lib.itoa k ++ 32 :: 34 :: (quoted c ++ [34, 10]))) = (Lib.decDigits t, Lib.itoa k ++ 32 :: 34 :: (quoted c ++ [34, 10]), true) ∧
    cut1 32 (Lib.itoa k ++ 32 :: 34 :: (quoted c ++ [34, 10])) = (Lib.itoa k, 34 :: (quoted c ++ [34, 10]), true) :=
  ⟨by rw [lineB_eq]; exact cut1_at (dec_noblank _), cut1_at (dec_noblank _), cut1_at (itoa_noblank _)⟩
theorem lineB_inj {n t n2 t2 : Nat} {k k2 : Int} {c c2 : List UInt8} (hn : n < 18446744073709551616) (ht : t < 4294967296) (hk0 : -9223372036854775808 ≤ k) (hk1 : k ≤ 9223372036854775807) (hn2 : n2 < 18446744073709551616) (ht2 : t2 < 4294967296) (hk20 : -9223372036854775808 ≤ k2) (hk21 : k2 ≤ 9223372036854775807)
    (h : lineB n t k c = lineB n2 t2 k2 c2) : n = n2 ∧ t = t2 ∧ k = k2 ∧ c = c2 := by
  obtain ⟨a1, a2, a3⟩ := line_cuts n t k c
  obtain ⟨b1, b2, b3⟩ := line_cuts n2 t2 k2 c2
  rw [h, b1] at a1
  injection a1 with e1 e2
  injection e2 with e2 _
  rw [← e2, b2] at a2
  injection a2 with f1 f2
  injection f2 with f2 _
  rw [← f2, b3] at a3
  injection a3 with g1 g2
  injection g2 with g2 _
  injection g2 with _ g2
  have q := List.append_cancel_right g2
  refine ⟨?_, ?_, ?_, ?_⟩
  · have := puL_dec n hn
    rw [← e1, puL_dec n2 hn2] at this
    exact (Option.some.inj this).symm
  · have := pu32_dec t ht
    rw [← f1, pu32_dec t2 ht2] at this
    exact (Option.some.inj this).symm
  · have := pi64_itoa k hk0 hk1
    rw [← g1, pi64_itoa k2 hk20 hk21] at this
    exact (Option.some.inj this).symm
  · have := uq_quoted c
    rw [← q, uq_quoted c2] at this
    exact (Option.some.inj this).symm
theorem lineR_inj {r r2 : S27} (h1 : FitsR r) (h2 : FitsR r2) (h : lineR r = lineR r2) : r = r2 := by
  obtain ⟨f0, f1, f2, f3⟩ := r
  obtain ⟨g0, g1, g2, g3⟩ := r2
  obtain ⟨a0, a1, a2, a3, a4, a5, a6⟩ := h1
  obtain ⟨b0, b1, b2, b3, b4, b5, b6⟩ := h2
  simp only at *
  unfold lineR at h
  simp only at h
  obtain ⟨e1, e2, e3, e4⟩ := lineB_inj (by omega) (by omega) a4 a5 (by omega) (by omega) b4 b5 h
  have e0 : f0 = g0 := by omega
  have e5 : f1 = g1 := by omega
  have e6 : f2 = g2 := ByteArray.ext (Array.ext' e4)
  rw [e0, e5, e3, e6]
theorem isParse_uni {s : List UInt8} {o o2 : Option S27} (h : IsParse s o) (h2 : IsParse s o2) : o = o2 := by
  cases o with
  | none =>
    cases o2 with
    | none => rfl
    | some r => exact absurd h2.2 (h r h2.1)
  | some r =>
    cases o2 with
    | none => exact absurd h.2 (h2 r h.1)
    | some r2 => rw [lineR_inj h.1 h2.1 (h.2.trans h2.2.symm)]
theorem pi64_range {l : List UInt8} {k : Int} (h : pi64 l = some k) : -9223372036854775808 ≤ k ∧ k ≤ 9223372036854775807 := by
  have p63 : (2 : Nat) ^ (64 - 1) = 9223372036854775808 := by decide
  unfold pi64 Lib.parseIntB at h
  rw [p63] at h
  cases l with
  | nil => simp at h
  | cons c r =>
    simp only at h
    split at h
    · rename_i n hn
      split at hn
      · cases hn
      · cases hn
      · rename_i u hu
        split at hn
        · cases hn
        · split at hn
          · cases hn
          · injection hn with hn
            injection h with h
            rename_i q1 q2
            rw [← h, ← hn]
            split
            · rename_i hneg
              have : ¬ 9223372036854775808 < u := fun x => q2 ⟨hneg, x⟩
              omega
            · rename_i hneg
              have : ¬ 9223372036854775808 ≤ u := fun x => q1 ⟨hneg, x⟩
              omega
    · cases h
def recV (r : S27) : Value := .agg #[.int .u64 r.f0, .int .u32 r.f1, .string r.f2, .int .i64 r.f3]
theorem call_q (l : List UInt8) (hl : l.length ≤ 140737488355327) (w : World) :
    Calls Tryd.prog 30 #[.string ⟨l.toArray⟩] w fun e w' => e = .returned (.tuple #[.string (match uq l with | some t => ⟨t.toArray⟩ | none => ⟨#[]⟩), .bool (uq l).isSome]) ∧ Below w.heap.size w w' := by
  obtain ⟨K, h⟩ := (audit_call_ev l hl).rounds
  cases hu : uq l with
  | none => rw [hu] at h; exact P.audit_call.calls K _ _ _ w h
  | some t => rw [hu] at h; exact P.audit_call.calls K _ _ _ w h
theorem pre_c (l : List UInt8) (w : World) : Calls Tryd.prog 28 #[.string ⟨l.toArray⟩, .string ⟨#[34]⟩] w fun e w' => e = .returned (.tuple #[.string ⟨(Lib.trimPrefix l [34]).toArray⟩, .bool (Lib.hasPrefix l [34])]) ∧ w' = w := Tryd.strings_CutPrefix ⟨l.toArray⟩ ⟨#[34]⟩ w
theorem suf_c (l : List UInt8) (hl : l.length ≤ 1000000000) (w : World) : Calls Tryd.prog 29 #[.string ⟨l.toArray⟩, .string ⟨#[34, 10]⟩] w fun e w' => e = .returned (.tuple #[.string ⟨(Lib.trimSuffix l [34, 10]).toArray⟩, .bool (Lib.hasSuffix l [34, 10])]) ∧ w' = w := Tryd.strings_CutSuffix ⟨l.toArray⟩ ⟨#[34, 10]⟩ w (by rw [size_arr]; omega)
theorem trimP_len (l : List UInt8) : (Lib.trimPrefix l [34]).length ≤ l.length := by
  unfold Lib.trimPrefix
  split
  · rw [List.length_drop]; omega
  · exact Nat.le_refl _
theorem trimS_len (l : List UInt8) : (Lib.trimSuffix l [34, 10]).length ≤ l.length := by
  unfold Lib.trimSuffix
  split
  · rw [List.length_take]; omega
  · exact Nat.le_refl _
set_option maxRecDepth 100000 in
set_option maxHeartbeats 1000000 in
/-- The program's Parse. -/
theorem parse_q (s : ByteArray) (hs : s.size ≤ 1000000000) (o : Option S27) (ho : IsParse s.data.toList o) (w : World) (ht : Tens w) (he : Errs w) :
    Calls Tryd.prog 17 #[.string s] w fun e w' => e = .returned (.tuple #[recV (o.getD z27), .bool o.isSome]) ∧ Below w.heap.size w w' := by
  have hsl : s.data.toList.length = s.size := Array.length_toList
  cases o with
  | some r =>
    obtain ⟨hf, hl⟩ := ho
    obtain ⟨h0, h1, h2, h3, h4, h5, h6⟩ := hf
    obtain ⟨c1, c2, c3⟩ := line_cuts r.f0.toNat r.f1.toNat r.f3 r.f2.data.toList
    have hl2 : lineB r.f0.toNat r.f1.toNat r.f3 r.f2.data.toList = s.data.toList := hl
    rw [hl2] at c1
    have lq : (quoted r.f2.data.toList).length + 3 ≤ s.size := by
      rw [← hsl, ← hl2, lineB_eq]
      simp only [List.length_append, List.length_cons, List.length_nil]
      omega
    have FX := fun (w1 : World) (h : Errs w1) => fields_D s _ _ _ _ _ _ _ _ _ c1 c2 c3 hs r.f0.toNat (puL_dec _ (by omega)) r.f1.toNat (pu32_dec _ (by omega)) r.f3 (pi64_itoa _ h4 h5) w1 h
    have PX := fun w1 => pre_c (34 :: (quoted r.f2.data.toList ++ [34, 10])) w1
    have e1 : Lib.hasPrefix (34 :: (quoted r.f2.data.toList ++ [34, 10])) [34] = true := by unfold Lib.hasPrefix; simp
    have e2 : Lib.trimPrefix (34 :: (quoted r.f2.data.toList ++ [34, 10])) [34] = quoted r.f2.data.toList ++ [34, 10] := by unfold Lib.trimPrefix; rw [if_pos e1]; rfl
    rw [e1, e2] at PX
    have SX := fun w1 => suf_c (quoted r.f2.data.toList ++ [34, 10]) (by rw [List.length_append]; simp only [List.length_cons, List.length_nil]; omega) w1
    have e3 : Lib.hasSuffix (quoted r.f2.data.toList ++ [34, 10]) [34, 10] = true := by unfold Lib.hasSuffix; rw [List.isSuffixOf_iff_suffix]; exact ⟨_, rfl⟩
    have e4 : Lib.trimSuffix (quoted r.f2.data.toList ++ [34, 10]) [34, 10] = quoted r.f2.data.toList := by unfold Lib.trimSuffix; rw [if_pos e3]; simp
    rw [e3, e4] at SX
    have CX : ∀ w1 : World, Calls Tryd.prog 30 #[.string ⟨(quoted r.f2.data.toList).toArray⟩] w1 fun e w' => e = .returned (.tuple #[.string r.f2, .bool true]) ∧ Below w1.heap.size w1 w' := fun w1 => by
      have := call_q (quoted r.f2.data.toList) (by omega) w1
      rw [uq_quoted] at this
      exact this
    generalize quoted r.f2.data.toList ++ [34, 10] = qa at *
    generalize quoted r.f2.data.toList = qb at *
    have LX : ∀ w1 : World, Tens w1 → Calls Tryd.prog 21 #[.agg #[.int .u64 (r.f0.toNat : Int), .int .u32 (r.f1.toNat : Int), .string r.f2, .int .i64 r.f3]] w1 fun e w' => e = .returned (.string s) ∧ Below w1.heap.size w1 w' := fun w1 h => by
      have := line_q r.f0.toNat r.f1.toNat r.f3 r.f2 (by omega) (by omega) h4 h5 h6 w1 h
      rw [hl2] at this
      exact this
    replace FX : ∀ w1 : World, Errs w1 → Calls Tryd.prog 27 #[.string s] w1 fun e w' => e = .returned (.tuple #[.agg #[.int .u64 (r.f0.toNat : Int), .int .u32 (r.f1.toNat : Int), .string ⟨#[]⟩, .int .i64 r.f3], .string ⟨(34 :: qa).toArray⟩, .bool true]) ∧ Below w1.heap.size w1 w' := FX
    replace PX : ∀ w1 : World, Calls Tryd.prog 28 #[.string ⟨(34 :: qa).toArray⟩, .string ⟨#[34]⟩] w1 fun e w' => e = .returned (.tuple #[.string ⟨qa.toArray⟩, .bool true]) ∧ w' = w1 := PX
    replace SX : ∀ w1 : World, Calls Tryd.prog 29 #[.string ⟨qa.toArray⟩, .string ⟨#[34, 10]⟩] w1 fun e w' => e = .returned (.tuple #[.string ⟨qb.toArray⟩, .bool true]) ∧ w' = w1 := SX
    have := aparse_6 s ⟨(34 :: qa).toArray⟩ ⟨qa.toArray⟩ ⟨qb.toArray⟩ r.f2 r.f0.toNat r.f1.toNat r.f3 w ht he FX PX SX CX LX
    have g0 : ((r.f0.toNat : Nat) : Int) = r.f0 := by omega
    have g1 : ((r.f1.toNat : Nat) : Int) = r.f1 := by omega
    rw [g0, g1] at this
    exact this
  | none =>
    have hno : ∀ r, FitsR r → lineR r ≠ s.data.toList := ho
    show Calls Tryd.prog 17 #[.string s] w fun e w' => e = .returned (.tuple #[.agg #[.int .u64 0, .int .u32 0, .string ⟨#[]⟩, .int .i64 0], .bool false]) ∧ Below w.heap.size w w'
    rcases c1 : cut1 32 s.data.toList with ⟨a, r1, m1⟩
    rcases c2 : cut1 32 r1 with ⟨b, r2, m2⟩
    rcases c3 : cut1 32 r2 with ⟨c, r3, m3⟩
    have L1 := cut1_len 32 s.data.toList
    rw [c1] at L1
    have L2 := cut1_len 32 r1
    rw [c2] at L2
    have L3 := cut1_len 32 r2
    rw [c3] at L3
    simp only at L1 L2 L3
    have PX := fun w1 => pre_c r3 w1
    have lp := trimP_len r3
    have SX := fun w1 => suf_c (Lib.trimPrefix r3 [34]) (by omega) w1
    have ls := trimS_len (Lib.trimPrefix r3 [34])
    have CX := fun w1 => call_q (Lib.trimSuffix (Lib.trimPrefix r3 [34]) [34, 10]) (by omega) w1
    have no1 : (∀ w1 : World, Errs w1 → Calls Tryd.prog 27 #[.string s] w1 fun e w' => (∃ n t k, e = .returned (.tuple #[.agg #[.int .u64 n, .int .u32 t, .string ⟨#[]⟩, .int .i64 k], .string ⟨r3.toArray⟩, .bool false])) ∧ Below w1.heap.size w1 w') →
        Calls Tryd.prog 17 #[.string s] w fun e w' => e = .returned (.tuple #[.agg #[.int .u64 0, .int .u32 0, .string ⟨#[]⟩, .int .i64 0], .bool false]) ∧ Below w.heap.size w w' :=
      fun FX => aparse_1 s _ _ _ _ 0 0 0 _ _ _ w ht he FX PX SX CX
    cases hn : puL a with
    | none => exact no1 fun w1 h => fields_A s _ _ _ _ _ _ _ _ _ c1 c2 c3 hs hn w1 h
    | some n =>
      cases ht2 : pu32 b with
      | none => exact no1 fun w1 h => fields_B s _ _ _ _ _ _ _ _ _ c1 c2 c3 hs n hn ht2 w1 h
      | some t =>
        cases hk : pi64 c with
        | none => exact no1 fun w1 h => fields_C s _ _ _ _ _ _ _ _ _ c1 c2 c3 hs n hn t ht2 hk w1 h
        | some k =>
          have FX := fun (w1 : World) (h : Errs w1) => fields_D s _ _ _ _ _ _ _ _ _ c1 c2 c3 hs n hn t ht2 k hk w1 h
          cases hp : Lib.hasPrefix r3 [34] with
          | false =>
            rw [hp] at PX
            exact aparse_2 s _ _ _ _ n t k _ _ w ht he FX PX SX CX
          | true =>
            rw [hp] at PX
            cases hq : Lib.hasSuffix (Lib.trimPrefix r3 [34]) [34, 10] with
            | false =>
              rw [hq] at SX
              exact aparse_3 s _ _ _ _ n t k _ w ht he FX PX SX CX
            | true =>
              rw [hq] at SX
              cases hu : uq (Lib.trimSuffix (Lib.trimPrefix r3 [34]) [34, 10]) with
              | none =>
                rw [hu] at CX
                exact aparse_4 s _ _ _ _ n t k w ht he FX PX SX CX
              | some tx =>
                rw [hu] at CX
                have htl := uq_len _ _ hu
                have n64 := puL_lt hn
                have t32 := pu32_lt ht2
                have k64 := pi64_range hk
                have hz : (⟨tx.toArray⟩ : ByteArray).size = tx.length := size_arr _
                refine aparse_5 s _ _ _ ⟨tx.toArray⟩ ⟨(lineB n t k tx).toArray⟩ n t k w ht he FX PX SX CX (fun w1 h => line_q n t k ⟨tx.toArray⟩ n64 t32 k64.1 k64.2 (by rw [hz]; omega) w1 h) ?_
                intro e
                refine hno ⟨n, t, ⟨tx.toArray⟩, k⟩ ⟨by simp only; omega, by simp only; omega, by simp only; omega, by simp only; omega, k64.1, k64.2, by simp only; rw [hz]; omega⟩ ?_
                rw [← e]
                rfl
end Go.Proofs.YtoeioacgpildpaaDoor
namespace Go.Proofs.YtoeioacgpildpaaDoor
open Go.Proofs Go.Shelf Go.RowKit Go.Proofs.YtoeioacgpildpaaDoorW.PrintWords Go.Proofs.YtoeioacgpildpaaDoorW.PrintLast Go.Proofs.YtoeioacgpildpaaDoorW.PrintMore
open Go.Proofs.YtoeioacgpildpaaDoor.P (S27 k27 z27)
def wordT (l : List UInt8) : List UInt8 × List UInt8 × Bool := if (cut1 32 l).2.2 = true then cut1 32 l else ([], [], false)
theorem wordT_len (l : List UInt8) : (wordT l).1.length ≤ l.length ∧ (wordT l).2.1.length ≤ l.length := by
  unfold wordT
  split
  · exact cut1_len 32 l
  · simp
theorem wordT_ev (l : List UInt8) (hl : l.length ≤ 1000000000) : Ev (fun k => P.congressref20_word.f k (bsA l)) (bsA (wordT l).1, bsA (wordT l).2.1, (wordT l).2.2) := by
  have h := word_ev (bsA l) (by rw [bsA_size]; omega)
  rw [bsA_data] at h
  unfold wordT
  cases hc : (cut1 32 l).2.2 with
  | false =>
    rw [hc, if_neg (by decide)] at h
    rw [if_neg (by decide)]
    exact h
  | true =>
    rw [hc, if_pos rfl] at h
    rw [if_pos rfl, hc]
    exact h
theorem wordT_true {l a r : List UInt8} (h : wordT l = (a, r, true)) : cut1 32 l = (a, r, true) := by
  unfold wordT at h
  split at h
  · exact h
  · cases h
theorem j0_no (k : Nat) (s r : ByteArray) (n t c : Int) : P.congressref20_Parse.j0 (k + 1) s r n t c true = some (0, 0, (⟨#[]⟩ : ByteArray), 0, false) := by
  rw [P.congressref20_Parse.j0, if_pos rfl]
def parseR (o : Option S27) : Int × Int × ByteArray × Int × Bool := match o with | some r => (r.f0, r.f1, r.f2, r.f3, true) | none => (0, 0, ⟨#[]⟩, 0, false)
theorem cut1_true3 {l a r : List UInt8} (h : cut1 32 l = (a, r, true)) : l = a ++ 32 :: r := by
  have := (cut1_true (c := 32) (l := l) (by rw [h])).1
  rw [h] at this
  exact this
theorem dec_of_num {l : List UInt8} {n : Nat} (h : numL l = some n) : l = Lib.decDigits n := (numL_dec h).symm
theorem itoa_of_code {l : List UInt8} {k : Int} (h : codeL l = some k) : l = Lib.itoa k ∧ -9223372036854775808 ≤ k ∧ k ≤ 9223372036854775807 := by
  cases l with
  | nil => cases h
  | cons c r =>
    rw [codeL_cons] at h
    split at h
    · rename_i hc
      obtain ⟨n, hn, h⟩ := Option.bind_eq_some_iff.1 h
      split at h
      · rename_i hr
        injection h with h
        refine ⟨?_, by omega, by omega⟩
        unfold Lib.itoa
        rw [if_pos (by omega), ← h, hc, dec_of_num hn]
        congr 2
        omega
      · cases h
    · obtain ⟨n, hn, h⟩ := Option.bind_eq_some_iff.1 h
      split at h
      · injection h with h
        refine ⟨?_, by omega, by omega⟩
        unfold Lib.itoa
        rw [if_neg (by omega), dec_of_num hn]
        congr 1
        omega
      · cases h
set_option maxRecDepth 100000 in
set_option maxHeartbeats 1000000 in
/-- The document's Parse. -/
theorem rparse_ev (l : List UInt8) (hl : l.length ≤ 1000000000) (o : Option S27) (ho : IsParse l o) : Ev (fun k => P.congressref20_Parse.f k (bsA l)) (parseR o) := by
  rcases h1 : wordT l with ⟨a, r1, m1⟩
  rcases h2 : wordT r1 with ⟨b, r2, m2⟩
  rcases h3 : wordT r2 with ⟨c, r3, m3⟩
  have L1 := wordT_len l
  rw [h1] at L1
  have L2 := wordT_len r1
  rw [h2] at L2
  have L3 := wordT_len r2
  rw [h3] at L3
  simp only at L1 L2 L3
  have E1 := wordT_ev l hl
  rw [h1] at E1
  have E2 := wordT_ev r1 (by omega)
  rw [h2] at E2
  have E3 := wordT_ev r2 (by omega)
  rw [h3] at E3
  obtain ⟨x4, _, E4⟩ := number_ev a
  obtain ⟨x5, _, E5⟩ := number_ev b
  obtain ⟨x6, E6⟩ := code_ev c
  -- a record's line has all parts
  have parts : ∀ r, o = some r → wordT l = (Lib.decDigits r.f0.toNat, r1, true) ∧ wordT r1 = (Lib.decDigits r.f1.toNat, r2, true) ∧ wordT r2 = (Lib.itoa r.f3, r3, true) ∧ r3 = 34 :: (quoted r.f2.data.toList ++ [34, 10]) ∧ FitsR r := by
    intro r hr
    subst hr
    obtain ⟨hf, hlr⟩ := ho
    obtain ⟨c1, c2, c3⟩ := line_cuts r.f0.toNat r.f1.toNat r.f3 r.f2.data.toList
    have hl2 : lineB r.f0.toNat r.f1.toNat r.f3 r.f2.data.toList = l := hlr
    rw [hl2] at c1
    have w1 : wordT l = cut1 32 l := by unfold wordT; rw [c1]; rfl
    rw [w1, c1] at h1
    injection h1 with g1 h1
    injection h1 with g2 g3
    rw [g2] at c2
    have w2 : wordT r1 = cut1 32 r1 := by unfold wordT; rw [c2]; rfl
    rw [w2, c2] at h2
    injection h2 with g4 h2
    injection h2 with g5 g6
    rw [g5] at c3
    have w3 : wordT r2 = cut1 32 r2 := by unfold wordT; rw [c3]; rfl
    rw [w3, c3] at h3
    injection h3 with g7 h3
    injection h3 with g8 g9
    exact ⟨by rw [w1, c1, g2], by rw [w2, c2, g5], by rw [w3, c3, g8], g8.symm, hf⟩
  have parts2 : ∀ r, o = some r → a = Lib.decDigits r.f0.toNat ∧ b = Lib.decDigits r.f1.toNat ∧ c = Lib.itoa r.f3 ∧ m1 = true ∧ m2 = true ∧ m3 = true ∧ r3 = 34 :: (quoted r.f2.data.toList ++ [34, 10]) ∧ FitsR r := by
    intro r hr
    obtain ⟨p1, p2, p3, p4, p5⟩ := parts r hr
    rw [h1] at p1
    rw [h2] at p2
    rw [h3] at p3
    injection p1 with q1 p1
    injection p1 with _ q2
    injection p2 with q3 p2
    injection p2 with _ q4
    injection p3 with q5 p3
    injection p3 with _ q6
    exact ⟨q1, q3, q5, q2, q4, q6, p4, p5⟩
  have dead : (∀ r, o ≠ some r) → parseR o = (0, 0, (⟨#[]⟩ : ByteArray), 0, false) := fun h => by
    cases o with
    | none => rfl
    | some r => exact absurd rfl (h r)
  have jno : ∀ (s r : ByteArray) (n t c : Int), (∀ r, o ≠ some r) → Ev (fun k => P.congressref20_Parse.j0 k s r n t c true) (parseR o) := fun s r n t c h => by
    rw [dead h]
    exact Ev.step (f := fun _ => some (0, 0, (⟨#[]⟩ : ByteArray), 0, false)) (fun k => j0_no k s r n t c) (Ev.now _)
  unfold P.congressref20_Parse.f
  refine Ev.bind E1 (Ev.bind E2 (Ev.bind E3 ?_))
  cases hn : numL a with
  | none =>
    rw [hn] at E4
    have hd : ∀ r, o ≠ some r := fun r hr => by
      obtain ⟨p1, p2, p3, p4, p5, p6, p7, p8⟩ := parts2 r hr
      rw [p1, numL_of _ (by have := p8.1; have := p8.2.1; omega)] at hn
      cases hn
    refine Ev.bind E4 (Ev.bind E5 (Ev.bind E6 ?_))
    cases m1 with
    | false => exact ev_neg Bool.false_ne_true (jno _ _ _ _ _ hd)
    | true =>
      refine ev_pos rfl ?_
      cases m2 with
      | false => exact ev_neg Bool.false_ne_true (jno _ _ _ _ _ hd)
      | true =>
        refine ev_pos rfl ?_
        cases m3 with
        | false => exact ev_neg Bool.false_ne_true (jno _ _ _ _ _ hd)
        | true =>
          refine ev_pos rfl ?_
          exact ev_neg Bool.false_ne_true (jno _ _ _ _ _ hd)
  | some n =>
    rw [hn] at E4
    have n64 := numL_lt hn
    refine Ev.bind E4 ?_
    cases ht : numL b with
    | none =>
      rw [ht] at E5
      have hd : ∀ r, o ≠ some r := fun r hr => by
        obtain ⟨p1, p2, p3, p4, p5, p6, p7, p8⟩ := parts2 r hr
        rw [p2, numL_of _ (by have := p8.2.2.1; have := p8.2.2.2.1; omega)] at ht
        cases ht
      refine Ev.bind E5 (Ev.bind E6 ?_)
      cases m1 with
      | false => exact ev_neg Bool.false_ne_true (jno _ _ _ _ _ hd)
      | true =>
        refine ev_pos rfl ?_
        cases m2 with
        | false => exact ev_neg Bool.false_ne_true (jno _ _ _ _ _ hd)
        | true =>
          refine ev_pos rfl ?_
          cases m3 with
          | false => exact ev_neg Bool.false_ne_true (jno _ _ _ _ _ hd)
          | true =>
            refine ev_pos rfl (ev_pos rfl ?_)
            exact ev_neg Bool.false_ne_true (jno _ _ _ _ _ hd)
    | some t =>
      rw [ht] at E5
      refine Ev.bind E5 ?_
      cases hk : codeL c with
      | none =>
        rw [hk] at E6
        have hd : ∀ r, o ≠ some r := fun r hr => by
          obtain ⟨p1, p2, p3, p4, p5, p6, p7, p8⟩ := parts2 r hr
          rw [p3, codeL_itoa _ p8.2.2.2.2.1 p8.2.2.2.2.2.1] at hk
          cases hk
        refine Ev.bind E6 ?_
        cases m1 with
        | false => exact ev_neg Bool.false_ne_true (jno _ _ _ _ _ hd)
        | true =>
          refine ev_pos rfl ?_
          cases m2 with
          | false => exact ev_neg Bool.false_ne_true (jno _ _ _ _ _ hd)
          | true =>
            refine ev_pos rfl ?_
            cases m3 with
            | false => exact ev_neg Bool.false_ne_true (jno _ _ _ _ _ hd)
            | true =>
              refine ev_pos rfl (ev_pos rfl (ev_pos rfl ?_))
              exact ev_neg Bool.false_ne_true (jno _ _ _ _ _ hd)
      | some k =>
        rw [hk] at E6
        obtain ⟨hki, k0, k1⟩ := itoa_of_code hk
        refine Ev.bind E6 ?_
        cases m1 with
        | false => exact ev_neg Bool.false_ne_true (jno _ _ _ _ _ (fun r hr => by have := (parts2 r hr).2.2.2.1; cases this))
        | true =>
          refine ev_pos rfl ?_
          cases m2 with
          | false => exact ev_neg Bool.false_ne_true (jno _ _ _ _ _ (fun r hr => by have := (parts2 r hr).2.2.2.2.1; cases this))
          | true =>
            refine ev_pos rfl ?_
            cases m3 with
            | false => exact ev_neg Bool.false_ne_true (jno _ _ _ _ _ (fun r hr => by have := (parts2 r hr).2.2.2.2.2.1; cases this))
            | true =>
              refine ev_pos rfl (ev_pos rfl (ev_pos rfl (ev_pos rfl ?_)))
              by_cases htl : (t : Int) > 4294967295
              · refine ev_pos htl (jno _ _ _ _ _ (fun r hr => ?_))
                obtain ⟨p1, p2, p3, p4, p5, p6, p7, p8⟩ := parts2 r hr
                rw [p2, numL_of _ (by have := p8.2.2.1; have := p8.2.2.2.1; omega)] at ht
                injection ht with ht
                have := p8.2.2.2.1
                omega
              refine ev_neg htl ?_
              by_cases hlen : ((bsA r3).size : Int) < 3
              · refine ev_pos hlen (jno _ _ _ _ _ (fun r hr => ?_))
                have p7 := (parts2 r hr).2.2.2.2.2.2.1
                rw [bsA_size, p7] at hlen
                simp only [List.length_cons, List.length_append, List.length_nil] at hlen
                omega
              refine ev_neg hlen (ev_pos (by show (0 : Int) < ((bsA r3).size : Int); omega) ?_)
              rw [bsA_size] at hlen
              have hb := bt_nat (bsA r3) 0 (by rw [bsA_size]; omega)
              rw [bsA_data] at hb
              have w1 : wrap64 (((bsA r3).size : Int) - 2) = ((r3.length - 2 : Nat) : Int) := by rw [bsA_size]; unfold wrap64; omega
              by_cases h34 : bt (bsA r3) 0 = 34
              case neg =>
                refine ev_neg h34 (jno _ _ _ _ _ (fun r hr => ?_))
                have p7 := (parts2 r hr).2.2.2.2.2.2.1
                apply h34
                have hb' : bt (bsA r3) 0 = ((r3.getD 0 0).toNat : Int) := hb
                rw [hb', p7]
                rfl
              refine ev_pos h34 ?_
              simp only [w1]
              refine ev_pos (by omega) (ev_pos (by rw [bsA_size]; omega) ?_)
              rw [Int.toNat_natCast, extract_bs, bsA_toList, bsA_data, bsA_size, List.take_of_length_le (by rw [List.length_drop]; omega)]
              by_cases hsuf : r3.drop (r3.length - 2) = [34, 10]
              case neg =>
                have e1 : (r3.drop (r3.length - 2) != [34, 10]) = true := bne_iff_ne.2 hsuf
                rw [e1]
                refine jno _ _ _ _ _ (fun r hr => ?_)
                have p7 := (parts2 r hr).2.2.2.2.2.2.1
                apply hsuf
                rw [p7]
                have e2 : (34 :: (quoted r.f2.data.toList ++ [34, 10])).length - 2 = (34 :: quoted r.f2.data.toList).length := by simp
                rw [e2, ← List.cons_append, List.drop_left]
              have e1 : (r3.drop (r3.length - 2) != [34, 10]) = false := bne_eq_false_iff_eq.2 hsuf
              rw [e1]
              -- the rest is a quoted text
              obtain ⟨q, hq⟩ : ∃ q, r3 = 34 :: (q ++ [34, 10]) := by
                have hx : r3 = r3.take (r3.length - 2) ++ [34, 10] := by rw [← hsuf, List.take_append_drop]
                cases r3 with
                | nil => simp at hlen
                | cons x y =>
                  have hx0 : x = 34 := by
                    have hb' : bt (bsA (x :: y)) 0 = (x.toNat : Int) := hb
                    rw [hb'] at h34
                    exact UInt8.toNat_inj.1 (by show x.toNat = 34; omega)
                  rw [List.length_cons] at hx hlen
                  have e3 : y.length + 1 - 2 = (y.length - 2) + 1 := by omega
                  rw [e3, List.take_succ_cons, List.cons_append] at hx
                  exact ⟨y.take (y.length - 2), by rw [hx0] at hx ⊢; exact hx⟩
              have hx1 : (bsA r3).extract 1 (r3.length - 2) = bsA q := by
                rw [extract_bs, bsA_data, hq]
                have e4 : (34 :: (q ++ [34, 10])).length - 2 - 1 = q.length := by simp
                rw [e4, List.drop_succ_cons, List.drop_zero, List.take_left]
              have hql : q.length + 3 = r3.length := by rw [hq]; simp
              have EC := congressref20_call_ev q (by omega)
              have step : ∀ j, P.congressref20_Parse.j0 (j + 1) (bsA l) (bsA r3) n t k false = (P.congressref20_call.f j (bsA q)).bind fun bt220 => (if bt220.2 = true then ((P.congressref20_Line.f j n ((t : Int) % 4294967296) bt220.1 k).bind fun t223 => (if t223.toList = (bsA l).toList then (some ((n : Int), (t : Int) % 4294967296, bt220.1, k, true)) else (some (0, 0, (⟨#[]⟩ : ByteArray), 0, false)))) else (some (0, 0, (⟨#[]⟩ : ByteArray), 0, false))) := fun j => by
                rw [P.congressref20_Parse.j0, if_neg (by decide), w1, if_pos (by omega), if_pos (by rw [bsA_size]; omega), Int.toNat_natCast, hx1]
              refine Ev.step step ?_
              have hmod : (t : Int) % 4294967296 = (t : Int) := by omega
              rw [hmod]
              cases hu : uq q with
              | none =>
                rw [hu] at EC
                refine Ev.bind EC (ev_neg Bool.false_ne_true ?_)
                rw [dead (fun r hr => ?_)]
                · exact Ev.now _
                · have p7 := (parts2 r hr).2.2.2.2.2.2.1
                  rw [hq] at p7
                  injection p7 with _ p7
                  have := List.append_cancel_right p7
                  rw [this, uq_quoted] at hu
                  cases hu
              | some tx =>
                rw [hu] at EC
                have htx := uq_len q tx hu
                have hz : (bsA tx).size = tx.length := bsA_size tx
                refine Ev.bind EC (ev_pos rfl ?_)
                have EL := line_ev n t k (bsA tx) n64 (by omega) k0 k1 (by rw [hz]; omega)
                rw [bsA_data] at EL
                refine Ev.bind EL ?_
                rw [bsA_toList, bsA_toList]
                have hf : FitsR ⟨n, t, bsA tx, k⟩ := ⟨by simp only; omega, by simp only; omega, by simp only; omega, by simp only; omega, k0, k1, by simp only; rw [hz]; omega⟩
                by_cases heq : lineB n t k tx = l
                · refine ev_pos heq ?_
                  have : IsParse l (some ⟨n, t, bsA tx, k⟩) := ⟨hf, heq⟩
                  rw [isParse_uni ho this]
                  exact Ev.now _
                · refine ev_neg heq ?_
                  rw [dead (fun r hr => ?_)]
                  · exact Ev.now _
                  · obtain ⟨p1, p2, p3, p4, p5, p6, p7, p8⟩ := parts2 r hr
                    subst hr
                    have hlr : lineR r = l := ho.2
                    apply heq
                    rw [← hlr]
                    unfold lineR
                    rw [p1, numL_of _ (by have := p8.1; have := p8.2.1; omega)] at hn
                    injection hn with hn
                    rw [p2, numL_of _ (by have := p8.2.2.1; have := p8.2.2.2.1; omega)] at ht
                    injection ht with ht
                    rw [p3, codeL_itoa _ p8.2.2.2.2.1 p8.2.2.2.2.2.1] at hk
                    injection hk with hk
                    rw [hq] at p7
                    injection p7 with _ p7
                    have p9 := List.append_cancel_right p7
                    rw [p9, uq_quoted] at hu
                    injection hu with hu
                    rw [hn, ht, hk, hu]
end Go.Proofs.YtoeioacgpildpaaDoor
