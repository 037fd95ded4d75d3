/- A record's line: what the program writes, for every record; the table of tens being as it is laid. -/
import Derived.Test.YtoeioacgpildpaaDoorBuild
import Derived.Test.YtoeioacgpildpaaDoorFmt
import Derived.Test.YtoeioacgpildpaaDoorP2
import Derived.Lib.ItoaLen
set_option linter.unusedVariables false
set_option linter.unusedSimpArgs false
namespace Go.Proofs.YtoeioacgpildpaaDoor
open Go.Proofs Go.Shelf Go.RowKit Go.Sort Go.Proofs.YtoeioacgpildpaaDoorW.PrintWords Go.Proofs.YtoeioacgpildpaaDoorW.PrintLast Go.Proofs.YtoeioacgpildpaaDoorW.PrintMore

theorem BuilderAtF_below {T e : TypeId} {B b : Nat} {p : Value} {bs : List Value} {W W' : World} (h : Lib.BuilderAtF T e B b p bs W) (hb : Below W.heap.size W W') : Lib.BuilderAtF T e B b p bs W' := by
  obtain ⟨hB, v, hv, hown, hne⟩ := h
  have hlt : b < W.heap.size := by
    rcases Nat.lt_or_ge b W.heap.size with h' | h'
    · exact h'
    · simp [Array.getElem?_eq_none h'] at hv
  exact ⟨hB, v, (hb.block b hlt).trans hv, hown.kept (row := none) ⟨hb.os, hb.tape, hb.output, hb.size, fun k hk _ => hb.block k hk⟩ (Classical.em _), hne⟩
theorem IsBuilderF_below {T e : TypeId} {B b : Nat} {bs : List Value} {W W' : World} (h : Lib.IsBuilderF T e B b bs W) (hb : Below W.heap.size W W') : Lib.IsBuilderF T e B b bs W' :=
  h.elim (fun x => .inl (BuilderAtF_below x hb)) (fun x => .inr (BuilderAtF_below x hb))
/-- The table of tens is as it is laid. -/
def Tens (w : World) : Prop := Lib.TabIs Tryd.prog w "internal/strconv.uint64pow10" .u64 Lib.pow10Tab
theorem Tens.below {w w' : World} (h : Tens w) (hb : Below w.heap.size w w') : Tens w' := Lib.tabBelow_of_tabIs h w' hb
theorem fmtUint_b (u : Nat) (hu : u < 18446744073709551616) {w0 w : World} (h : Tens w0) (hb : Below w0.heap.size w0 w) :
    Calls Tryd.prog 36 #[.int .u64 u, .int .i64 10] w fun e w' => e = .returned (.string ⟨(Lib.decDigits u).toArray⟩) ∧ Below w.heap.size w w' :=
  (fmtUint u hu w (h.below hb)).mono fun e w' ⟨he, k, os, hw⟩ => ⟨he, hw ▸ Lib.below_grow _ w (Nat.le_refl _) k os⟩
theorem itoa_b (k : Int) (h0 : -9223372036854775808 ≤ k) (h1 : k ≤ 9223372036854775807) {w0 w : World} (h : Tens w0) (hb : Below w0.heap.size w0 w) :
    Calls Tryd.prog 37 #[.int .i64 k] w fun e w' => e = .returned (.string ⟨(Lib.itoa k).toArray⟩) ∧ Below w.heap.size w w' :=
  (Tryd.strconv_Itoa k h0 h1 w (h.below hb)).mono fun e w' ⟨he, j, os, hw⟩ => ⟨he, hw ▸ Lib.below_grow _ w (Nat.le_refl _) j os⟩
/-- A byte of a call, as a line has it. -/
def hexd (n : Nat) : UInt8 := if n < 10 then (48 + n).toUInt8 else (87 + n).toUInt8
def isPlain (c : UInt8) : Bool := decide (32 ≤ c.toNat) && (decide (c.toNat ≤ 126) && (decide (c.toNat ≠ 34) && decide (c.toNat ≠ 37)))
def quote1 (c : UInt8) : List UInt8 := if isPlain c then [c] else [37, hexd (c.toNat / 16), hexd (c.toNat % 16)]
def quoted (l : List UInt8) : List UInt8 := l.flatMap quote1
theorem quote1_len (c : UInt8) : (quote1 c).length ≤ 3 := by unfold quote1; split <;> simp
theorem quoted_len : ∀ l : List UInt8, (quoted l).length ≤ 3 * l.length
  | [] => Nat.le_refl 0
  | c :: l => by
    have h1 := quote1_len c
    have h2 := quoted_len l
    show (quote1 c ++ quoted l).length ≤ _
    rw [List.length_append, List.length_cons]
    omega
/-- What stands ahead of the call in a line. -/
def headB (n t : Nat) (k : Int) : List UInt8 := Lib.decDigits n ++ [32] ++ (Lib.decDigits t ++ [32]) ++ (Lib.itoa k ++ [32, 34])
/-- A line. -/
def lineB (n t : Nat) (k : Int) (c : List UInt8) : List UInt8 := headB n t k ++ quoted c ++ [34, 10]
theorem below_ge {n m : Nat} {w w1 w2 : World} (h : Below n w w1) (k : Below m w1 w2) (hm : n ≤ m := by omega) : Below n w w2 :=
  ⟨k.os.trans h.os, k.tape.trans h.tape, k.output.trans h.output, Nat.le_trans h.size k.size, fun i hi => (k.block i (by omega)).trans (h.block i hi)⟩
theorem size_arr (l : List UInt8) : (⟨l.toArray⟩ : ByteArray).size = l.length := by simp [ByteArray.size]
theorem dec_small (n : Nat) (hn : n < 18446744073709551616) : (⟨(Lib.decDigits n).toArray⟩ : ByteArray).size ≤ 64 := by
  have := Lib.nDigits_le20 n hn
  rw [size_arr, Lib.decDigits_length]
  omega
theorem itoa_small (k : Int) (hk0 : -9223372036854775808 ≤ k) (hk1 : k ≤ 9223372036854775807) : (⟨(Lib.itoa k).toArray⟩ : ByteArray).size ≤ 65 := by
  rw [size_arr]
  unfold Lib.itoa
  split
  · have := Lib.nDigits_le20 k.natAbs (by omega)
    rw [List.length_cons, Lib.decDigits_length]
    omega
  · have := Lib.nDigits_le20 k.toNat (by omega)
    rw [Lib.decDigits_length]
    omega
def hexS : ByteArray := ⟨#[48, 49, 50, 51, 52, 53, 54, 55, 56, 57, 97, 98, 99, 100, 101, 102]⟩
theorem hex_get (a : Nat) (h : a < 16) : ∀ h2 : a < hexS.size, hexS[a]'h2 = hexd a := by
  have : ∀ a : Fin 16, hexS[a.1]'a.2 = hexd a.1 := by decide
  exact fun h2 => this ⟨a, h⟩
theorem hex_enc (a : Nat) (h : a < 16) : Utf8.encode ((hexd a).toNat : Int) = ⟨#[hexd a]⟩ := by
  have : ∀ a : Fin 16, Utf8.encode ((hexd a.1).toNat : Int) = ⟨#[hexd a.1]⟩ := by decide
  exact this ⟨a, h⟩
theorem bits_15 (x : UInt8) : bits .and .u8 (x.toNat : Int) 15 = ((x.toNat % 16 : Nat) : Int) := by
  have : ∀ n : Fin 256, bits .and .u8 (n.1 : Int) 15 = ((n.1 % 16 : Nat) : Int) := by decide +kernel
  exact this ⟨x.toNat, x.toNat_lt⟩
theorem plain_f (x : UInt8) : P.audit_plain.f (x.toNat : Int) = some (isPlain x) := by
  unfold P.audit_plain.f isPlain
  by_cases h1 : (x.toNat : Int) ≥ 32
  · rw [if_pos h1]
    by_cases h2 : (x.toNat : Int) ≤ 126
    · rw [if_pos h2]
      by_cases h3 : (x.toNat : Int) = 34
      · rw [if_pos h3]
        have : x.toNat = 34 := by omega
        rw [this]; rfl
      · rw [if_neg h3, decide_eq_true (show 32 ≤ x.toNat by omega), decide_eq_true (show x.toNat ≤ 126 by omega), decide_eq_true (show x.toNat ≠ 34 by omega)]
        by_cases h4 : x.toNat = 37
        · rw [h4]; rfl
        · rw [decide_eq_true h4, show ((x.toNat : Int) != 37) = true from bne_iff_ne.mpr (by omega)]; rfl
    · rw [if_neg h2, decide_eq_true (show 32 ≤ x.toNat by omega), decide_eq_false (show ¬ x.toNat ≤ 126 by omega)]; rfl
  · rw [if_neg h1, decide_eq_false (show ¬ 32 ≤ x.toNat by omega)]; rfl
theorem data_get (c : ByteArray) (i : Nat) (h : i < c.size) : c.data.toList[i]? = some (c[i]'h) := by
  have h2 : i < c.data.size := h
  rw [List.getElem?_eq_getElem (by rw [Array.length_toList]; exact h2)]
  rfl
theorem drawn0_ex {w w' : World} (h : Drawn0 w w') : ∃ m, w' = w.drewN m := by
  obtain ⟨m, hm⟩ := h
  exact ⟨m, by first | exact hm | exact hm.symm⟩
theorem plain_q (x : UInt8) (w : World) : Calls Tryd.prog 38 #[.int .u8 x.toNat] w fun e w' => e = .returned (.bool (isPlain x)) ∧ ∃ m, w' = w.drewN m :=
  (P.audit_plain.calls _ _ w (plain_f x)).mono fun e w' ⟨he, hd⟩ => ⟨he, drawn0_ex hd⟩
theorem quoted_take {l : List UInt8} {i : Nat} {x : UInt8} (h : l[i]? = some x) : quoted (l.take (i + 1)) = quoted (l.take i) ++ quote1 x := by
  have h2 : l.take (i + 1) = l.take i ++ [x] := by rw [List.take_add_one, h]; rfl
  rw [h2]
  unfold quoted
  rw [List.flatMap_append]
  simp
theorem fresh_builder (w : World) : Lib.IsBuilderF 45 5 w.heap.size w.heap.size [] (w.alloc (.cells #[.pointer none, .slice none 0 0] 45)) := Lib.IsBuilderF.of (Lib.fresh_isBuilder 45 5 w)
theorem sz1 (c : UInt8) : (⟨#[c]⟩ : ByteArray).size = 1 := rfl
theorem sz2 (c d : UInt8) : (⟨#[c, d]⟩ : ByteArray).size = 2 := rfl
set_option maxHeartbeats 12800000 in
set_option maxRecDepth 100000 in
theorem line_q (n t : Nat) (k : Int) (c : ByteArray) (hn : n < 18446744073709551616) (ht : t < 4294967296) (hk0 : -9223372036854775808 ≤ k) (hk1 : k ≤ 9223372036854775807) (hc : c.size ≤ 35184372088832) (w : World) (htab : Tens w) :
    Calls Tryd.prog 21 #[.agg #[.int .u64 n, .int .u32 t, .string c, .int .i64 k]] w fun e w' => e = .returned (.string ⟨(lineB n t k c.data.toList).toArray⟩) ∧ Below w.heap.size w w' := by
  have HN := Aside0.mk (fun {W : World} hb => fmtUint_b n hn (w0 := w) (w := W) htab hb)
  have HT := Aside0.mk (fun {W : World} hb => fmtUint_b t (by omega) (w0 := w) (w := W) htab hb)
  have HK := Aside0.mk (fun {W : World} hb => itoa_b k hk0 hk1 (w0 := w) (w := W) htab hb)
  obtain ⟨sn, hsn⟩ : ∃ sn : ByteArray, sn = ⟨(Lib.decDigits n).toArray⟩ := ⟨_, rfl⟩
  obtain ⟨st, hst⟩ : ∃ st : ByteArray, st = ⟨(Lib.decDigits t).toArray⟩ := ⟨_, rfl⟩
  obtain ⟨sk, hsk⟩ : ∃ sk : ByteArray, sk = ⟨(Lib.itoa k).toArray⟩ := ⟨_, rfl⟩
  rw [← hsn] at HN
  rw [← hst] at HT
  rw [← hsk] at HK
  have z1 : sn.size ≤ 64 := by rw [hsn]; exact dec_small n hn
  have z2 : st.size ≤ 64 := by rw [hst]; exact dec_small t (by omega)
  have z3 : sk.size ≤ 65 := by rw [hsk]; exact itoa_small k hk0 hk1
  have HSN := Aside0.mk hsn
  have HST := Aside0.mk hst
  have HSK := Aside0.mk hsk
  have hhead : (((((sn ++ ⟨#[32]⟩) ++ st) ++ ⟨#[32]⟩) ++ sk) ++ ⟨#[32, 34]⟩ : ByteArray) = ⟨(headB n t k).toArray⟩ := by
    rw [hsn, hst, hsk]
    unfold headB
    apply ByteArray.ext
    simp [ByteArray.data_append]
  have HHEAD := Aside0.mk hhead
  have HSZ := Aside0.mk (show ([] : List Value).length + (((((sn ++ ⟨#[32]⟩) ++ st) ++ ⟨#[32]⟩) ++ sk) ++ ⟨#[32, 34]⟩ : ByteArray).size ≤ 140737488355328 from by
    simp only [ByteArray.size_append, sz1, sz2, List.length_nil]
    omega)
  have q1 : (9223372036854775807 < sn.size + 1) = False := eq_false (by omega)
  have q2 : (9223372036854775807 < sn.size + 1 + st.size) = False := eq_false (by omega)
  have q3 : (9223372036854775807 < sn.size + 1 + st.size + 1) = False := eq_false (by omega)
  have q4 : (9223372036854775807 < sn.size + 1 + st.size + 1 + sk.size) = False := eq_false (by omega)
  have q5 : (9223372036854775807 < sn.size + 1 + st.size + 1 + sk.size + 2) = False := eq_false (by omega)
  have hwt : IntKind.u64.wrap (t : Int) = (t : Int) := by rw [IntKind.wrap_u64]; omega
  clear hsn hst hsk hhead
  have D27 := Aside0.mk (show ((w.alloc (.cells #[.int .u64 n, .int .u32 t, .string c, .int .i64 k] 27)).alloc (.cells #[.pointer none, .slice none 0 0] 45)).heap[w.heap.size]? = some (.cells #[.int .u64 n, .int .u32 t, .string c, .int .i64 k] 27 (0, 0)) from by
    rw [Lib.alloc_old _ _ _ (by simp)]; exact blk_new w _)
  have DB := Aside0.mk (fresh_builder (w.alloc (.cells #[.int .u64 n, .int .u32 t, .string c, .int .i64 k] 27)))
  have DL := Aside0.mk (below_alloc (below_alloc (Below.refl w.heap.size w) (.cells #[.int .u64 n, .int .u32 t, .string c, .int .i64 k] 27)) (.cells #[.pointer none, .slice none 0 0] 45))
  rw [World.size_alloc] at DB
  go_enter Tryd.func21, Tryd.ntmps21
  go_wp2
  have DS := show w.heap.size + 2 ≤ ((w.alloc (.cells #[.int .u64 n, .int .u32 t, .string c, .int .i64 k] 27)).alloc (.cells #[.pointer none, .slice none 0 0] 45)).heap.size from by rw [World.size_alloc, World.size_alloc]; omega
  generalize (w.alloc (.cells #[.int .u64 n, .int .u32 t, .string c, .int .i64 k] 27)).alloc (.cells #[.pointer none, .slice none 0 0] 45) = w2 at *
  have E27 : w2.drew.heap[w.heap.size]? = some (.cells #[.int .u64 n, .int .u32 t, .string c, .int .i64 k] 27 (0, 0)) := D27.out
  have d0 : w2.drew.cell? ⟨w.heap.size, 0, none⟩ = some (.int .u64 n) := (blk_cell E27 0).trans rfl
  have d1 : w2.drew.cell? ⟨w.heap.size, 1, none⟩ = some (.int .u32 t) := (blk_cell E27 1).trans rfl
  have d3 : w2.drew.cell? ⟨w.heap.size, 3, none⟩ = some (.int .i64 k) := (blk_cell E27 3).trans rfl
  refine start_ (n := 16) (S := fun w' => w'.cell? ⟨w.heap.size, 0, none⟩ = some (.int .u64 n) ∧ w'.cell? ⟨w.heap.size, 1, none⟩ = some (.int .u32 t) ∧ w'.cell? ⟨w.heap.size, 3, none⟩ = some (.int .i64 k) ∧ w'.heap[w.heap.size]? = some (.cells #[.int .u64 n, .int .u32 t, .string c, .int .i64 k] 27 (0, 0)) ∧ Lib.IsBuilderF 45 5 (w.heap.size + 1) (w.heap.size + 1) [] w' ∧ Below w.heap.size w w' ∧ w.heap.size + 2 ≤ w'.heap.size) (ds := [15]) #[false, false, false, false, false, false, false, false, false, false, false, false, false, false, false, false] (by kernel_rfl) rfl rfl ⟨d0, d1, d3, E27, IsBuilderF_below DB.out (below_drew (Below.refl _ _)), below_drew DL.out, DS⟩ (fun hHeld => ?_)
  refine pure_ (i := 0) (N := some 6) (v := ?_) (a' := ?_) #[true, false, false, false, false, false, false, false, false, false, false, false, false, false, false, false] rfl rfl (by kernel_rfl) (fun _ _ _ h => h) (Or.inl ⟨by rfl, ?_⟩) ?_ ?_
  rotate_left
  · intro w'
    go_simp
    with_reducible rfl
  rotate_left
  · simp only [Act.put, List.setIfInBounds_toArray, List.set_cons_zero, List.set_cons_succ, i64_w, i32_w]
    rfl
  refine pure_ (i := 4) (N := some 10) (v := ?_) (a' := ?_) #[true, false, false, false, true, false, false, false, false, false, false, false, false, false, false, false] rfl rfl (by kernel_rfl) (fun _ _ _ h => h) (Or.inl ⟨by rfl, ?_⟩) ?_ ?_
  rotate_left
  · intro w'
    go_simp
    with_reducible rfl
  rotate_left
  · simp only [Act.put, List.setIfInBounds_toArray, List.set_cons_zero, List.set_cons_succ, i64_w, i32_w]
    rfl
  refine pure_ (i := 10) (N := some 16) (v := ?_) (a' := ?_) #[true, false, false, false, true, false, false, false, false, false, true, false, false, false, false, false] rfl rfl (by kernel_rfl) (fun _ _ _ h => h) (Or.inl ⟨by rfl, ?_⟩) ?_ ?_
  rotate_left
  · intro w'
    go_simp
    with_reducible rfl
  rotate_left
  · simp only [Act.put, List.setIfInBounds_toArray, List.set_cons_zero, List.set_cons_succ, i64_w, i32_w]
    rfl
  refine take_ (i := 1) (N := some 7) (v := ?_) (a' := ?_) #[true, true, false, false, true, false, false, false, false, false, true, false, false, false, false, false] rfl rfl (by kernel_rfl) (fun _ _ _ h => h) (Or.inl ⟨by rfl, ?_⟩) hHeld ?_ ?_
  rotate_left
  · rintro w' ⟨s0, s1, s2, s3, s4, s5, s6⟩
    go_simp
    with_reducible rfl
  rotate_left
  · simp only [Act.put, List.setIfInBounds_toArray, List.set_cons_zero, List.set_cons_succ, i64_w, i32_w]
    rfl
  refine take_ (i := 5) (N := some 11) (v := ?_) (a' := ?_) #[true, true, false, false, true, true, false, false, false, false, true, false, false, false, false, false] rfl rfl (by kernel_rfl) (fun _ _ _ h => h) (Or.inl ⟨by rfl, ?_⟩) hHeld ?_ ?_
  rotate_left
  · rintro w' ⟨s0, s1, s2, s3, s4, s5, s6⟩
    go_simp
    with_reducible rfl
  rotate_left
  · simp only [Act.put, List.setIfInBounds_toArray, List.set_cons_zero, List.set_cons_succ, i64_w, i32_w]
    rfl
  refine pure_ (i := 6) (N := some 12) (v := ?_) (a' := ?_) #[true, true, false, false, true, true, true, false, false, false, true, false, false, false, false, false] rfl rfl (by kernel_rfl) (fun _ _ _ h => h) (Or.inl ⟨by rfl, ?_⟩) ?_ ?_
  rotate_left
  · intro w'
    go_simp
    with_reducible rfl
  rotate_left
  · simp only [Act.put, List.setIfInBounds_toArray, List.set_cons_zero, List.set_cons_succ, i64_w, i32_w]
    rfl
  refine take_ (i := 11) (N := some 17) (v := ?_) (a' := ?_) #[true, true, false, false, true, true, true, false, false, false, true, true, false, false, false, false] rfl rfl (by kernel_rfl) (fun _ _ _ h => h) (Or.inl ⟨by rfl, ?_⟩) hHeld ?_ ?_
  rotate_left
  · rintro w' ⟨s0, s1, s2, s3, s4, s5, s6⟩
    go_simp
    with_reducible rfl
  rotate_left
  · simp only [Act.put, List.setIfInBounds_toArray, List.set_cons_zero, List.set_cons_succ, i64_w, i32_w]
    rfl
  refine one_ (i := 2) (N := some 8) #[true, true, true, false, true, true, true, false, false, false, true, true, false, false, false, false] rfl rfl (by kernel_rfl) (by decide) (fun K hK => ?_)
  refine goes_ Tryd.func36 (by kernel_rfl) rfl #[.int .u64 n, .int .i64 10] (by rfl) rfl rfl (by simp only [List.map_toArray, List.map_cons, List.map_nil]; rfl) ?_
  with_reducible refine (HN.out (hHeld.2.2.2.2.2.1)).mono ?_
  rintro e w3 ⟨rfl, hb3⟩
  refine ⟨_, rfl, ?_⟩
  refine hK.out _ _ ⟨pw_cell_below hb3 (hHeld.1), pw_cell_below hb3 (hHeld.2.1), pw_cell_below hb3 (hHeld.2.2.1), (hb3.block _ (blk_lt (hHeld.2.2.2.1))).trans (hHeld.2.2.2.1), IsBuilderF_below (hHeld.2.2.2.2.1) hb3, below_then (hHeld.2.2.2.2.2.1) (hHeld.2.2.2.2.2.1).size hb3, Nat.le_trans (hHeld.2.2.2.2.2.2) hb3.size⟩ (fun hHeld => ?_)
  clear hK K
  refine norm_ (a' := ?_) ?_ ?_
  rotate_left
  · show Act.put _ (some 8) _ = _
    simp only [Act.put, List.setIfInBounds_toArray, List.set_cons_zero, List.set_cons_succ, i64_w, i32_w]
    rfl
  refine pure_ (i := 3) (N := some 9) (v := ?_) (a' := ?_) #[true, true, true, true, true, true, true, false, false, false, true, true, false, false, false, false] rfl rfl (by kernel_rfl) (fun _ _ _ h => h) (Or.inl ⟨by rfl, ?_⟩) ?_ ?_
  rotate_left
  · intro w'
    go_simp
    with_reducible rfl
  rotate_left
  · simp only [Act.put, List.setIfInBounds_toArray, List.set_cons_zero, List.set_cons_succ, i64_w, i32_w]
    rfl
  refine one_ (i := 7) (N := some 13) #[true, true, true, true, true, true, true, true, false, false, true, true, false, false, false, false] rfl rfl (by kernel_rfl) (by decide) (fun K hK => ?_)
  refine goes_ Tryd.func36 (by kernel_rfl) rfl #[.int .u64 t, .int .i64 10] (by rfl) rfl rfl (by simp only [List.map_toArray, List.map_cons, List.map_nil]; rfl) ?_
  with_reducible refine (HT.out (hHeld.2.2.2.2.2.1)).mono ?_
  rintro e w3 ⟨rfl, hb3⟩
  refine ⟨_, rfl, ?_⟩
  refine hK.out _ _ ⟨pw_cell_below hb3 (hHeld.1), pw_cell_below hb3 (hHeld.2.1), pw_cell_below hb3 (hHeld.2.2.1), (hb3.block _ (blk_lt (hHeld.2.2.2.1))).trans (hHeld.2.2.2.1), IsBuilderF_below (hHeld.2.2.2.2.1) hb3, below_then (hHeld.2.2.2.2.2.1) (hHeld.2.2.2.2.2.1).size hb3, Nat.le_trans (hHeld.2.2.2.2.2.2) hb3.size⟩ (fun hHeld => ?_)
  clear hK K
  refine norm_ (a' := ?_) ?_ ?_
  rotate_left
  · show Act.put _ (some 13) _ = _
    simp only [Act.put, List.setIfInBounds_toArray, List.set_cons_zero, List.set_cons_succ, i64_w, i32_w]
    rfl
  refine pure_ (i := 8) (N := some 14) (v := ?_) (a' := ?_) #[true, true, true, true, true, true, true, true, true, false, true, true, false, false, false, false] rfl rfl (by kernel_rfl) (fun _ _ _ h => h) (Or.inl ⟨by rfl, ?_⟩) ?_ ?_
  rotate_left
  · intro w'
    go_simp
    with_reducible rfl
  rotate_left
  · simp only [Act.put, List.setIfInBounds_toArray, List.set_cons_zero, List.set_cons_succ, i64_w, i32_w]
    rfl
  refine pure_ (i := 9) (N := some 15) (v := ?_) (a' := ?_) #[true, true, true, true, true, true, true, true, true, true, true, true, false, false, false, false] rfl rfl (by kernel_rfl) (fun _ _ _ h => h) (Or.inl ⟨by rfl, ?_⟩) ?_ ?_
  rotate_left
  · intro w'
    go_simp
    with_reducible rfl
  rotate_left
  · simp only [Act.put, List.setIfInBounds_toArray, List.set_cons_zero, List.set_cons_succ, i64_w, i32_w]
    rfl
  refine one_ (i := 12) (N := some 18) #[true, true, true, true, true, true, true, true, true, true, true, true, true, false, false, false] rfl rfl (by kernel_rfl) (by decide) (fun K hK => ?_)
  refine goes_ Tryd.func37 (by kernel_rfl) rfl #[.int .i64 k] (by rfl) rfl rfl (by simp only [List.map_toArray, List.map_cons, List.map_nil]; rfl) ?_
  with_reducible refine (HK.out (hHeld.2.2.2.2.2.1)).mono ?_
  rintro e w3 ⟨rfl, hb3⟩
  refine ⟨_, rfl, ?_⟩
  refine hK.out _ _ ⟨pw_cell_below hb3 (hHeld.1), pw_cell_below hb3 (hHeld.2.1), pw_cell_below hb3 (hHeld.2.2.1), (hb3.block _ (blk_lt (hHeld.2.2.2.1))).trans (hHeld.2.2.2.1), IsBuilderF_below (hHeld.2.2.2.2.1) hb3, below_then (hHeld.2.2.2.2.2.1) (hHeld.2.2.2.2.2.1).size hb3, Nat.le_trans (hHeld.2.2.2.2.2.2) hb3.size⟩ (fun hHeld => ?_)
  clear hK K
  refine norm_ (a' := ?_) ?_ ?_
  rotate_left
  · show Act.put _ (some 18) _ = _
    simp only [Act.put, List.setIfInBounds_toArray, List.set_cons_zero, List.set_cons_succ, i64_w, i32_w]
    rfl
  refine pure_ (i := 13) (N := some 19) (v := ?_) (a' := ?_) #[true, true, true, true, true, true, true, true, true, true, true, true, true, true, false, false] rfl rfl (by kernel_rfl) (fun _ _ _ h => h) (Or.inl ⟨by rfl, ?_⟩) ?_ ?_
  rotate_left
  · intro w'
    go_simp
    with_reducible rfl
  rotate_left
  · simp only [Act.put, List.setIfInBounds_toArray, List.set_cons_zero, List.set_cons_succ, i64_w, i32_w]
    rfl
  refine pure_ (i := 14) (N := some 20) (v := ?_) (a' := ?_) #[true, true, true, true, true, true, true, true, true, true, true, true, true, true, true, false] rfl rfl (by kernel_rfl) (fun _ _ _ h => h) (Or.inl ⟨by rfl, ?_⟩) ?_ ?_
  rotate_left
  · intro w'
    go_simp
    with_reducible rfl
  rotate_left
  · simp only [Act.put, List.setIfInBounds_toArray, List.set_cons_zero, List.set_cons_succ, i64_w, i32_w]
    rfl
  refine last_ (i := 15) (N := some 21) #[true, true, true, true, true, true, true, true, true, true, true, true, true, true, true, true] rfl rfl (by kernel_rfl) (by decide) (fun K hK => ?_)
  refine goes_ Tryd.func25 (by kernel_rfl) rfl #[.pointer (some ⟨w.heap.size + 1, 0, none⟩), .string (((((sn ++ ⟨#[32]⟩) ++ st) ++ ⟨#[32]⟩) ++ sk) ++ ⟨#[32, 34]⟩)] (by rfl) rfl rfl (by simp only [List.map_toArray, List.map_cons, List.map_nil]; rfl) ?_
  with_reducible refine (writeString_k (w.heap.size + 1) (w.heap.size + 1) [] _ _ (hHeld.2.2.2.2.1) HSZ.out (by have := hHeld.2.2.2.2.2.2; omega)).mono ?_
  rintro e w4 ⟨rfl, hW, hB4, hO4⟩
  refine ⟨_, rfl, ?_⟩
  have R5 := Aside0.mk ((hB4.block _ (by omega)).trans (hHeld.2.2.2.1))
  have B5 := Aside0.mk hW
  have L5 := Aside0.mk (below_ge (hHeld.2.2.2.2.2.1) hB4)
  have Z5 := Aside0.mk (Nat.le_trans (hHeld.2.2.2.2.2.2) hB4.size)
  clear hW hB4 hO4
  refine hK.out _ _ ?_
  clear hK K
  refine norm_ (a' := ?_) ?_ ?_
  rotate_left
  · show Act.put _ (some 21) _ = _
    simp only [Act.put, List.setIfInBounds_toArray, List.set_cons_zero, List.set_cons_succ, i64_w, i32_w]
    rfl
  refine done_ (by kernel_rfl) ?_
  generalize (((((sn ++ ⟨#[32]⟩) ++ st) ++ ⟨#[32]⟩) ++ sk) ++ ⟨#[32, 34]⟩ : ByteArray).size = zz
  have HB0 := Aside0.mk (show Lib.IsBuilderF 45 5 (w.heap.size + 1) (w.heap.size + 1) (Lib.byteCells (headB n t k ++ quoted (c.data.toList.take 0))) w4 from by
    have h1 := B5.out
    rw [HHEAD.out] at h1
    have h2 : ([] : List Value) ++ Lib.strCells ⟨(headB n t k).toArray⟩ = Lib.byteCells (headB n t k ++ quoted (c.data.toList.take 0)) := by
      rw [List.nil_append, Lib.strCells_toArray, List.take_zero]
      show _ = Lib.byteCells (headB n t k ++ [])
      rw [List.append_nil]
    rw [h2] at h1
    exact .inr h1)
  have HH := Aside0.mk (show (headB n t k).length ≤ 200 from by
    have h1 := congrArg ByteArray.size HHEAD.out
    rw [size_arr (headB n t k)] at h1
    rw [← h1]
    simp only [ByteArray.size_append, sz1, sz2]
    omega)
  have r2 : w4.cell? ⟨w.heap.size, 2, none⟩ = some (.string c) := (blk_cell R5.out 2).trans rfl
  clear B5 q1 q2 q3 q4 q5 hwt z1 z2 z3 D27 E27 DB DL DS d0 d1 d3 HSZ HN HT HK
  have HCS := Aside0.mk hc
  clear hc
  go_wp2
  go_loopw [25] (fun iv wr => ∃ i : Nat, i ≤ c.size ∧ iv = .int .i64 i ∧ Aside0 (wr.heap[w.heap.size]? = some (.cells #[.int .u64 n, .int .u32 t, .string c, .int .i64 k] 27 (0, 0))) ∧ Aside0 (Lib.IsBuilderF 45 5 (w.heap.size + 1) (w.heap.size + 1) (Lib.byteCells (headB n t k ++ quoted (c.data.toList.take i))) wr) ∧ Aside0 (Below w.heap.size w wr) ∧ Aside0 (w.heap.size + 2 ≤ wr.heap.size)) (fun iv _ => c.size - (intOf iv).toNat)
  case atStart => exact ⟨0, Nat.zero_le _, rfl, R5, HB0, L5, Z5⟩
  case round =>
    clear R5 HB0 L5 Z5 r2
    obtain ⟨i, hic, rfl, HR, HBu, HL, HZ⟩ := hrel
    have r2 : wr.cell? ⟨w.heap.size, 2, none⟩ = some (.string c) := (blk_cell HR.out 2).trans rfl
    by_cases hlt : i < c.size
    · have hxd := data_get c i hlt
      have HNX := Aside0.mk (quoted_take hxd)
      have hcs := HCS.out
      have hlen := quoted_len (c.data.toList.take i)
      have hlt2 : (c.data.toList.take i).length ≤ c.size := by rw [List.length_take]; omega
      have HLN := Aside0.mk (show (Lib.byteCells (headB n t k ++ quoted (c.data.toList.take i))).length + 3 ≤ 140737488355328 from by
        rw [Lib.byteCells_length, List.length_append]
        have := HH.out
        omega)
      have HIC := Aside0.mk hic
      clear hxd hlen hlt2 hic
      have hpl := plain_q (c[i]'hlt) wr
      cases hp : isPlain (c[i]'hlt)
      · rw [hp] at hpl
        go_wp2_with fail
        refine hpl.mono ?_
        rintro e w6 ⟨rfl, m, rfl⟩
        have R6 := Aside0.mk (show (wr.drewN m).heap[w.heap.size]? = _ from HR.out)
        have U6 := Aside0.mk (IsBuilderF_below HBu.out (pw_below_drewN (Below.refl _ _) m))
        have L6 := Aside0.mk (pw_below_drewN HL.out m)
        have Z6 := Aside0.mk (show w.heap.size + 2 ≤ (wr.drewN m).heap.size from HZ.out)
        clear hpl HR HBu HL HZ r2
        generalize wr.drewN m = w6 at *
        generalize hx : c[i]'hlt = x at *
        have hA : (x.toNat : Int) / 16 = ((x.toNat / 16 : Nat) : Int) := by omega
        have hB := bits_15 x
        have hqx : quote1 x = [37, hexd (x.toNat / 16), hexd (x.toNat % 16)] := by unfold quote1; rw [hp]; rfl
        have HQX := Aside0.mk hqx
        obtain ⟨a, ha⟩ : ∃ a, x.toNat / 16 = a := ⟨_, rfl⟩
        obtain ⟨b, hb⟩ : ∃ b, x.toNat % 16 = b := ⟨_, rfl⟩
        have ha16 : a < 16 := by have := x.toNat_lt; omega
        have hb16 : b < 16 := by omega
        rw [ha] at hA HQX
        rw [hb] at hB HQX
        clear hqx
        have haI : (a : Int) < 16 := by omega
        have hbI : (b : Int) < 16 := by omega
        have gA := hex_get a ha16
        have gB := hex_get b hb16
        unfold hexS at gA gB
        have eA := hex_enc a ha16
        have eB := hex_enc b hb16
        clear ha hb
        go_wp2
        refine start_ (n := 11) (S := fun w' => w'.heap[w.heap.size]? = some (.cells #[.int .u64 n, .int .u32 t, .string c, .int .i64 k] 27 (0, 0)) ∧ Lib.IsBuilderF 45 5 (w.heap.size + 1) (w.heap.size + 1) (Lib.byteCells (headB n t k ++ quoted (c.data.toList.take i))) w' ∧ Below w.heap.size w w' ∧ w.heap.size + 2 ≤ w'.heap.size) (ds := [10]) #[false, false, false, false, false, false, false, false, false, false, false] (by kernel_rfl) rfl rfl ⟨R6.out, IsBuilderF_below U6.out (below_drew (Below.refl _ _)), below_drew L6.out, Z6.out⟩ (fun hHeld => ?_)
        refine pure_ (i := 0) (N := some 36) (v := ?_) (a' := ?_) #[true, false, false, false, false, false, false, false, false, false, false] rfl rfl (by kernel_rfl) (fun _ _ _ h => h) (Or.inl ⟨by rfl, ?_⟩) ?_ ?_
        rotate_left
        · intro w'
          go_simp
          with_reducible rfl
        rotate_left
        · simp only [Act.put, List.setIfInBounds_toArray, List.set_cons_zero, List.set_cons_succ, i64_w, i32_w]
          rfl
        refine pure_ (i := 1) (N := some 37) (v := ?_) (a' := ?_) #[true, true, false, false, false, false, false, false, false, false, false] rfl rfl (by kernel_rfl) (fun _ _ _ h => h) (Or.inl ⟨by rfl, ?_⟩) ?_ ?_
        rotate_left
        · intro w'
          go_simp
          with_reducible rfl
        rotate_left
        · simp only [Act.put, List.setIfInBounds_toArray, List.set_cons_zero, List.set_cons_succ, i64_w, i32_w]
          rfl
        refine pure_ (i := 5) (N := some 41) (v := ?_) (a' := ?_) #[true, true, false, false, false, true, false, false, false, false, false] rfl rfl (by kernel_rfl) (fun _ _ _ h => h) (Or.inl ⟨by rfl, ?_⟩) ?_ ?_
        rotate_left
        · intro w'
          go_simp
          with_reducible rfl
        rotate_left
        · simp only [Act.put, List.setIfInBounds_toArray, List.set_cons_zero, List.set_cons_succ, i64_w, i32_w]
          rfl
        refine pure_ (i := 6) (N := some 42) (v := ?_) (a' := ?_) #[true, true, false, false, false, true, true, false, false, false, false] rfl rfl (by kernel_rfl) (fun _ _ _ h => h) (Or.inl ⟨by rfl, ?_⟩) ?_ ?_
        rotate_left
        · intro w'
          go_simp
          with_reducible rfl
        rotate_left
        · simp only [Act.put, List.setIfInBounds_toArray, List.set_cons_zero, List.set_cons_succ, i64_w, i32_w]
          rfl
        refine take_ (i := 2) (N := some 38) (v := ?_) (a' := ?_) #[true, true, true, false, false, true, true, false, false, false, false] rfl rfl (by kernel_rfl) (fun _ _ _ h => h) (Or.inl ⟨by rfl, ?_⟩) hHeld ?_ ?_
        rotate_left
        · rintro w' ⟨s0, s1, s2, s3⟩
          go_simp
          with_reducible rfl
        rotate_left
        · simp only [Act.put, List.setIfInBounds_toArray, List.set_cons_zero, List.set_cons_succ, i64_w, i32_w]
          rfl
        refine pure_ (i := 3) (N := some 39) (v := ?_) (a' := ?_) #[true, true, true, true, false, true, true, false, false, false, false] rfl rfl (by kernel_rfl) (fun _ _ _ h => h) (Or.inl ⟨by rfl, ?_⟩) ?_ ?_
        rotate_left
        · intro w'
          go_simp
          with_reducible rfl
        rotate_left
        · simp only [Act.put, List.setIfInBounds_toArray, List.set_cons_zero, List.set_cons_succ, i64_w, i32_w]
          rfl
        refine pure_ (i := 4) (N := some 40) (v := ?_) (a' := ?_) #[true, true, true, true, true, true, true, false, false, false, false] rfl rfl (by kernel_rfl) (fun _ _ _ h => h) (Or.inl ⟨by rfl, ?_⟩) ?_ ?_
        rotate_left
        · intro w'
          go_simp
          with_reducible rfl
        rotate_left
        · simp only [Act.put, List.setIfInBounds_toArray, List.set_cons_zero, List.set_cons_succ, i64_w, i32_w]
          rfl
        refine take_ (i := 7) (N := some 43) (v := ?_) (a' := ?_) #[true, true, true, true, true, true, true, true, false, false, false] rfl rfl (by kernel_rfl) (fun _ _ _ h => h) (Or.inl ⟨by rfl, ?_⟩) hHeld ?_ ?_
        rotate_left
        · rintro w' ⟨s0, s1, s2, s3⟩
          go_simp
          with_reducible rfl
        rotate_left
        · simp only [Act.put, List.setIfInBounds_toArray, List.set_cons_zero, List.set_cons_succ, i64_w, i32_w]
          rfl
        refine pure_ (i := 8) (N := some 44) (v := ?_) (a' := ?_) #[true, true, true, true, true, true, true, true, true, false, false] rfl rfl (by kernel_rfl) (fun _ _ _ h => h) (Or.inl ⟨by rfl, ?_⟩) ?_ ?_
        rotate_left
        · intro w'
          go_simp
          with_reducible rfl
        rotate_left
        · simp only [Act.put, List.setIfInBounds_toArray, List.set_cons_zero, List.set_cons_succ, i64_w, i32_w]
          rfl
        refine pure_ (i := 9) (N := some 45) (v := ?_) (a' := ?_) #[true, true, true, true, true, true, true, true, true, true, false] rfl rfl (by kernel_rfl) (fun _ _ _ h => h) (Or.inl ⟨by rfl, ?_⟩) ?_ ?_
        rotate_left
        · intro w'
          go_simp
          with_reducible rfl
        rotate_left
        · simp only [Act.put, List.setIfInBounds_toArray, List.set_cons_zero, List.set_cons_succ, i64_w, i32_w]
          rfl
        refine last_ (i := 10) (N := some 46) #[true, true, true, true, true, true, true, true, true, true, true] rfl rfl (by kernel_rfl) (by decide) (fun K hK => ?_)
        refine goes_ Tryd.func25 (by kernel_rfl) rfl #[.pointer (some ⟨w.heap.size + 1, 0, none⟩), .string ((⟨#[37]⟩ ++ ⟨#[hexd a]⟩) ++ ⟨#[hexd b]⟩)] (by rfl) rfl rfl (by simp only [List.map_toArray, List.map_cons, List.map_nil]; rfl) ?_
        with_reducible refine (writeString_k (w.heap.size + 1) (w.heap.size + 1) _ ((⟨#[37]⟩ ++ ⟨#[hexd a]⟩) ++ ⟨#[hexd b]⟩) _ (hHeld.2.1) (by simp only [ByteArray.size_append, sz1]; exact HLN.out) (by have := hHeld.2.2.2; omega)).mono ?_
        rintro e w7 ⟨rfl, hW, hB7, hO7⟩
        refine ⟨_, rfl, ?_⟩
        have R7 := Aside0.mk ((hB7.block _ (by omega)).trans (hHeld.1))
        have L7 := Aside0.mk (below_ge (hHeld.2.2.1) hB7)
        have Z7 := Aside0.mk (Nat.le_trans (hHeld.2.2.2) hB7.size)
        have U7 := Aside0.mk hW
        clear hW hB7 hO7
        refine hK.out _ _ ?_
        clear hK K
        refine norm_ (a' := ?_) ?_ ?_
        rotate_left
        · show Act.put _ (some 46) _ = _
          simp only [Act.put, List.setIfInBounds_toArray, List.set_cons_zero, List.set_cons_succ, i64_w, i32_w]
          rfl
        refine done_ (by kernel_rfl) ?_
        have U8 := Aside0.mk (show Lib.IsBuilderF 45 5 (w.heap.size + 1) (w.heap.size + 1) (Lib.byteCells (headB n t k ++ quoted (c.data.toList.take (i + 1)))) w7 from by
          rw [HNX.out, ← List.append_assoc, Lib.byteCells_append, HQX.out]
          exact .inr U7.out)
        clear U7 R6 U6 L6 Z6 hA hB gA gB eA eB
        go_wp2
        go_roundw
        case rel => exact ⟨i + 1, by have := HIC.out; omega, by go_num, R7, U8, L7, Z7⟩
        case measure => simp [intOf]; omega
      · rw [hp] at hpl
        go_wp2_with fail
        refine hpl.mono ?_
        rintro e w6 ⟨rfl, m, rfl⟩
        have R6 := Aside0.mk (show (wr.drewN m).heap[w.heap.size]? = _ from HR.out)
        have U6 := Aside0.mk (IsBuilderF_below HBu.out (pw_below_drewN (Below.refl _ _) m))
        have L6 := Aside0.mk (pw_below_drewN HL.out m)
        have Z6 := Aside0.mk (show w.heap.size + 2 ≤ (wr.drewN m).heap.size from HZ.out)
        clear hpl HR HBu HL HZ r2
        generalize wr.drewN m = w6 at *
        generalize hx : c[i]'hlt = x at *
        go_wp2_with fail
        refine (writeByte_k (w.heap.size + 1) (w.heap.size + 1) _ _ w6 U6.out (by have := HLN.out; omega) (by have := Z6.out; omega)).mono ?_
        rintro e w7 ⟨rfl, hW, hB7, hO7⟩
        have R7 := Aside0.mk ((hB7.block _ (by omega)).trans R6.out)
        have L7 := Aside0.mk (below_ge L6.out hB7)
        have Z7 := Aside0.mk (Nat.le_trans Z6.out hB7.size)
        have U7 := Aside0.mk (show Lib.IsBuilderF 45 5 (w.heap.size + 1) (w.heap.size + 1) (Lib.byteCells (headB n t k ++ quoted (c.data.toList.take (i + 1)))) w7 from by
          rw [HNX.out, ← List.append_assoc, Lib.byteCells_append]
          unfold quote1
          rw [hp]
          exact .inr hW)
        clear hW hB7 hO7 R6 U6 L6 Z6
        go_wp2
        go_roundw
        case rel => exact ⟨i + 1, by have := HIC.out; omega, by go_num, R7, U7, L7, Z7⟩
        case measure => simp [intOf]; omega
    · have hie : i = c.size := by omega
      have UL := Aside0.mk (show Lib.IsBuilderF 45 5 (w.heap.size + 1) (w.heap.size + 1) (Lib.byteCells (headB n t k ++ quoted c.data.toList)) wr from by
        have := HBu.out
        rw [List.take_of_length_le (by rw [Array.length_toList]; exact Nat.le_of_eq hie.symm)] at this
        exact this)
      have HLN := Aside0.mk (show (Lib.byteCells (headB n t k ++ quoted c.data.toList)).length + 2 ≤ 140737488355328 from by
        rw [Lib.byteCells_length, List.length_append]
        have h1 := HH.out
        have h2 := quoted_len c.data.toList
        have h3 := HCS.out
        have h4 : c.data.toList.length = c.size := Array.length_toList
        omega)
      clear HBu
      go_wp2_with fail
      refine (writeString_k (w.heap.size + 1) (w.heap.size + 1) _ ⟨#[34, 10]⟩ wr UL.out HLN.out (by have := HZ.out; omega)).mono ?_
      rintro e w7 ⟨rfl, hW, hB7, hO7⟩
      have L7 := Aside0.mk (below_ge HL.out hB7)
      have hb7s := hB7.size
      have U7 := Aside0.mk (show Lib.IsBuilderF 45 5 (w.heap.size + 1) (w.heap.size + 1) (Lib.byteCells (lineB n t k c.data.toList)) w7 from by
        unfold lineB
        rw [Lib.byteCells_append]
        exact .inr hW)
      clear hW hB7 hO7 UL HL
      go_wp2_with fail
      refine (Tryd.Builder_String_any_k (w.heap.size + 1) (w.heap.size + 1) (lineB n t k c.data.toList) w7 U7.out (by have := HZ.out; have := hb7s; omega)).mono ?_
      rintro e w8 ⟨rfl, hW, hB8, hO8⟩
      have L8 := Aside0.mk (below_ge L7.out hB8)
      clear hW hB8 hO8 U7 L7
      go_wp2
      go_ret
      exact ⟨rfl, L8.out⟩
end Go.Proofs.YtoeioacgpildpaaDoor
