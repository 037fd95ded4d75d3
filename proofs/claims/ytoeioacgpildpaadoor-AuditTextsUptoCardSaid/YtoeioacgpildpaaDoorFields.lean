/- The fields of a line: strings.Cut at one byte, ParseUint, ParseInt, audit.fields. -/
import Derived.Test.YtoeioacgpildpaaDoorUq
import Derived.Shelf.Strconv.ErrVarParseInt
import Derived.Shelf.Pu.ErrVarParseUint
set_option linter.unusedVariables false
set_option linter.unusedSimpArgs false
namespace Go.Proofs.YtoeioacgpildpaaDoor
open Go.Proofs Go.Shelf Go.RowKit Go.Proofs.YtoeioacgpildpaaDoorW.PrintWords Go.Proofs.YtoeioacgpildpaaDoorW.PrintLast Go.Proofs.YtoeioacgpildpaaDoorW.PrintMore
open Go.Proofs.YtoeioacgpildpaaDoor.P (S27 k27 z27)

theorem indexByte_at (c : UInt8) : ∀ (x y : List UInt8), c ∉ x → Lib.indexByte (x ++ c :: y) c = (x.length : Int)
  | [], y, _ => by simp [Lib.indexByte]
  | b :: x, y, h => by
    have hb : (b == c) = false := beq_eq_false_iff_ne.2 (fun e => h (by simp [e]))
    have ih := indexByte_at c x y (fun hm => h (List.mem_cons_of_mem _ hm))
    rw [List.cons_append, Lib.indexByte, if_neg (by rw [hb]; decide), ih, if_neg (by rw [beq_iff_eq]; omega), List.length_cons]; push_cast
    omega
theorem indexByte_no (c : UInt8) : ∀ (x : List UInt8), c ∉ x → Lib.indexByte x c = -1
  | [], _ => rfl
  | b :: x, h => by
    have hb : (b == c) = false := beq_eq_false_iff_ne.2 (fun e => h (by simp [e]))
    have ih := indexByte_no c x (fun hm => h (List.mem_cons_of_mem _ hm))
    rw [Lib.indexByte, if_neg (by rw [hb]; decide), ih]
    rfl

theorem cutIn (s : ByteArray) (c : UInt8) (hs : s.size ≤ 9223372036854775807) (w : World) :
    Calls Tryd.prog 55 #[.string s, .string ⟨#[c]⟩] w fun e w' => e = .returned (.tuple #[.string ⟨(cut1 c s.data.toList).1.toArray⟩, .string ⟨(cut1 c s.data.toList).2.1.toArray⟩, .bool (cut1 c s.data.toList).2.2]) ∧ ∃ n, w' = w.drewN n := by
  have HI := Tryd.stringslite_Index_one s c w
  have hsz : s.data.toList.length = s.size := by rw [Array.length_toList]; rfl
  cases hc : (cut1 c s.data.toList).2.2
  · obtain ⟨h1, h2, h3⟩ := cut1_false hc
    rw [indexByte_no c _ h1] at HI
    have E2 := Aside0.mk h2
    have E3 := Aside0.mk h3
    clear hc h2 h3 hsz
    go_enter Tryd.func55, Tryd.ntmps55
    go_wp2_with (go_at_call 69; refine HI.mono ?_; rintro e w' ⟨rfl, rfl⟩)
    go_ret3
    exact ⟨by rw [E2.out, E3.out]; rfl, 0, (World.drewN_zero _).symm⟩
  · obtain ⟨h1, h2⟩ := cut1_true hc
    obtain ⟨x, hx⟩ : ∃ x, (cut1 c s.data.toList).1 = x := ⟨_, rfl⟩
    obtain ⟨y, hy⟩ : ∃ y, (cut1 c s.data.toList).2.1 = y := ⟨_, rfl⟩
    rw [hx] at h2
    rw [hx, hy] at h1
    have hi := indexByte_at c x y h2
    rw [← h1] at hi
    rw [hi] at HI
    rw [hx, hy]
    have hxl : x.length + 1 ≤ s.size := by rw [← hsz, h1]; simp
    have hxl1 : x.length ≤ s.size := by omega
    have EX := Aside0.mk (show s.extract 0 x.length = ⟨x.toArray⟩ from extract_str (by rw [h1]; simp))
    have EY := Aside0.mk (show s.extract (x.length + 1) s.size = ⟨y.toArray⟩ from extract_str (by
      rw [← hsz, h1]; simp; exact List.take_of_length_le (by omega)))
    have HW := Aside0.mk (show IntKind.i64.wrap ((x.length : Int) + 1) = (x.length : Int) + 1 from IntWalk.i64_in _ (by omega))
    clear hc hx hy h1 h2 hsz hi
    go_enter Tryd.func55, Tryd.ntmps55
    go_wp2_with (go_at_call 69; refine HI.mono ?_; rintro e w' ⟨rfl, rfl⟩)
    go_region
    all_goals go_wp2
    go_ret3
    refine ⟨by rw [← EX.out, ← EY.out]; rfl, 1, rfl⟩
theorem cut_q (s : ByteArray) (c : UInt8) (hs : s.size ≤ 9223372036854775807) (w : World) :
    Calls Tryd.prog 44 #[.string s, .string ⟨#[c]⟩] w fun e w' => e = .returned (.tuple #[.string ⟨(cut1 c s.data.toList).1.toArray⟩, .string ⟨(cut1 c s.data.toList).2.1.toArray⟩, .bool (cut1 c s.data.toList).2.2]) ∧ ∃ n, w' = w.drewN n := by
  go_enter Tryd.func44, Tryd.ntmps44
  go_wp2_with (go_at_call 55; refine (cutIn s c hs _).mono ?_; rintro e w' ⟨rfl, n, rfl⟩)
  go_ret3
  exact ⟨rfl, n, rfl⟩

/-- The library's two errors are laid: each is some value behind the interface. -/
def Errs (w : World) : Prop := (∃ t p, w.var? Tryd.prog "strconv.ErrSyntax" = some #[.iface t p]) ∧ ∃ t p, w.var? Tryd.prog "strconv.ErrRange" = some #[.iface t p]
theorem var_below {P : Program} {w w' : World} {name : String} {cs : Array Value} (h : w.var? P name = some cs) (hb : Below w.heap.size w w') : w'.var? P name = some cs := by
  unfold World.var? at h ⊢
  obtain ⟨g, hg, h2⟩ := Option.bind_eq_some_iff.1 h
  rw [hg, Option.bind_some]
  cases hq : w.heap[g]? with
  | none => rw [hq] at h2; cases h2
  | some o => rw [hb.block g (blk_lt hq)]; exact h2

theorem Errs.below {w w' : World} (h : Errs w) (hb : Below w.heap.size w w') : Errs w' :=
  ⟨let ⟨t, p, e⟩ := h.1; ⟨t, p, var_below e hb⟩, let ⟨t, p, e⟩ := h.2; ⟨t, p, var_below e hb⟩⟩

theorem below_set' {n : Nat} {w w' : World} (h : Below n w w') {C : Nat} (hC : n ≤ C) (i : Nat) (v : Value) : Below n w (w'.setCell ⟨C, i, none⟩ v) := h.setCell hC v
theorem below_bytes (w : World) (s : ByteArray) : Below w.heap.size w (Lib.bytesWorld w 5 s) := by
  unfold Lib.bytesWorld
  exact Lib.below_freeze (below_alloc (below_drew (Below.refl _ _)) _) (Nat.le_refl _) _
theorem cut_b (s : ByteArray) (c : UInt8) (hs : s.size ≤ 9223372036854775807) (w : World) :
    Calls Tryd.prog 44 #[.string s, .string ⟨#[c]⟩] w fun e w' => e = .returned (.tuple #[.string ⟨(cut1 c s.data.toList).1.toArray⟩, .string ⟨(cut1 c s.data.toList).2.1.toArray⟩, .bool (cut1 c s.data.toList).2.2]) ∧ Below w.heap.size w w' :=
  (cut_q s c hs w).mono fun e w' ⟨he, n, hn⟩ => ⟨he, hn ▸ pw_below_drewN (Below.refl _ _) n⟩
theorem cut1_len (c : UInt8) : ∀ l : List UInt8, (cut1 c l).1.length ≤ l.length ∧ (cut1 c l).2.1.length ≤ l.length
  | [] => ⟨Nat.le_refl _, Nat.le_refl _⟩
  | b :: l => by
    unfold cut1
    have := cut1_len c l
    split
    · simp
    · simp only [List.length_cons]
      omega
theorem u32_wrap (x : Int) : IntKind.u32.wrap x = x % 4294967296 := by rfl
theorem pu32_lt {l : List UInt8} {n : Nat} (h : pu32 l = some n) : n < 4294967296 := by
  unfold pu32 at h
  split at h
  · rename_i m hm
    cases h
    have := Lib.parseUintB_le hm
    omega
  · cases h
theorem puL_yes (l : List UInt8) (n : Nat) (hn : puL l = some n) (hl : l.length ≤ 281474976710656) (w : World) :
    Calls Tryd.prog 45 #[.string ⟨l.toArray⟩, .int .i64 10, .int .i64 64] w fun e w' => e = .returned (.tuple #[.int .u64 n, .nilIface]) ∧ Below w.heap.size w w' := by
  have hz : (⟨l.toArray⟩ : ByteArray).size = l.length := by simp [ByteArray.size]
  refine (Tryd.strconv_ParseUint_10_at64_ok ⟨l.toArray⟩ (by rw [hz]; omega) n ?_ w).mono ?_
  · show Lib.parseUintB 64 l = .ok n
    unfold puL at hn
    split at hn
    · rename_i m hm; rw [hm]; cases hn; rfl
    · cases hn
  · rintro e w' ⟨rfl, rfl | rfl⟩
    · exact ⟨rfl, Below.refl _ _⟩
    · exact ⟨rfl, below_bytes _ _⟩
theorem puL_no (l : List UInt8) (hn : puL l = none) (hl : l.length ≤ 281474976710656) (w : World) (he : Errs w) :
    Calls Tryd.prog 45 #[.string ⟨l.toArray⟩, .int .i64 10, .int .i64 64] w fun e w' => (∃ v p, e = .returned (.tuple #[.int .u64 v, .iface 96 p])) ∧ Below w.heap.size w w' := by
  have hz : (⟨l.toArray⟩ : ByteArray).size = l.length := by simp [ByteArray.size]
  obtain ⟨⟨t1, p1, e1⟩, t2, p2, e2⟩ := he
  cases hq : Lib.parseUintB 64 l
  · unfold puL at hn; rw [hq] at hn; cases hn
  · exact (Any.strconv_ParseUint_10_at64_syntax_var Tryd.laysPu14 ⟨l.toArray⟩ (by rw [hz]; omega) hq t1 p1 w e1).mono fun e w' ⟨N, h1, _, _, h4⟩ => ⟨⟨_, _, h1⟩, h4⟩
  · exact (Tryd.strconv_ParseUint_10_at64_range_var ⟨l.toArray⟩ (by rw [hz]; omega) hq t2 p2 w e2).mono fun e w' ⟨N, h1, _, _, h4⟩ => ⟨⟨_, _, h1⟩, h4⟩
theorem puL_any (l : List UInt8) (hl : l.length ≤ 281474976710656) (w : World) (he : Errs w) :
    Calls Tryd.prog 45 #[.string ⟨l.toArray⟩, .int .i64 10, .int .i64 64] w fun e w' => (∃ v ev, e = .returned (.tuple #[.int .u64 v, ev])) ∧ Below w.heap.size w w' := by
  cases hn : puL l with
  | none => exact (puL_no l hn hl w he).mono fun e w' ⟨⟨v, p, h⟩, hb⟩ => ⟨⟨v, _, h⟩, hb⟩
  | some n => exact (puL_yes l n hn hl w).mono fun e w' ⟨h, hb⟩ => ⟨⟨_, _, h⟩, hb⟩
theorem pu32_yes (l : List UInt8) (n : Nat) (hn : pu32 l = some n) (hl : l.length ≤ 281474976710656) (w : World) :
    Calls Tryd.prog 45 #[.string ⟨l.toArray⟩, .int .i64 10, .int .i64 32] w fun e w' => e = .returned (.tuple #[.int .u64 n, .nilIface]) ∧ Below w.heap.size w w' := by
  have hz : (⟨l.toArray⟩ : ByteArray).size = l.length := by simp [ByteArray.size]
  refine (Tryd.strconv_ParseUint_10_at32_ok ⟨l.toArray⟩ (by rw [hz]; omega) n ?_ w).mono ?_
  · show Lib.parseUintB 32 l = .ok n
    unfold pu32 at hn
    split at hn
    · rename_i m hm; rw [hm]; cases hn; rfl
    · cases hn
  · rintro e w' ⟨rfl, rfl | rfl⟩
    · exact ⟨rfl, Below.refl _ _⟩
    · exact ⟨rfl, below_bytes _ _⟩
theorem pu32_no (l : List UInt8) (hn : pu32 l = none) (hl : l.length ≤ 281474976710656) (w : World) (he : Errs w) :
    Calls Tryd.prog 45 #[.string ⟨l.toArray⟩, .int .i64 10, .int .i64 32] w fun e w' => (∃ v p, e = .returned (.tuple #[.int .u64 v, .iface 96 p])) ∧ Below w.heap.size w w' := by
  have hz : (⟨l.toArray⟩ : ByteArray).size = l.length := by simp [ByteArray.size]
  obtain ⟨⟨t1, p1, e1⟩, t2, p2, e2⟩ := he
  cases hq : Lib.parseUintB 32 l
  · unfold pu32 at hn; rw [hq] at hn; cases hn
  · exact (Any.strconv_ParseUint_10_at32_syntax_var Tryd.laysPu14 ⟨l.toArray⟩ (by rw [hz]; omega) hq t1 p1 w e1).mono fun e w' ⟨N, h1, _, _, h4⟩ => ⟨⟨_, _, h1⟩, h4⟩
  · exact (Tryd.strconv_ParseUint_10_at32_range_var ⟨l.toArray⟩ (by rw [hz]; omega) hq t2 p2 w e2).mono fun e w' ⟨N, h1, _, _, h4⟩ => ⟨⟨_, _, h1⟩, h4⟩
theorem pu32_any (l : List UInt8) (hl : l.length ≤ 281474976710656) (w : World) (he : Errs w) :
    Calls Tryd.prog 45 #[.string ⟨l.toArray⟩, .int .i64 10, .int .i64 32] w fun e w' => (∃ v ev, e = .returned (.tuple #[.int .u64 v, ev])) ∧ Below w.heap.size w w' := by
  cases hn : pu32 l with
  | none => exact (pu32_no l hn hl w he).mono fun e w' ⟨⟨v, p, h⟩, hb⟩ => ⟨⟨v, _, h⟩, hb⟩
  | some n => exact (pu32_yes l n hn hl w).mono fun e w' ⟨h, hb⟩ => ⟨⟨_, _, h⟩, hb⟩
theorem pi64_yes (l : List UInt8) (n : Int) (hn : pi64 l = some n) (hl : l.length ≤ 281474976710656) (w : World) :
    Calls Tryd.prog 46 #[.string ⟨l.toArray⟩, .int .i64 10, .int .i64 64] w fun e w' => e = .returned (.tuple #[.int .i64 n, .nilIface]) ∧ Below w.heap.size w w' := by
  have hz : (⟨l.toArray⟩ : ByteArray).size = l.length := by simp [ByteArray.size]
  refine (Tryd.strconv_ParseInt_10_at64_ok ⟨l.toArray⟩ (by rw [hz]; omega) n ?_ w).mono ?_
  · show Lib.parseIntB 64 l = .ok n
    unfold pi64 at hn
    split at hn
    · rename_i m hm; rw [hm]; cases hn; rfl
    · cases hn
  · rintro e w' ⟨rfl, rfl | ⟨u, rfl⟩⟩
    · exact ⟨rfl, Below.refl _ _⟩
    · exact ⟨rfl, below_bytes _ _⟩
theorem pi64_no (l : List UInt8) (hn : pi64 l = none) (hl : l.length ≤ 281474976710656) (w : World) (he : Errs w) :
    Calls Tryd.prog 46 #[.string ⟨l.toArray⟩, .int .i64 10, .int .i64 64] w fun e w' => (∃ v p, e = .returned (.tuple #[.int .i64 v, .iface 96 p])) ∧ Below w.heap.size w w' := by
  have hz : (⟨l.toArray⟩ : ByteArray).size = l.length := by simp [ByteArray.size]
  obtain ⟨⟨t1, p1, e1⟩, t2, p2, e2⟩ := he
  cases hq : Lib.parseIntB 64 l
  · unfold pi64 at hn; rw [hq] at hn; cases hn
  · exact (Any.strconv_ParseInt_10_at64_syntax_var Tryd.laysC174 ⟨l.toArray⟩ (by rw [hz]; omega) hq t1 p1 w e1).mono fun e w' ⟨N, h1, _, _, h4⟩ => ⟨⟨_, _, h1⟩, h4⟩
  · exact (Tryd.strconv_ParseInt_10_at64_range_var ⟨l.toArray⟩ (by rw [hz]; omega) hq t2 p2 w e2).mono fun e w' ⟨N, h1, _, _, h4⟩ => ⟨⟨_, _, h1⟩, h4⟩
theorem pi64_any (l : List UInt8) (hl : l.length ≤ 281474976710656) (w : World) (he : Errs w) :
    Calls Tryd.prog 46 #[.string ⟨l.toArray⟩, .int .i64 10, .int .i64 64] w fun e w' => (∃ v ev, e = .returned (.tuple #[.int .i64 v, ev])) ∧ Below w.heap.size w w' := by
  cases hn : pi64 l with
  | none => exact (pi64_no l hn hl w he).mono fun e w' ⟨⟨v, p, h⟩, hb⟩ => ⟨⟨v, _, h⟩, hb⟩
  | some n => exact (pi64_yes l n hn hl w).mono fun e w' ⟨h, hb⟩ => ⟨⟨_, _, h⟩, hb⟩
set_option maxRecDepth 100000 in
set_option maxHeartbeats 4000000 in
theorem fields_A (s : ByteArray) (a r1 b r2 c r3 : List UInt8) (e1 e2 e3 : Bool) (c1 : cut1 32 s.data.toList = (a, r1, e1)) (c2 : cut1 32 r1 = (b, r2, e2)) (c3 : cut1 32 r2 = (c, r3, e3)) (hs : s.size ≤ 1000000000) (hn : puL a = none) (w : World) (he : Errs w) :
    Calls Tryd.prog 27 #[.string s] w fun e w' => (∃ n t k, e = .returned (.tuple #[.agg #[.int .u64 n, .int .u32 t, .string ⟨#[]⟩, .int .i64 k], .string ⟨r3.toArray⟩, .bool false])) ∧ Below w.heap.size w w' := by
  have hsl : s.data.toList.length = s.size := Array.length_toList
  have L1 := cut1_len 32 s.data.toList
  rw [c1] at L1
  have L2 := cut1_len 32 r1
  rw [c2] at L2
  have L3 := cut1_len 32 r2
  rw [c3] at L3
  simp only at L1 L2 L3
  have C1 := Aside0.mk (fun w1 => cut_b s 32 (by omega) w1)
  rw [c1] at C1
  have C2 := Aside0.mk (fun w1 => cut_b ⟨r1.toArray⟩ 32 (by rw [size_arr]; omega) w1)
  change Aside0 (∀ w1 : World, Calls Tryd.prog 44 #[.string ⟨r1.toArray⟩, .string ⟨#[32]⟩] w1 fun e w' => e = .returned (.tuple #[.string ⟨(cut1 32 r1).1.toArray⟩, .string ⟨(cut1 32 r1).2.1.toArray⟩, .bool (cut1 32 r1).2.2]) ∧ Below w1.heap.size w1 w') at C2
  rw [c2] at C2
  have C3 := Aside0.mk (fun w1 => cut_b ⟨r2.toArray⟩ 32 (by rw [size_arr]; omega) w1)
  change Aside0 (∀ w1 : World, Calls Tryd.prog 44 #[.string ⟨r2.toArray⟩, .string ⟨#[32]⟩] w1 fun e w' => e = .returned (.tuple #[.string ⟨(cut1 32 r2).1.toArray⟩, .string ⟨(cut1 32 r2).2.1.toArray⟩, .bool (cut1 32 r2).2.2]) ∧ Below w1.heap.size w1 w') at C3
  rw [c3] at C3
  have Ua := Aside0.mk (fun (w1 : World) (h : Errs w1) => puL_no a hn (by omega) w1 h)
  have Ub := Aside0.mk (fun (w1 : World) (h : Errs w1) => pu32_any b (by omega) w1 h)
  have Uc := Aside0.mk (fun (w1 : World) (h : Errs w1) => pi64_any c (by omega) w1 h)
  have HE := Aside0.mk he
  have D0 := Aside0.mk (below_alloc (Below.refl w.heap.size w) (.cells #[.int .u64 0, .int .u32 0, .string ⟨#[]⟩, .int .i64 0] 27))
  have X := Aside0.mk (blk_new w (.cells #[.int .u64 0, .int .u32 0, .string ⟨#[]⟩, .int .i64 0] 27))
  clear he hs hsl L1 L2 L3 c1 c2 c3 hn
  go_enter Tryd.func27, Tryd.ntmps27
  go_wp2_with fail
  refine (C1.out _).mono ?_
  rintro e w1 ⟨rfl, hb⟩
  replace X := Aside0.mk ((hb.block _ (blk_lt X.out)).trans X.out)
  have D1 := Aside0.mk (below_then D0.out D0.out.size hb)
  clear hb D0
  go_wp2_with fail
  refine (C2.out _).mono ?_
  rintro e w2 ⟨rfl, hb⟩
  replace X := Aside0.mk ((hb.block _ (blk_lt X.out)).trans X.out)
  have D2 := Aside0.mk (below_then D1.out D1.out.size hb)
  clear hb D1
  go_wp2_with fail
  refine (C3.out _).mono ?_
  rintro e w3 ⟨rfl, hb⟩
  replace X := Aside0.mk ((hb.block _ (blk_lt X.out)).trans X.out)
  have D3 := Aside0.mk (below_then D2.out D2.out.size hb)
  clear hb D2
  go_wp2_with fail
  refine (Ua.out _ (HE.out.below D3.out)).mono ?_
  rintro e w4 ⟨⟨va, pa, rfl⟩, hb⟩
  replace X := Aside0.mk ((hb.block _ (blk_lt X.out)).trans X.out)
  have D4 := Aside0.mk (below_then D3.out D3.out.size hb)
  clear hb D3
  go_wp2_with fail
  refine (Ub.out _ (HE.out.below D4.out)).mono ?_
  rintro e w5 ⟨⟨vb, pb, rfl⟩, hb⟩
  replace X := Aside0.mk ((hb.block _ (blk_lt X.out)).trans X.out)
  have D5 := Aside0.mk (below_then D4.out D4.out.size hb)
  clear hb D4
  go_wp2_with fail
  refine (Uc.out _ (HE.out.below D5.out)).mono ?_
  rintro e w6 ⟨⟨vc, pc, rfl⟩, hb⟩
  replace X := Aside0.mk ((hb.block _ (blk_lt X.out)).trans X.out)
  have D6 := Aside0.mk (below_then D5.out D5.out.size hb)
  clear hb D5
  obtain ⟨R, hR⟩ : ∃ R, R = w.heap.size := ⟨_, rfl⟩
  rw [← hR] at X
  have HRR := Aside0.mk hR
  rw [← hR]
  clear hR
  go_wp2_with fail
  have X6 : w6.drew.heap[R]? = some (.cells #[.int .u64 0, .int .u32 0, .string ⟨#[]⟩, .int .i64 0] 27 (0, 0)) := X.out
  have B6 := below_drew D6.out
  clear X D6
  refine start_ (n := 19) (S := fun w' => w'.heap[R]? = some (.cells #[.int .u64 0, .int .u32 0, .string ⟨#[]⟩, .int .i64 0] 27 (0, 0)) ∧ Below w.heap.size w w') (ds := [16]) #[false, false, false, false, false, false, false, false, false, false, false, false, false, false, false, false, false, false, false] (by kernel_rfl) rfl rfl ⟨X6, B6⟩ (fun hHeld => ?_)
  generalize w6.drew = w7 at X6 B6 hHeld ⊢
  refine pure_ (i := 0) (N := some 51) (v := ?_) (a' := ?_) #[true, false, false, false, false, false, false, false, false, false, false, false, false, false, false, false, false, false, false] rfl rfl (by kernel_rfl) (fun _ _ _ h => h) (Or.inl ⟨by rfl, ?_⟩) ?_ ?_
  rotate_left
  · intro w'
    go_simp
    with_reducible rfl
  rotate_left
  · simp only [Act.put, List.setIfInBounds_toArray, List.set_cons_zero, List.set_cons_succ, i64_w, i32_w]
    rfl
  refine pure_ (i := 1) (N := some 52) (v := ?_) (a' := ?_) #[true, true, false, false, false, false, false, false, false, false, false, false, false, false, false, false, false, false, false] rfl rfl (by kernel_rfl) (fun _ _ _ h => h) (Or.inl ⟨by rfl, ?_⟩) ?_ ?_
  rotate_left
  · intro w'
    go_simp
    with_reducible rfl
  rotate_left
  · simp only [Act.put, List.setIfInBounds_toArray, List.set_cons_zero, List.set_cons_succ, i64_w, i32_w]
    rfl
  refine pure_ (i := 2) (N := some 53) (v := ?_) (a' := ?_) #[true, true, true, false, false, false, false, false, false, false, false, false, false, false, false, false, false, false, false] rfl rfl (by kernel_rfl) (fun _ _ _ h => h) (Or.inl ⟨by rfl, ?_⟩) ?_ ?_
  rotate_left
  · intro w'
    go_simp
    with_reducible rfl
  rotate_left
  · simp only [Act.put, List.setIfInBounds_toArray, List.set_cons_zero, List.set_cons_succ, i64_w, i32_w]
    rfl
  refine pure_ (i := 3) (N := some 54) (v := ?_) (a' := ?_) #[true, true, true, true, false, false, false, false, false, false, false, false, false, false, false, false, false, false, false] rfl rfl (by kernel_rfl) (fun _ _ _ h => h) (Or.inl ⟨by rfl, ?_⟩) ?_ ?_
  rotate_left
  · intro w'
    go_simp
    with_reducible rfl
  rotate_left
  · simp only [Act.put, List.setIfInBounds_toArray, List.set_cons_zero, List.set_cons_succ, i64_w, i32_w]
    rfl
  refine pure_ (i := 4) (N := some 55) (v := ?_) (a' := ?_) #[true, true, true, true, true, false, false, false, false, false, false, false, false, false, false, false, false, false, false] rfl rfl (by kernel_rfl) (fun _ _ _ h => h) (Or.inl ⟨by rfl, ?_⟩) ?_ ?_
  rotate_left
  · intro w'
    go_simp
    with_reducible rfl
  rotate_left
  · simp only [Act.put, List.setIfInBounds_toArray, List.set_cons_zero, List.set_cons_succ, i64_w, i32_w]
    rfl
  refine pure_ (i := 5) (N := some 56) (v := ?_) (a' := ?_) #[true, true, true, true, true, true, false, false, false, false, false, false, false, false, false, false, false, false, false] rfl rfl (by kernel_rfl) (fun _ _ _ h => h) (Or.inl ⟨by rfl, ?_⟩) ?_ ?_
  rotate_left
  · intro w'
    go_simp
    with_reducible rfl
  rotate_left
  · simp only [Act.put, List.setIfInBounds_toArray, List.set_cons_zero, List.set_cons_succ, i64_w, i32_w]
    rfl
  refine pure_ (i := 6) (N := some 57) (v := ?_) (a' := ?_) #[true, true, true, true, true, true, true, false, false, false, false, false, false, false, false, false, false, false, false] rfl rfl (by kernel_rfl) (fun _ _ _ h => h) (Or.inl ⟨by rfl, ?_⟩) ?_ ?_
  rotate_left
  · intro w'
    go_simp
    with_reducible rfl
  rotate_left
  · simp only [Act.put, List.setIfInBounds_toArray, List.set_cons_zero, List.set_cons_succ, i64_w, i32_w]
    rfl
  refine pure_ (i := 7) (N := some 58) (v := ?_) (a' := ?_) #[true, true, true, true, true, true, true, true, false, false, false, false, false, false, false, false, false, false, false] rfl rfl (by kernel_rfl) (fun _ _ _ h => h) (Or.inl ⟨by rfl, ?_⟩) ?_ ?_
  rotate_left
  · intro w'
    go_simp
    with_reducible rfl
  rotate_left
  · simp only [Act.put, List.setIfInBounds_toArray, List.set_cons_zero, List.set_cons_succ, i64_w, i32_w]
    rfl
  refine pure_ (i := 8) (N := some 59) (v := ?_) (a' := ?_) #[true, true, true, true, true, true, true, true, true, false, false, false, false, false, false, false, false, false, false] rfl rfl (by kernel_rfl) (fun _ _ _ h => h) (Or.inl ⟨by rfl, ?_⟩) ?_ ?_
  rotate_left
  · intro w'
    go_simp
    with_reducible rfl
  rotate_left
  · simp only [Act.put, List.setIfInBounds_toArray, List.set_cons_zero, List.set_cons_succ, i64_w, i32_w]
    rfl
  refine pure_ (i := 9) (N := some 60) (v := undef) (a' := ?_) #[true, true, true, true, true, true, true, true, true, true, false, false, false, false, false, false, false, false, false] rfl rfl (by kernel_rfl) (fun _ _ _ h => h) (Or.inr ⟨by rfl, rfl⟩) ?_ ?_
  rotate_left
  · simp only [Act.put, List.setIfInBounds_toArray, List.set_cons_zero, List.set_cons_succ, i64_w, i32_w]
    rfl
  refine pure_ (i := 10) (N := some 61) (v := undef) (a' := ?_) #[true, true, true, true, true, true, true, true, true, true, true, false, false, false, false, false, false, false, false] rfl rfl (by kernel_rfl) (fun _ _ _ h => h) (Or.inr ⟨by rfl, rfl⟩) ?_ ?_
  rotate_left
  · simp only [Act.put, List.setIfInBounds_toArray, List.set_cons_zero, List.set_cons_succ, i64_w, i32_w]
    rfl
  refine pure_ (i := 11) (N := some 62) (v := ?_) (a' := ?_) #[true, true, true, true, true, true, true, true, true, true, true, true, false, false, false, false, false, false, false] rfl rfl (by kernel_rfl) (fun _ _ _ h => h) (Or.inl ⟨by rfl, ?_⟩) ?_ ?_
  rotate_left
  · intro w'
    go_simp
    with_reducible rfl
  rotate_left
  · simp only [Act.put, List.setIfInBounds_toArray, List.set_cons_zero, List.set_cons_succ, i64_w, i32_w]
    rfl
  refine pure_ (i := 12) (N := some 63) (v := ?_) (a' := ?_) #[true, true, true, true, true, true, true, true, true, true, true, true, true, false, false, false, false, false, false] rfl rfl (by kernel_rfl) (fun _ _ _ h => h) (Or.inl ⟨by rfl, ?_⟩) ?_ ?_
  rotate_left
  · intro w'
    go_simp
    with_reducible rfl
  rotate_left
  · simp only [Act.put, List.setIfInBounds_toArray, List.set_cons_zero, List.set_cons_succ, i64_w, i32_w]
    rfl
  refine pure_ (i := 13) (N := some 64) (v := undef) (a' := ?_) #[true, true, true, true, true, true, true, true, true, true, true, true, true, true, false, false, false, false, false] rfl rfl (by kernel_rfl) (fun _ _ _ h => h) (Or.inr ⟨by rfl, rfl⟩) ?_ ?_
  rotate_left
  · simp only [Act.put, List.setIfInBounds_toArray, List.set_cons_zero, List.set_cons_succ, i64_w, i32_w]
    rfl
  refine pure_ (i := 14) (N := some 65) (v := undef) (a' := ?_) #[true, true, true, true, true, true, true, true, true, true, true, true, true, true, true, false, false, false, false] rfl rfl (by kernel_rfl) (fun _ _ _ h => h) (Or.inr ⟨by rfl, rfl⟩) ?_ ?_
  rotate_left
  · simp only [Act.put, List.setIfInBounds_toArray, List.set_cons_zero, List.set_cons_succ, i64_w, i32_w]
    rfl
  refine pure_ (i := 15) (N := some 66) (v := ?_) (a' := ?_) #[true, true, true, true, true, true, true, true, true, true, true, true, true, true, true, true, false, false, false] rfl rfl (by kernel_rfl) (fun _ _ _ h => h) (Or.inl ⟨by rfl, ?_⟩) ?_ ?_
  rotate_left
  · intro w'
    go_simp
    with_reducible rfl
  rotate_left
  · simp only [Act.put, List.setIfInBounds_toArray, List.set_cons_zero, List.set_cons_succ, i64_w, i32_w]
    rfl
  refine last_ (i := 16) (N := none) #[true, true, true, true, true, true, true, true, true, true, true, true, true, true, true, true, true, false, false] rfl rfl (by kernel_rfl) (by decide) (fun K hK => ?_)
  have cc0 := (blk_cell hHeld.1 0).trans (show _ = some (.int .u64 0) from rfl)
  have cf0 := blk_frozen hHeld.1 0
  have cc1 := (blk_cell hHeld.1 1).trans (show _ = some (.int .u32 0) from rfl)
  have cf1 := blk_frozen hHeld.1 1
  have cc2 := (blk_cell hHeld.1 2).trans (show _ = some (.string ⟨#[]⟩) from rfl)
  have cf2 := blk_frozen hHeld.1 2
  have cc3 := (blk_cell hHeld.1 3).trans (show _ = some (.int .i64 0) from rfl)
  have cf3 := blk_frozen hHeld.1 3
  refine skip_ (w1 := ?_) (by rfl) rfl ?_ ?_
  rotate_left
  · go_simp
    rfl
  have FX := Aside0.mk (show ((((w7.setCell ⟨R, 0, none⟩ (.int .u64 (va : Int))).setCell ⟨R, 1, none⟩ (.int .u32 (IntKind.u32.wrap vb))).setCell ⟨R, 2, none⟩ (.string ⟨#[]⟩)).setCell ⟨R, 3, none⟩ (.int .i64 (vc : Int))).heap[R]? = some (.cells #[.int .u64 (va : Int), .int .u32 (IntKind.u32.wrap vb), .string ⟨#[]⟩, .int .i64 (vc : Int)] 27 (0, 0)) ∧ Below w.heap.size w ((((w7.setCell ⟨R, 0, none⟩ (.int .u64 (va : Int))).setCell ⟨R, 1, none⟩ (.int .u32 (IntKind.u32.wrap vb))).setCell ⟨R, 2, none⟩ (.string ⟨#[]⟩)).setCell ⟨R, 3, none⟩ (.int .i64 (vc : Int))) from ⟨blk_set (blk_set (blk_set (blk_set hHeld.1 0 _) 1 _) 2 _) 3 _, below_set' (below_set' (below_set' (below_set' hHeld.2 (Nat.le_of_eq HRR.out.symm) 0 _) (Nat.le_of_eq HRR.out.symm) 1 _) (Nat.le_of_eq HRR.out.symm) 2 _) (Nat.le_of_eq HRR.out.symm) 3 _⟩)
  refine hK.out _ _ ?_
  clear hK K
  refine pure_ (i := 17) (N := some 3) (v := ?_) (a' := ?_) #[true, true, true, true, true, true, true, true, true, true, true, true, true, true, true, true, true, true, false] rfl rfl (by kernel_rfl) (fun _ _ _ h => h) (Or.inl ⟨by rfl, ?_⟩) ?_ ?_
  rotate_left
  · intro w'
    go_simp
    with_reducible rfl
  rotate_left
  · simp only [Act.put, List.setIfInBounds_toArray, List.set_cons_zero, List.set_cons_succ, i64_w, i32_w]
    rfl
  refine pure_ (i := 18) (N := some 4) (v := ?_) (a' := ?_) #[true, true, true, true, true, true, true, true, true, true, true, true, true, true, true, true, true, true, true] rfl rfl (by kernel_rfl) (fun _ _ _ h => h) (Or.inl ⟨by rfl, ?_⟩) ?_ ?_
  rotate_left
  · intro w'
    go_simp
    with_reducible rfl
  rotate_left
  · simp only [Act.put, List.setIfInBounds_toArray, List.set_cons_zero, List.set_cons_succ, i64_w, i32_w]
    rfl
  refine done_ (by kernel_rfl) ?_
  have hFX := FX.out
  clear FX
  generalize ((((w7.setCell ⟨R, 0, none⟩ (.int .u64 (va : Int))).setCell ⟨R, 1, none⟩ (.int .u32 (IntKind.u32.wrap vb))).setCell ⟨R, 2, none⟩ (.string ⟨#[]⟩)).setCell ⟨R, 3, none⟩ (.int .i64 (vc : Int))) = w8 at hFX ⊢
  obtain ⟨FX1, FX2⟩ := hFX
  have rc0 : w8.cell? ⟨R, 0, none⟩ = some (.int .u64 (va : Int)) := (blk_cell FX1 0).trans rfl
  have rc1 : w8.cell? ⟨R, 1, none⟩ = some (.int .u32 (IntKind.u32.wrap vb)) := (blk_cell FX1 1).trans rfl
  have rc2 : w8.cell? ⟨R, 2, none⟩ = some (.string ⟨#[]⟩) := (blk_cell FX1 2).trans rfl
  have rc3 : w8.cell? ⟨R, 3, none⟩ = some (.int .i64 (vc : Int)) := (blk_cell FX1 3).trans rfl
  go_wp2
  refine bodyPost_ret (v := .tuple #[.agg #[.int .u64 (va : Int), .int .u32 (IntKind.u32.wrap vb), .string ⟨#[]⟩, .int .i64 (vc : Int)], .string ⟨r3.toArray⟩, .bool false]) (by simp [results, Tryd.results27, go_sem, rc0, rc1, rc2, rc3]) rfl ⟨⟨_, _, _, rfl⟩, FX2⟩
set_option maxRecDepth 100000 in
set_option maxHeartbeats 4000000 in
theorem fields_B (s : ByteArray) (a r1 b r2 c r3 : List UInt8) (e1 e2 e3 : Bool) (c1 : cut1 32 s.data.toList = (a, r1, e1)) (c2 : cut1 32 r1 = (b, r2, e2)) (c3 : cut1 32 r2 = (c, r3, e3)) (hs : s.size ≤ 1000000000) (n : Nat) (hn : puL a = some n) (ht : pu32 b = none) (w : World) (he : Errs w) :
    Calls Tryd.prog 27 #[.string s] w fun e w' => (∃ n t k, e = .returned (.tuple #[.agg #[.int .u64 n, .int .u32 t, .string ⟨#[]⟩, .int .i64 k], .string ⟨r3.toArray⟩, .bool false])) ∧ Below w.heap.size w w' := by
  have hsl : s.data.toList.length = s.size := Array.length_toList
  have L1 := cut1_len 32 s.data.toList
  rw [c1] at L1
  have L2 := cut1_len 32 r1
  rw [c2] at L2
  have L3 := cut1_len 32 r2
  rw [c3] at L3
  simp only at L1 L2 L3
  have C1 := Aside0.mk (fun w1 => cut_b s 32 (by omega) w1)
  rw [c1] at C1
  have C2 := Aside0.mk (fun w1 => cut_b ⟨r1.toArray⟩ 32 (by rw [size_arr]; omega) w1)
  change Aside0 (∀ w1 : World, Calls Tryd.prog 44 #[.string ⟨r1.toArray⟩, .string ⟨#[32]⟩] w1 fun e w' => e = .returned (.tuple #[.string ⟨(cut1 32 r1).1.toArray⟩, .string ⟨(cut1 32 r1).2.1.toArray⟩, .bool (cut1 32 r1).2.2]) ∧ Below w1.heap.size w1 w') at C2
  rw [c2] at C2
  have C3 := Aside0.mk (fun w1 => cut_b ⟨r2.toArray⟩ 32 (by rw [size_arr]; omega) w1)
  change Aside0 (∀ w1 : World, Calls Tryd.prog 44 #[.string ⟨r2.toArray⟩, .string ⟨#[32]⟩] w1 fun e w' => e = .returned (.tuple #[.string ⟨(cut1 32 r2).1.toArray⟩, .string ⟨(cut1 32 r2).2.1.toArray⟩, .bool (cut1 32 r2).2.2]) ∧ Below w1.heap.size w1 w') at C3
  rw [c3] at C3
  have Ua := Aside0.mk (fun (w1 : World) (_ : Errs w1) => puL_yes a n hn (by omega) w1)
  have Ub := Aside0.mk (fun (w1 : World) (h : Errs w1) => pu32_no b ht (by omega) w1 h)
  have Uc := Aside0.mk (fun (w1 : World) (h : Errs w1) => pi64_any c (by omega) w1 h)
  have HE := Aside0.mk he
  have D0 := Aside0.mk (below_alloc (Below.refl w.heap.size w) (.cells #[.int .u64 0, .int .u32 0, .string ⟨#[]⟩, .int .i64 0] 27))
  have X := Aside0.mk (blk_new w (.cells #[.int .u64 0, .int .u32 0, .string ⟨#[]⟩, .int .i64 0] 27))
  clear he hs hsl L1 L2 L3 c1 c2 c3 hn ht
  go_enter Tryd.func27, Tryd.ntmps27
  go_wp2_with fail
  refine (C1.out _).mono ?_
  rintro e w1 ⟨rfl, hb⟩
  replace X := Aside0.mk ((hb.block _ (blk_lt X.out)).trans X.out)
  have D1 := Aside0.mk (below_then D0.out D0.out.size hb)
  clear hb D0
  go_wp2_with fail
  refine (C2.out _).mono ?_
  rintro e w2 ⟨rfl, hb⟩
  replace X := Aside0.mk ((hb.block _ (blk_lt X.out)).trans X.out)
  have D2 := Aside0.mk (below_then D1.out D1.out.size hb)
  clear hb D1
  go_wp2_with fail
  refine (C3.out _).mono ?_
  rintro e w3 ⟨rfl, hb⟩
  replace X := Aside0.mk ((hb.block _ (blk_lt X.out)).trans X.out)
  have D3 := Aside0.mk (below_then D2.out D2.out.size hb)
  clear hb D2
  go_wp2_with fail
  refine (Ua.out _ (HE.out.below D3.out)).mono ?_
  rintro e w4 ⟨rfl, hb⟩
  replace X := Aside0.mk ((hb.block _ (blk_lt X.out)).trans X.out)
  have D4 := Aside0.mk (below_then D3.out D3.out.size hb)
  clear hb D3
  go_wp2_with fail
  refine (Ub.out _ (HE.out.below D4.out)).mono ?_
  rintro e w5 ⟨⟨vb, pb, rfl⟩, hb⟩
  replace X := Aside0.mk ((hb.block _ (blk_lt X.out)).trans X.out)
  have D5 := Aside0.mk (below_then D4.out D4.out.size hb)
  clear hb D4
  go_wp2_with fail
  refine (Uc.out _ (HE.out.below D5.out)).mono ?_
  rintro e w6 ⟨⟨vc, pc, rfl⟩, hb⟩
  replace X := Aside0.mk ((hb.block _ (blk_lt X.out)).trans X.out)
  have D6 := Aside0.mk (below_then D5.out D5.out.size hb)
  clear hb D5
  obtain ⟨R, hR⟩ : ∃ R, R = w.heap.size := ⟨_, rfl⟩
  rw [← hR] at X
  have HRR := Aside0.mk hR
  rw [← hR]
  clear hR
  go_wp2_with fail
  have X6 : w6.drew.heap[R]? = some (.cells #[.int .u64 0, .int .u32 0, .string ⟨#[]⟩, .int .i64 0] 27 (0, 0)) := X.out
  have B6 := below_drew D6.out
  clear X D6
  refine start_ (n := 19) (S := fun w' => w'.heap[R]? = some (.cells #[.int .u64 0, .int .u32 0, .string ⟨#[]⟩, .int .i64 0] 27 (0, 0)) ∧ Below w.heap.size w w') (ds := [16]) #[false, false, false, false, false, false, false, false, false, false, false, false, false, false, false, false, false, false, false] (by kernel_rfl) rfl rfl ⟨X6, B6⟩ (fun hHeld => ?_)
  generalize w6.drew = w7 at X6 B6 hHeld ⊢
  refine pure_ (i := 0) (N := some 51) (v := ?_) (a' := ?_) #[true, false, false, false, false, false, false, false, false, false, false, false, false, false, false, false, false, false, false] rfl rfl (by kernel_rfl) (fun _ _ _ h => h) (Or.inl ⟨by rfl, ?_⟩) ?_ ?_
  rotate_left
  · intro w'
    go_simp
    with_reducible rfl
  rotate_left
  · simp only [Act.put, List.setIfInBounds_toArray, List.set_cons_zero, List.set_cons_succ, i64_w, i32_w]
    rfl
  refine pure_ (i := 1) (N := some 52) (v := ?_) (a' := ?_) #[true, true, false, false, false, false, false, false, false, false, false, false, false, false, false, false, false, false, false] rfl rfl (by kernel_rfl) (fun _ _ _ h => h) (Or.inl ⟨by rfl, ?_⟩) ?_ ?_
  rotate_left
  · intro w'
    go_simp
    with_reducible rfl
  rotate_left
  · simp only [Act.put, List.setIfInBounds_toArray, List.set_cons_zero, List.set_cons_succ, i64_w, i32_w]
    rfl
  refine pure_ (i := 2) (N := some 53) (v := ?_) (a' := ?_) #[true, true, true, false, false, false, false, false, false, false, false, false, false, false, false, false, false, false, false] rfl rfl (by kernel_rfl) (fun _ _ _ h => h) (Or.inl ⟨by rfl, ?_⟩) ?_ ?_
  rotate_left
  · intro w'
    go_simp
    with_reducible rfl
  rotate_left
  · simp only [Act.put, List.setIfInBounds_toArray, List.set_cons_zero, List.set_cons_succ, i64_w, i32_w]
    rfl
  refine pure_ (i := 3) (N := some 54) (v := ?_) (a' := ?_) #[true, true, true, true, false, false, false, false, false, false, false, false, false, false, false, false, false, false, false] rfl rfl (by kernel_rfl) (fun _ _ _ h => h) (Or.inl ⟨by rfl, ?_⟩) ?_ ?_
  rotate_left
  · intro w'
    go_simp
    with_reducible rfl
  rotate_left
  · simp only [Act.put, List.setIfInBounds_toArray, List.set_cons_zero, List.set_cons_succ, i64_w, i32_w]
    rfl
  refine pure_ (i := 4) (N := some 55) (v := ?_) (a' := ?_) #[true, true, true, true, true, false, false, false, false, false, false, false, false, false, false, false, false, false, false] rfl rfl (by kernel_rfl) (fun _ _ _ h => h) (Or.inl ⟨by rfl, ?_⟩) ?_ ?_
  rotate_left
  · intro w'
    go_simp
    with_reducible rfl
  rotate_left
  · simp only [Act.put, List.setIfInBounds_toArray, List.set_cons_zero, List.set_cons_succ, i64_w, i32_w]
    rfl
  refine pure_ (i := 5) (N := some 56) (v := ?_) (a' := ?_) #[true, true, true, true, true, true, false, false, false, false, false, false, false, false, false, false, false, false, false] rfl rfl (by kernel_rfl) (fun _ _ _ h => h) (Or.inl ⟨by rfl, ?_⟩) ?_ ?_
  rotate_left
  · intro w'
    go_simp
    with_reducible rfl
  rotate_left
  · simp only [Act.put, List.setIfInBounds_toArray, List.set_cons_zero, List.set_cons_succ, i64_w, i32_w]
    rfl
  refine pure_ (i := 6) (N := some 57) (v := ?_) (a' := ?_) #[true, true, true, true, true, true, true, false, false, false, false, false, false, false, false, false, false, false, false] rfl rfl (by kernel_rfl) (fun _ _ _ h => h) (Or.inl ⟨by rfl, ?_⟩) ?_ ?_
  rotate_left
  · intro w'
    go_simp
    with_reducible rfl
  rotate_left
  · simp only [Act.put, List.setIfInBounds_toArray, List.set_cons_zero, List.set_cons_succ, i64_w, i32_w]
    rfl
  refine pure_ (i := 7) (N := some 58) (v := ?_) (a' := ?_) #[true, true, true, true, true, true, true, true, false, false, false, false, false, false, false, false, false, false, false] rfl rfl (by kernel_rfl) (fun _ _ _ h => h) (Or.inl ⟨by rfl, ?_⟩) ?_ ?_
  rotate_left
  · intro w'
    go_simp
    with_reducible rfl
  rotate_left
  · simp only [Act.put, List.setIfInBounds_toArray, List.set_cons_zero, List.set_cons_succ, i64_w, i32_w]
    rfl
  refine pure_ (i := 8) (N := some 59) (v := ?_) (a' := ?_) #[true, true, true, true, true, true, true, true, true, false, false, false, false, false, false, false, false, false, false] rfl rfl (by kernel_rfl) (fun _ _ _ h => h) (Or.inl ⟨by rfl, ?_⟩) ?_ ?_
  rotate_left
  · intro w'
    go_simp
    with_reducible rfl
  rotate_left
  · simp only [Act.put, List.setIfInBounds_toArray, List.set_cons_zero, List.set_cons_succ, i64_w, i32_w]
    rfl
  refine pure_ (i := 9) (N := some 60) (v := ?_) (a' := ?_) #[true, true, true, true, true, true, true, true, true, true, false, false, false, false, false, false, false, false, false] rfl rfl (by kernel_rfl) (fun _ _ _ h => h) (Or.inl ⟨by rfl, ?_⟩) ?_ ?_
  rotate_left
  · intro w'
    go_simp
    with_reducible rfl
  rotate_left
  · simp only [Act.put, List.setIfInBounds_toArray, List.set_cons_zero, List.set_cons_succ, i64_w, i32_w]
    rfl
  refine pure_ (i := 10) (N := some 61) (v := ?_) (a' := ?_) #[true, true, true, true, true, true, true, true, true, true, true, false, false, false, false, false, false, false, false] rfl rfl (by kernel_rfl) (fun _ _ _ h => h) (Or.inl ⟨by rfl, ?_⟩) ?_ ?_
  rotate_left
  · intro w'
    go_simp
    with_reducible rfl
  rotate_left
  · simp only [Act.put, List.setIfInBounds_toArray, List.set_cons_zero, List.set_cons_succ, i64_w, i32_w]
    rfl
  refine pure_ (i := 11) (N := some 62) (v := ?_) (a' := ?_) #[true, true, true, true, true, true, true, true, true, true, true, true, false, false, false, false, false, false, false] rfl rfl (by kernel_rfl) (fun _ _ _ h => h) (Or.inl ⟨by rfl, ?_⟩) ?_ ?_
  rotate_left
  · intro w'
    go_simp
    with_reducible rfl
  rotate_left
  · simp only [Act.put, List.setIfInBounds_toArray, List.set_cons_zero, List.set_cons_succ, i64_w, i32_w]
    rfl
  refine pure_ (i := 12) (N := some 63) (v := ?_) (a' := ?_) #[true, true, true, true, true, true, true, true, true, true, true, true, true, false, false, false, false, false, false] rfl rfl (by kernel_rfl) (fun _ _ _ h => h) (Or.inl ⟨by rfl, ?_⟩) ?_ ?_
  rotate_left
  · intro w'
    go_simp
    with_reducible rfl
  rotate_left
  · simp only [Act.put, List.setIfInBounds_toArray, List.set_cons_zero, List.set_cons_succ, i64_w, i32_w]
    rfl
  refine pure_ (i := 13) (N := some 64) (v := undef) (a' := ?_) #[true, true, true, true, true, true, true, true, true, true, true, true, true, true, false, false, false, false, false] rfl rfl (by kernel_rfl) (fun _ _ _ h => h) (Or.inr ⟨by rfl, rfl⟩) ?_ ?_
  rotate_left
  · simp only [Act.put, List.setIfInBounds_toArray, List.set_cons_zero, List.set_cons_succ, i64_w, i32_w]
    rfl
  refine pure_ (i := 14) (N := some 65) (v := undef) (a' := ?_) #[true, true, true, true, true, true, true, true, true, true, true, true, true, true, true, false, false, false, false] rfl rfl (by kernel_rfl) (fun _ _ _ h => h) (Or.inr ⟨by rfl, rfl⟩) ?_ ?_
  rotate_left
  · simp only [Act.put, List.setIfInBounds_toArray, List.set_cons_zero, List.set_cons_succ, i64_w, i32_w]
    rfl
  refine pure_ (i := 15) (N := some 66) (v := ?_) (a' := ?_) #[true, true, true, true, true, true, true, true, true, true, true, true, true, true, true, true, false, false, false] rfl rfl (by kernel_rfl) (fun _ _ _ h => h) (Or.inl ⟨by rfl, ?_⟩) ?_ ?_
  rotate_left
  · intro w'
    go_simp
    with_reducible rfl
  rotate_left
  · simp only [Act.put, List.setIfInBounds_toArray, List.set_cons_zero, List.set_cons_succ, i64_w, i32_w]
    rfl
  refine last_ (i := 16) (N := none) #[true, true, true, true, true, true, true, true, true, true, true, true, true, true, true, true, true, false, false] rfl rfl (by kernel_rfl) (by decide) (fun K hK => ?_)
  have cc0 := (blk_cell hHeld.1 0).trans (show _ = some (.int .u64 0) from rfl)
  have cf0 := blk_frozen hHeld.1 0
  have cc1 := (blk_cell hHeld.1 1).trans (show _ = some (.int .u32 0) from rfl)
  have cf1 := blk_frozen hHeld.1 1
  have cc2 := (blk_cell hHeld.1 2).trans (show _ = some (.string ⟨#[]⟩) from rfl)
  have cf2 := blk_frozen hHeld.1 2
  have cc3 := (blk_cell hHeld.1 3).trans (show _ = some (.int .i64 0) from rfl)
  have cf3 := blk_frozen hHeld.1 3
  refine skip_ (w1 := ?_) (by rfl) rfl ?_ ?_
  rotate_left
  · go_simp
    rfl
  have FX := Aside0.mk (show ((((w7.setCell ⟨R, 0, none⟩ (.int .u64 (n : Int))).setCell ⟨R, 1, none⟩ (.int .u32 (IntKind.u32.wrap vb))).setCell ⟨R, 2, none⟩ (.string ⟨#[]⟩)).setCell ⟨R, 3, none⟩ (.int .i64 (vc : Int))).heap[R]? = some (.cells #[.int .u64 (n : Int), .int .u32 (IntKind.u32.wrap vb), .string ⟨#[]⟩, .int .i64 (vc : Int)] 27 (0, 0)) ∧ Below w.heap.size w ((((w7.setCell ⟨R, 0, none⟩ (.int .u64 (n : Int))).setCell ⟨R, 1, none⟩ (.int .u32 (IntKind.u32.wrap vb))).setCell ⟨R, 2, none⟩ (.string ⟨#[]⟩)).setCell ⟨R, 3, none⟩ (.int .i64 (vc : Int))) from ⟨blk_set (blk_set (blk_set (blk_set hHeld.1 0 _) 1 _) 2 _) 3 _, below_set' (below_set' (below_set' (below_set' hHeld.2 (Nat.le_of_eq HRR.out.symm) 0 _) (Nat.le_of_eq HRR.out.symm) 1 _) (Nat.le_of_eq HRR.out.symm) 2 _) (Nat.le_of_eq HRR.out.symm) 3 _⟩)
  refine hK.out _ _ ?_
  clear hK K
  refine pure_ (i := 17) (N := some 3) (v := ?_) (a' := ?_) #[true, true, true, true, true, true, true, true, true, true, true, true, true, true, true, true, true, true, false] rfl rfl (by kernel_rfl) (fun _ _ _ h => h) (Or.inl ⟨by rfl, ?_⟩) ?_ ?_
  rotate_left
  · intro w'
    go_simp
    with_reducible rfl
  rotate_left
  · simp only [Act.put, List.setIfInBounds_toArray, List.set_cons_zero, List.set_cons_succ, i64_w, i32_w]
    rfl
  refine pure_ (i := 18) (N := some 4) (v := ?_) (a' := ?_) #[true, true, true, true, true, true, true, true, true, true, true, true, true, true, true, true, true, true, true] rfl rfl (by kernel_rfl) (fun _ _ _ h => h) (Or.inl ⟨by rfl, ?_⟩) ?_ ?_
  rotate_left
  · intro w'
    go_simp
    with_reducible rfl
  rotate_left
  · simp only [Act.put, List.setIfInBounds_toArray, List.set_cons_zero, List.set_cons_succ, i64_w, i32_w]
    rfl
  refine done_ (by kernel_rfl) ?_
  have hFX := FX.out
  clear FX
  generalize ((((w7.setCell ⟨R, 0, none⟩ (.int .u64 (n : Int))).setCell ⟨R, 1, none⟩ (.int .u32 (IntKind.u32.wrap vb))).setCell ⟨R, 2, none⟩ (.string ⟨#[]⟩)).setCell ⟨R, 3, none⟩ (.int .i64 (vc : Int))) = w8 at hFX ⊢
  obtain ⟨FX1, FX2⟩ := hFX
  have rc0 : w8.cell? ⟨R, 0, none⟩ = some (.int .u64 (n : Int)) := (blk_cell FX1 0).trans rfl
  have rc1 : w8.cell? ⟨R, 1, none⟩ = some (.int .u32 (IntKind.u32.wrap vb)) := (blk_cell FX1 1).trans rfl
  have rc2 : w8.cell? ⟨R, 2, none⟩ = some (.string ⟨#[]⟩) := (blk_cell FX1 2).trans rfl
  have rc3 : w8.cell? ⟨R, 3, none⟩ = some (.int .i64 (vc : Int)) := (blk_cell FX1 3).trans rfl
  go_wp2
  refine bodyPost_ret (v := .tuple #[.agg #[.int .u64 (n : Int), .int .u32 (IntKind.u32.wrap vb), .string ⟨#[]⟩, .int .i64 (vc : Int)], .string ⟨r3.toArray⟩, .bool false]) (by simp [results, Tryd.results27, go_sem, rc0, rc1, rc2, rc3]) rfl ⟨⟨_, _, _, rfl⟩, FX2⟩
set_option maxRecDepth 100000 in
set_option maxHeartbeats 4000000 in
theorem fields_C (s : ByteArray) (a r1 b r2 c r3 : List UInt8) (e1 e2 e3 : Bool) (c1 : cut1 32 s.data.toList = (a, r1, e1)) (c2 : cut1 32 r1 = (b, r2, e2)) (c3 : cut1 32 r2 = (c, r3, e3)) (hs : s.size ≤ 1000000000) (n : Nat) (hn : puL a = some n) (t : Nat) (ht : pu32 b = some t) (hk : pi64 c = none) (w : World) (he : Errs w) :
    Calls Tryd.prog 27 #[.string s] w fun e w' => (∃ n t k, e = .returned (.tuple #[.agg #[.int .u64 n, .int .u32 t, .string ⟨#[]⟩, .int .i64 k], .string ⟨r3.toArray⟩, .bool false])) ∧ Below w.heap.size w w' := by
  have hsl : s.data.toList.length = s.size := Array.length_toList
  have L1 := cut1_len 32 s.data.toList
  rw [c1] at L1
  have L2 := cut1_len 32 r1
  rw [c2] at L2
  have L3 := cut1_len 32 r2
  rw [c3] at L3
  simp only at L1 L2 L3
  have C1 := Aside0.mk (fun w1 => cut_b s 32 (by omega) w1)
  rw [c1] at C1
  have C2 := Aside0.mk (fun w1 => cut_b ⟨r1.toArray⟩ 32 (by rw [size_arr]; omega) w1)
  change Aside0 (∀ w1 : World, Calls Tryd.prog 44 #[.string ⟨r1.toArray⟩, .string ⟨#[32]⟩] w1 fun e w' => e = .returned (.tuple #[.string ⟨(cut1 32 r1).1.toArray⟩, .string ⟨(cut1 32 r1).2.1.toArray⟩, .bool (cut1 32 r1).2.2]) ∧ Below w1.heap.size w1 w') at C2
  rw [c2] at C2
  have C3 := Aside0.mk (fun w1 => cut_b ⟨r2.toArray⟩ 32 (by rw [size_arr]; omega) w1)
  change Aside0 (∀ w1 : World, Calls Tryd.prog 44 #[.string ⟨r2.toArray⟩, .string ⟨#[32]⟩] w1 fun e w' => e = .returned (.tuple #[.string ⟨(cut1 32 r2).1.toArray⟩, .string ⟨(cut1 32 r2).2.1.toArray⟩, .bool (cut1 32 r2).2.2]) ∧ Below w1.heap.size w1 w') at C3
  rw [c3] at C3
  have Ua := Aside0.mk (fun (w1 : World) (_ : Errs w1) => puL_yes a n hn (by omega) w1)
  have Ub := Aside0.mk (fun (w1 : World) (_ : Errs w1) => pu32_yes b t ht (by omega) w1)
  have Uc := Aside0.mk (fun (w1 : World) (h : Errs w1) => pi64_no c hk (by omega) w1 h)
  have ht32 : (t : Int) < 4294967296 := by have := pu32_lt ht; omega
  have HWT := Aside0.mk (show IntKind.u32.wrap (t : Int) = (t : Int) from by rw [u32_wrap]; omega)
  have HE := Aside0.mk he
  have D0 := Aside0.mk (below_alloc (Below.refl w.heap.size w) (.cells #[.int .u64 0, .int .u32 0, .string ⟨#[]⟩, .int .i64 0] 27))
  have X := Aside0.mk (blk_new w (.cells #[.int .u64 0, .int .u32 0, .string ⟨#[]⟩, .int .i64 0] 27))
  clear he hs hsl L1 L2 L3 c1 c2 c3 hn ht hk
  go_enter Tryd.func27, Tryd.ntmps27
  go_wp2_with fail
  refine (C1.out _).mono ?_
  rintro e w1 ⟨rfl, hb⟩
  replace X := Aside0.mk ((hb.block _ (blk_lt X.out)).trans X.out)
  have D1 := Aside0.mk (below_then D0.out D0.out.size hb)
  clear hb D0
  go_wp2_with fail
  refine (C2.out _).mono ?_
  rintro e w2 ⟨rfl, hb⟩
  replace X := Aside0.mk ((hb.block _ (blk_lt X.out)).trans X.out)
  have D2 := Aside0.mk (below_then D1.out D1.out.size hb)
  clear hb D1
  go_wp2_with fail
  refine (C3.out _).mono ?_
  rintro e w3 ⟨rfl, hb⟩
  replace X := Aside0.mk ((hb.block _ (blk_lt X.out)).trans X.out)
  have D3 := Aside0.mk (below_then D2.out D2.out.size hb)
  clear hb D2
  go_wp2_with fail
  refine (Ua.out _ (HE.out.below D3.out)).mono ?_
  rintro e w4 ⟨rfl, hb⟩
  replace X := Aside0.mk ((hb.block _ (blk_lt X.out)).trans X.out)
  have D4 := Aside0.mk (below_then D3.out D3.out.size hb)
  clear hb D3
  go_wp2_with fail
  refine (Ub.out _ (HE.out.below D4.out)).mono ?_
  rintro e w5 ⟨rfl, hb⟩
  replace X := Aside0.mk ((hb.block _ (blk_lt X.out)).trans X.out)
  have D5 := Aside0.mk (below_then D4.out D4.out.size hb)
  clear hb D4
  go_wp2_with fail
  refine (Uc.out _ (HE.out.below D5.out)).mono ?_
  rintro e w6 ⟨⟨vc, pc, rfl⟩, hb⟩
  replace X := Aside0.mk ((hb.block _ (blk_lt X.out)).trans X.out)
  have D6 := Aside0.mk (below_then D5.out D5.out.size hb)
  clear hb D5
  have hwt := HWT.out
  obtain ⟨R, hR⟩ : ∃ R, R = w.heap.size := ⟨_, rfl⟩
  rw [← hR] at X
  have HRR := Aside0.mk hR
  rw [← hR]
  clear hR
  go_wp2_with fail
  have X6 : w6.drew.heap[R]? = some (.cells #[.int .u64 0, .int .u32 0, .string ⟨#[]⟩, .int .i64 0] 27 (0, 0)) := X.out
  have B6 := below_drew D6.out
  clear X D6
  refine start_ (n := 19) (S := fun w' => w'.heap[R]? = some (.cells #[.int .u64 0, .int .u32 0, .string ⟨#[]⟩, .int .i64 0] 27 (0, 0)) ∧ Below w.heap.size w w') (ds := [16]) #[false, false, false, false, false, false, false, false, false, false, false, false, false, false, false, false, false, false, false] (by kernel_rfl) rfl rfl ⟨X6, B6⟩ (fun hHeld => ?_)
  generalize w6.drew = w7 at X6 B6 hHeld ⊢
  refine pure_ (i := 0) (N := some 51) (v := ?_) (a' := ?_) #[true, false, false, false, false, false, false, false, false, false, false, false, false, false, false, false, false, false, false] rfl rfl (by kernel_rfl) (fun _ _ _ h => h) (Or.inl ⟨by rfl, ?_⟩) ?_ ?_
  rotate_left
  · intro w'
    go_simp
    with_reducible rfl
  rotate_left
  · simp only [Act.put, List.setIfInBounds_toArray, List.set_cons_zero, List.set_cons_succ, i64_w, i32_w]
    rfl
  refine pure_ (i := 1) (N := some 52) (v := ?_) (a' := ?_) #[true, true, false, false, false, false, false, false, false, false, false, false, false, false, false, false, false, false, false] rfl rfl (by kernel_rfl) (fun _ _ _ h => h) (Or.inl ⟨by rfl, ?_⟩) ?_ ?_
  rotate_left
  · intro w'
    go_simp
    with_reducible rfl
  rotate_left
  · simp only [Act.put, List.setIfInBounds_toArray, List.set_cons_zero, List.set_cons_succ, i64_w, i32_w]
    rfl
  refine pure_ (i := 2) (N := some 53) (v := ?_) (a' := ?_) #[true, true, true, false, false, false, false, false, false, false, false, false, false, false, false, false, false, false, false] rfl rfl (by kernel_rfl) (fun _ _ _ h => h) (Or.inl ⟨by rfl, ?_⟩) ?_ ?_
  rotate_left
  · intro w'
    go_simp
    with_reducible rfl
  rotate_left
  · simp only [Act.put, List.setIfInBounds_toArray, List.set_cons_zero, List.set_cons_succ, i64_w, i32_w]
    rfl
  refine pure_ (i := 3) (N := some 54) (v := ?_) (a' := ?_) #[true, true, true, true, false, false, false, false, false, false, false, false, false, false, false, false, false, false, false] rfl rfl (by kernel_rfl) (fun _ _ _ h => h) (Or.inl ⟨by rfl, ?_⟩) ?_ ?_
  rotate_left
  · intro w'
    go_simp
    with_reducible rfl
  rotate_left
  · simp only [Act.put, List.setIfInBounds_toArray, List.set_cons_zero, List.set_cons_succ, i64_w, i32_w]
    rfl
  refine pure_ (i := 4) (N := some 55) (v := ?_) (a' := ?_) #[true, true, true, true, true, false, false, false, false, false, false, false, false, false, false, false, false, false, false] rfl rfl (by kernel_rfl) (fun _ _ _ h => h) (Or.inl ⟨by rfl, ?_⟩) ?_ ?_
  rotate_left
  · intro w'
    go_simp
    with_reducible rfl
  rotate_left
  · simp only [Act.put, List.setIfInBounds_toArray, List.set_cons_zero, List.set_cons_succ, i64_w, i32_w]
    rfl
  refine pure_ (i := 5) (N := some 56) (v := ?_) (a' := ?_) #[true, true, true, true, true, true, false, false, false, false, false, false, false, false, false, false, false, false, false] rfl rfl (by kernel_rfl) (fun _ _ _ h => h) (Or.inl ⟨by rfl, ?_⟩) ?_ ?_
  rotate_left
  · intro w'
    go_simp
    with_reducible rfl
  rotate_left
  · simp only [Act.put, List.setIfInBounds_toArray, List.set_cons_zero, List.set_cons_succ, i64_w, i32_w]
    rfl
  refine pure_ (i := 6) (N := some 57) (v := ?_) (a' := ?_) #[true, true, true, true, true, true, true, false, false, false, false, false, false, false, false, false, false, false, false] rfl rfl (by kernel_rfl) (fun _ _ _ h => h) (Or.inl ⟨by rfl, ?_⟩) ?_ ?_
  rotate_left
  · intro w'
    go_simp
    with_reducible rfl
  rotate_left
  · simp only [Act.put, List.setIfInBounds_toArray, List.set_cons_zero, List.set_cons_succ, i64_w, i32_w]
    rfl
  refine pure_ (i := 7) (N := some 58) (v := ?_) (a' := ?_) #[true, true, true, true, true, true, true, true, false, false, false, false, false, false, false, false, false, false, false] rfl rfl (by kernel_rfl) (fun _ _ _ h => h) (Or.inl ⟨by rfl, ?_⟩) ?_ ?_
  rotate_left
  · intro w'
    go_simp
    with_reducible rfl
  rotate_left
  · simp only [Act.put, List.setIfInBounds_toArray, List.set_cons_zero, List.set_cons_succ, i64_w, i32_w]
    rfl
  refine pure_ (i := 8) (N := some 59) (v := ?_) (a' := ?_) #[true, true, true, true, true, true, true, true, true, false, false, false, false, false, false, false, false, false, false] rfl rfl (by kernel_rfl) (fun _ _ _ h => h) (Or.inl ⟨by rfl, ?_⟩) ?_ ?_
  rotate_left
  · intro w'
    go_simp
    with_reducible rfl
  rotate_left
  · simp only [Act.put, List.setIfInBounds_toArray, List.set_cons_zero, List.set_cons_succ, i64_w, i32_w]
    rfl
  refine pure_ (i := 9) (N := some 60) (v := ?_) (a' := ?_) #[true, true, true, true, true, true, true, true, true, true, false, false, false, false, false, false, false, false, false] rfl rfl (by kernel_rfl) (fun _ _ _ h => h) (Or.inl ⟨by rfl, ?_⟩) ?_ ?_
  rotate_left
  · intro w'
    go_simp
    with_reducible rfl
  rotate_left
  · simp only [Act.put, List.setIfInBounds_toArray, List.set_cons_zero, List.set_cons_succ, i64_w, i32_w]
    rfl
  refine pure_ (i := 10) (N := some 61) (v := ?_) (a' := ?_) #[true, true, true, true, true, true, true, true, true, true, true, false, false, false, false, false, false, false, false] rfl rfl (by kernel_rfl) (fun _ _ _ h => h) (Or.inl ⟨by rfl, ?_⟩) ?_ ?_
  rotate_left
  · intro w'
    go_simp
    with_reducible rfl
  rotate_left
  · simp only [Act.put, List.setIfInBounds_toArray, List.set_cons_zero, List.set_cons_succ, i64_w, i32_w]
    rfl
  refine pure_ (i := 11) (N := some 62) (v := ?_) (a' := ?_) #[true, true, true, true, true, true, true, true, true, true, true, true, false, false, false, false, false, false, false] rfl rfl (by kernel_rfl) (fun _ _ _ h => h) (Or.inl ⟨by rfl, ?_⟩) ?_ ?_
  rotate_left
  · intro w'
    go_simp
    with_reducible rfl
  rotate_left
  · simp only [Act.put, List.setIfInBounds_toArray, List.set_cons_zero, List.set_cons_succ, i64_w, i32_w]
    rfl
  refine pure_ (i := 12) (N := some 63) (v := ?_) (a' := ?_) #[true, true, true, true, true, true, true, true, true, true, true, true, true, false, false, false, false, false, false] rfl rfl (by kernel_rfl) (fun _ _ _ h => h) (Or.inl ⟨by rfl, ?_⟩) ?_ ?_
  rotate_left
  · intro w'
    go_simp
    with_reducible rfl
  rotate_left
  · simp only [Act.put, List.setIfInBounds_toArray, List.set_cons_zero, List.set_cons_succ, i64_w, i32_w]
    rfl
  refine pure_ (i := 13) (N := some 64) (v := ?_) (a' := ?_) #[true, true, true, true, true, true, true, true, true, true, true, true, true, true, false, false, false, false, false] rfl rfl (by kernel_rfl) (fun _ _ _ h => h) (Or.inl ⟨by rfl, ?_⟩) ?_ ?_
  rotate_left
  · intro w'
    go_simp
    with_reducible rfl
  rotate_left
  · simp only [Act.put, List.setIfInBounds_toArray, List.set_cons_zero, List.set_cons_succ, i64_w, i32_w]
    rfl
  refine pure_ (i := 14) (N := some 65) (v := ?_) (a' := ?_) #[true, true, true, true, true, true, true, true, true, true, true, true, true, true, true, false, false, false, false] rfl rfl (by kernel_rfl) (fun _ _ _ h => h) (Or.inl ⟨by rfl, ?_⟩) ?_ ?_
  rotate_left
  · intro w'
    go_simp
    with_reducible rfl
  rotate_left
  · simp only [Act.put, List.setIfInBounds_toArray, List.set_cons_zero, List.set_cons_succ, i64_w, i32_w]
    rfl
  refine pure_ (i := 15) (N := some 66) (v := ?_) (a' := ?_) #[true, true, true, true, true, true, true, true, true, true, true, true, true, true, true, true, false, false, false] rfl rfl (by kernel_rfl) (fun _ _ _ h => h) (Or.inl ⟨by rfl, ?_⟩) ?_ ?_
  rotate_left
  · intro w'
    go_simp
    with_reducible rfl
  rotate_left
  · simp only [Act.put, List.setIfInBounds_toArray, List.set_cons_zero, List.set_cons_succ, i64_w, i32_w]
    rfl
  refine last_ (i := 16) (N := none) #[true, true, true, true, true, true, true, true, true, true, true, true, true, true, true, true, true, false, false] rfl rfl (by kernel_rfl) (by decide) (fun K hK => ?_)
  have cc0 := (blk_cell hHeld.1 0).trans (show _ = some (.int .u64 0) from rfl)
  have cf0 := blk_frozen hHeld.1 0
  have cc1 := (blk_cell hHeld.1 1).trans (show _ = some (.int .u32 0) from rfl)
  have cf1 := blk_frozen hHeld.1 1
  have cc2 := (blk_cell hHeld.1 2).trans (show _ = some (.string ⟨#[]⟩) from rfl)
  have cf2 := blk_frozen hHeld.1 2
  have cc3 := (blk_cell hHeld.1 3).trans (show _ = some (.int .i64 0) from rfl)
  have cf3 := blk_frozen hHeld.1 3
  refine skip_ (w1 := ?_) (by rfl) rfl ?_ ?_
  rotate_left
  · go_simp
    rfl
  have FX := Aside0.mk (show ((((w7.setCell ⟨R, 0, none⟩ (.int .u64 (n : Int))).setCell ⟨R, 1, none⟩ (.int .u32 (t : Int))).setCell ⟨R, 2, none⟩ (.string ⟨#[]⟩)).setCell ⟨R, 3, none⟩ (.int .i64 (vc : Int))).heap[R]? = some (.cells #[.int .u64 (n : Int), .int .u32 (t : Int), .string ⟨#[]⟩, .int .i64 (vc : Int)] 27 (0, 0)) ∧ Below w.heap.size w ((((w7.setCell ⟨R, 0, none⟩ (.int .u64 (n : Int))).setCell ⟨R, 1, none⟩ (.int .u32 (t : Int))).setCell ⟨R, 2, none⟩ (.string ⟨#[]⟩)).setCell ⟨R, 3, none⟩ (.int .i64 (vc : Int))) from ⟨blk_set (blk_set (blk_set (blk_set hHeld.1 0 _) 1 _) 2 _) 3 _, below_set' (below_set' (below_set' (below_set' hHeld.2 (Nat.le_of_eq HRR.out.symm) 0 _) (Nat.le_of_eq HRR.out.symm) 1 _) (Nat.le_of_eq HRR.out.symm) 2 _) (Nat.le_of_eq HRR.out.symm) 3 _⟩)
  refine hK.out _ _ ?_
  clear hK K
  refine pure_ (i := 17) (N := some 3) (v := ?_) (a' := ?_) #[true, true, true, true, true, true, true, true, true, true, true, true, true, true, true, true, true, true, false] rfl rfl (by kernel_rfl) (fun _ _ _ h => h) (Or.inl ⟨by rfl, ?_⟩) ?_ ?_
  rotate_left
  · intro w'
    go_simp
    with_reducible rfl
  rotate_left
  · simp only [Act.put, List.setIfInBounds_toArray, List.set_cons_zero, List.set_cons_succ, i64_w, i32_w]
    rfl
  refine pure_ (i := 18) (N := some 4) (v := ?_) (a' := ?_) #[true, true, true, true, true, true, true, true, true, true, true, true, true, true, true, true, true, true, true] rfl rfl (by kernel_rfl) (fun _ _ _ h => h) (Or.inl ⟨by rfl, ?_⟩) ?_ ?_
  rotate_left
  · intro w'
    go_simp
    with_reducible rfl
  rotate_left
  · simp only [Act.put, List.setIfInBounds_toArray, List.set_cons_zero, List.set_cons_succ, i64_w, i32_w]
    rfl
  refine done_ (by kernel_rfl) ?_
  have hFX := FX.out
  clear FX
  generalize ((((w7.setCell ⟨R, 0, none⟩ (.int .u64 (n : Int))).setCell ⟨R, 1, none⟩ (.int .u32 (t : Int))).setCell ⟨R, 2, none⟩ (.string ⟨#[]⟩)).setCell ⟨R, 3, none⟩ (.int .i64 (vc : Int))) = w8 at hFX ⊢
  obtain ⟨FX1, FX2⟩ := hFX
  have rc0 : w8.cell? ⟨R, 0, none⟩ = some (.int .u64 (n : Int)) := (blk_cell FX1 0).trans rfl
  have rc1 : w8.cell? ⟨R, 1, none⟩ = some (.int .u32 (t : Int)) := (blk_cell FX1 1).trans rfl
  have rc2 : w8.cell? ⟨R, 2, none⟩ = some (.string ⟨#[]⟩) := (blk_cell FX1 2).trans rfl
  have rc3 : w8.cell? ⟨R, 3, none⟩ = some (.int .i64 (vc : Int)) := (blk_cell FX1 3).trans rfl
  go_wp2
  refine bodyPost_ret (v := .tuple #[.agg #[.int .u64 (n : Int), .int .u32 (t : Int), .string ⟨#[]⟩, .int .i64 (vc : Int)], .string ⟨r3.toArray⟩, .bool false]) (by simp [results, Tryd.results27, go_sem, rc0, rc1, rc2, rc3]) rfl ⟨⟨_, _, _, rfl⟩, FX2⟩
set_option maxRecDepth 100000 in
set_option maxHeartbeats 4000000 in
theorem fields_D (s : ByteArray) (a r1 b r2 c r3 : List UInt8) (e1 e2 e3 : Bool) (c1 : cut1 32 s.data.toList = (a, r1, e1)) (c2 : cut1 32 r1 = (b, r2, e2)) (c3 : cut1 32 r2 = (c, r3, e3)) (hs : s.size ≤ 1000000000) (n : Nat) (hn : puL a = some n) (t : Nat) (ht : pu32 b = some t) (k : Int) (hk : pi64 c = some k) (w : World) (he : Errs w) :
    Calls Tryd.prog 27 #[.string s] w fun e w' => e = .returned (.tuple #[.agg #[.int .u64 n, .int .u32 t, .string ⟨#[]⟩, .int .i64 k], .string ⟨r3.toArray⟩, .bool true]) ∧ Below w.heap.size w w' := by
  have hsl : s.data.toList.length = s.size := Array.length_toList
  have L1 := cut1_len 32 s.data.toList
  rw [c1] at L1
  have L2 := cut1_len 32 r1
  rw [c2] at L2
  have L3 := cut1_len 32 r2
  rw [c3] at L3
  simp only at L1 L2 L3
  have C1 := Aside0.mk (fun w1 => cut_b s 32 (by omega) w1)
  rw [c1] at C1
  have C2 := Aside0.mk (fun w1 => cut_b ⟨r1.toArray⟩ 32 (by rw [size_arr]; omega) w1)
  change Aside0 (∀ w1 : World, Calls Tryd.prog 44 #[.string ⟨r1.toArray⟩, .string ⟨#[32]⟩] w1 fun e w' => e = .returned (.tuple #[.string ⟨(cut1 32 r1).1.toArray⟩, .string ⟨(cut1 32 r1).2.1.toArray⟩, .bool (cut1 32 r1).2.2]) ∧ Below w1.heap.size w1 w') at C2
  rw [c2] at C2
  have C3 := Aside0.mk (fun w1 => cut_b ⟨r2.toArray⟩ 32 (by rw [size_arr]; omega) w1)
  change Aside0 (∀ w1 : World, Calls Tryd.prog 44 #[.string ⟨r2.toArray⟩, .string ⟨#[32]⟩] w1 fun e w' => e = .returned (.tuple #[.string ⟨(cut1 32 r2).1.toArray⟩, .string ⟨(cut1 32 r2).2.1.toArray⟩, .bool (cut1 32 r2).2.2]) ∧ Below w1.heap.size w1 w') at C3
  rw [c3] at C3
  have Ua := Aside0.mk (fun (w1 : World) (_ : Errs w1) => puL_yes a n hn (by omega) w1)
  have Ub := Aside0.mk (fun (w1 : World) (_ : Errs w1) => pu32_yes b t ht (by omega) w1)
  have Uc := Aside0.mk (fun (w1 : World) (_ : Errs w1) => pi64_yes c k hk (by omega) w1)
  have ht32 : (t : Int) < 4294967296 := by have := pu32_lt ht; omega
  have HWT := Aside0.mk (show IntKind.u32.wrap (t : Int) = (t : Int) from by rw [u32_wrap]; omega)
  have HE := Aside0.mk he
  have D0 := Aside0.mk (below_alloc (Below.refl w.heap.size w) (.cells #[.int .u64 0, .int .u32 0, .string ⟨#[]⟩, .int .i64 0] 27))
  have X := Aside0.mk (blk_new w (.cells #[.int .u64 0, .int .u32 0, .string ⟨#[]⟩, .int .i64 0] 27))
  clear he hs hsl L1 L2 L3 c1 c2 c3 hn ht hk
  go_enter Tryd.func27, Tryd.ntmps27
  go_wp2_with fail
  refine (C1.out _).mono ?_
  rintro e w1 ⟨rfl, hb⟩
  replace X := Aside0.mk ((hb.block _ (blk_lt X.out)).trans X.out)
  have D1 := Aside0.mk (below_then D0.out D0.out.size hb)
  clear hb D0
  go_wp2_with fail
  refine (C2.out _).mono ?_
  rintro e w2 ⟨rfl, hb⟩
  replace X := Aside0.mk ((hb.block _ (blk_lt X.out)).trans X.out)
  have D2 := Aside0.mk (below_then D1.out D1.out.size hb)
  clear hb D1
  go_wp2_with fail
  refine (C3.out _).mono ?_
  rintro e w3 ⟨rfl, hb⟩
  replace X := Aside0.mk ((hb.block _ (blk_lt X.out)).trans X.out)
  have D3 := Aside0.mk (below_then D2.out D2.out.size hb)
  clear hb D2
  go_wp2_with fail
  refine (Ua.out _ (HE.out.below D3.out)).mono ?_
  rintro e w4 ⟨rfl, hb⟩
  replace X := Aside0.mk ((hb.block _ (blk_lt X.out)).trans X.out)
  have D4 := Aside0.mk (below_then D3.out D3.out.size hb)
  clear hb D3
  go_wp2_with fail
  refine (Ub.out _ (HE.out.below D4.out)).mono ?_
  rintro e w5 ⟨rfl, hb⟩
  replace X := Aside0.mk ((hb.block _ (blk_lt X.out)).trans X.out)
  have D5 := Aside0.mk (below_then D4.out D4.out.size hb)
  clear hb D4
  go_wp2_with fail
  refine (Uc.out _ (HE.out.below D5.out)).mono ?_
  rintro e w6 ⟨rfl, hb⟩
  replace X := Aside0.mk ((hb.block _ (blk_lt X.out)).trans X.out)
  have D6 := Aside0.mk (below_then D5.out D5.out.size hb)
  clear hb D5
  have hwt := HWT.out
  obtain ⟨R, hR⟩ : ∃ R, R = w.heap.size := ⟨_, rfl⟩
  rw [← hR] at X
  have HRR := Aside0.mk hR
  rw [← hR]
  clear hR
  go_wp2_with fail
  have X6 : w6.drew.heap[R]? = some (.cells #[.int .u64 0, .int .u32 0, .string ⟨#[]⟩, .int .i64 0] 27 (0, 0)) := X.out
  have B6 := below_drew D6.out
  clear X D6
  refine start_ (n := 19) (S := fun w' => w'.heap[R]? = some (.cells #[.int .u64 0, .int .u32 0, .string ⟨#[]⟩, .int .i64 0] 27 (0, 0)) ∧ Below w.heap.size w w') (ds := [16]) #[false, false, false, false, false, false, false, false, false, false, false, false, false, false, false, false, false, false, false] (by kernel_rfl) rfl rfl ⟨X6, B6⟩ (fun hHeld => ?_)
  generalize w6.drew = w7 at X6 B6 hHeld ⊢
  refine pure_ (i := 0) (N := some 51) (v := ?_) (a' := ?_) #[true, false, false, false, false, false, false, false, false, false, false, false, false, false, false, false, false, false, false] rfl rfl (by kernel_rfl) (fun _ _ _ h => h) (Or.inl ⟨by rfl, ?_⟩) ?_ ?_
  rotate_left
  · intro w'
    go_simp
    with_reducible rfl
  rotate_left
  · simp only [Act.put, List.setIfInBounds_toArray, List.set_cons_zero, List.set_cons_succ, i64_w, i32_w]
    rfl
  refine pure_ (i := 1) (N := some 52) (v := ?_) (a' := ?_) #[true, true, false, false, false, false, false, false, false, false, false, false, false, false, false, false, false, false, false] rfl rfl (by kernel_rfl) (fun _ _ _ h => h) (Or.inl ⟨by rfl, ?_⟩) ?_ ?_
  rotate_left
  · intro w'
    go_simp
    with_reducible rfl
  rotate_left
  · simp only [Act.put, List.setIfInBounds_toArray, List.set_cons_zero, List.set_cons_succ, i64_w, i32_w]
    rfl
  refine pure_ (i := 2) (N := some 53) (v := ?_) (a' := ?_) #[true, true, true, false, false, false, false, false, false, false, false, false, false, false, false, false, false, false, false] rfl rfl (by kernel_rfl) (fun _ _ _ h => h) (Or.inl ⟨by rfl, ?_⟩) ?_ ?_
  rotate_left
  · intro w'
    go_simp
    with_reducible rfl
  rotate_left
  · simp only [Act.put, List.setIfInBounds_toArray, List.set_cons_zero, List.set_cons_succ, i64_w, i32_w]
    rfl
  refine pure_ (i := 3) (N := some 54) (v := ?_) (a' := ?_) #[true, true, true, true, false, false, false, false, false, false, false, false, false, false, false, false, false, false, false] rfl rfl (by kernel_rfl) (fun _ _ _ h => h) (Or.inl ⟨by rfl, ?_⟩) ?_ ?_
  rotate_left
  · intro w'
    go_simp
    with_reducible rfl
  rotate_left
  · simp only [Act.put, List.setIfInBounds_toArray, List.set_cons_zero, List.set_cons_succ, i64_w, i32_w]
    rfl
  refine pure_ (i := 4) (N := some 55) (v := ?_) (a' := ?_) #[true, true, true, true, true, false, false, false, false, false, false, false, false, false, false, false, false, false, false] rfl rfl (by kernel_rfl) (fun _ _ _ h => h) (Or.inl ⟨by rfl, ?_⟩) ?_ ?_
  rotate_left
  · intro w'
    go_simp
    with_reducible rfl
  rotate_left
  · simp only [Act.put, List.setIfInBounds_toArray, List.set_cons_zero, List.set_cons_succ, i64_w, i32_w]
    rfl
  refine pure_ (i := 5) (N := some 56) (v := ?_) (a' := ?_) #[true, true, true, true, true, true, false, false, false, false, false, false, false, false, false, false, false, false, false] rfl rfl (by kernel_rfl) (fun _ _ _ h => h) (Or.inl ⟨by rfl, ?_⟩) ?_ ?_
  rotate_left
  · intro w'
    go_simp
    with_reducible rfl
  rotate_left
  · simp only [Act.put, List.setIfInBounds_toArray, List.set_cons_zero, List.set_cons_succ, i64_w, i32_w]
    rfl
  refine pure_ (i := 6) (N := some 57) (v := ?_) (a' := ?_) #[true, true, true, true, true, true, true, false, false, false, false, false, false, false, false, false, false, false, false] rfl rfl (by kernel_rfl) (fun _ _ _ h => h) (Or.inl ⟨by rfl, ?_⟩) ?_ ?_
  rotate_left
  · intro w'
    go_simp
    with_reducible rfl
  rotate_left
  · simp only [Act.put, List.setIfInBounds_toArray, List.set_cons_zero, List.set_cons_succ, i64_w, i32_w]
    rfl
  refine pure_ (i := 7) (N := some 58) (v := ?_) (a' := ?_) #[true, true, true, true, true, true, true, true, false, false, false, false, false, false, false, false, false, false, false] rfl rfl (by kernel_rfl) (fun _ _ _ h => h) (Or.inl ⟨by rfl, ?_⟩) ?_ ?_
  rotate_left
  · intro w'
    go_simp
    with_reducible rfl
  rotate_left
  · simp only [Act.put, List.setIfInBounds_toArray, List.set_cons_zero, List.set_cons_succ, i64_w, i32_w]
    rfl
  refine pure_ (i := 8) (N := some 59) (v := ?_) (a' := ?_) #[true, true, true, true, true, true, true, true, true, false, false, false, false, false, false, false, false, false, false] rfl rfl (by kernel_rfl) (fun _ _ _ h => h) (Or.inl ⟨by rfl, ?_⟩) ?_ ?_
  rotate_left
  · intro w'
    go_simp
    with_reducible rfl
  rotate_left
  · simp only [Act.put, List.setIfInBounds_toArray, List.set_cons_zero, List.set_cons_succ, i64_w, i32_w]
    rfl
  refine pure_ (i := 9) (N := some 60) (v := ?_) (a' := ?_) #[true, true, true, true, true, true, true, true, true, true, false, false, false, false, false, false, false, false, false] rfl rfl (by kernel_rfl) (fun _ _ _ h => h) (Or.inl ⟨by rfl, ?_⟩) ?_ ?_
  rotate_left
  · intro w'
    go_simp
    with_reducible rfl
  rotate_left
  · simp only [Act.put, List.setIfInBounds_toArray, List.set_cons_zero, List.set_cons_succ, i64_w, i32_w]
    rfl
  refine pure_ (i := 10) (N := some 61) (v := ?_) (a' := ?_) #[true, true, true, true, true, true, true, true, true, true, true, false, false, false, false, false, false, false, false] rfl rfl (by kernel_rfl) (fun _ _ _ h => h) (Or.inl ⟨by rfl, ?_⟩) ?_ ?_
  rotate_left
  · intro w'
    go_simp
    with_reducible rfl
  rotate_left
  · simp only [Act.put, List.setIfInBounds_toArray, List.set_cons_zero, List.set_cons_succ, i64_w, i32_w]
    rfl
  refine pure_ (i := 11) (N := some 62) (v := ?_) (a' := ?_) #[true, true, true, true, true, true, true, true, true, true, true, true, false, false, false, false, false, false, false] rfl rfl (by kernel_rfl) (fun _ _ _ h => h) (Or.inl ⟨by rfl, ?_⟩) ?_ ?_
  rotate_left
  · intro w'
    go_simp
    with_reducible rfl
  rotate_left
  · simp only [Act.put, List.setIfInBounds_toArray, List.set_cons_zero, List.set_cons_succ, i64_w, i32_w]
    rfl
  refine pure_ (i := 12) (N := some 63) (v := ?_) (a' := ?_) #[true, true, true, true, true, true, true, true, true, true, true, true, true, false, false, false, false, false, false] rfl rfl (by kernel_rfl) (fun _ _ _ h => h) (Or.inl ⟨by rfl, ?_⟩) ?_ ?_
  rotate_left
  · intro w'
    go_simp
    with_reducible rfl
  rotate_left
  · simp only [Act.put, List.setIfInBounds_toArray, List.set_cons_zero, List.set_cons_succ, i64_w, i32_w]
    rfl
  refine pure_ (i := 13) (N := some 64) (v := ?_) (a' := ?_) #[true, true, true, true, true, true, true, true, true, true, true, true, true, true, false, false, false, false, false] rfl rfl (by kernel_rfl) (fun _ _ _ h => h) (Or.inl ⟨by rfl, ?_⟩) ?_ ?_
  rotate_left
  · intro w'
    go_simp
    with_reducible rfl
  rotate_left
  · simp only [Act.put, List.setIfInBounds_toArray, List.set_cons_zero, List.set_cons_succ, i64_w, i32_w]
    rfl
  refine pure_ (i := 14) (N := some 65) (v := ?_) (a' := ?_) #[true, true, true, true, true, true, true, true, true, true, true, true, true, true, true, false, false, false, false] rfl rfl (by kernel_rfl) (fun _ _ _ h => h) (Or.inl ⟨by rfl, ?_⟩) ?_ ?_
  rotate_left
  · intro w'
    go_simp
    with_reducible rfl
  rotate_left
  · simp only [Act.put, List.setIfInBounds_toArray, List.set_cons_zero, List.set_cons_succ, i64_w, i32_w]
    rfl
  refine pure_ (i := 15) (N := some 66) (v := ?_) (a' := ?_) #[true, true, true, true, true, true, true, true, true, true, true, true, true, true, true, true, false, false, false] rfl rfl (by kernel_rfl) (fun _ _ _ h => h) (Or.inl ⟨by rfl, ?_⟩) ?_ ?_
  rotate_left
  · intro w'
    go_simp
    with_reducible rfl
  rotate_left
  · simp only [Act.put, List.setIfInBounds_toArray, List.set_cons_zero, List.set_cons_succ, i64_w, i32_w]
    rfl
  refine last_ (i := 16) (N := none) #[true, true, true, true, true, true, true, true, true, true, true, true, true, true, true, true, true, false, false] rfl rfl (by kernel_rfl) (by decide) (fun K hK => ?_)
  have cc0 := (blk_cell hHeld.1 0).trans (show _ = some (.int .u64 0) from rfl)
  have cf0 := blk_frozen hHeld.1 0
  have cc1 := (blk_cell hHeld.1 1).trans (show _ = some (.int .u32 0) from rfl)
  have cf1 := blk_frozen hHeld.1 1
  have cc2 := (blk_cell hHeld.1 2).trans (show _ = some (.string ⟨#[]⟩) from rfl)
  have cf2 := blk_frozen hHeld.1 2
  have cc3 := (blk_cell hHeld.1 3).trans (show _ = some (.int .i64 0) from rfl)
  have cf3 := blk_frozen hHeld.1 3
  refine skip_ (w1 := ?_) (by rfl) rfl ?_ ?_
  rotate_left
  · go_simp
    rfl
  have FX := Aside0.mk (show ((((w7.setCell ⟨R, 0, none⟩ (.int .u64 (n : Int))).setCell ⟨R, 1, none⟩ (.int .u32 (t : Int))).setCell ⟨R, 2, none⟩ (.string ⟨#[]⟩)).setCell ⟨R, 3, none⟩ (.int .i64 (k : Int))).heap[R]? = some (.cells #[.int .u64 (n : Int), .int .u32 (t : Int), .string ⟨#[]⟩, .int .i64 (k : Int)] 27 (0, 0)) ∧ Below w.heap.size w ((((w7.setCell ⟨R, 0, none⟩ (.int .u64 (n : Int))).setCell ⟨R, 1, none⟩ (.int .u32 (t : Int))).setCell ⟨R, 2, none⟩ (.string ⟨#[]⟩)).setCell ⟨R, 3, none⟩ (.int .i64 (k : Int))) from ⟨blk_set (blk_set (blk_set (blk_set hHeld.1 0 _) 1 _) 2 _) 3 _, below_set' (below_set' (below_set' (below_set' hHeld.2 (Nat.le_of_eq HRR.out.symm) 0 _) (Nat.le_of_eq HRR.out.symm) 1 _) (Nat.le_of_eq HRR.out.symm) 2 _) (Nat.le_of_eq HRR.out.symm) 3 _⟩)
  refine hK.out _ _ ?_
  clear hK K
  refine pure_ (i := 17) (N := some 3) (v := ?_) (a' := ?_) #[true, true, true, true, true, true, true, true, true, true, true, true, true, true, true, true, true, true, false] rfl rfl (by kernel_rfl) (fun _ _ _ h => h) (Or.inl ⟨by rfl, ?_⟩) ?_ ?_
  rotate_left
  · intro w'
    go_simp
    with_reducible rfl
  rotate_left
  · simp only [Act.put, List.setIfInBounds_toArray, List.set_cons_zero, List.set_cons_succ, i64_w, i32_w]
    rfl
  refine pure_ (i := 18) (N := some 4) (v := ?_) (a' := ?_) #[true, true, true, true, true, true, true, true, true, true, true, true, true, true, true, true, true, true, true] rfl rfl (by kernel_rfl) (fun _ _ _ h => h) (Or.inl ⟨by rfl, ?_⟩) ?_ ?_
  rotate_left
  · intro w'
    go_simp
    with_reducible rfl
  rotate_left
  · simp only [Act.put, List.setIfInBounds_toArray, List.set_cons_zero, List.set_cons_succ, i64_w, i32_w]
    rfl
  refine done_ (by kernel_rfl) ?_
  have hFX := FX.out
  clear FX
  generalize ((((w7.setCell ⟨R, 0, none⟩ (.int .u64 (n : Int))).setCell ⟨R, 1, none⟩ (.int .u32 (t : Int))).setCell ⟨R, 2, none⟩ (.string ⟨#[]⟩)).setCell ⟨R, 3, none⟩ (.int .i64 (k : Int))) = w8 at hFX ⊢
  obtain ⟨FX1, FX2⟩ := hFX
  have rc0 : w8.cell? ⟨R, 0, none⟩ = some (.int .u64 (n : Int)) := (blk_cell FX1 0).trans rfl
  have rc1 : w8.cell? ⟨R, 1, none⟩ = some (.int .u32 (t : Int)) := (blk_cell FX1 1).trans rfl
  have rc2 : w8.cell? ⟨R, 2, none⟩ = some (.string ⟨#[]⟩) := (blk_cell FX1 2).trans rfl
  have rc3 : w8.cell? ⟨R, 3, none⟩ = some (.int .i64 (k : Int)) := (blk_cell FX1 3).trans rfl
  go_wp2
  refine bodyPost_ret (v := .tuple #[.agg #[.int .u64 (n : Int), .int .u32 (t : Int), .string ⟨#[]⟩, .int .i64 (k : Int)], .string ⟨r3.toArray⟩, .bool true]) (by simp [results, Tryd.results27, go_sem, rc0, rc1, rc2, rc3]) rfl ⟨rfl, FX2⟩
end Go.Proofs.YtoeioacgpildpaaDoor
