/- The parser's small methods: what each takes, and that it panics where it must. -/
import Derived.Test.YtljgmbpfeajmhaaDoorFmt
import Derived.Test.YtljgmbpfeajmhaaDoorWMore
import Derived.WalkSpells
import Derived.WalkLawsBesides
set_option linter.unusedVariables false
set_option linter.unusedSimpArgs false
namespace Go.Proofs.YtljgmbpfeajmhaaDoor
open Go.Proofs Go.Shelf Go.RowKit Go.Proofs.YtljgmbpfeajmhaaDoorW.PrintWords

/-- What the parser panics with. -/
def trouble : PanicEntry := { v := .iface 39 (.agg #[]), recovered := false }
theorem need_true (w : World) : Calls Tryd.prog 31 #[.bool true] w fun e w' => e = .returned (.tuple #[]) ∧ w' = w := by
  go_enter Tryd.func31, Tryd.ntmps31
  go_wp2
  go_end0
  exact ⟨rfl, rfl⟩
theorem need_false (w : World) : Calls Tryd.prog 31 #[.bool false] w fun e w' => e = .panicked [trouble] ∧ w' = w := by
  go_enter Tryd.func31, Tryd.ntmps31
  go_wp2
  exact ⟨rfl, rfl, rfl⟩
theorem need_any (b : Bool) (w : World) : Calls Tryd.prog 31 #[.bool b] w fun e w' => e = (if b = true then .returned (.tuple #[]) else .panicked [trouble]) ∧ w' = w := by
  cases b
  · exact need_false w
  · exact need_true w
theorem indexByte_at (c : UInt8) : ∀ (x y : List UInt8), c ∉ x → Lib.indexByte (x ++ c :: y) c = (x.length : Int)
  | [], y, _ => by simp [Lib.indexByte]
  | b :: x, y, h => by
    have hb : (b == c) = false := beq_eq_false_iff_ne.2 (fun e => h (by simp [e]))
    have ih := indexByte_at c x y (fun hm => h (List.mem_cons_of_mem _ hm))
    rw [List.cons_append, Lib.indexByte, if_neg (by rw [hb]; decide), ih, if_neg (by rw [beq_iff_eq]; omega), List.length_cons]; push_cast
    omega
theorem indexByte_no (c : UInt8) : ∀ (x : List UInt8), c ∉ x → Lib.indexByte x c = -1
  | [], _ => rfl
  | b :: x, h => by
    have hb : (b == c) = false := beq_eq_false_iff_ne.2 (fun e => h (by simp [e]))
    have ih := indexByte_no c x (fun hm => h (List.mem_cons_of_mem _ hm))
    rw [Lib.indexByte, if_neg (by rw [hb]; decide), ih]
    rfl
/-- A text up to its first byte of a kind, and what is behind it. -/
def cut1 (c : UInt8) : List UInt8 → List UInt8 × List UInt8 × Bool
  | [] => ([], [], false)
  | b :: l => if b = c then ([], l, true) else (b :: (cut1 c l).1, (cut1 c l).2)
theorem cut1_true {c : UInt8} : ∀ {l : List UInt8}, (cut1 c l).2.2 = true → l = (cut1 c l).1 ++ c :: (cut1 c l).2.1 ∧ c ∉ (cut1 c l).1
  | [], h => by simp [cut1] at h
  | b :: l, h => by
    unfold cut1 at h ⊢
    split
    · rename_i e; subst e; simp
    · rename_i e
      rw [if_neg e] at h
      have ih := cut1_true (c := c) (l := l) h
      refine ⟨?_, ?_⟩
      · simp only [List.cons_append]
        rw [← ih.1]
      · intro hm
        rcases List.mem_cons.1 hm with h1 | h1
        · exact e h1.symm
        · exact ih.2 h1
theorem cut1_false {c : UInt8} : ∀ {l : List UInt8}, (cut1 c l).2.2 = false → c ∉ l ∧ (cut1 c l).1 = l ∧ (cut1 c l).2.1 = []
  | [], h => by simp [cut1]
  | b :: l, h => by
    unfold cut1 at h ⊢
    split
    · rename_i e; rw [if_pos e] at h; simp at h
    · rename_i e
      rw [if_neg e] at h
      have ih := cut1_false (c := c) (l := l) h
      refine ⟨fun hm => ?_, by simp only [ih.2.1], ih.2.2⟩
      rcases List.mem_cons.1 hm with h1 | h1
      · exact e h1.symm
      · exact ih.1 h1
theorem extract_str {s : ByteArray} {l : List UInt8} {a b : Nat} (h : (s.data.toList.drop a).take (b - a) = l) : s.extract a b = ⟨l.toArray⟩ := by
  apply ByteArray.ext
  apply Array.ext'
  rw [Lib.extract_data, h]
theorem cutIn (s : ByteArray) (c : UInt8) (hs : s.size ≤ 9223372036854775807) (w : World) :
    Calls Tryd.prog 41 #[.string s, .string ⟨#[c]⟩] w fun e w' => e = .returned (.tuple #[.string ⟨(cut1 c s.data.toList).1.toArray⟩, .string ⟨(cut1 c s.data.toList).2.1.toArray⟩, .bool (cut1 c s.data.toList).2.2]) ∧ ∃ n, w' = w.drewN n := by
  have HI := Tryd.stringslite_Index_one s c w
  have hsz : s.data.toList.length = s.size := by rw [Array.length_toList]; rfl
  cases hc : (cut1 c s.data.toList).2.2
  · obtain ⟨h1, h2, h3⟩ := cut1_false hc
    rw [indexByte_no c _ h1] at HI
    have E2 := Aside0.mk h2
    have E3 := Aside0.mk h3
    clear hc h2 h3 hsz
    go_enter Tryd.func41, Tryd.ntmps41
    go_wp2_with (go_at_call 49; refine HI.mono ?_; rintro e w' ⟨rfl, rfl⟩)
    go_ret3
    exact ⟨by rw [E2.out, E3.out]; rfl, 0, (World.drewN_zero _).symm⟩
  · obtain ⟨h1, h2⟩ := cut1_true hc
    obtain ⟨x, hx⟩ : ∃ x, (cut1 c s.data.toList).1 = x := ⟨_, rfl⟩
    obtain ⟨y, hy⟩ : ∃ y, (cut1 c s.data.toList).2.1 = y := ⟨_, rfl⟩
    rw [hx] at h2
    rw [hx, hy] at h1
    have hi := indexByte_at c x y h2
    rw [← h1] at hi
    rw [hi] at HI
    rw [hx, hy]
    have hxl : x.length + 1 ≤ s.size := by rw [← hsz, h1]; simp
    have hxl1 : x.length ≤ s.size := by omega
    have EX := Aside0.mk (show s.extract 0 x.length = ⟨x.toArray⟩ from extract_str (by rw [h1]; simp))
    have EY := Aside0.mk (show s.extract (x.length + 1) s.size = ⟨y.toArray⟩ from extract_str (by
      rw [← hsz, h1]; simp; exact List.take_of_length_le (by omega)))
    have HW := Aside0.mk (show IntKind.i64.wrap ((x.length : Int) + 1) = (x.length : Int) + 1 from IntWalk.i64_in _ (by omega))
    clear hc hx hy h1 h2 hsz hi
    go_enter Tryd.func41, Tryd.ntmps41
    go_wp2_with (go_at_call 49; refine HI.mono ?_; rintro e w' ⟨rfl, rfl⟩)
    go_region
    all_goals go_wp2
    go_ret3
    refine ⟨by rw [← EX.out, ← EY.out]; rfl, 1, rfl⟩
theorem cut_q (s : ByteArray) (c : UInt8) (hs : s.size ≤ 9223372036854775807) (w : World) :
    Calls Tryd.prog 35 #[.string s, .string ⟨#[c]⟩] w fun e w' => e = .returned (.tuple #[.string ⟨(cut1 c s.data.toList).1.toArray⟩, .string ⟨(cut1 c s.data.toList).2.1.toArray⟩, .bool (cut1 c s.data.toList).2.2]) ∧ ∃ n, w' = w.drewN n := by
  go_enter Tryd.func35, Tryd.ntmps35
  go_wp2_with (go_at_call 41; refine (cutIn s c hs _).mono ?_; rintro e w' ⟨rfl, n, rfl⟩)
  go_ret3
  exact ⟨rfl, n, rfl⟩
theorem g_set {w w' : World} {B : Nat} (h : w.grownBy w' (some B)) (i : Nat) (v : Value) : w.grownBy (w'.setCell ⟨B, i, none⟩ v) (some B) :=
  ⟨h.os, h.tape, h.output, by simp [World.setCell]; exact h.size, fun k hk hne => (Below.heap_setCell w' ⟨B, i, none⟩ v k (fun e => hne (by rw [e]))).trans (h.block k hk hne)⟩
theorem g_drewN {w w' : World} {row : Option Nat} (h : w.grownBy w' row) (n : Nat) : w.grownBy (w'.drewN n) row := ⟨h.os, h.tape, h.output, h.size, h.block⟩
theorem g_drew {w w' : World} {row : Option Nat} (h : w.grownBy w' row) : w.grownBy w'.drew row := ⟨h.os, h.tape, h.output, h.size, h.block⟩
theorem g_trans {a b c : World} {row : Option Nat} (h : a.grownBy b row) (k : b.grownBy c row) : a.grownBy c row :=
  ⟨k.os.trans h.os, k.tape.trans h.tape, k.output.trans h.output, Nat.le_trans h.size k.size, fun i hi hne => (k.block i (Nat.lt_of_lt_of_le hi h.size) hne).trans (h.block i hi hne)⟩
theorem g_below {a b c : World} {row : Option Nat} (h : a.grownBy b row) (k : Below b.heap.size b c) : a.grownBy c row := g_trans h (grown_of_below k row)
theorem g_refl (w : World) (row : Option Nat) : w.grownBy w row := ⟨rfl, rfl, rfl, Nat.le_refl _, fun _ _ _ => rfl⟩
/-- The parser lies in block B: what is left, and whether all words were taken. -/
def PAt (w : World) (B : Nat) (r : List UInt8) (e : Bool) : Prop := w.heap[B]? = some (.cells #[.string ⟨r.toArray⟩, .bool e] 43 (0, 0))
theorem PAt.c0 {w : World} {B : Nat} {r : List UInt8} {e : Bool} (h : PAt w B r e) : w.cell? ⟨B, 0, none⟩ = some (.string ⟨r.toArray⟩) := (blk_cell h 0).trans rfl
theorem PAt.c1 {w : World} {B : Nat} {r : List UInt8} {e : Bool} (h : PAt w B r e) : w.cell? ⟨B, 1, none⟩ = some (.bool e) := (blk_cell h 1).trans rfl
theorem PAt.f {w : World} {B : Nat} {r : List UInt8} {e : Bool} (h : PAt w B r e) (i : Nat) : w.frozen? ⟨B, i, none⟩ = false := blk_frozen h i
theorem PAt.below {w w' : World} {B : Nat} {r : List UInt8} {e : Bool} (h : PAt w B r e) (hb : Below w.heap.size w w') : PAt w' B r e := (hb.block _ (blk_lt h)).trans h
theorem PAt.drewN {w : World} {B : Nat} {r : List UInt8} {e : Bool} (h : PAt w B r e) (n : Nat) : PAt (w.drewN n) B r e := h
/-- What a step of the parser comes to: its answer and what is left, or a panic; nothing else that was there has turned. -/
def PStep {α : Type} (w : World) (B : Nat) (enc : α → Value) (o : Option (α × List UInt8 × Bool)) (e : Ending) (w' : World) : Prop :=
  (match o with | some (a, r, en) => e = .returned (enc a) ∧ PAt w' B r en | none => e = .panicked [trouble]) ∧ w.grownBy w' (some B)
def wordP (r : List UInt8) (en : Bool) : Option (List UInt8 × List UInt8 × Bool) := if en = true then none else some ((cut1 32 r).1, (cut1 32 r).2.1, !(cut1 32 r).2.2)
abbrev encS (l : List UInt8) : Value := .string ⟨l.toArray⟩
set_option maxHeartbeats 1000000 in
theorem word_q (B : Nat) (r : List UInt8) (en : Bool) (w : World) (h : PAt w B r en) (hs : r.length ≤ 9223372036854775807) :
    Calls Tryd.prog 26 #[.pointer (some ⟨B, 0, none⟩)] w fun e w' => PStep w B encS (wordP r en) e w' := by
  have c0 := h.c0
  have c1 := h.c1
  have f0 := h.f 0
  have f1 := h.f 1
  have H := Aside0.mk h
  have hz : (⟨r.toArray⟩ : ByteArray).size ≤ 9223372036854775807 := by simpa [ByteArray.size] using hs
  have HZ := Aside0.mk hz
  clear h hs hz
  cases en
  · go_enter Tryd.func26, Tryd.ntmps26
    go_wp2_with (first
      | (go_at_call 31; refine (need_true _).mono ?_; rintro e w' ⟨rfl, rfl⟩)
      | (go_at_call 35; refine (cut_q ⟨r.toArray⟩ 32 HZ.out _).mono ?_; rintro e w' ⟨rfl, n, rfl⟩))
    go_ret
    have B2 : PAt (((w'.drewN n).setCell ⟨B, 0, none⟩ (.string ⟨(cut1 32 r).2.1.toArray⟩)).setCell ⟨B, 1, none⟩ (.bool (!(cut1 32 r).2.2))) B (cut1 32 r).2.1 (!(cut1 32 r).2.2) := blk_set (blk_set (H.out.drewN n) 0 _) 1 _
    exact ⟨⟨rfl, B2⟩, g_set (g_set (g_drewN (g_refl _ _) n) 0 _) 1 _⟩
  · go_enter Tryd.func26, Tryd.ntmps26
    go_wp2_with (go_at_call 31; refine (need_false _).mono ?_; rintro e w' ⟨rfl, rfl⟩)
    exact ⟨rfl, rfl, g_refl _ _⟩
def Tens (w : World) : Prop := Lib.TabIs Tryd.prog w "internal/strconv.uint64pow10" .u64 Lib.pow10Tab
theorem Tens.below {w w' : World} (h : Tens w) (hb : Below w.heap.size w w') : Tens w' := Lib.tabBelow_of_tabIs h w' hb
theorem var_below {P : Program} {w w' : World} {name : String} {cs : Array Value} (h : w.var? P name = some cs) (hb : Below w.heap.size w w') : w'.var? P name = some cs := by
  unfold World.var? at h ⊢
  obtain ⟨g, hg, h2⟩ := Option.bind_eq_some_iff.1 h
  rw [hg, Option.bind_some]
  cases hq : w.heap[g]? with
  | none => rw [hq] at h2; cases h2
  | some o => rw [hb.block g (blk_lt hq)]; exact h2
/-- The library's two errors are laid: each is some value behind the interface. -/
def Errs (w : World) : Prop := (∃ t p, w.var? Tryd.prog "strconv.ErrSyntax" = some #[.iface t p]) ∧ ∃ t p, w.var? Tryd.prog "strconv.ErrRange" = some #[.iface t p]
theorem Errs.below {w w' : World} (h : Errs w) (hb : Below w.heap.size w w') : Errs w' :=
  ⟨let ⟨t, p, e⟩ := h.1; ⟨t, p, var_below e hb⟩, let ⟨t, p, e⟩ := h.2; ⟨t, p, var_below e hb⟩⟩
theorem fmtUint_b (u : Nat) (hu : u < 18446744073709551616) {w0 w : World} (h : Tens w0) (hb : Below w0.heap.size w0 w) :
    Calls Tryd.prog 32 #[.int .u64 u, .int .i64 10] w fun e w' => e = .returned (.string ⟨(Lib.decDigits u).toArray⟩) ∧ Below w.heap.size w w' :=
  (fmtUint u hu w (h.below hb)).mono fun e w' ⟨he, k, os, hw⟩ => ⟨he, hw ▸ Lib.below_grow _ w (Nat.le_refl _) k os⟩
theorem itoa_b (k : Int) (h0 : -9223372036854775808 ≤ k) (h1 : k ≤ 9223372036854775807) {w0 w : World} (h : Tens w0) (hb : Below w0.heap.size w0 w) :
    Calls Tryd.prog 33 #[.int .i64 k] w fun e w' => e = .returned (.string ⟨(Lib.itoa k).toArray⟩) ∧ Below w.heap.size w w' :=
  (Tryd.strconv_Itoa k h0 h1 w (h.below hb)).mono fun e w' ⟨he, j, os, hw⟩ => ⟨he, hw ▸ Lib.below_grow _ w (Nat.le_refl _) j os⟩
def puL (l : List UInt8) : Option Nat := match Lib.parseUintB 64 l with | .ok n => some n | _ => none
theorem below_bytes (w : World) (s : ByteArray) : Below w.heap.size w (Lib.bytesWorld w 5 s) := by
  unfold Lib.bytesWorld
  exact Lib.below_freeze (below_alloc (below_drew (Below.refl _ _)) _) (Nat.le_refl _) _
/-- strconv.ParseUint to the base 10, of 64 bits: the number and no error, or an error. -/
theorem pu_some (l : List UInt8) (n : Nat) (hn : puL l = some n) (hl : l.length ≤ 281474976710656) (w : World) :
    Calls Tryd.prog 42 #[.string ⟨l.toArray⟩, .int .i64 10, .int .i64 64] w fun e w' => e = .returned (.tuple #[.int .u64 n, .nilIface]) ∧ Below w.heap.size w w' := by
  have hz : (⟨l.toArray⟩ : ByteArray).size = l.length := by simp [ByteArray.size]
  refine (Tryd.strconv_ParseUint_10_at64_ok ⟨l.toArray⟩ (by rw [hz]; omega) n ?_ w).mono ?_
  · show Lib.parseUintB 64 l = .ok n
    unfold puL at hn
    split at hn
    · rename_i m hm; rw [hm]; cases hn; rfl
    · cases hn
  · rintro e w' ⟨rfl, rfl | rfl⟩
    · exact ⟨rfl, Below.refl _ _⟩
    · exact ⟨rfl, below_bytes _ _⟩
theorem pu_none (l : List UInt8) (hn : puL l = none) (hl : l.length ≤ 281474976710656) (w : World) (he : Errs w) :
    Calls Tryd.prog 42 #[.string ⟨l.toArray⟩, .int .i64 10, .int .i64 64] w fun e w' => (∃ v p, e = .returned (.tuple #[.int .u64 v, .iface 90 p])) ∧ Below w.heap.size w w' := by
  have hz : (⟨l.toArray⟩ : ByteArray).size = l.length := by simp [ByteArray.size]
  obtain ⟨⟨t1, p1, e1⟩, t2, p2, e2⟩ := he
  cases hq : Lib.parseUintB 64 l
  · unfold puL at hn; rw [hq] at hn; cases hn
  · exact (Any.strconv_ParseUint_10_at64_syntax_var Tryd.laysPu14 ⟨l.toArray⟩ (by rw [hz]; omega) hq t1 p1 w e1).mono fun e w' ⟨N, h1, _, _, h4⟩ => ⟨⟨_, _, h1⟩, h4⟩
  · exact (Tryd.strconv_ParseUint_10_at64_range_var ⟨l.toArray⟩ (by rw [hz]; omega) hq t2 p2 w e2).mono fun e w' ⟨N, h1, _, _, h4⟩ => ⟨⟨_, _, h1⟩, h4⟩
/-- The text of a number below 2^64 that has no needless naught. -/
def numL (l : List UInt8) : Option Nat := (puL l).bind fun n => if Lib.decDigits n = l then some n else none
def numP (least most : Nat) (r : List UInt8) (en : Bool) : Option (Nat × List UInt8 × Bool) :=
  (wordP r en).bind fun x => (numL x.1).bind fun n => if least ≤ n ∧ n ≤ most then some (n, x.2) else none
abbrev encU (n : Nat) : Value := .int .u64 (n : Int)
theorem cut1_len (c : UInt8) : ∀ l : List UInt8, (cut1 c l).1.length ≤ l.length ∧ (cut1 c l).2.1.length ≤ l.length
  | [] => ⟨Nat.le_refl _, Nat.le_refl _⟩
  | b :: l => by
    unfold cut1
    have := cut1_len c l
    split
    · simp
    · simp only [List.length_cons]; omega
theorem wordP_len {r : List UInt8} {en : Bool} {x} (h : wordP r en = some x) : x.1.length ≤ r.length ∧ x.2.1.length ≤ r.length := by
  unfold wordP at h
  split at h
  · cases h
  · cases h; exact cut1_len 32 r
theorem arr_inj {a b : List UInt8} (h : (⟨a.toArray⟩ : ByteArray) = ⟨b.toArray⟩) : a = b := by injection h with h; simpa using congrArg Array.toList h
theorem puL_lt {l : List UInt8} {n : Nat} (h : puL l = some n) : n < 18446744073709551616 := by
  unfold puL at h
  split at h
  · rename_i m hm
    cases h
    have := Lib.parseUintB_le hm
    omega
  · cases h
/-- What holds all the time while a parser works: the world it began in, and the parser's block is newer. -/
structure PEnv (w0 w : World) (B : Nat) : Prop where
  tens : Tens w0
  errs : Errs w0
  below : Below w0.heap.size w0 w
  new : w0.heap.size ≤ B
theorem PEnv.step {w0 w w' : World} {B : Nat} (h : PEnv w0 w B) (hg : w.grownBy w' (some B)) : PEnv w0 w' B :=
  ⟨h.tens, h.errs, pw_below_grown h.below _ h.below.size hg (fun k e => by cases e; exact h.new), h.new⟩
set_option maxHeartbeats 4000000 in
theorem number_q (B : Nat) (r : List UInt8) (en : Bool) (least most : Nat) (w0 w : World) (h : PAt w B r en) (hs : r.length ≤ 281474976710656) (hE : PEnv w0 w B) (h1 : least < 18446744073709551616) (h2 : most < 18446744073709551616) :
    Calls Tryd.prog 36 #[.pointer (some ⟨B, 0, none⟩), .int .u64 (least : Int), .int .u64 (most : Int)] w fun e w' => PStep w B encU (numP least most r en) e w' := by
  have W0 := Aside0.mk (word_q B r en w h (by omega))
  have HS := Aside0.mk hs
  have HE := Aside0.mk hE
  clear hs hE h
  cases hw : wordP r en with
  | none =>
    have Q : numP least most r en = none := by unfold numP; rw [hw]; rfl
    have Q2 := Aside0.mk Q
    have W1 := W0.out
    rw [hw] at W1
    clear Q hw W0
    go_enter Tryd.func36, Tryd.ntmps36
    go_wp2_with (go_at_call 26; refine W1.mono ?_; rintro e w' ⟨rfl, hg⟩)
    refine ⟨rfl, ?_, hg⟩
    rw [Q2.out]
  | some x =>
    obtain ⟨x, rest, en2⟩ := x
    have hlx := wordP_len hw
    have HLX := Aside0.mk (show x.length ≤ 281474976710656 from by have := HS.out; have := hlx.1; simp only at this; omega)
    have W1 := W0.out
    rw [hw] at W1
    cases hn : numL x with
    | none =>
      have Q2 := Aside0.mk (show numP least most r en = none from by unfold numP; rw [hw]; show (numL x).bind _ = none; rw [hn]; rfl)
      clear hw W0 hlx
      cases hp : puL x with
      | none =>
        have HP := Aside0.mk hp
        clear hp hn
        go_enter Tryd.func36, Tryd.ntmps36
        go_wp2_with (first
          | (go_at_call 26; refine W1.mono ?_; rintro e w' ⟨⟨rfl, hb⟩, hg⟩; have B1 := Aside0.mk hb; have G1 := Aside0.mk hg; clear hb hg W1)
          | (go_at_call 42; refine (pu_none x HP.out HLX.out _ (HE.out.errs.below (HE.out.step G1.out).below)).mono ?_; rintro e w2 ⟨⟨v, p, rfl⟩, hb⟩; have G2 := Aside0.mk (g_below G1.out hb); clear hb G1)
          | (go_at_call 31; refine (need_false _).mono ?_; rintro e w3 ⟨rfl, rfl⟩))
        refine ⟨rfl, ?_, G2.out⟩
        rw [Q2.out]
      | some n =>
        have hne : ¬ Lib.decDigits n = x := by
          intro e; unfold numL at hn; rw [hp, Option.bind_some, if_pos e] at hn; cases hn
        have hlt := puL_lt hp
        have hq : (Lib.decDigits n == x) = false := beq_eq_false_iff_ne.2 hne
        have HP := Aside0.mk hp
        clear hp hn hne
        go_enter Tryd.func36, Tryd.ntmps36
        go_wp2_with (first
          | (go_at_call 26; refine W1.mono ?_; rintro e w' ⟨⟨rfl, hb⟩, hg⟩; have B1 := Aside0.mk hb; have G1 := Aside0.mk hg; clear hb hg W1)
          | (go_at_call 42; refine (pu_some x n HP.out HLX.out _).mono ?_; rintro e w2 ⟨rfl, hb⟩; have G2 := Aside0.mk (g_below G1.out hb); clear hb G1)
          | (go_at_call 32; refine (fmtUint_b n hlt HE.out.tens (HE.out.step G2.out).below).mono ?_; rintro e w2 ⟨rfl, hb⟩; have G3 := Aside0.mk (g_below G2.out hb); clear hb G2)
          | (go_at_call 31; refine (need_false _).mono ?_; rintro e w3 ⟨rfl, rfl⟩))
        refine ⟨rfl, ?_, G3.out⟩
        rw [Q2.out]
    | some n =>
      have hp : puL x = some n ∧ Lib.decDigits n = x := by
        unfold numL at hn
        cases hp : puL x with
        | none => rw [hp] at hn; cases hn
        | some m =>
          rw [hp, Option.bind_some] at hn
          split at hn
          · rename_i e; cases hn; exact ⟨rfl, e⟩
          · cases hn
      have hlt := puL_lt hp.1
      have hq : (Lib.decDigits n == x) = true := by rw [hp.2]; exact beq_self_eq_true _
      have HP := Aside0.mk hp.1
      have QQ : numP least most r en = if least ≤ n ∧ n ≤ most then some (n, rest, en2) else none := by
        unfold numP
        rw [hw]
        show (numL x).bind _ = _
        rw [hn]
        rfl
      have QA := Aside0.mk QQ
      clear hp hn QQ hw W0 hlx
      by_cases hA : least ≤ n
      · by_cases hB : n ≤ most
        · go_enter Tryd.func36, Tryd.ntmps36
          go_wp2_with (first
            | (go_at_call 26; refine W1.mono ?_; rintro e w' ⟨⟨rfl, hb⟩, hg⟩; have B1 := Aside0.mk hb; have G1 := Aside0.mk hg; clear hb hg W1)
            | (go_at_call 42; refine (pu_some x n HP.out HLX.out _).mono ?_; rintro e w2 ⟨rfl, hb⟩; have G2 := Aside0.mk (g_below G1.out hb); have B2 := Aside0.mk (B1.out.below hb); clear hb G1 B1)
            | (go_at_call 32; refine (fmtUint_b n hlt HE.out.tens (HE.out.step G2.out).below).mono ?_; rintro e w2 ⟨rfl, hb⟩; have G3 := Aside0.mk (g_below G2.out hb); have B3 := Aside0.mk (B2.out.below hb); clear hb G2 B2)
            | (go_at_call 31; refine (need_true _).mono ?_; rintro e w3 ⟨rfl, rfl⟩))
          go_ret
          refine ⟨?_, G3.out⟩
          rw [QA.out, if_pos ⟨hA, hB⟩]
          exact ⟨rfl, B3.out⟩
        · have hB2 : decide (n ≤ most) = false := decide_eq_false hB
          go_enter Tryd.func36, Tryd.ntmps36
          go_wp2_with (first
            | (go_at_call 26; refine W1.mono ?_; rintro e w' ⟨⟨rfl, hb⟩, hg⟩; have B1 := Aside0.mk hb; have G1 := Aside0.mk hg; clear hb hg W1)
            | (go_at_call 42; refine (pu_some x n HP.out HLX.out _).mono ?_; rintro e w2 ⟨rfl, hb⟩; have G2 := Aside0.mk (g_below G1.out hb); clear hb G1)
            | (go_at_call 32; refine (fmtUint_b n hlt HE.out.tens (HE.out.step G2.out).below).mono ?_; rintro e w2 ⟨rfl, hb⟩; have G3 := Aside0.mk (g_below G2.out hb); clear hb G2)
            | (go_at_call 31; refine (need_false _).mono ?_; rintro e w3 ⟨rfl, rfl⟩))
          refine ⟨rfl, ?_, G3.out⟩
          rw [QA.out, if_neg (fun h => hB h.2)]
      · have hA2 : decide (least ≤ n) = false := decide_eq_false hA
        go_enter Tryd.func36, Tryd.ntmps36
        go_wp2_with (first
          | (go_at_call 26; refine W1.mono ?_; rintro e w' ⟨⟨rfl, hb⟩, hg⟩; have B1 := Aside0.mk hb; have G1 := Aside0.mk hg; clear hb hg W1)
          | (go_at_call 42; refine (pu_some x n HP.out HLX.out _).mono ?_; rintro e w2 ⟨rfl, hb⟩; have G2 := Aside0.mk (g_below G1.out hb); clear hb G1)
          | (go_at_call 32; refine (fmtUint_b n hlt HE.out.tens (HE.out.step G2.out).below).mono ?_; rintro e w2 ⟨rfl, hb⟩; have G3 := Aside0.mk (g_below G2.out hb); clear hb G2)
          | (go_at_call 31; refine (need_false _).mono ?_; rintro e w3 ⟨rfl, rfl⟩))
        refine ⟨rfl, ?_, G3.out⟩
        rw [QA.out, if_neg (fun h => hA h.1)]
end Go.Proofs.YtljgmbpfeajmhaaDoor
