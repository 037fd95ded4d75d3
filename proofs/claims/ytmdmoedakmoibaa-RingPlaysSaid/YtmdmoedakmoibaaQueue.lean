/- A ring as the list of what it holds: what each method answers and leaves. -/
import Derived.Test.YtmdmoedakmoibaaPush
import Derived.Test.YtmdmoedakmoibaaPop
import Derived.Test.YtmdmoedakmoibaaNew
import Derived.Test.YtmdmoedakmoibaaClear
import Derived.Test.YtmdmoedakmoibaaDrop
namespace Go.Proofs.Ytmdmoedakmoibaa.P
open Go.RowKit Go.Proofs.YtmdmoedakmoibaaW.PrintWords Go.Proofs.YtmdmoedakmoibaaW.PrintLast Go.Proofs.YtmdmoedakmoibaaW.PrintMore
set_option linter.unusedVariables false

/-- A ring that holds q, in that order. -/
def RingQ (w : World) (g B room : Nat) (q : List S31) : Prop :=
  ∃ cap head E, RingX w g B room cap head q.length E ∧ ∀ j, j < q.length → At E head room j = q.getD j z31
section
variable {w w' : World} {g B room : Nat} {q : List S31}
theorem RingQ.below (h : RingQ w g B room q) (hb : Below w.heap.size w w') : RingQ w' g B room q := by
  obtain ⟨cap, head, E, hx, hq⟩ := h
  exact ⟨cap, head, E, hx.below hb, hq⟩
theorem RingQ.drewN (h : RingQ w g B room q) (n : Nat) : RingQ (w.drewN n) g B room q := h.below (pw_below_drewN (Below.refl _ _) n)
theorem RingQ.drew (h : RingQ w g B room q) : RingQ w.drew g B room q := h.below (below_drew (Below.refl _ _))
theorem RingQ.alloc (h : RingQ w g B room q) (o : Obj) : RingQ (w.alloc o) g B room q := h.below (below_alloc (Below.refl _ _) o)
theorem RingQ.lt (h : RingQ w g B room q) : g < w.heap.size := by obtain ⟨_, _, _, hx, _⟩ := h; exact hx.lt
theorem RingQ.Blt (h : RingQ w g B room q) : B < w.heap.size := by obtain ⟨_, _, _, hx, _⟩ := h; exact hx.Blt
theorem RingQ.ne (h : RingQ w g B room q) : g ≠ B := by obtain ⟨_, _, _, hx, _⟩ := h; exact hx.ne
theorem RingQ.le (h : RingQ w g B room q) : q.length ≤ room := by obtain ⟨_, _, _, hx, _⟩ := h; exact hx.heldLe
theorem RingQ.small (h : RingQ w g B room q) : room ≤ 64 := by obtain ⟨_, _, _, hx, _⟩ := h; exact hx.roomLe
/-- Blocks beside its own two have changed. -/
theorem RingX.kept {cap head held : Nat} {E : List S31} (h : RingX w g B room cap head held E) (hg : w'.heap[g]? = w.heap[g]?) (hB : w'.heap[B]? = w.heap[B]?) : RingX w' g B room cap head held E :=
  ⟨h.len, h.heldLe, h.roomLe, h.headLt, hg.trans h.blk, Kd.R_move h.buf (fun k hk => by rw [hk]; exact hB), h.ne⟩
theorem RingQ.kept (h : RingQ w g B room q) (hg : w'.heap[g]? = w.heap[g]?) (hB : w'.heap[B]? = w.heap[B]?) : RingQ w' g B room q := by
  obtain ⟨cap, head, E, hx, hq⟩ := h
  exact ⟨cap, head, E, hx.kept hg hB, hq⟩
/-- Another ring was used. -/
theorem RingQ.only {g2 B2 : Nat} (h : RingQ w g B room q) (ho : Only w w' g2 B2) (h1 : g ≠ g2) (h2 : g ≠ B2) (h3 : B ≠ g2) (h4 : B ≠ B2) : RingQ w' g B room q :=
  h.kept (ho.block g h.lt h1 h2) (ho.block B h.Blt h3 h4)
end

theorem new_q (n : Nat) (h : n ≤ 64) (w : World) :
    Calls Try.prog 7 #[.int .i64 n] w fun e w' => ∃ g B, e = .returned (.tuple #[.pointer (some ⟨g, 0, none⟩), .bool true]) ∧ w.heap.size ≤ g ∧ w.heap.size ≤ B ∧ RingQ w' g B n [] ∧ Below w.heap.size w w' := by
  refine (new_ok n h w).mono ?_
  rintro e w' ⟨g, B, cap, he, h1, h2, h3, h4⟩
  exact ⟨g, B, he, h1, h2, ⟨cap, 0, _, h3, fun j hj => absurd hj (Nat.not_lt_zero j)⟩, h4⟩
theorem push_q {w : World} {g B room : Nat} {q : List S31} (h : RingQ w g B room q) (x : S31) :
    Calls Try.prog 9 #[.pointer (some ⟨g, 0, none⟩), entV x] w fun e w' => e = .returned (.bool (decide (q.length < room))) ∧ RingQ w' g B room (if q.length < room then q ++ [x] else q) ∧ Only w w' g B := by
  have h' := h
  obtain ⟨cap, head, E, hx, hq⟩ := h
  by_cases hr : q.length < room
  · refine (push_room hx hr x).mono ?_
    rintro e w' ⟨rfl, hX, hO⟩
    refine ⟨by rw [decide_eq_true hr], ?_, hO⟩
    rw [if_pos hr]
    refine ⟨cap, head, _, by rw [List.length_append]; exact hX, fun j hj => ?_⟩
    rw [List.length_append, List.length_singleton] at hj
    by_cases e : j = q.length
    · subst e
      rw [At_set x hx.len hr, List.getD_eq_getElem?_getD, List.getElem?_append_right (Nat.le_refl _)]
      simp
    · rw [At_set_ne x hr (by omega) (fun e2 => e e2.symm), hq j (by omega), List.getD_eq_getElem?_getD, List.getD_eq_getElem?_getD, List.getElem?_append_left (by omega)]
  · have hle := hx.heldLe
    have e : q.length = room := by omega
    rw [e] at hx
    refine (push_full hx x).mono ?_
    rintro e2 w' ⟨rfl, hb⟩
    refine ⟨by rw [decide_eq_false hr], ?_, Only.of_below hb g B⟩
    rw [if_neg hr]
    exact h'.below hb
theorem pop_q {w : World} {g B room : Nat} {q : List S31} (h : RingQ w g B room q) :
    Calls Try.prog 10 #[.pointer (some ⟨g, 0, none⟩)] w fun e w' => e = .returned (.tuple #[entV (q.headD z31), .bool (decide (0 < q.length))]) ∧ RingQ w' g B room q.tail ∧ Only w w' g B := by
  have h' := h
  obtain ⟨cap, head, E, hx, hq⟩ := h
  cases q with
  | nil =>
    refine (pop_none hx).mono ?_
    rintro e w' ⟨rfl, hb⟩
    exact ⟨rfl, h'.below hb, Only.of_below hb g B⟩
  | cons x l =>
    have hle := hx.heldLe
    rw [List.length_cons] at hle
    refine (pop_some hx (by simp)).mono ?_
    rintro e w' ⟨rfl, hX, hO⟩
    have h0 := hq 0 (by simp)
    have e0 : E.getD (head % room) z31 = x := h0
    refine ⟨by rw [e0]; simp, ⟨cap, _, _, hX, fun j hj => ?_⟩, hO⟩
    have hj : j < l.length := hj
    have e1 : ((head + 1) % room + j) % room = (head + (j + 1)) % room := by
      rw [Nat.add_mod, Nat.mod_mod, ← Nat.add_mod, Nat.add_assoc, Nat.add_comm 1 j]
    have e2 : At (E.set (head % room) z31) ((head + 1) % room) room j = At (E.set ((head + 0) % room) z31) head room (j + 1) := by
      unfold At
      rw [e1]
      rfl
    rw [e2, At_set_ne z31 (by omega) (by omega) (by omega), hq (j + 1) (by rw [List.length_cons]; omega)]
    rfl
theorem peek_q {w : World} {g B room : Nat} {q : List S31} (h : RingQ w g B room q) (i : Int) :
    Calls Try.prog 18 #[.pointer (some ⟨g, 0, none⟩), .int .i64 i] w fun e w' => e = .returned (.tuple #[entV (if 0 ≤ i ∧ i < q.length then q.getD i.toNat z31 else z31), .bool (decide (0 ≤ i ∧ i < q.length))]) ∧ RingQ w' g B room q ∧ Below w.heap.size w w' := by
  have h' := h
  obtain ⟨cap, head, E, hx, hq⟩ := h
  by_cases hi : 0 ≤ i ∧ i < q.length
  · obtain ⟨n, rfl⟩ := Int.eq_ofNat_of_zero_le hi.1
    have hn : n < q.length := by omega
    refine (peek_some hx n hn).mono ?_
    rintro e w' ⟨rfl, hb⟩
    have e1 : E.getD ((head + n) % room) z31 = q.getD n z31 := hq n hn
    refine ⟨?_, h'.below hb, hb⟩
    rw [e1, if_pos hi, decide_eq_true hi]
    rfl
  · refine (peek_none hx i (by omega)).mono ?_
    rintro e w' ⟨rfl, hb⟩
    refine ⟨?_, h'.below hb, hb⟩
    rw [if_neg hi, decide_eq_false hi]
theorem many_q {w : World} {g B room : Nat} {q : List S31} (h : RingQ w g B room q) :
    Calls Try.prog 11 #[.pointer (some ⟨g, 0, none⟩)] w fun e w' => e = .returned (.int .i64 (q.length : Nat)) ∧ ∃ n, w' = w.drewN n := by
  obtain ⟨cap, head, E, hx, hq⟩ := h
  exact many_any hx
theorem room_q {w : World} {g B room : Nat} {q : List S31} (h : RingQ w g B room q) :
    Calls Try.prog 13 #[.pointer (some ⟨g, 0, none⟩)] w fun e w' => e = .returned (.int .i64 room) ∧ ∃ n, w' = w.drewN n := by
  obtain ⟨cap, head, E, hx, hq⟩ := h
  exact room_any hx
theorem clear_q {w : World} {g B room : Nat} {q : List S31} (h : RingQ w g B room q) :
    Calls Try.prog 12 #[.pointer (some ⟨g, 0, none⟩)] w fun e w' => e = .returned (.tuple #[]) ∧ RingQ w' g B room [] ∧ Only w w' g B := by
  obtain ⟨cap, head, E, hx, hq⟩ := h
  refine (clear_any hx).mono ?_
  rintro e w' ⟨rfl, hX, hO⟩
  exact ⟨rfl, ⟨cap, 0, _, hX, fun j hj => absurd hj (Nat.not_lt_zero j)⟩, hO⟩
theorem drop_q {w : World} {g B room : Nat} {q : List S31} (h : RingQ w g B room q) (s : Int) :
    Calls Try.prog 14 #[.pointer (some ⟨g, 0, none⟩), .int .u64 s] w fun e w' => e = .returned (.int .i64 ((q.length : Int) - (filt s q).length)) ∧ RingQ w' g B room (filt s q) ∧ Only w w' g B := by
  obtain ⟨cap, head, E, hx, hq⟩ := h
  refine (drop_any q s hx hq).mono ?_
  rintro e w' ⟨E', rfl, hX, hA, hO⟩
  exact ⟨rfl, ⟨cap, head, E', hX, hA⟩, hO⟩
/-- A text's send. -/
def sent (s : ByteArray) : S31 := ⟨1, 0, 0, 0, 0, s⟩
theorem text_q (s : ByteArray) (w : World) : Calls Try.prog 15 #[.string s] w fun e w' => e = .returned (entV (sent s)) ∧ Below w.heap.size w w' :=
  congresslaw06_text.calls s 1 0 0 0 0 s w rfl
theorem pop_cons {w : World} {g B room : Nat} {x : S31} {l : List S31} (h : RingQ w g B room (x :: l)) :
    Calls Try.prog 10 #[.pointer (some ⟨g, 0, none⟩)] w fun e w' => e = .returned (.tuple #[.agg #[.int .i64 x.f0, .int .i64 x.f1, .int .i64 x.f2, .int .u64 x.f3, .int .u64 x.f4, .string x.f5], .bool true]) ∧ RingQ w' g B room l ∧ Only w w' g B := pop_q h
theorem pop_nil {w : World} {g B room : Nat} (h : RingQ w g B room []) :
    Calls Try.prog 10 #[.pointer (some ⟨g, 0, none⟩)] w fun e w' => e = .returned (.tuple #[.agg #[.int .i64 0, .int .i64 0, .int .i64 0, .int .u64 0, .int .u64 0, .string ⟨#[]⟩], .bool false]) ∧ RingQ w' g B room [] ∧ Only w w' g B := pop_q h
theorem push_lt {w : World} {g B room : Nat} {q : List S31} (h : RingQ w g B room q) (hr : q.length < room) (x : S31) :
    Calls Try.prog 9 #[.pointer (some ⟨g, 0, none⟩), .agg #[.int .i64 x.f0, .int .i64 x.f1, .int .i64 x.f2, .int .u64 x.f3, .int .u64 x.f4, .string x.f5]] w fun e w' => e = .returned (.bool true) ∧ RingQ w' g B room (q ++ [x]) ∧ Only w w' g B := by
  have := push_q h x
  rw [decide_eq_true hr, if_pos hr] at this
  exact this
theorem push_ge {w : World} {g B room : Nat} {q : List S31} (h : RingQ w g B room q) (hr : room ≤ q.length) (x : S31) :
    Calls Try.prog 9 #[.pointer (some ⟨g, 0, none⟩), .agg #[.int .i64 x.f0, .int .i64 x.f1, .int .i64 x.f2, .int .u64 x.f3, .int .u64 x.f4, .string x.f5]] w fun e w' => e = .returned (.bool false) ∧ RingQ w' g B room q ∧ Only w w' g B := by
  have := push_q h x
  rw [decide_eq_false (by omega), if_neg (by omega)] at this
  exact this
theorem eqA31 (d : Nat) (w : World) (x0 y0 : Int) (x1 y1 : Int) (x2 y2 : Int) (x3 y3 : Int) (x4 y4 : Int) (x5 y5 : ByteArray) :
    (Op.equalIn (d + 2) 31 (.agg #[.int .i64 x0, .int .i64 x1, .int .i64 x2, .int .u64 x3, .int .u64 x4, .string x5]) (.agg #[.int .i64 y0, .int .i64 y1, .int .i64 y2, .int .u64 y3, .int .u64 y4, .string y5])).run Try.prog w = .ok (x0 == y0 && (x1 == y1 && (x2 == y2 && (x3 == y3 && (x4 == y4 && (x5.toList == y5.toList)))))) w := by
  refine eqA_of Try.underlying31 (by kernel_rfl) ?_
  refine eqf_cons (by rfl) (by go_simp; rfl) (by go_simp; rfl) (by go_simp) ?_
  refine eqf_cons (by rfl) (by go_simp; rfl) (by go_simp; rfl) (by go_simp) ?_
  refine eqf_cons (by rfl) (by go_simp; rfl) (by go_simp; rfl) (by go_simp) ?_
  refine eqf_cons (by rfl) (by go_simp; rfl) (by go_simp; rfl) (by go_simp) ?_
  refine eqf_cons (by rfl) (by go_simp; rfl) (by go_simp; rfl) (by go_simp) ?_
  exact eqf_last (by rfl) (by go_simp; rfl) (by go_simp; rfl) (by go_simp)
end Go.Proofs.Ytmdmoedakmoibaa.P
