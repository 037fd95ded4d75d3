/- The arguments of TopEntries, opened: a packet, a list of entries; what the listed variables give; a world for a witness. -/
import Derived.Test.YtcmohdedlclcgaaGreatDoorRows
import Derived.Test.YtcmohdedlclcgaaGreatDoorX23
import Derived.Deep.Slices
import Derived.ChangeArms
import Derived.DataReads
import Derived.Lib.LaidTab
import Derived.SizedLaws
import Derived.LaidMore
import Derived.WalkKit
import Derived.ProofKit
set_option linter.unusedVariables false
set_option linter.unusedSimpArgs false
set_option maxRecDepth 100000
namespace Go.Proofs.YtcmohdedlclcgaaGreatDoor
open Go.Ex (Ent Pkt numsV entsV ListIs Tens)
section
variable {P : Program} {w : World} {r : Reach} {base : Nat}
/-- the types of a packet's cells are as they are -/
structure Kinds (P : Program) : Prop where
  u32 : P.underlying 22 = some (.int .u32)
  u64 : P.underlying 28 = some (.int .u64)
  i64 : P.underlying 3 = some (.int .i64)
  str : P.underlying 9 = some .string
  bool : P.underlying 4 = some .bool
theorem cell_int {t : TypeId} {k : IntKind} {v : Value} (ht : P.underlying t = some (.int k)) (h : Cell.okWide P w r base t v) : ∃ n : Int, v = .int k n ∧ k.min ≤ n ∧ n ≤ k.max := by
  simp only [Cell.okWide, Cell.ok, ht] at h
  cases v <;> simp_all
  exact h.2
theorem cell_u32 (K : Kinds P) {v : Value} (h : Cell.okWide P w r base 22 v) : ∃ n : Nat, n < 2 ^ 32 ∧ v = .int .u32 (n : Int) := by
  obtain ⟨n, rfl, h1, h2⟩ := cell_int K.u32 h
  have e1 : IntKind.min .u32 = 0 := by decide
  have e2 : IntKind.max .u32 = 4294967295 := by decide
  have e3 : ((n.toNat : Nat) : Int) = n := by omega
  exact ⟨n.toNat, by omega, by rw [e3]⟩
theorem cell_u64 (K : Kinds P) {v : Value} (h : Cell.okWide P w r base 28 v) : ∃ n : Nat, n < 2 ^ 64 ∧ v = .int .u64 (n : Int) := by
  obtain ⟨n, rfl, h1, h2⟩ := cell_int K.u64 h
  have e1 : IntKind.min .u64 = 0 := by decide
  have e2 : IntKind.max .u64 = 18446744073709551615 := by decide
  have e3 : ((n.toNat : Nat) : Int) = n := by omega
  exact ⟨n.toNat, by omega, by rw [e3]⟩
theorem cell_i64 (K : Kinds P) {v : Value} (h : Cell.okWide P w r base 3 v) : ∃ n : Int, v = .int .i64 n := by
  obtain ⟨n, rfl, _⟩ := cell_int K.i64 h
  exact ⟨n, rfl⟩
theorem cell_str (K : Kinds P) {v : Value} (h : Cell.okWide P w r base 9 v) : ∃ s, v = .string s := by
  have ht := K.str
  simp only [Cell.okWide, Cell.ok, ht] at h
  cases v <;> simp_all
theorem cell_bool (K : Kinds P) {v : Value} (h : Cell.okWide P w r base 4 v) : ∃ b, v = .bool b := by
  have ht := K.bool
  simp only [Cell.okWide, Cell.ok, ht] at h
  cases v <;> simp_all

/-- values of these types -/
def Typed (P : Program) (w : World) (r : Reach) (base : Nat) (l : List Value) (ts : List TypeId) : Prop :=
  l.length = ts.length ∧ ∀ (i : Nat) (v : Value) (u : TypeId), l[i]? = some v → ts[i]? = some u → Cell.okWide P w r base u v
theorem Typed.split {l : List Value} {ts us : List TypeId} (h : Typed P w r base l (ts ++ us)) : ∃ l1 l2, l = l1 ++ l2 ∧ Typed P w r base l1 ts ∧ Typed P w r base l2 us := by
  have hl := h.1
  rw [List.length_append] at hl
  refine ⟨l.take ts.length, l.drop ts.length, (List.take_append_drop _ _).symm, ⟨by simp; omega, fun i v u hv hu => ?_⟩, ⟨by simp; omega, fun i v u hv hu => ?_⟩⟩
  · have hi : i < ts.length := (List.getElem?_eq_some_iff.1 hu).1
    rw [List.getElem?_take, if_pos hi] at hv
    exact h.2 i v u hv (by rw [List.getElem?_append_left hi]; exact hu)
  · rw [List.getElem?_drop] at hv
    exact h.2 _ v u hv (by rw [List.getElem?_append_right (by omega), Nat.add_sub_cancel_left]; exact hu)
theorem Typed.cons {v : Value} {l : List Value} {u : TypeId} {ts : List TypeId} (h : Typed P w r base (v :: l) (u :: ts)) : Cell.okWide P w r base u v ∧ Typed P w r base l ts :=
  ⟨h.2 0 v u rfl rfl, by have := h.1; simpa using this, fun i a b ha hb => h.2 (i + 1) a b (by simpa using ha) (by simpa using hb)⟩
theorem Typed.inv {l : List Value} {u : TypeId} {ts : List TypeId} (h : Typed P w r base l (u :: ts)) : ∃ v l', l = v :: l' ∧ Cell.okWide P w r base u v ∧ Typed P w r base l' ts := by
  cases l with
  | nil => have := h.1; simp at this
  | cons v l => exact ⟨v, l, rfl, h.cons.1, h.cons.2⟩
theorem Typed.nil_inv {l : List Value} (h : Typed P w r base l []) : l = [] := List.eq_nil_of_length_eq_zero h.1
def rep22 : Nat → List TypeId
  | 0 => []
  | m + 1 => 22 :: rep22 m
def repE : Nat → List TypeId
  | 0 => []
  | m + 1 => 3 :: 3 :: 3 :: 28 :: 28 :: 9 :: repE m
theorem nums_of (K : Kinds P) : ∀ (m j : Nat) (l : List Value), Typed P w r base l (rep22 m) → ∃ f : Nat → Nat, (∀ i, f i < 2 ^ 32) ∧ l = numsV f j m
  | 0, j, l, h => ⟨fun _ => 0, fun _ => Nat.two_pow_pos 32, h.nil_inv⟩
  | m + 1, j, l, h => by
    obtain ⟨v, l', rfl, h1, h2⟩ := h.inv
    obtain ⟨n, hn, rfl⟩ := cell_u32 K h1
    obtain ⟨f, hf, rfl⟩ := nums_of K m (j + 1) l' h2
    refine ⟨fun i => if i = j then n else f i, fun i => by dsimp only; split; exact hn; exact hf i, ?_⟩
    show _ = Value.int .u32 (((if j = j then n else f j : Nat)) : Int) :: numsV _ (j + 1) m
    rw [if_pos rfl]
    congr 1
    have : ∀ (m k : Nat), j < k → numsV f k m = numsV (fun i => if i = j then n else f i) k m := by
      intro m
      induction m with
      | zero => intro k _; rfl
      | succ m ih =>
        intro k hk
        show Value.int .u32 ((f k : Nat) : Int) :: numsV f (k + 1) m = Value.int .u32 (((if k = j then n else f k : Nat)) : Int) :: numsV _ (k + 1) m
        rw [if_neg (by omega), ih (k + 1) (by omega)]
    exact this m (j + 1) (by omega)
theorem ents_of (K : Kinds P) : ∀ (m k : Nat) (l : List Value), Typed P w r base l (repE m) → ∃ e : Nat → Ent, (∀ i, (e i).R) ∧ l = entsV e k m
  | 0, k, l, h => ⟨fun _ => .zero, fun _ => Go.Ex.Ent.zero_R, h.nil_inv⟩
  | m + 1, k, l, h => by
    obtain ⟨v0, l0, rfl, a0, h0⟩ := h.inv
    obtain ⟨v1, l1, rfl, a1, h1⟩ := h0.inv
    obtain ⟨v2, l2, rfl, a2, h2⟩ := h1.inv
    obtain ⟨v3, l3, rfl, a3, h3⟩ := h2.inv
    obtain ⟨v4, l4, rfl, a4, h4⟩ := h3.inv
    obtain ⟨v5, l5, rfl, a5, h5⟩ := h4.inv
    obtain ⟨n0, rfl⟩ := cell_i64 K a0
    obtain ⟨n1, rfl⟩ := cell_i64 K a1
    obtain ⟨n2, rfl⟩ := cell_i64 K a2
    obtain ⟨n3, b3, rfl⟩ := cell_u64 K a3
    obtain ⟨n4, b4, rfl⟩ := cell_u64 K a4
    obtain ⟨s, rfl⟩ := cell_str K a5
    obtain ⟨e, he, rfl⟩ := ents_of K m (k + 1) l5 h5
    refine ⟨fun i => if i = k then ⟨n0, n1, n2, n3, n4, s⟩ else e i, fun i => ?_, ?_⟩
    · dsimp only
      split
      · exact ⟨b3, b4⟩
      · exact he i
    · show _ = (if k = k then (⟨n0, n1, n2, n3, n4, s⟩ : Ent) else e k).cells ++ entsV _ (k + 1) m
      rw [if_pos rfl, Go.Ex.entsV_congr (e := e) (e' := fun i => if i = k then ⟨n0, n1, n2, n3, n4, s⟩ else e i) m (k + 1) fun i h1 h2 => by rw [if_neg (by omega)]]
      rfl
theorem numsV_congr {n n' : Nat → Nat} : ∀ (m j : Nat), (∀ i, j ≤ i → i < j + m → n i = n' i) → numsV n j m = numsV n' j m
  | 0, _, _ => rfl
  | m + 1, j, h => by
    show Value.int .u32 ((n j : Nat) : Int) :: numsV n (j + 1) m = Value.int .u32 ((n' j : Nat) : Int) :: numsV n' (j + 1) m
    rw [h j (Nat.le_refl _) (by omega), numsV_congr m (j + 1) fun i h1 h2 => h i (by omega) (by omega)]
def types35 : List TypeId := rep22 32 ++ ([4] ++ (rep22 2 ++ (repE 12 ++ (rep22 2 ++ repE 6))))
theorem types35_len : types35.length = 145 := by kernel_rfl
theorem row_of {t : TypeId} {fs : Array Field} {v : Value} (ht : P.underlying t = some (.struct fs)) (h : Value.okWide P w r base t v) : ∃ cs, v = .agg cs ∧ cs.size = P.cellsOf t ∧ Row.okWide P w r base t cs := by
  simpa only [Value.okWide, ht] using h
/-- a packet that came in, and two entries beside it -/
theorem open_pkt (K : Kinds P) {fs : Array Field} (h35 : P.underlying 35 = some (.struct fs)) (hct : P.cellTypes P.depth 35 = some types35) (hco : P.cellsOf 35 = 145) {v : Value} (h : Value.okWide P w r base 35 v) (a b : Ent) (ha : a.R) (hb : b.R) : ∃ pk : Pkt, v = pk.val ∧ pk.R ∧ pk.e 20 = a ∧ pk.e 21 = b := by
  obtain ⟨cs, rfl, hsz, ts, hts, _, hc⟩ := row_of h35 h
  rw [hct] at hts
  cases hts
  have hs : cs.toList.length = 145 := by
    rw [hco] at hsz
    simpa using hsz
  have hT : Typed P w r base cs.toList types35 := by
    refine ⟨by rw [hs, types35_len], fun i v u hv hu => ?_⟩
    have hi : i < 145 := by rw [← hs]; exact (List.getElem?_eq_some_iff.1 hv).1
    obtain ⟨u', h1, h2⟩ := hc i v (by simpa using hv)
    rw [types35_len, Nat.mod_eq_of_lt hi, hu] at h1
    cases h1
    exact h2
  obtain ⟨l1, l, e1, t1, h⟩ := hT.split
  obtain ⟨l2, l', e2, t2, h⟩ := h.split
  obtain ⟨l3, l'', e3, t3, h⟩ := h.split
  obtain ⟨l4, l''', e4, t4, h⟩ := h.split
  obtain ⟨l5, l6, e5, t5, t6⟩ := h.split
  obtain ⟨f1, b1, rfl⟩ := nums_of K 32 0 l1 t1
  obtain ⟨v, l0, rfl, hv, h0⟩ := t2.inv
  obtain ⟨rdy, rfl⟩ := cell_bool K hv
  have := h0.nil_inv
  subst this
  obtain ⟨f3, b3, rfl⟩ := nums_of K 2 33 l3 t3
  obtain ⟨g4, b4, rfl⟩ := ents_of K 12 0 l4 t4
  obtain ⟨f5, b5, rfl⟩ := nums_of K 2 35 l5 t5
  obtain ⟨g6, b6, rfl⟩ := ents_of K 6 12 l6 t6
  let n : Nat → Nat := fun j => if j < 32 then f1 j else if j < 35 then f3 j else f5 j
  let e : Nat → Ent := fun k => if k < 12 then g4 k else if k < 18 then g6 k else if k = 20 then a else if k = 21 then b else .zero
  refine ⟨{ n := n, rdy := rdy, e := e }, ?_, ⟨fun j => ?_, fun k => ?_⟩, rfl, rfl⟩
  · unfold Pkt.val
    congr 1
    apply Array.toList_inj.1
    rw [e1, e2, e3, e4, e5]
    show _ = numsV n 0 32 ++ ([.bool rdy] ++ (numsV n 33 2 ++ (entsV e 0 12 ++ (numsV n 35 2 ++ entsV e 12 6))))
    have x1 : numsV n 0 32 = numsV f1 0 32 := numsV_congr 32 0 fun i _ h => by show (if i < 32 then f1 i else if i < 35 then f3 i else f5 i) = _; rw [if_pos (by omega)]
    have x2 : numsV n 33 2 = numsV f3 33 2 := numsV_congr 2 33 fun i h1 h => by show (if i < 32 then f1 i else if i < 35 then f3 i else f5 i) = _; rw [if_neg (by omega), if_pos (by omega)]
    have x3 : numsV n 35 2 = numsV f5 35 2 := numsV_congr 2 35 fun i h1 h => by show (if i < 32 then f1 i else if i < 35 then f3 i else f5 i) = _; rw [if_neg (by omega), if_neg (by omega)]
    have x4 : entsV e 0 12 = entsV g4 0 12 := Go.Ex.entsV_congr 12 0 fun i _ h => by show (if i < 12 then g4 i else _) = _; rw [if_pos (by omega)]
    have x5 : entsV e 12 6 = entsV g6 12 6 := Go.Ex.entsV_congr 6 12 fun i h1 h => by show (if i < 12 then g4 i else if i < 18 then g6 i else _) = _; rw [if_neg (by omega), if_pos (by omega)]
    rw [x1, x2, x3, x4, x5]
  · show (if j < 32 then f1 j else if j < 35 then f3 j else f5 j) < _
    split
    · exact b1 j
    · split
      · exact b3 j
      · exact b5 j
  · show (if k < 12 then g4 k else if k < 18 then g6 k else if k = 20 then a else if k = 21 then b else Ent.zero).R
    split
    · exact b4 k
    · split
      · exact b6 k
      · split
        · exact ha
        · split
          · exact hb
          · exact Go.Ex.Ent.zero_R
end

/-! ### lists -/
theorem entry_cells_flat (e : Ent) : e.cells.length = 6 := rfl
/-- cells that lie in a row -/
theorem cells_row {w : World} {ad : Addr} (hs : ad.spot = none) {L : List Value} (hL : 0 < L.length) (h : ∀ (j : Nat) v, L[j]? = some v → w.cell? (ad.add j) = some v) :
    ∃ C e fz, w.heap[ad.block]? = some (.cells C e fz) ∧ (C.toList.drop ad.off).take L.length = L := by
  obtain ⟨b, o, s⟩ := ad
  cases hs
  have add : ∀ j, (⟨b, o, none⟩ : Addr).add j = ⟨b, o + j, none⟩ := by
    intro j
    unfold Addr.add
    split
    · rename_i e; subst e; rfl
    · rfl
  have cell : ∀ (j : Nat) v, L[j]? = some v → ∃ C e fz, w.heap[b]? = some (.cells C e fz) ∧ C[o + j]? = some v := by
    intro j v hv
    have := h j v hv
    rw [add] at this
    unfold World.cell? at this
    split at this
    · rename_i C e fz hC
      exact ⟨C, e, fz, hC, by simpa using this⟩
    · cases this
  obtain ⟨C, e, fz, hC, _⟩ := cell 0 L[0] (List.getElem?_eq_getElem hL)
  refine ⟨C, e, fz, hC, ?_⟩
  have at_ : ∀ (j : Nat) v, L[j]? = some v → C[o + j]? = some v := by
    intro j v hv
    obtain ⟨C', e', fz', hC', hv'⟩ := cell j v hv
    rw [hC] at hC'
    cases hC'
    exact hv'
  apply List.ext_getElem?
  intro i
  rw [List.getElem?_take]
  split
  · rename_i hi
    rw [List.getElem?_drop]
    have h1 : L[i]? = some L[i] := List.getElem?_eq_getElem hi
    rw [h1]
    have := at_ i _ h1
    simpa using this
  · rename_i hi
    rw [List.getElem?_eq_none (by omega)]
section
variable {H : Type} {enc : TypeId × Value → H} {P : Program} {w : World} {base : Nat} {spare : Nat → Bool} {held : Bool}
theorem list6 {α : Type} : ∀ {l : List α}, l.length = 6 → ∃ a b c d e f, l = [a, b, c, d, e, f]
  | [a, b, c, d, e, f], _ => ⟨a, b, c, d, e, f, rfl⟩
theorem cells30 : Tryz.prog.cellsOf 3 = 1 ∧ Tryz.prog.cellsOf 28 = 1 ∧ Tryz.prog.cellsOf 9 = 1 ∧ Tryz.prog.cellsOf 30 = 6 := ⟨by kernel_rfl, by kernel_rfl, by kernel_rfl, by kernel_rfl⟩
theorem u64_nat {n : Int} (h : (Lit.int .u64 n).wf = true) : ∃ m : Nat, m < 2 ^ 64 ∧ n = (m : Int) := by
  unfold Lit.wf at h
  rw [Bool.and_eq_true] at h
  have h1 := of_decide_eq_true h.1
  have h2 := of_decide_eq_true h.2
  have e1 : IntKind.min .u64 = 0 := by decide
  have e2 : IntKind.max .u64 = 18446744073709551615 := by decide
  exact ⟨n.toNat, by omega, by omega⟩
set_option maxRecDepth 100000 in
theorem open_ent (n : Nat) (cs : List Value) (y : DataW H × List MemPlace) (h : DataW.trod enc Tryz.prog w base spare held n 30 cs = some y) : ∃ e : Ent, cs = e.cells ∧ e.R := by
  obtain ⟨c3, c28, c9, c30⟩ := cells30
  obtain ⟨xs, m, _, _, hcl, hl, hf⟩ := DataW.trod_struct Tryz.underlying30 h
  rw [c30] at hcl
  obtain ⟨v0, v1, v2, v3, v4, v5, rfl⟩ := list6 hcl
  obtain ⟨y0, y1, y2, y3, y4, y5, rfl⟩ := list6 (l := xs) hl
  have f0 : DataW.trod enc Tryz.prog w base spare held m 3 (([v0, v1, v2, v3, v4, v5].drop 0).take (Tryz.prog.cellsOf 3)) = some y0 := hf 0 _ rfl
  have f1 : DataW.trod enc Tryz.prog w base spare held m 3 (([v0, v1, v2, v3, v4, v5].drop 1).take (Tryz.prog.cellsOf 3)) = some y1 := hf 1 _ rfl
  have f2 : DataW.trod enc Tryz.prog w base spare held m 3 (([v0, v1, v2, v3, v4, v5].drop 2).take (Tryz.prog.cellsOf 3)) = some y2 := hf 2 _ rfl
  have f3 : DataW.trod enc Tryz.prog w base spare held m 28 (([v0, v1, v2, v3, v4, v5].drop 3).take (Tryz.prog.cellsOf 28)) = some y3 := hf 3 _ rfl
  have f4 : DataW.trod enc Tryz.prog w base spare held m 28 (([v0, v1, v2, v3, v4, v5].drop 4).take (Tryz.prog.cellsOf 28)) = some y4 := hf 4 _ rfl
  have f5 : DataW.trod enc Tryz.prog w base spare held m 9 (([v0, v1, v2, v3, v4, v5].drop 5).take (Tryz.prog.cellsOf 9)) = some y5 := hf 5 _ rfl
  rw [c3] at f0 f1 f2
  rw [c28] at f3 f4
  rw [c9] at f5
  obtain ⟨n0, e0, _, _⟩ := DataW.trod_int Tryz.underlying3 f0
  obtain ⟨n1, e1, _, _⟩ := DataW.trod_int Tryz.underlying3 f1
  obtain ⟨n2, e2, _, _⟩ := DataW.trod_int Tryz.underlying3 f2
  obtain ⟨n3, e3, _, w3⟩ := DataW.trod_int Tryz.underlying28 f3
  obtain ⟨n4, e4, _, w4⟩ := DataW.trod_int Tryz.underlying28 f4
  obtain ⟨s5, e5, _, _⟩ := DataW.trod_string Tryz.underlying9 f5
  obtain ⟨m3, b3, rfl⟩ := u64_nat w3
  obtain ⟨m4, b4, rfl⟩ := u64_nat w4
  simp at e0 e1 e2 e3 e4 e5
  subst e0 e1 e2 e3 e4 e5
  exact ⟨⟨n0, n1, n2, m3, m4, s5⟩, rfl, b3, b4⟩
theorem spot_of {t e : TypeId} {a : Addr} {n c : Nat} {r : Reach} (ht : P.underlying t = some (.slice e)) (h : Value.okWide P w r base t (.slice (some a) n c)) : a.spot = none := by
  simp only [Value.okWide, Cell.okWide, Cell.ok, ht] at h
  exact h.2.2.2.1
/-- a list of entries that came in -/
theorem open_list {r : Reach} {v : Value} {b0 : Nat} (hval : Value.okWide Tryz.prog w r b0 36 v) {fuel : Nat} {x : DataW H × List MemPlace} (h : DataW.trod enc Tryz.prog w base spare held fuel 36 [v] = some x) :
    ∃ (a b : Ent) (s : Nat), a.R ∧ b.R ∧ ListIs w a b s v := by
  obtain ⟨_, _, _, c30⟩ := cells30
  rcases Go.Deep.open_slice Tryz.underlying36 h with ⟨hv, _⟩ | ⟨ad, len, cap, m, n, D, Pl, hv, _, hl, _, hm, _, hi⟩
  · cases hv
    exact ⟨.zero, .zero, 0, Go.Ex.Ent.zero_R, Go.Ex.Ent.zero_R, .nil⟩
  · cases hv
    have hs := spot_of Tryz.underlying36 hval
    have hlm : len ≤ m := by
      rw [hm]
      split <;> omega
    have el : ∀ i, i < len → ∃ e : Ent, e.R ∧ ∀ (j : Nat) v, e.cells[j]? = some v → w.cell? (ad.add (i * 6 + j)) = some v := by
      intro i hil
      obtain ⟨cs', hc, ht'⟩ := hi i (by omega)
      rw [c30] at hc
      obtain ⟨e, rfl, hR⟩ := open_ent n cs' _ ht'
      obtain ⟨_, hcl, hat⟩ := World.cells?_some hc
      refine ⟨e, hR, fun j v hv => ?_⟩
      have hj : j < 6 := (List.getElem?_eq_some_iff.1 hv).1
      have := hat j hj
      rw [Go.Deep.add_add] at this
      rw [this, hv]
    match len, el with
    | 0, _ => exact ⟨.zero, .zero, 1, Go.Ex.Ent.zero_R, Go.Ex.Ent.zero_R, .empty ad cap hs⟩
    | 1, el =>
      obtain ⟨a, ha, h0⟩ := el 0 (by decide)
      obtain ⟨C, e, fz, hC, hrow⟩ := cells_row hs (L := a.cells) (by show 0 < 6; decide) fun j v hv => by
        have := h0 j v hv
        rwa [Nat.zero_mul, Nat.zero_add] at this
      exact ⟨a, .zero, 2, ha, Go.Ex.Ent.zero_R, .one ad cap hs hC hrow⟩
    | k + 2, el =>
      obtain ⟨a, ha, h0⟩ := el 0 (by omega)
      obtain ⟨b, hb, h1⟩ := el 1 (by omega)
      obtain ⟨C, e, fz, hC, hrow⟩ := cells_row hs (L := a.cells ++ b.cells) (by show 0 < 12; decide) fun j v hv => by
        by_cases hj : j < 6
        · rw [List.getElem?_append_left hj] at hv
          have := h0 j v hv
          rwa [Nat.zero_mul, Nat.zero_add] at this
        · rw [List.getElem?_append_right (by show 6 ≤ j; omega)] at hv
          have := h1 (j - 6) v hv
          rwa [show 1 * 6 + (j - 6) = j by omega] at this
      cases k with
      | zero => exact ⟨a, b, 3, ha, hb, .two ad cap hs hC hrow⟩
      | succ k => exact ⟨a, b, 4, ha, hb, .more ad k cap hs hC hrow⟩
end
/-! ### the listed variables -/
theorem kinds : Kinds Tryz.prog := ⟨Tryz.underlying22, Tryz.underlying28, Tryz.underlying3, Tryz.underlying9, Tryz.underlying4⟩
theorem types35_is : Tryz.prog.cellTypes Tryz.prog.depth 35 = some types35 := by kernel_rfl
theorem cells35 : Tryz.prog.cellsOf 35 = 145 := by kernel_rfl
theorem open_packet {w : World} {r : Reach} {base : Nat} {v : Value} (h : Value.okWide Tryz.prog w r base 35 v) (a b : Ent) (ha : a.R) (hb : b.R) : ∃ pk : Pkt, v = pk.val ∧ pk.R ∧ pk.e 20 = a ∧ pk.e 21 = b :=
  open_pkt kinds Tryz.underlying35 types35_is cells35 h a b ha hb
theorem gTens : Tryz.prog.globalNamed "internal/strconv.uint64pow10" = some 0 := by kernel_rfl
theorem gTensT : (Tryz.prog.globals[0]?).map (·.type) = some 286 := by kernel_rfl
theorem cells286 : Tryz.prog.cellsOf 286 = 20 := by kernel_rfl
theorem tens_of_laid {W : World} {n1 n2 : String} {d1 d2 : DataW Unit} {r : List (String × DataW Unit)} (h : laidMet Tryz.prog ((n1, d1) :: (n2, d2) :: ("internal/strconv.uint64pow10", Rows.laid_internal_strconv_uint64pow10) :: r) W) : Tens W := by
  obtain ⟨ps, ⟨g0, t0, cs0, f0, p0, q0, _, _, _, _, ⟨g1, t1, cs1, f1, p1, q1, _, _, _, _, ⟨g2, t2, cs2, f2, p2, q2, hg, ht, hv, hd, _, _⟩, _⟩, _⟩, _, _⟩ := h
  obtain rfl := Option.some.inj (gTens.symm.trans hg)
  obtain rfl := Option.some.inj (gTensT.symm.trans ht)
  have ec := Lib.cells_of_tab (zs := Lib.pow10Tab) (k := .u64) Tryz.underlying286 Tryz.underlying28 cells30.2.1 cells286 hd
  unfold World.var? at hv
  rw [gTens] at hv
  simp only [Option.bind_some] at hv
  split at hv
  · rename_i cs e fz hc
    cases hv
    exact ⟨e, fz, by rw [hc, ← ec]⟩
  · cases hv
def setTab (cs : Array Value) : Obj → Obj
  | .cells _ t frozen => .cells cs t frozen
  | o => o
def lay1 : DataW Unit → List Value
  | .lit (.int k n) => [.int k n]
  | _ => []
def lay2 : DataW Unit → List Value
  | .agg l => l.flatMap lay1
  | d => lay1 d
def lay3 : DataW Unit → List Value
  | .agg l => l.flatMap lay2
  | d => lay2 d
/-- A world for a witness: the settled one, the listed variables holding what their initialisers lay. -/
noncomputable def heldWorld (os : Os) : World := World.holding Tryz.prog os ⟨#[.cells #[.string ⟨#[105, 110, 118, 97, 108, 105, 100, 32, 115, 121, 110, 116, 97, 120]⟩] 492, .cells #[.string ⟨#[118, 97, 108, 117, 101, 32, 111, 117, 116, 32, 111, 102, 32, 114, 97, 110, 103, 101]⟩] 492], #[], []⟩
noncomputable def laidWorld (os : Os) : World :=
  { heldWorld os with heap := (((((((heldWorld os).heap.modify 0 (setTab (lay3 Rows.laid_internal_strconv_uint64pow10).toArray)).modify 2 (setTab (lay3 Rows.laid_math_bits_deBruijn32tab).toArray)).modify 3 (setTab (lay3 Rows.laid_math_bits_deBruijn64tab).toArray)).modify 5 (setTab (lay3 Rows.laid_unicode_utf8_acceptRanges).toArray)).modify 4 (setTab (lay3 Rows.laid_unicode_utf8_first).toArray)).modify 6 (setTab #[.iface 490 (.pointer (some ⟨(World.settled Tryz.prog os).heap.size, 0, none⟩))])).modify 7 (setTab #[.iface 490 (.pointer (some ⟨(World.settled Tryz.prog os).heap.size + 1, 0, none⟩))]) }
end Go.Proofs.YtcmohdedlclcgaaGreatDoor
