/- A range over the lines of a text: what the caller owes, and what it is told. -/
import Derived.Test.YtoeioacgpildpaaDoorRLines
import Derived.RangeFuncNested
import Derived.RangeFuncBound
import Derived.RangeFuncCalls
import Derived.RangeFuncLeaves
import Derived.Shelf.Abstract
import Derived.Shelf.RegionOpen
import Derived.OwnWalkIn
import Derived.TacticsInMore
import Derived.LoopNIn
import Derived.LoopIn
set_option linter.unusedVariables false
set_option linter.unusedSimpArgs false
namespace Go.Proofs.YtoeioacgpildpaaDoor
open Go.Proofs Go.Shelf Go.RowKit Go.Proofs.YtoeioacgpildpaaDoorW.PrintWords Go.Proofs.YtoeioacgpildpaaDoorW.PrintLast Go.Proofs.YtoeioacgpildpaaDoorW.PrintMore
open Go.Proofs.YtoeioacgpildpaaDoor.P (S27 k27 z27)
attribute [local go_sem] Oper.semAt_some
set_option maxHeartbeats 1000000 in
theorem splitSeq_q (s : ByteArray) (w : World) : Calls Tryd.prog 51 #[.string s, .string ⟨#[10]⟩, .int .i64 1] w fun e w' => e = .returned (.func (.func 61) #[] #[.pointer (some ⟨w.heap.size + 1, 0, none⟩), .pointer (some ⟨w.heap.size, 0, none⟩), .pointer (some ⟨w.heap.size + 2, 0, none⟩)]) ∧
    w' = ((w.alloc (.cells #[.string s] 9)).alloc (.cells #[.string ⟨#[10]⟩] 9)).alloc (.cells #[.int .i64 1] 3) := by
  have hmf : ∀ (fn : Fn) (first cap : Array Value) (w : World), (Instr.makeFunc fn first cap).run Tryd.prog w = .ok (.func fn first cap) w := fun _ _ _ _ => rfl
  go_enter Tryd.func51, Tryd.ntmps51
  go_wp2
  go_ret
  exact ⟨rfl, rfl⟩
set_option maxHeartbeats 1000000 in
theorem splitAfter_q (s : ByteArray) (w : World) : Calls Tryd.prog 35 #[.string s, .string ⟨#[10]⟩] w fun e w' => e = .returned (.func (.func 61) #[] #[.pointer (some ⟨w.heap.size + 1, 0, none⟩), .pointer (some ⟨w.heap.size, 0, none⟩), .pointer (some ⟨w.heap.size + 2, 0, none⟩)]) ∧
    w' = ((w.alloc (.cells #[.string s] 9)).alloc (.cells #[.string ⟨#[10]⟩] 9)).alloc (.cells #[.int .i64 1] 3) := by
  go_enter Tryd.func35, Tryd.ntmps35
  go_wp2_with fail
  refine (splitSeq_q s w).mono ?_
  rintro e w1 ⟨rfl, rfl⟩
  go_wp2
  go_ret
  exact ⟨rfl, rfl⟩
/-- The iterator's three captured blocks: what is left, the separator, how long it is. -/
structure IB (W : World) (B : Nat) (r : List UInt8) : Prop where
  s : W.heap[B]? = some (.cells #[.string ⟨r.toArray⟩] 9 (0, 0))
  sep : W.heap[B + 1]? = some (.cells #[.string ⟨#[10]⟩] 9 (0, 0))
  len : W.heap[B + 2]? = some (.cells #[.int .i64 1] 3 (0, 0))
/-- What a round keeps. -/
def KeepIt (B : Nat) (W W' : World) : Prop := W'.heap[B]? = W.heap[B]? ∧ W'.heap[B + 1]? = W.heap[B + 1]? ∧ W'.heap[B + 2]? = W.heap[B + 2]?
theorem IB.keep {W W' : World} {B : Nat} {r : List UInt8} (h : IB W B r) (k : KeepIt B W W') : IB W' B r := ⟨k.1.trans h.s, k.2.1.trans h.sep, k.2.2.trans h.len⟩
def leftAt (B : Nat) (W : World) : Nat := match W.cell? ⟨B, 0, none⟩ with | some (Value.string s) => s.size | _ => 0
theorem leftAt_of {W : World} {B : Nat} {r : List UInt8} (h : IB W B r) : leftAt B W = r.length := by
  have hc : W.cell? ⟨B, 0, none⟩ = some (.string ⟨r.toArray⟩) := (blk_cell h.s 0).trans rfl
  unfold leftAt
  rw [hc]
  exact size_arr r
theorem IB.set {W : World} {B : Nat} {r : List UInt8} (h : IB W B r) (r2 : List UInt8) : IB (W.setCell ⟨B, 0, none⟩ (.string ⟨r2.toArray⟩)) B r2 :=
  ⟨blk_set h.s 0 _, blk_far h.sep (by simp) _, blk_far h.len (by simp) _⟩
set_option maxRecDepth 100000 in
set_option maxHeartbeats 4000000 in
theorem split_in (n l B : Nat) (hn : 3 ≤ n) (I : List UInt8 → World → Prop) (IE Ix : World → Prop)
    (hset : ∀ r W v, I r W → I r (W.setCell ⟨B, 0, none⟩ v))
    (hround : ∀ s p r W1, cut1 10 s = (p, r, true) → I s W1 → YieldAt Fence.wide (n - 1) Tryd.prog l #[.string ⟨(p ++ [10]).toArray⟩] W1 fun e W' => (e = .returned (.bool true) ∧ I r W' ∧ KeepIt B W1 W') ∨ (e = .returned (.bool false) ∧ Ix W'))
    (hlast : ∀ s W1, (cut1 10 s).2.2 = false → I s W1 → YieldAt Fence.wide (n - 1) Tryd.prog l #[.string ⟨s.toArray⟩] W1 fun e W' => (e = .returned (.bool true) ∧ IE W') ∨ (e = .returned (.bool false) ∧ Ix W'))
    (s0 : List UInt8) (hs0 : s0.length ≤ 1000000000) (W : World) (hB : IB W B s0) (h0 : I s0 W) :
    CallsIn Fence.wide n Tryd.prog 61 #[.func (.yield l) #[] #[], .pointer (some ⟨B + 1, 0, none⟩), .pointer (some ⟨B, 0, none⟩), .pointer (some ⟨B + 2, 0, none⟩)] W fun e W' => (∃ v, e = .returned v) ∧ (IE W' ∨ Ix W') := by
  refine callsIn_of_wp Tryd.func61 rfl trivial ?_ rfl
  simp only [Tryd.ntmps61, List.size_toArray, List.length_cons, List.length_nil, Nat.reduceAdd, Nat.reduceSub, Array.replicate_succ, Array.replicate_zero, List.push_toArray, List.append_toArray, List.nil_append, List.cons_append]
  have k1 : W.cell? ⟨B + 1, 0, none⟩ = some (.string ⟨#[10]⟩) := (blk_cell hB.sep 0).trans rfl
  have HB := Aside0.mk hB
  clear hB
  gi_wp2
  clear k1
  gi_loopw [7] (fun iv wr => ∃ r : List UInt8, r.length ≤ 1000000000 ∧ Aside0 (IB wr B r) ∧ I r wr) (fun _ wr => leftAt B wr)
  case atStart => exact ⟨s0, hs0, HB, h0⟩
  case round =>
    clear HB h0
    obtain ⟨r, hr, HB, hI⟩ := hrel
    have ks : wr.cell? ⟨B, 0, none⟩ = some (.string ⟨r.toArray⟩) := (blk_cell HB.out.s 0).trans rfl
    have kf : wr.frozen? ⟨B, 0, none⟩ = false := blk_frozen HB.out.s 0
    have k1 : wr.cell? ⟨B + 1, 0, none⟩ = some (.string ⟨#[10]⟩) := (blk_cell HB.out.sep 0).trans rfl
    have k3 : wr.cell? ⟨B + 2, 0, none⟩ = some (.int .i64 1) := (blk_cell HB.out.len 0).trans rfl
    have HI := callsIn_wide (n := n - 1) |>.2 (Tryd.strings_Index_one ⟨r.toArray⟩ 10 wr)
    have hz : (⟨r.toArray⟩ : ByteArray).size = r.length := size_arr r
    obtain ⟨x, hx⟩ : ∃ x : ByteArray, x = ⟨r.toArray⟩ := ⟨_, rfl⟩
    rcases hc : cut1 10 r with ⟨p, r2, b⟩
    cases b with
    | true =>
      have hsp := (cut1_true (c := 10) (l := r) (by rw [hc])).1
      have hnm := (cut1_true (c := 10) (l := r) (by rw [hc])).2
      rw [hc] at hsp hnm
      simp only at hsp hnm
      have hi := indexByte_at 10 p r2 hnm
      rw [← hsp] at hi
      rw [hi] at HI
      have hpl : p.length + 1 ≤ r.length := by rw [hsp]; simp
      obtain ⟨fn, tmps, assign, body, hy, hR⟩ := hround r p r2 wr hc hI
      have HR := Aside0.mk hR
      have EY := Aside0.mk (show x.extract 0 (p.length + 1) = ⟨(p ++ [10]).toArray⟩ from extract_str (by rw [hx, hsp]; show ((p ++ 10 :: r2).drop 0).take (p.length + 1 - 0) = p ++ [10]; rw [List.drop_zero, Nat.sub_zero, show p ++ 10 :: r2 = (p ++ [10]) ++ r2 from by simp, List.take_left' (by simp)]))
      have ER := Aside0.mk (show x.extract (p.length + 1) x.size = ⟨r2.toArray⟩ from extract_str (by rw [hx, hz, hsp]; simp; exact List.take_of_length_le (by omega)))
      rw [← hx] at ks HI hz
      rw [← EY.out] at hy
      have hrl : r2.length + p.length + 1 = r.length := by rw [hsp]; simp; omega
      have HX := Aside0.mk hx
      clear hx hc hsp hnm hi hR
      have hpz : (p.length : Int) + 1 ≤ (x.size : Int) := by omega
      have hpz2 : p.length + 1 ≤ x.size := by omega
      have hxz : x.size ≤ 1000000000 := by omega
      clear hz
      gi_wp2_with fail
      refine ⟨trivial, fun _ => by omega, ?_⟩
      refine HI.mono ?_
      rintro e w' ⟨rfl, rfl⟩
      gi_wp2_with fail
      refine ⟨fun _ => by omega, ?_⟩
      refine HR.out.mono ?_
      rintro e W2 (⟨rfl, hI2, hk2⟩ | ⟨rfl, hX2⟩)
      · have HB2 := Aside0.mk (HB.out.keep hk2)
        have HM := Aside0.mk (leftAt_of HB.out)
        clear ks kf k1 k3 HI HR hy hk2 HB
        have ks : W2.cell? ⟨B, 0, none⟩ = some (.string x) := by rw [HX.out]; exact (blk_cell HB2.out.s 0).trans rfl
        have kf : W2.frozen? ⟨B, 0, none⟩ = false := blk_frozen HB2.out.s 0
        have k1 : W2.cell? ⟨B + 1, 0, none⟩ = some (.string ⟨#[10]⟩) := (blk_cell HB2.out.sep 0).trans rfl
        have HB3 := Aside0.mk (show IB (W2.setCell ⟨B, 0, none⟩ (.string (x.extract (p.length + 1) x.size))) B r2 from by rw [ER.out]; exact HB2.out.set r2)
        have HI3 := Aside0.mk (hset r2 W2 (.string (x.extract (p.length + 1) x.size)) hI2)
        have HL := Aside0.mk (show r2.length < r.length from by omega)
        clear hI2 HB2
        gi_wp2
        go_roundw
        case rel => exact ⟨r2, by have := HL.out; omega, HB3, HI3.out⟩
        case measure => rw [leftAt_of HB3.out, HM.out]; exact HL.out
      · gi_wp2
        refine bodyPost_ret (results_none rfl _ _ _) rfl ?_
        exact ⟨⟨_, rfl⟩, .inr hX2⟩
    | false =>
      have hnm := (cut1_false (c := 10) (l := r) (by rw [hc])).1
      rw [indexByte_no 10 r hnm] at HI
      obtain ⟨fn, tmps, assign, body, hy, hR⟩ := hlast r wr (by rw [hc]) hI
      have HR := Aside0.mk hR
      rw [← hx] at ks HI hz hy
      clear hx hc hnm hR hz
      gi_wp2_with fail
      refine ⟨trivial, fun _ => by omega, ?_⟩
      refine HI.mono ?_
      rintro e w' ⟨rfl, rfl⟩
      gi_wp2_with fail
      refine ⟨fun _ => by omega, ?_⟩
      refine HR.out.mono ?_
      rintro e W2 (⟨rfl, hI2⟩ | ⟨rfl, hX2⟩)
      · gi_wp2
        go_end0
        exact ⟨⟨_, rfl⟩, .inl hI2⟩
      · gi_wp2
        go_end0
        exact ⟨⟨_, rfl⟩, .inr hX2⟩
end Go.Proofs.YtoeioacgpildpaaDoor
namespace Go.Proofs.YtoeioacgpildpaaDoor
open Go.Proofs Go.Shelf Go.RowKit Go.Proofs.YtoeioacgpildpaaDoorW.PrintWords Go.Proofs.YtoeioacgpildpaaDoorW.PrintLast Go.Proofs.YtoeioacgpildpaaDoorW.PrintMore
open Go.Proofs.YtoeioacgpildpaaDoor.P (S27 k27 z27)
/-- What abides the loop's own book-keeping: the turn of the two blocks from D on. -/
def Abide (D : Nat) (J : World → Prop) : Prop := ∀ W l o, (l = D ∨ l = D + 1) → J W → J (W.putObj l o)
/-- How a round may be left. -/
def lineEnd (D B : Nat) (J Jx : World → Prop) (W : World) : Exit → Act → World → Prop
  | .normal, _, W' => (W'.heap[D]? = W.heap[D]? ∧ W'.heap[D + 1]? = W.heap[D + 1]?) ∧ KeepIt B W W' ∧ J W'
  | .ret, _, W' => (W'.heap[D]? = W.heap[D]? ∧ W'.heap[D + 1]? = W.heap[D + 1]?) ∧ Jx W'
  | _, _, _ => False
theorem put_same {W : World} {l : Nat} {o : Obj} (o' : Obj) (h : W.heap[l]? = some o) : (W.putObj l o').heap[l]? = some o' := World.putObj_heap_same (Array.getElem?_eq_some_iff.1 h).1
theorem set_far {W : World} {B k : Nat} (h : k ≠ B) (v : Value) : (W.setCell ⟨B, 0, none⟩ v).heap[k]? = W.heap[k]? := Below.heap_setCell W ⟨B, 0, none⟩ v k h
set_option maxHeartbeats 1000000 in
theorem range_lines {g : Operand} {ps : Array Tmp} {assign body : Code} {Q : Exit → Act → World → Prop} {a : Act} {w : World} (n B : Nat) (hn : 5 ≤ n) (s0 : List UInt8) (hs0 : s0.length ≤ 1000000000)
    (hg : a.eval g = .func (.func 61) #[] #[.pointer (some ⟨B + 1, 0, none⟩), .pointer (some ⟨B, 0, none⟩), .pointer (some ⟨B + 2, 0, none⟩)]) (hps : ps.size = 1) (hB : IB w B s0) (hBw : B + 2 < w.heap.size)
    (I : List UInt8 → World → Prop) (IE Ix : World → Prop) (hI : ∀ r, Abide w.heap.size (I r)) (hIE : Abide w.heap.size IE) (hIx : Abide w.heap.size Ix) (hset : ∀ r W v, I r W → I r (W.setCell ⟨B, 0, none⟩ v))
    (h0 : ∀ o1 o2, I s0 ((w.alloc o1).alloc o2)) (a₁ : List UInt8 → Act)
    (hassign : ∀ (l : Nat) (x : List UInt8) (W : World) (K : Act → World → Prop), K (a₁ x) W →
      assign.wpIn (Fence.wide.inRound l) (n - 1 - 1) Tryd.prog (Exit.then K (fun _ _ _ => False)) { tmps := (ps.zip #[.string ⟨x.toArray⟩]).foldl (fun t (p, v) => t.setIfInBounds p v) a.tmps, defers := [] } W)
    (hbody : ∀ (l : Nat) (s p r : List UInt8) (W : World), cut1 10 s = (p, r, true) → I s W → body.wpIn (Fence.wide.inRound l) (n - 1 - 1) Tryd.prog (lineEnd w.heap.size B (I r) Ix W) (a₁ (p ++ [10])) W)
    (hlast : ∀ (l : Nat) (s : List UInt8) (W : World), (cut1 10 s).2.2 = false → I s W → body.wpIn (Fence.wide.inRound l) (n - 1 - 1) Tryd.prog (lineEnd w.heap.size B IE Ix W) (a₁ s) W)
    (hdone : ∀ (W : World), IE W → W.heap[w.heap.size]? = some (.deferred (some [])) → Q .normal { a with defers := { target := .collected w.heap.size, args := #[] } :: a.defers } W)
    (hret : ∀ (W : World), Ix W → W.heap[w.heap.size]? = some (.deferred (some [])) → Code.ret.wpIn Fence.wide n Tryd.prog Q { a with defers := { target := .collected w.heap.size, args := #[] } :: a.defers } W) :
    (Code.rangeFunc g ps assign body).wpIn Fence.wide n Tryd.prog Q a w := by
  refine wpIn_rangeFunc ?_
  intro fn hfn
  obtain ⟨D, hD⟩ : ∃ D, D = w.heap.size := ⟨_, rfl⟩
  rw [← hD] at hBw hI hIE hIx hbody hlast hdone hret
  obtain ⟨rc, hrc⟩ : ∃ rc : LoopState → Option Code → Loop, rc = fun st pe => { state := st, pending := pe, fn, tmps := a.tmps, params := ps, assign, body, defers := D } := ⟨_, rfl⟩
  obtain ⟨W1, hW1⟩ : ∃ W1, (w.alloc (.deferred (some []))).alloc (.loop (rc .ready none)) = W1 := ⟨_, rfl⟩
  have L1 : W1.heap[D + 1]? = some (.loop (rc .ready none)) := by
    rw [← hW1]
    have := World.alloc_heap_new (w.alloc (.deferred (some []))) (.loop (rc .ready none))
    rwa [World.size_alloc, ← hD] at this
  have K1 : W1.heap[D]? = some (.deferred (some [])) := by
    rw [← hW1]
    have := World.alloc_heap_new w (.deferred (some []))
    rw [← hD] at this
    exact (Below.heap_alloc _ _ _ (by rw [World.size_alloc]; omega)).trans this
  have old : ∀ k, k < D → W1.heap[k]? = w.heap[k]? := fun k hk => by
    rw [← hW1]
    exact (Below.heap_alloc _ _ _ (by rw [World.size_alloc]; omega)).trans (Below.heap_alloc _ _ _ (by omega))
  have B1 : IB W1 B s0 := ⟨(old _ (by omega)).trans hB.s, (old _ (by omega)).trans hB.sep, (old _ (by omega)).trans hB.len⟩
  -- what holds between two rounds, with the two blocks of book-keeping
  let J : List UInt8 → World → Prop := fun r W => I r W ∧ W.heap[D + 1]? = some (.loop (rc .ready none)) ∧ W.heap[D]? = some (.deferred (some []))
  let JE : World → Prop := fun W => IE W ∧ W.heap[D + 1]? = some (.loop (rc .ready none)) ∧ W.heap[D]? = some (.deferred (some []))
  let Jx : World → Prop := fun W => Ix W ∧ W.heap[D + 1]? = some (.loop (rc .done (some .ret))) ∧ W.heap[D]? = some (.deferred (some []))
  -- one round, whatever the piece
  have round : ∀ (x : List UInt8) (J2 : World → Prop) (s : List UInt8) (W : World), Abide D J2 → J s W →
      (∀ W2, I s W2 → body.wpIn (Fence.wide.inRound (D + 1)) (n - 1 - 1) Tryd.prog (lineEnd D B J2 Ix W2) (a₁ x) W2) →
      YieldAt Fence.wide (n - 1 - 1) Tryd.prog (D + 1) #[.string ⟨x.toArray⟩] W fun e W' =>
        (e = .returned (.bool true) ∧ (J2 W' ∧ W'.heap[D + 1]? = some (.loop (rc .ready none)) ∧ W'.heap[D]? = some (.deferred (some []))) ∧ KeepIt B W W') ∨ (e = .returned (.bool false) ∧ Jx W') := by
    intro x J2 s W hA ⟨hi, hl, hk⟩ hb
    have hy := run_yield (P := Tryd.prog) (args := #[.string ⟨x.toArray⟩]) hl (by rw [hrc]; exact hps.symm)
    rw [hrc] at hy
    refine ⟨fn, _, assign, body, hy, roundIn_of_wpIn hfn (hassign _ x W _ ⟨_, run_beginRound hl (by rw [hrc]), ?_⟩)⟩
    obtain ⟨W2, hW2⟩ : ∃ W2, W2 = W.putObj (D + 1) (.loop { rc .ready none with state := .busy }) := ⟨_, rfl⟩
    have l2 : W2.heap[D + 1]? = some (.loop { rc .ready none with state := .busy }) := by rw [hW2]; exact put_same _ hl
    have k2 : W2.heap[D]? = some (.deferred (some [])) := by rw [hW2]; exact (World.putObj_heap_other (by omega)).trans hk
    have far2 : ∀ k, k ≠ D + 1 → W2.heap[k]? = W.heap[k]? := fun k h => by rw [hW2]; exact World.putObj_heap_other h
    rw [← hW2]
    refine wpIn_mono (hb W2 (by rw [hW2]; exact hI s W _ _ (.inr rfl) hi)) ?_
    have fin : ∀ (jump : Option Code) (W3 : World), (W3.heap[D]? = W2.heap[D]? ∧ W3.heap[D + 1]? = W2.heap[D + 1]?) →
        (Instr.endRound (D + 1) jump).run Tryd.prog W3 = .ok (.bool jump.isNone) (W3.putObj (D + 1) (.loop (rc (if jump.isNone then .ready else .done) jump))) ∧
        (W3.putObj (D + 1) (.loop (rc (if jump.isNone then .ready else .done) jump))).heap[D + 1]? = some (.loop (rc (if jump.isNone then .ready else .done) jump)) ∧
        (W3.putObj (D + 1) (.loop (rc (if jump.isNone then .ready else .done) jump))).heap[D]? = some (.deferred (some [])) := fun jump W3 h => by
      have l3 : W3.heap[D + 1]? = some (.loop { rc .ready none with state := .busy }) := h.2.trans l2
      have := run_endRound (P := Tryd.prog) jump l3
      rw [hrc] at this ⊢
      exact ⟨this, put_same _ l3, (World.putObj_heap_other (by omega)).trans (h.1.trans k2)⟩
    rintro e a3 W3 hp
    cases e with
    | normal =>
      obtain ⟨hb3, hk3, hj3⟩ := hp
      obtain ⟨hr, hl4, hk4⟩ := fin none W3 hb3
      refine ⟨_, _, hr, .inl ⟨rfl, ⟨hA W3 _ _ (.inr rfl) hj3, hl4, hk4⟩, ?_⟩⟩
      exact ⟨(World.putObj_heap_other (by omega)).trans (hk3.1.trans (far2 _ (by omega))), (World.putObj_heap_other (by omega)).trans (hk3.2.1.trans (far2 _ (by omega))), (World.putObj_heap_other (by omega)).trans (hk3.2.2.trans (far2 _ (by omega)))⟩
    | ret =>
      obtain ⟨hb3, hj3⟩ := hp
      obtain ⟨hr, hl4, hk4⟩ := fin (some .ret) W3 hb3
      exact ⟨_, _, hr, .inr ⟨rfl, hIx W3 _ _ (.inr rfl) hj3, hl4, hk4⟩⟩
    | exit id => exact hp.elim
    | goto t => exact hp.elim
    | panic ch => exact hp.elim
    | outgrown => exact hp.elim
  have hrun : (Instr.enterLoop fn a.tmps ps assign body Fence.wide.round).run Tryd.prog w = .ok (D + 1, [{ target := .collected D, args := #[] }]) W1 := by
    rw [← hW1, hrc, hD]
    exact run_enterLoop_outer _ _ _ _ _
  refine ⟨D + 1, [{ target := .collected D, args := #[] }], W1, { target := .fn (.func 61) #[.pointer (some ⟨B + 1, 0, none⟩), .pointer (some ⟨B, 0, none⟩), .pointer (some ⟨B + 2, 0, none⟩)], args := #[.func (.yield (D + 1)) #[] #[]] }, W1, 61,
    #[.func (.yield (D + 1)) #[] #[]] ++ #[.pointer (some ⟨B + 1, 0, none⟩), .pointer (some ⟨B, 0, none⟩), .pointer (some ⟨B + 2, 0, none⟩)], W1, hrun, ?_, fun _ _ => trivial, ?_, fun _ => by omega, ?_⟩
  · simp only [resolve, hg]
    simp [go_sem]
  · simp [invoke, go_sem, enters_of Tryd.func61 (by kernel_rfl) rfl]
  · refine (split_in (n - 1) (D + 1) B (by omega) J JE Jx ?_ ?_ ?_ s0 hs0 W1 B1 ⟨by rw [← hW1]; exact h0 _ _, L1, K1⟩).mono ?_
    · intro r W v ⟨hi, hl, hk⟩
      exact ⟨hset r W v hi, (set_far (by omega) v).trans hl, (set_far (by omega) v).trans hk⟩
    · intro s p r W hc hJ
      exact round (p ++ [10]) (I r) s W (hI r) hJ (fun W2 h => hbody (D + 1) s p r W2 hc h)
    · intro s W hc hJ
      obtain ⟨f1, t1, a1, b1, h1, h2⟩ := round s IE s W hIE hJ (fun W2 h => hlast (D + 1) s W2 hc h)
      refine ⟨f1, t1, a1, b1, h1, h2.mono ?_⟩
      rintro e W' (⟨he, hj, _⟩ | h)
      · exact .inl ⟨he, hj⟩
      · exact .inr h
    · rintro e W2 ⟨⟨v, rfl⟩, (⟨hi, hl, hk⟩ | ⟨hi, hl, hk⟩)⟩
      · have := run_endLoop (P := Tryd.prog) hl (by rw [hrc]; simp)
        rw [hrc] at this
        exact ⟨none, _, this, hdone _ (hIE W2 _ _ (.inr rfl) hi) ((World.putObj_heap_other (by omega)).trans hk)⟩
      · have := run_endLoop (P := Tryd.prog) hl (by rw [hrc]; simp)
        rw [hrc] at this
        exact ⟨some .ret, _, this, hret _ (hIx W2 _ _ (.inr rfl) hi) ((World.putObj_heap_other (by omega)).trans hk)⟩
end Go.Proofs.YtoeioacgpildpaaDoor
