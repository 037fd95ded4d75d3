/- audit.Read: what audit a text says, or that it says none. -/
import Derived.Test.YtoeioacgpildpaaDoorReadPlain
import Derived.Maps.AppendAt
import Derived.Maps.OwnIn
set_option linter.unusedVariables false
set_option linter.unusedSimpArgs false
namespace Go.Proofs.YtoeioacgpildpaaDoor
open Go.Proofs Go.Shelf Go.RowKit Go.Proofs.YtoeioacgpildpaaDoorW.PrintWords Go.Proofs.YtoeioacgpildpaaDoorW.PrintLast Go.Proofs.YtoeioacgpildpaaDoorW.PrintMore
open Go.Proofs.YtoeioacgpildpaaDoor.P (S27 k27 z27)
attribute [local go_sem] Oper.semAt_some
/-- Read under way: the results' blocks, what was read so far. -/
structure RS (w W : World) (N : Nat) (v : Value) (xs : List S27) : Prop where
  r2 : W.heap[N]? = some (.cells #[.slice none 0 0] 22 (0, 0))
  r3 : W.heap[N + 1]? = some (.cells #[.bool false] 4 (0, 0))
  out : W.heap[N + 2]? = some (.cells #[v] 22 (0, 0))
  own : W.ownsRow (N + 8) 27 4 v xs.length (cellsR xs)
  bel : Below N w W
  size : N + 6 ≤ W.heap.size
theorem below_put {n : Nat} {w W : World} (h : Below n w W) {l : Nat} (hl : n ≤ l) (hw : n ≤ W.heap.size) (o : Obj) : Below n w (W.putObj l o) :=
  h.grown (grownBy_putObj' W l o) hw (fun k e => by cases e; exact hl)
theorem RS.put {w W : World} {N : Nat} {v : Value} {xs : List S27} (h : RS w W N v xs) {l : Nat} (hl : l = N + 6 ∨ l = N + 6 + 1) (o : Obj) : RS w (W.putObj l o) N v xs :=
  { r2 := (World.putObj_heap_other (by omega)).trans h.r2, r3 := (World.putObj_heap_other (by omega)).trans h.r3, out := (World.putObj_heap_other (by omega)).trans h.out,
    own := h.own.kept (grownBy_putObj' W l o) (by rcases own_base' h.own with e | ⟨b, e, hb⟩; exact .inl e; exact .inr (by rw [e]; intro x; injection x; omega)),
    bel := below_put h.bel (by omega) (by have := h.size; omega) o, size := by have := h.size; simp; omega }
theorem RS.set {w W : World} {N : Nat} {v : Value} {xs : List S27} (h : RS w W N v xs) (u : Value) : RS w (W.setCell ⟨N + 3, 0, none⟩ u) N v xs :=
  { r2 := (set_far (by omega) u).trans h.r2, r3 := (set_far (by omega) u).trans h.r3, out := (set_far (by omega) u).trans h.out, own := ownsRow_setCell_below h.own (by show N + 3 < N + 8; omega) u, bel := h.bel.setCell (by show N ≤ N + 3; omega) u, size := by have := h.size; simp [World.setCell]; omega }
theorem RS.step {w W W' : World} {N : Nat} {v : Value} {xs : List S27} (h : RS w W N v xs) (hb : Below W.heap.size W W') : RS w W' N v xs :=
  { r2 := (hb.block _ (blk_lt h.r2)).trans h.r2, r3 := (hb.block _ (blk_lt h.r3)).trans h.r3, out := (hb.block _ (blk_lt h.out)).trans h.out,
    own := h.own.kept (row := none) ⟨hb.os, hb.tape, hb.output, hb.size, fun k hk _ => hb.block k hk⟩ (by rcases own_base' h.own with e | ⟨b, e, _⟩; exact .inl e; exact .inr (by rw [e]; simp)),
    bel := below_then h.bel (by have := h.size; omega) hb, size := by have := h.size; have := hb.size; omega }
theorem keep_below {B : Nat} {W W' : World} (hB : B + 2 < W.heap.size) (hb : Below W.heap.size W W') : KeepIt B W W' := ⟨hb.block _ (by omega), hb.block _ (by omega), hb.block _ (by omega)⟩
def Vd (s0 r : List UInt8) (xs : List S27) : Prop := (∀ x ∈ xs, FitsR x) ∧ s0 = textR xs ++ r
def RI (w : World) (N : Nat) (s0 r : List UInt8) (W : World) : Prop := ∃ v xs, RS w W N v xs ∧ Vd s0 r xs ∧ N + 8 ≤ W.heap.size
def RX (w : World) (N : Nat) (s0 : List UInt8) (W : World) : Prop := W.heap[N]? = some (.cells #[.slice none 0 0] 22 (0, 0)) ∧ W.heap[N + 1]? = some (.cells #[.bool false] 4 (0, 0)) ∧ Below N w W ∧ N + 8 ≤ W.heap.size ∧ ∀ ys, (∀ x ∈ ys, FitsR x) → textR ys ≠ s0
theorem RS.append {w W W1 : World} {N : Nat} {v v' : Value} {xs : List S27} {y : S27} (h : RS w W N v xs) (hz : N + 8 ≤ W.heap.size) (o1 o2 : Obj)
    (hown : W1.ownsRow (N + 8) 27 4 v' (xs.length + 1) (cellsR xs ++ [.int .u64 y.f0, .int .u32 y.f1, .string y.f2, .int .i64 y.f3])) (hg : ((W.alloc o1).alloc o2).grownBy W1 v.ownBlock) :
    RS w (W1.setCell ⟨N + 2, 0, none⟩ v') N v' (xs ++ [y]) ∧ (∀ k, k < N + 8 → k ≠ N + 2 → (W1.setCell ⟨N + 2, 0, none⟩ v').heap[k]? = W.heap[k]?) ∧ N + 8 ≤ (W1.setCell ⟨N + 2, 0, none⟩ v').heap.size := by
  have hge : ∀ k, v.ownBlock = some k → N + 8 ≤ k := fun k e => own_base h.own k e
  have hs1 := hg.size
  simp only [World.size_alloc] at hs1
  have far : ∀ k, k < N + 8 → W1.heap[k]? = W.heap[k]? := fun k hk => by
    rw [hg.block k (by simp only [World.size_alloc]; omega) (fun e => by have := hge k e.symm; omega)]
    rw [Below.heap_alloc _ _ _ (by simp only [World.size_alloc]; omega), Below.heap_alloc _ _ _ (by omega)]
  have far2 : ∀ k, k < N + 8 → k ≠ N + 2 → (W1.setCell ⟨N + 2, 0, none⟩ v').heap[k]? = W.heap[k]? := fun k h1 h2 => (set_far h2 v').trans (far k h1)
  have hb : Below N w W1 := ((h.bel.alloc (by omega) o1).alloc (by simp only [World.size_alloc]; omega) o2).grown hg (by simp only [World.size_alloc]; omega) (fun k e => by have := hge k e; omega)
  refine ⟨⟨(far2 _ (by omega) (by omega)).trans h.r2, (far2 _ (by omega) (by omega)).trans h.r3, ?_, ?_, hb.setCell (by show N ≤ N + 2; omega) v', by simp [World.setCell]; omega⟩, far2, by simp [World.setCell]; omega⟩
  · exact blk_set ((far (N + 2) (by omega)).trans h.out) 0 v'
  · rw [List.length_append, List.length_singleton, cellsR_snoc]
    exact ownsRow_setCell_below hown (by show N + 2 < N + 8; omega) v'
theorem RS.fail {w W : World} {N : Nat} {v : Value} {xs : List S27} {s0 : List UInt8} (h : RS w W N v xs) (hz : N + 8 ≤ W.heap.size) (o : Obj) (hn : ∀ ys, (∀ x ∈ ys, FitsR x) → textR ys ≠ s0) :
    RX w N s0 (((W.alloc o).setCell ⟨N, 0, none⟩ (.slice none 0 0)).setCell ⟨N + 1, 0, none⟩ (.bool false)) ∧
    ∀ k, N + 2 ≤ k → k < N + 8 → (((W.alloc o).setCell ⟨N, 0, none⟩ (.slice none 0 0)).setCell ⟨N + 1, 0, none⟩ (.bool false)).heap[k]? = W.heap[k]? := by
  refine ⟨⟨?_, ?_, ?_, by simp [World.setCell]; omega, hn⟩, fun k h1 h2 => ?_⟩
  · exact (set_far (by omega) _).trans (blk_set (blk_alloc h.r2 o) 0 _)
  · exact blk_set ((set_far (by omega) _).trans (blk_alloc h.r3 o)) 0 _
  · exact ((h.bel.alloc (by omega) o).setCell (by show N ≤ N; omega) _).setCell (by show N ≤ N + 1; omega) _
  · rw [set_far (by omega), set_far (by omega), Below.heap_alloc _ _ _ (by omega)]
def W0 (w : World) (s : ByteArray) : World := (((((w.alloc (.cells #[.slice none 0 0] 22)).alloc (.cells #[.bool false] 4)).alloc (.cells #[.slice none 0 0] 22)).alloc (.cells #[.string s] 9)).alloc (.cells #[.string ⟨#[10]⟩] 9)).alloc (.cells #[.int .i64 1] 3)
theorem W0_size (w : World) (s : ByteArray) : (W0 w s).heap.size = w.heap.size + 6 := by unfold W0; simp
theorem blk_new' {W : World} {k : Nat} (h : W.heap.size = k) (cs : Array Value) (t : TypeId) : (W.alloc (.cells cs t)).heap[k]? = some (.cells cs t (0, 0)) := by rw [← h]; exact blk_new W (.cells cs t)
theorem W0_start (w : World) (s : ByteArray) : RS w (W0 w s) w.heap.size (.slice none 0 0) [] ∧ IB (W0 w s) (w.heap.size + 3) s.data.toList := by
  unfold W0
  refine ⟨⟨?_, ?_, ?_, World.ownsRow_nil _ _ _ _, ?_, by simp⟩, ?_, ?_, ?_⟩
  · exact blk_alloc (blk_alloc (blk_alloc (blk_alloc (blk_alloc (blk_new' rfl _ _) _) _) _) _) _
  · exact blk_alloc (blk_alloc (blk_alloc (blk_alloc (blk_new' (by simp) _ _) _) _) _) _
  · exact blk_alloc (blk_alloc (blk_alloc (blk_new' (by simp) _ _) _) _) _
  · exact below_alloc (below_alloc (below_alloc (below_alloc (below_alloc (below_alloc (Below.refl _ _) _) _) _) _) _) _
  · exact blk_alloc (blk_alloc (blk_new' (by simp) _ _) _) _
  · exact blk_alloc (blk_new' (by simp) _ _) _
  · exact blk_new' (by simp) _ _
theorem parse_z (x : ByteArray) (hs : x.size ≤ 1000000000) (ho : IsParse x.data.toList none) (w : World) (ht : Tens w) (he : Errs w) :
    Calls Tryd.prog 17 #[.string x] w fun e w' => e = .returned (.tuple #[.agg #[.int .u64 0, .int .u32 0, .string ⟨#[]⟩, .int .i64 0], .bool false]) ∧ Below w.heap.size w w' := parse_q x hs none ho w ht he
theorem parse_y (x : ByteArray) (hs : x.size ≤ 1000000000) (y : S27) (ho : IsParse x.data.toList (some y)) (w : World) (ht : Tens w) (he : Errs w) :
    Calls Tryd.prog 17 #[.string x] w fun e w' => e = .returned (.tuple #[.agg #[.int .u64 y.f0, .int .u32 y.f1, .string y.f2, .int .i64 y.f3], .bool true]) ∧ Below w.heap.size w w' := parse_q x hs (some y) ho w ht he
set_option maxRecDepth 100000 in
set_option maxHeartbeats 4000000 in
theorem read_q (s : ByteArray) (hs : s.size ≤ 1000000000) (o : Option (List S27)) (ho : IsRead s.data.toList o) (w : World) (ht : Tens w) (he : Errs w) :
    Calls Tryd.prog 19 #[.string s] w fun e w' => ∃ v, e = .returned (.tuple #[v, .bool o.isSome]) ∧ Kd.R k27 27 w' w.heap.size (fun _ => True) v (o.getD []) ∧ Below w.heap.size w w' := by
  have HT := Aside0.mk ht
  have HE := Aside0.mk he
  have HO := Aside0.mk ho
  have HS := Aside0.mk hs
  clear ht he ho hs
  refine (callsIn_wide (n := 8)).1 ?_
  refine callsIn_of_wp_marks Tryd.func19 rfl trivial ?_ rfl
  simp only [Tryd.ntmps19, List.size_toArray, List.length_cons, List.length_nil, Nat.reduceAdd, Nat.reduceSub, Array.replicate_succ, Array.replicate_zero, List.push_toArray, List.append_toArray, List.nil_append, List.cons_append]
  gi_wp2_with fail
  refine ⟨trivial, ?_⟩
  refine (callsIn_wide.2 (splitAfter_q s _)).mono ?_
  rintro e w' ⟨rfl, hw'⟩
  have hW : w' = W0 w s := hw'
  clear hw'
  subst hW
  obtain ⟨R0, I0⟩ := W0_start w s
  have R0 := Aside0.mk R0
  have I0 := Aside0.mk I0
  have Z0 := W0_size w s
  generalize W0 w s = W at *
  simp only [World.size_alloc]
  obtain ⟨N, hN⟩ : ∃ N, N = w.heap.size := ⟨_, rfl⟩
  rw [← hN] at R0 I0 Z0 ⊢
  have HN := Aside0.mk hN
  clear hN
  gi_wp2_with fail
  simp only [Nat.add_assoc, Nat.reduceAdd]
  have hsl : s.data.toList.length = s.size := Array.length_toList
  obtain ⟨s0, hs0⟩ : ∃ s0, s0 = s.data.toList := ⟨_, rfl⟩
  have HSZ := Aside0.mk (show s0.length ≤ 1000000000 from by rw [hs0, hsl]; exact HS.out)
  rw [← hs0] at I0 HO
  clear hsl hs0
  refine range_lines 8 (N + 3) (by omega) s0 HSZ.out rfl rfl I0.out (by omega) (RI w N s0) (fun W => ∃ v xs, RS w W N v xs ∧ Vd s0 [] xs ∧ N + 8 ≤ W.heap.size) (RX w N s0) ?_ ?_ ?_ ?_ ?_ (fun x => { tmps := #[.string s, undef, .pointer (some ⟨N, 0, none⟩), .pointer (some ⟨N + 1, 0, none⟩), .pointer (some ⟨N + 2, 0, none⟩), .string ⟨x.toArray⟩, undef, undef, .string s, .func (.func 61) #[] #[.pointer (some ⟨N + 4, 0, none⟩), .pointer (some ⟨N + 3, 0, none⟩), .pointer (some ⟨N + 5, 0, none⟩)], .string ⟨x.toArray⟩, undef, undef, undef, undef, undef, undef, undef, undef, undef, undef, undef, undef, undef, undef, undef, undef, undef], defers := [] }) ?assign ?body ?last ?done ?ret
  · rw [Z0]
    rintro r W l o hl ⟨v, xs, hR, hV, hz⟩
    exact ⟨v, xs, hR.put hl o, hV, by simp; exact hz⟩
  · rw [Z0]
    rintro W l o hl ⟨v, xs, hR, hV, hz⟩
    exact ⟨v, xs, hR.put hl o, hV, by simp; exact hz⟩
  · rw [Z0]
    rintro W l o hl ⟨h1, h2, h3, h4, h5⟩
    exact ⟨(World.putObj_heap_other (by omega)).trans h1, (World.putObj_heap_other (by omega)).trans h2, below_put h3 (by omega) (by omega) o, by simp; exact h4, h5⟩
  · rintro r W u ⟨v, xs, hR, hV, hz⟩
    exact ⟨v, xs, hR.set u, hV, by simp [World.setCell]; exact hz⟩
  · intro o1 o2
    exact ⟨_, [], (R0.out.step (below_alloc (below_alloc (Below.refl _ _) o1) o2)), ⟨fun x hx => (List.not_mem_nil hx).elim, by rw [textR_nil, List.nil_append]⟩, by simp [Z0]⟩
  case assign =>
    intro l x W K hK
    gi_wp2
    exact hK
  case body =>
    rw [Z0]
    rintro l s1 p r W hc ⟨v, xs, hR, hV, hz⟩
    have hsp := (cut1_true (c := 10) (l := s1) (by rw [hc])).1
    rw [hc] at hsp
    simp only at hsp
    have hxl : xs.length ≤ 1000000000 := by
      have h1 := textR_length xs
      have h2 := congrArg List.length hV.2
      rw [List.length_append] at h2
      have := HSZ.out
      omega
    have hpl : (p ++ [10]).length ≤ 1000000000 := by
      have h2 := congrArg List.length hV.2
      rw [List.length_append, hsp, List.length_append, List.length_cons] at h2
      have := HSZ.out
      rw [List.length_append, List.length_singleton]
      omega
    obtain ⟨o1, ho1⟩ := isParse_ex (p ++ [10])
    have hz1 : (⟨(p ++ [10]).toArray⟩ : ByteArray).size ≤ 1000000000 := by rw [size_arr]; exact hpl
    have hV2 : ∀ y, IsParse (p ++ [10]) (some y) → Vd s0 r (xs ++ [y]) := fun y hy => ⟨fun z hz => by
        rcases List.mem_append.1 hz with h | h
        · exact hV.1 z h
        · rw [List.mem_singleton] at h; rw [h]; exact hy.1, by rw [textR_snoc, hy.2, hV.2, hsp]; simp⟩
    have hbad := fun (h : IsParse (p ++ [10]) none) => text_fail hV.1 hV.2 hc h
    have hT := HT.out.below (by rw [← HN.out]; exact hR.bel)
    have hE := HE.out.below (by rw [← HN.out]; exact hR.bel)
    have PZ := Aside0.mk (fun (h : IsParse (p ++ [10]) none) => parse_z ⟨(p ++ [10]).toArray⟩ hz1 h W hT hE)
    have PY := Aside0.mk (fun y (h : IsParse (p ++ [10]) (some y)) => parse_y ⟨(p ++ [10]).toArray⟩ hz1 y h W hT hE)
    have hne : (⟨(p ++ [10]).toArray⟩ : ByteArray).toList ≠ [] := by show (bsA (p ++ [10])).toList ≠ []; rw [bsA_toList]; simp
    have HRS := Aside0.mk hR
    have HV2 := Aside0.mk hV2
    have HBAD := Aside0.mk hbad
    have HZ := Aside0.mk hz
    clear hsp hpl hz1 hV2 hbad hT hE hR hV hz
    obtain ⟨x, hx⟩ : ∃ x : ByteArray, x = ⟨(p ++ [10]).toArray⟩ := ⟨_, rfl⟩
    rw [← hx] at PZ PY hne ⊢
    clear hx
    have hne2 : x.toList.isEmpty = false := by cases h : x.toList with
      | nil => exact absurd h hne
      | cons a b => rfl
    cases o1 with
    | none =>
      have HX := Aside0.mk (HBAD.out ho1)
      have PP := Aside0.mk (PZ.out ho1)
      clear PY PZ HBAD HV2
      gi_wp2_with fail
      refine ⟨trivial, ?_⟩
      refine (CallsIn.inRound l (callsIn_wide.2 PP.out)).mono ?_
      rintro e W2 ⟨rfl, hb⟩
      have hR2 := HRS.out.step hb
      have hz2 : N + 8 ≤ W2.heap.size := Nat.le_trans HZ.out hb.size
      have sameW : ∀ k, k < N + 8 → W2.heap[k]? = W.heap[k]? := fun k hk => hb.block k (by have := HZ.out; omega)
      obtain ⟨hF, hFb⟩ := hR2.fail hz2 (.cells #[.int .u64 0, .int .u32 0, .string ⟨#[]⟩, .int .i64 0] 27) HX.out
      have HF := Aside0.mk hF
      have HFB := Aside0.mk hFb
      have HSW := Aside0.mk sameW
      have k0 : (W2.alloc (.cells #[.int .u64 0, .int .u32 0, .string ⟨#[]⟩, .int .i64 0] 27)).cell? ⟨N, 0, none⟩ = some (.slice none 0 0) := (blk_cell (blk_alloc hR2.r2 _) 0).trans rfl
      have f0 := blk_frozen (blk_alloc hR2.r2 (.cells #[.int .u64 0, .int .u32 0, .string ⟨#[]⟩, .int .i64 0] 27)) 0
      have k1 : (W2.alloc (.cells #[.int .u64 0, .int .u32 0, .string ⟨#[]⟩, .int .i64 0] 27)).cell? ⟨N + 1, 0, none⟩ = some (.bool false) := (blk_cell (blk_alloc hR2.r3 _) 0).trans rfl
      have f1 := blk_frozen (blk_alloc hR2.r3 (.cells #[.int .u64 0, .int .u32 0, .string ⟨#[]⟩, .int .i64 0] 27)) 0
      have nn : ¬ N + 1 = N := by omega
      have nn2 : ¬ N = N + 1 := by omega
      clear hF hFb sameW hb hR2 PP
      gi_wp2
      exact ⟨⟨(HFB.out _ (by omega) (by omega)).trans (HSW.out _ (by omega)), (HFB.out _ (by omega) (by omega)).trans (HSW.out _ (by omega))⟩, HF.out⟩
    | some y =>
      have HVY := Aside0.mk (HV2.out y ho1)
      have PP := Aside0.mk (PY.out y ho1)
      clear PY PZ HBAD HV2
      obtain ⟨i0, hi, hi0, hi1, hi2⟩ := info_parts P.info27
      gi_wp2_with fail
      refine ⟨trivial, ?_⟩
      refine (CallsIn.inRound l (callsIn_wide.2 PP.out)).mono ?_
      rintro e W2 ⟨rfl, hb⟩
      have hR2 := HRS.out.step hb
      have hz2 : N + 8 ≤ W2.heap.size := Nat.le_trans HZ.out hb.size
      have HSW := Aside0.mk (show ∀ k, k < N + 8 → W2.heap[k]? = W.heap[k]? from fun k hk => hb.block k (by have := HZ.out; omega))
      have HR2 := Aside0.mk hR2
      have k0 : (W2.alloc (.cells #[.int .u64 y.f0, .int .u32 y.f1, .string y.f2, .int .i64 y.f3] 27)).cell? ⟨N + 2, 0, none⟩ = some v := (blk_cell (blk_alloc hR2.out _) 0).trans rfl
      clear hb PP hR2
      gi_wp2_with (gi_at_builtin; refine wpListIn_append_own _ rfl _ _ 22 rfl (N + 8) 27 i0 _ 4 40 Tryd.underlying22 hi hi0 hi1 hi2 rfl (by decide) v xs.length (cellsR xs) rfl ((HR2.out.own.alloc _).alloc _) ⟨W2.heap.size + 1, 0, none⟩ 1 1 [.int .u64 y.f0, .int .u32 y.f1, .string y.f2, .int .i64 y.f3] rfl rfl ?c1 ?c2 ?c3 ?c4 ?c5 ?_)
      case c1 =>
        intro j u hj
        have hB : ((W2.alloc (.cells #[.int .u64 y.f0, .int .u32 y.f1, .string y.f2, .int .i64 y.f3] 27)).alloc (.cells #[.int .u64 y.f0, .int .u32 y.f1, .string y.f2, .int .i64 y.f3] 27)).heap[W2.heap.size + 1]? = some (.cells #[.int .u64 y.f0, .int .u32 y.f1, .string y.f2, .int .i64 y.f3] 27 (0, 0)) := blk_new' (by simp) _ _
        have e1 : (⟨W2.heap.size + 1, 0, none⟩ : Addr).add j = ⟨W2.heap.size + 1, j, none⟩ := by simp [Addr.add]; exact Eq.symm
        rw [e1, blk_cell hB j, ← hj]
        simp
      case c2 =>
        intro u hu
        simp only [List.mem_cons, List.not_mem_nil, or_false] at hu
        rcases hu with rfl | rfl | rfl | rfl <;> rfl
      case c3 => unfold maxLen; omega
      case c4 => omega
      case c5 => simp only [World.size_alloc]; omega
      intro v' w1 hown' hgrow _
      obtain ⟨g', cap', rfl⟩ := ownsRow_succ hown'
      obtain ⟨hA1, hA2, hA3⟩ := HR2.out.append hz2 _ _ hown' hgrow
      have HA1 := Aside0.mk hA1
      have HA2 := Aside0.mk hA2
      have HA3 := Aside0.mk hA3
      have o1b : w1.heap[N + 2]? = some (.cells #[v] 22 (0, 0)) := by
        rw [hgrow.block (N + 2) (by simp only [World.size_alloc]; omega) (fun e => by have := own_base HR2.out.own _ e.symm; omega)]
        exact blk_alloc (blk_alloc HR2.out.out _) _
      have oc := (blk_cell o1b 0).trans (show _ = some v from rfl)
      have of_ := blk_frozen o1b 0
      clear hA1 hA2 hA3 hown' hgrow o1b k0
      gi_wp2
      exact ⟨⟨(HA2.out _ (by omega) (by omega)).trans (HSW.out _ (by omega)), (HA2.out _ (by omega) (by omega)).trans (HSW.out _ (by omega))⟩, ⟨(HA2.out _ (by omega) (by omega)).trans (HSW.out _ (by omega)), (HA2.out _ (by omega) (by omega)).trans (HSW.out _ (by omega)), (HA2.out _ (by omega) (by omega)).trans (HSW.out _ (by omega))⟩, _, _, HA1.out, HVY.out, HA3.out⟩
  case last =>
    rw [Z0]
    rintro l s1 W hc ⟨v, xs, hR, hV, hz⟩
    have hn10 := (cut1_false (c := 10) (l := s1) hc).1
    clear hc
    by_cases hs1 : s1 = []
    · subst hs1
      have HE1 := Aside0.mk (show lineEnd (N + 6) (N + 3) (fun W => ∃ v xs, RS w W N v xs ∧ Vd s0 [] xs ∧ N + 8 ≤ W.heap.size) (RX w N s0) W .normal { tmps := #[], defers := [] } W from ⟨⟨rfl, rfl⟩, ⟨rfl, rfl, rfl⟩, v, xs, hR, hV, hz⟩)
      clear hR hV hz
      gi_wp2
      exact HE1.out
    · have hlen : s1.length ≤ 1000000000 := by
        have h2 := congrArg List.length hV.2
        rw [List.length_append] at h2
        have := HSZ.out
        omega
      have hz1 : (⟨s1.toArray⟩ : ByteArray).size ≤ 1000000000 := by rw [size_arr]; exact hlen
      have hT := HT.out.below (by rw [← HN.out]; exact hR.bel)
      have hE := HE.out.below (by rw [← HN.out]; exact hR.bel)
      have HX := Aside0.mk (text_fail2 hV.1 hV.2 hn10 hs1)
      have PP := Aside0.mk (parse_z ⟨s1.toArray⟩ hz1 (isParse_no10 hn10) W hT hE)
      have hne : (⟨s1.toArray⟩ : ByteArray).toList ≠ [] := by show (bsA s1).toList ≠ []; rw [bsA_toList]; exact hs1
      have HRS := Aside0.mk hR
      have HZ := Aside0.mk hz
      clear hlen hz1 hT hE hR hV hz hn10 hs1
      obtain ⟨x, hx⟩ : ∃ x : ByteArray, x = ⟨s1.toArray⟩ := ⟨_, rfl⟩
      rw [← hx] at PP hne ⊢
      clear hx
      have hne2 : x.toList.isEmpty = false := by cases h : x.toList with
        | nil => exact absurd h hne
        | cons a b => rfl
      gi_wp2_with fail
      refine ⟨trivial, ?_⟩
      refine (CallsIn.inRound l (callsIn_wide.2 PP.out)).mono ?_
      rintro e W2 ⟨rfl, hb⟩
      have hR2 := HRS.out.step hb
      have hz2 : N + 8 ≤ W2.heap.size := Nat.le_trans HZ.out hb.size
      have sameW : ∀ k, k < N + 8 → W2.heap[k]? = W.heap[k]? := fun k hk => hb.block k (by have := HZ.out; omega)
      obtain ⟨hF, hFb⟩ := hR2.fail hz2 (.cells #[.int .u64 0, .int .u32 0, .string ⟨#[]⟩, .int .i64 0] 27) HX.out
      have HF := Aside0.mk hF
      have HFB := Aside0.mk hFb
      have HSW := Aside0.mk sameW
      have k0 : (W2.alloc (.cells #[.int .u64 0, .int .u32 0, .string ⟨#[]⟩, .int .i64 0] 27)).cell? ⟨N, 0, none⟩ = some (.slice none 0 0) := (blk_cell (blk_alloc hR2.r2 _) 0).trans rfl
      have f0 := blk_frozen (blk_alloc hR2.r2 (.cells #[.int .u64 0, .int .u32 0, .string ⟨#[]⟩, .int .i64 0] 27)) 0
      have k1 : (W2.alloc (.cells #[.int .u64 0, .int .u32 0, .string ⟨#[]⟩, .int .i64 0] 27)).cell? ⟨N + 1, 0, none⟩ = some (.bool false) := (blk_cell (blk_alloc hR2.r3 _) 0).trans rfl
      have f1 := blk_frozen (blk_alloc hR2.r3 (.cells #[.int .u64 0, .int .u32 0, .string ⟨#[]⟩, .int .i64 0] 27)) 0
      have nn : ¬ N + 1 = N := by omega
      have nn2 : ¬ N = N + 1 := by omega
      clear hF hFb sameW hb hR2 PP
      gi_wp2
      exact ⟨⟨(HFB.out _ (by omega) (by omega)).trans (HSW.out _ (by omega)), (HFB.out _ (by omega) (by omega)).trans (HSW.out _ (by omega))⟩, HF.out⟩
  case done =>
    rw [Z0]
    rintro W ⟨v, xs, hR, hV, hz⟩ hK
    have hxl : xs.length ≤ 1000000000 := by
      have h1 := textR_length xs
      have h2 := congrArg List.length hV.2
      rw [List.length_append] at h2
      have := HSZ.out
      omega
    have hO := isRead_text HO.out hV.1 (by rw [hV.2, List.append_nil])
    have HKR := R_of_cells hR.own
    obtain ⟨A, c, rfl⟩ := Kd.R_slice HKR
    obtain ⟨_, hcl, hC⟩ := Kd.R_reads' HKR
    have CX := Aside0.mk (P.audit_Check.calls (xs.length + 1) A c xs _ W hC hcl (check_f xs (by omega)))
    have k4 := (blk_cell hR.out 0).trans (show _ = some (.slice A xs.length c) from rfl)
    have HRS := Aside0.mk hR
    have HKK := Aside0.mk hK
    have HZ := Aside0.mk hz
    clear hcl hC HKR hR hV hK hz
    gi_wp2_with fail
    refine ⟨trivial, ?_⟩
    refine (callsIn_wide.2 CX.out).mono ?_
    rintro e W2 ⟨rfl, hb⟩
    cases hq : checkL xs with
    | false =>
      rw [hq, if_neg Bool.false_ne_true] at hO
      subst hO
      have hR2 := HRS.out.step hb
      have hz2 : N + 8 ≤ W2.heap.size := Nat.le_trans HZ.out hb.size
      have hKK := (hb.block _ (by have := HZ.out; omega)).trans HKK.out
      have k0 := (blk_cell hR2.r2 0).trans (show _ = some (.slice none 0 0) from rfl)
      have f0 := blk_frozen hR2.r2 0
      have k1 := (blk_cell hR2.r3 0).trans (show _ = some (.bool false) from rfl)
      have f1 := blk_frozen hR2.r3 0
      have nn : ¬ N + 1 = N := by omega
      have nn2 : ¬ N = N + 1 := by omega
      have HR2 := Aside0.mk hR2
      have HK2 := Aside0.mk hKK
      clear hb hR2 hKK CX k4
      gi_wp2
      obtain ⟨W3, hW3⟩ : ∃ W3, W3 = (W2.setCell ⟨N, 0, none⟩ (.slice none 0 0)).setCell ⟨N + 1, 0, none⟩ (.bool false) := ⟨_, rfl⟩
      have h1 : W3.heap[N]? = some (.cells #[.slice none 0 0] 22 (0, 0)) := by rw [hW3]; exact (set_far (by omega) _).trans (blk_set HR2.out.r2 0 _)
      have h2 : W3.heap[N + 1]? = some (.cells #[.bool false] 4 (0, 0)) := by rw [hW3]; exact blk_set ((set_far (by omega) _).trans HR2.out.r3) 0 _
      have h3 : Below N w W3 := by rw [hW3]; exact (HR2.out.bel.setCell (by show N ≤ N; omega) _).setCell (by show N ≤ N + 1; omega) _
      have h6 : W3.heap[N + 6]? = some (.deferred (some [])) := by rw [hW3, set_far (by omega), set_far (by omega)]; exact HK2.out
      have h4 : N + 8 ≤ W3.heap.size := by rw [hW3]; simp [World.setCell]; omega
      rw [← hW3]
      refine ⟨by simp, .inl ⟨_, _, rfl, run_takeDeferred h6, ?_⟩⟩
      have c2 : (W3.putObj (N + 6) (.deferred none)).cell? ⟨N, 0, none⟩ = some (.slice none 0 0) := (blk_cell ((World.putObj_heap_other (by omega)).trans h1) 0).trans rfl
      have c3 : (W3.putObj (N + 6) (.deferred none)).cell? ⟨N + 1, 0, none⟩ = some (.bool false) := (blk_cell ((World.putObj_heap_other (by omega)).trans h2) 0).trans rfl
      have hB := below_put h3 (l := N + 6) (by omega) (by omega) (.deferred none)
      rw [HN.out] at c2 c3 hB ⊢
      refine ⟨.tuple #[.slice none 0 0, .bool false], by simp [results, Tryd.results19, go_sem, c2, c3], _, rfl, Kd.R_nil _ _ _ _ _, hB⟩
    | true =>
      rw [hq, if_pos rfl] at hO
      subst hO
      have hR2 := HRS.out.step hb
      have hz2 : N + 8 ≤ W2.heap.size := Nat.le_trans HZ.out hb.size
      have hKK := (hb.block _ (by have := HZ.out; omega)).trans HKK.out
      have k0 := (blk_cell hR2.r2 0).trans (show _ = some (.slice none 0 0) from rfl)
      have f0 := blk_frozen hR2.r2 0
      have k1 := (blk_cell hR2.r3 0).trans (show _ = some (.bool false) from rfl)
      have f1 := blk_frozen hR2.r3 0
      have k2 := (blk_cell hR2.out 0).trans (show _ = some (.slice A xs.length c) from rfl)
      have nn : ¬ N + 1 = N := by omega
      have nn2 : ¬ N = N + 1 := by omega
      have nn3 : ¬ N + 2 = N := by omega
      have nn4 : ¬ N + 2 = N + 1 := by omega
      have HR2 := Aside0.mk hR2
      have HK2 := Aside0.mk hKK
      clear hb hR2 hKK CX k4
      gi_wp2
      obtain ⟨W3, hW3⟩ : ∃ W3, W3 = (W2.setCell ⟨N, 0, none⟩ (.slice A xs.length c)).setCell ⟨N + 1, 0, none⟩ (.bool true) := ⟨_, rfl⟩
      have h1 : W3.heap[N]? = some (.cells #[.slice A xs.length c] 22 (0, 0)) := by rw [hW3]; exact (set_far (by omega) _).trans (blk_set HR2.out.r2 0 _)
      have h2 : W3.heap[N + 1]? = some (.cells #[.bool true] 4 (0, 0)) := by rw [hW3]; exact blk_set ((set_far (by omega) _).trans HR2.out.r3) 0 _
      have h3 : Below N w W3 := by rw [hW3]; exact (HR2.out.bel.setCell (by show N ≤ N; omega) _).setCell (by show N ≤ N + 1; omega) _
      have h6 : W3.heap[N + 6]? = some (.deferred (some [])) := by rw [hW3, set_far (by omega), set_far (by omega)]; exact HK2.out
      have h4 : N + 8 ≤ W3.heap.size := by rw [hW3]; simp [World.setCell]; omega
      have h7 : W3.ownsRow (N + 8) 27 4 (.slice A xs.length c) xs.length (cellsR xs) := by rw [hW3]; exact ownsRow_setCell_below (ownsRow_setCell_below HR2.out.own (by show N < N + 8; omega) _) (by show N + 1 < N + 8; omega) _
      rw [← hW3]
      refine ⟨by simp, .inl ⟨_, _, rfl, run_takeDeferred h6, ?_⟩⟩
      have c2 : (W3.putObj (N + 6) (.deferred none)).cell? ⟨N, 0, none⟩ = some (.slice A xs.length c) := (blk_cell ((World.putObj_heap_other (by omega)).trans h1) 0).trans rfl
      have c3 : (W3.putObj (N + 6) (.deferred none)).cell? ⟨N + 1, 0, none⟩ = some (.bool true) := (blk_cell ((World.putObj_heap_other (by omega)).trans h2) 0).trans rfl
      have hB := below_put h3 (l := N + 6) (by omega) (by omega) (.deferred none)
      have h8 := Kd.R_lower (R_of_cells (ownsRow_putObj h7 (.deferred none) h6 rfl)) (base' := N) (by omega)
      rw [HN.out] at c2 c3 hB h8 ⊢
      refine ⟨.tuple #[.slice A xs.length c, .bool true], by simp [results, Tryd.results19, go_sem, c2, c3], _, rfl, h8, hB⟩
  case ret =>
    rw [Z0]
    rintro W ⟨h1, h2, h3, h4, h5⟩ hK
    have hO := isRead_fail HO.out h5
    subst hO
    gi_wp2
    refine ⟨by simp, .inl ⟨_, _, rfl, run_takeDeferred hK, ?_⟩⟩
    have c2 : (W.putObj (N + 6) (.deferred none)).cell? ⟨N, 0, none⟩ = some (.slice none 0 0) := (blk_cell ((World.putObj_heap_other (by omega)).trans h1) 0).trans rfl
    have c3 : (W.putObj (N + 6) (.deferred none)).cell? ⟨N + 1, 0, none⟩ = some (.bool false) := (blk_cell ((World.putObj_heap_other (by omega)).trans h2) 0).trans rfl
    have hB := below_put h3 (l := N + 6) (by omega) (by omega) (.deferred none)
    rw [HN.out] at c2 c3 hB ⊢
    refine ⟨.tuple #[.slice none 0 0, .bool false], by simp [results, Tryd.results19, go_sem, c2, c3], _, rfl, Kd.R_nil _ _ _ _ _, hB⟩
theorem isRead_len {s : List UInt8} {o : Option (List S27)} (h : IsRead s o) : (o.getD []).length ≤ s.length := by
  cases o with
  | none => exact Nat.zero_le _
  | some ys =>
    have h1 := textR_length ys
    rw [h.2.1] at h1
    exact h1
theorem same_m {A1 A2 : Option Addr} {m c1 c2 : Nat} {ys : List S27} {w : World} (h1 : Kd.C k27 w A1 m ys) (k1 : m ≤ c1) (h2 : Kd.C k27 w A2 m ys) (k2 : m ≤ c2) (hm : m = ys.length) (hl : ys.length < 2305843009213693952) :
    Calls Tryd.prog 11 #[.slice A1 m c1, .slice A2 m c2] w fun e w' => e = .returned (.bool true) ∧ Below w.heap.size w w' := by
  subst hm
  exact (P.congressref20_Same.calls (ys.length + 1) A1 c1 ys A2 c2 ys _ w h1 k1 h2 k2 (same_f ys (by omega))).mono fun e w' ⟨he, k, hk⟩ => ⟨he, by first | exact hk ▸ pw_below_drewN (Below.refl _ _) k | exact hk.symm ▸ pw_below_drewN (Below.refl _ _) k⟩
end Go.Proofs.YtoeioacgpildpaaDoor
