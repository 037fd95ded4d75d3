/- The walk of the document's Parse: the program's. -/
import Derived.Test.YtljgmbpfeajmhaaDoorRPure
set_option linter.unusedVariables false
set_option linter.unusedSimpArgs false
namespace Go.Proofs.YtljgmbpfeajmhaaDoor
open Go.Proofs Go.Shelf Go.RowKit Go.Proofs.YtljgmbpfeajmhaaDoorW.PrintWords Go.Proofs.YtljgmbpfeajmhaaDoorW.PrintLast
/-- What the document's Parse answers. -/
def rpV (o : Option Call7) : Value := match o with | some c => .tuple #[.agg c.cells, .int .i64 0] | none => .tuple #[.agg z7.cells, .int .i64 210]
theorem getD_some {l : List (List UInt8)} {i : Nat} (h : i < l.length) : l[i]? = some (l.getD i []) := by
  rw [List.getD_eq_getElem?_getD, List.getElem?_eq_getElem h]; rfl
theorem wordsL_ne : ∀ (m : Nat) (l : List UInt8), 0 < (wordsL m l).length
  | 0, l => by simp [wordsL]
  | m + 1, l => by
    unfold wordsL
    split <;> simp
theorem wordsL_pos {m : Nat} {s : List UInt8} {l : List (List UInt8)} (h : wordsL m s = l) : 0 < l.length := by rw [← h]; exact wordsL_ne m s
theorem words5_x (s : ByteArray) (hs : s.size ≤ 281474976710656) (l : List (List UInt8)) (hl : wordsL 4 s.data.toList = l) (w : World) :
    Calls Tryd.prog 15 #[.string s, .int .i64 5] w fun e w' => ∃ g n cap cs, e = .returned (.slice (some ⟨g, 0, none⟩) n cap) ∧ n = l.length ∧ w'.heap[g]? = some (.cells cs 9 (0, 0)) ∧ (∀ (i : Nat) x, l[i]? = some x → cs[i]? = some (.string ⟨x.toArray⟩)) ∧ w.heap.size ≤ g ∧ Below w.heap.size w w' := by
  have hw := words_f s hs 4 (by decide)
  rw [hl] at hw
  have hp := wordsL_pos hl
  refine (P.congressref21_Words.calls _ s 5 _ w hw).mono ?_
  rintro e w' ⟨v, rfl, hr, hb⟩
  obtain ⟨g, cap, rfl, hg, hlt, cs, hcs⟩ := Kd.R_form hr (by rw [List.length_map]; exact hp)
  obtain ⟨_, _, hC⟩ := Kd.R_reads' hr
  refine ⟨g, _, cap, cs, rfl, List.length_map _, hcs, ?_, hg, hb⟩
  intro i x hx
  have hi : i < l.length := by
    rcases Nat.lt_or_ge i l.length with h | h
    · exact h
    · rw [List.getElem?_eq_none h] at hx; cases hx
  obtain ⟨ad, ha, hc⟩ := Kd.at_string hC (i : Int) (by omega) (by rw [List.length_map]; omega)
  injection ha with ha
  subst ha
  unfold rdOf at hc
  rw [Int.toNat_natCast] at hc
  have e1 : (⟨g, 0, none⟩ : Addr).add i = ⟨g, i, none⟩ := by simp [Addr.add]; exact Eq.symm
  rw [e1] at hc
  have h2 := (blk_cell hcs i).symm.trans hc
  rw [h2, List.getD_eq_getElem?_getD, List.getElem?_map, hx]
  rfl
theorem kinds_c (w : World) : Calls Tryd.prog 16 #[] w fun e w' => ∃ ad cap, e = .returned (.slice (some ad) 7 cap) ∧ Kd.C Kd.string w' (some ad) 7 kindsB ∧ 7 ≤ cap ∧ Below w.heap.size w w' := by
  refine (P.congressref21_Kinds.calls _ w rfl).mono ?_
  rintro e w' ⟨v, rfl, hr, hb⟩
  obtain ⟨g, c, rfl, _, _, _, _⟩ := Kd.R_form hr (by simp)
  obtain ⟨_, h7, hC⟩ := Kd.R_reads' hr
  exact ⟨_, c, rfl, hC, h7, hb⟩
theorem services_c (w : World) : Calls Tryd.prog 22 #[] w fun e w' => ∃ ad cap, e = .returned (.slice (some ad) 4 cap) ∧ Kd.C Kd.string w' (some ad) 4 svcB ∧ 4 ≤ cap ∧ Below w.heap.size w w' := by
  refine (P.congressref21_Services.calls _ w rfl).mono ?_
  rintro e w' ⟨v, rfl, hr, hb⟩
  obtain ⟨g, c, rfl, _, _, _, _⟩ := Kd.R_form hr (by simp)
  obtain ⟨_, h7, hC⟩ := Kd.R_reads' hr
  exact ⟨_, c, rfl, hC, h7, hb⟩
theorem kind_q (x : List UInt8) (ad : Addr) (cap : Nat) (w : World) (hC : Kd.C Kd.string w (some ad) 7 kindsB) (hc : 7 ≤ cap) :
    Calls Tryd.prog 19 #[.slice (some ad) 7 cap, .string ⟨x.toArray⟩] w fun e w' => e = .returned (.int .i64 (kindI x)) ∧ Below w.heap.size w w' :=
  (P.congressref21_At.calls 8 (some ad) cap kindsB ⟨x.toArray⟩ _ w hC hc (kind_at x)).mono fun e w' ⟨he, hd⟩ => ⟨he, below_of_drawn hd⟩
theorem svcq (x : List UInt8) (ad : Addr) (cap : Nat) (w : World) (hC : Kd.C Kd.string w (some ad) 4 svcB) (hc : 4 ≤ cap) :
    Calls Tryd.prog 19 #[.slice (some ad) 4 cap, .string ⟨x.toArray⟩] w fun e w' => e = .returned (.int .i64 (svcI x)) ∧ Below w.heap.size w w' :=
  (P.congressref21_At.calls 5 (some ad) cap svcB ⟨x.toArray⟩ _ w hC hc (svc_at x)).mono fun e w' ⟨he, hd⟩ => ⟨he, below_of_drawn hd⟩
theorem rnum_no {x : List UInt8} (h : numL x = none) : ∃ m : Nat, ∀ w, Calls Tryd.prog 20 #[.string ⟨x.toArray⟩] w fun e w' => e = .returned (.tuple #[.int .u64 (m : Int), .bool false]) ∧ Below w.heap.size w w' := by
  obtain ⟨m, hm, _⟩ := number_f x
  rw [h] at hm
  exact ⟨m, fun w => (P.congressref21_Number.calls _ _ _ _ w hm).mono fun e w' ⟨he, hd⟩ => ⟨he, below_of_drawn hd⟩⟩
theorem rnum_yes {x : List UInt8} {n : Nat} (h : numL x = some n) (w : World) : Calls Tryd.prog 20 #[.string ⟨x.toArray⟩] w fun e w' => e = .returned (.tuple #[.int .u64 (n : Int), .bool true]) ∧ Below w.heap.size w w' := by
  obtain ⟨m, hm, _⟩ := number_f x
  rw [h] at hm
  exact (P.congressref21_Number.calls _ _ _ _ w hm).mono fun e w' ⟨he, hd⟩ => ⟨he, below_of_drawn hd⟩
theorem rdig_no {x : List UInt8} {least : Nat} (h : digL least x = none) : ∃ m : Nat, ∀ w, Calls Tryd.prog 21 #[.string ⟨x.toArray⟩, .int .i64 (least : Int)] w fun e w' => e = .returned (.tuple #[.int .i64 (m : Int), .bool false]) ∧ Below w.heap.size w w' := by
  obtain ⟨m, _, hm⟩ := digit_f x least
  rw [h] at hm
  exact ⟨m, fun w => (P.congressref21_Digit.calls _ _ _ _ w hm).mono fun e w' ⟨he, hd⟩ => ⟨he, below_of_drawn hd⟩⟩
theorem rdig_yes {x : List UInt8} {least n : Nat} (h : digL least x = some n) (w : World) : Calls Tryd.prog 21 #[.string ⟨x.toArray⟩, .int .i64 (least : Int)] w fun e w' => e = .returned (.tuple #[.int .i64 (n : Int), .bool true]) ∧ Below w.heap.size w w' := by
  obtain ⟨m, _, hm⟩ := digit_f x least
  rw [h] at hm
  exact (P.congressref21_Digit.calls _ _ _ _ w hm).mono fun e w' ⟨he, hd⟩ => ⟨he, below_of_drawn hd⟩
/-- The document's Parse under way: the result's block, the zero call's, the words' row. -/
structure PS (w w' : World) (R N g : Nat) (cs : Array Value) : Prop where
  rb : w'.heap[R]? = some (.cells z7.cells 24 (0, 0))
  nb : w'.heap[N]? = some (.cells z7.cells 24 (0, 0))
  gb : w'.heap[g]? = some (.cells cs 9 (0, 0))
  rn : w.heap.size ≤ R
  nn : w.heap.size ≤ N
  rN : R ≠ N
  gR : g ≠ R
  gN : g ≠ N
  bel : Below w.heap.size w w'
theorem PS.step {w w1 w2 : World} {R N g : Nat} {cs : Array Value} (h : PS w w1 R N g cs) (hb : Below w1.heap.size w1 w2) : PS w w2 R N g cs :=
  { h with rb := (hb.block _ (blk_lt h.rb)).trans h.rb, nb := (hb.block _ (blk_lt h.nb)).trans h.nb, gb := (hb.block _ (blk_lt h.gb)).trans h.gb, bel := below_then h.bel h.bel.size hb }
theorem PS.word {w w1 : World} {R N g i : Nat} {cs : Array Value} {x : Value} (h : PS w w1 R N g cs) (hx : cs[i]? = some x) : w1.cell? ⟨g, i, none⟩ = some x := (blk_cell h.gb i).trans hx
theorem PS.far {w w1 : World} {R N g C : Nat} {cs : Array Value} (h : PS w w1 R N g cs) (hR : C ≠ R) (hN : C ≠ N) (hg : C ≠ g) (hC : w.heap.size ≤ C) (i : Nat) (v : Value) : PS w (w1.setCell ⟨C, i, none⟩ v) R N g cs :=
  { h with rb := blk_far h.rb (fun x => hR x.symm) v, nb := blk_far h.nb (fun x => hN x.symm) v, gb := blk_far h.gb (fun x => hg x.symm) v, bel := below_set' h.bel hC i v }
theorem PS.fill {w w1 : World} {R N g : Nat} {cs : Array Value} (h : PS w w1 R N g cs) (v0 v1 v2 v3 v4 v5 v6 : Value) :
    (((((((w1.setCell ⟨R, 0, none⟩ v0).setCell ⟨R, 1, none⟩ v1).setCell ⟨R, 2, none⟩ v2).setCell ⟨R, 3, none⟩ v3).setCell ⟨R, 4, none⟩ v4).setCell ⟨R, 5, none⟩ v5).setCell ⟨R, 6, none⟩ v6).heap[R]? = some (.cells #[v0, v1, v2, v3, v4, v5, v6] 24 (0, 0)) ∧
    Below w.heap.size w (((((((w1.setCell ⟨R, 0, none⟩ v0).setCell ⟨R, 1, none⟩ v1).setCell ⟨R, 2, none⟩ v2).setCell ⟨R, 3, none⟩ v3).setCell ⟨R, 4, none⟩ v4).setCell ⟨R, 5, none⟩ v5).setCell ⟨R, 6, none⟩ v6) :=
  ⟨blk_set (blk_set (blk_set (blk_set (blk_set (blk_set (blk_set h.rb 0 _) 1 _) 2 _) 3 _) 4 _) 5 _) 6 _,
    below_set' (below_set' (below_set' (below_set' (below_set' (below_set' (below_set' h.bel h.rn 0 _) h.rn 1 _) h.rn 2 _) h.rn 3 _) h.rn 4 _) h.rn 5 _) h.rn 6 _⟩
/-- The first two blocks of Parse, before the words are made. -/
structure PS0 (w w' : World) (R N : Nat) : Prop where
  rb : w'.heap[R]? = some (.cells z7.cells 24 (0, 0))
  nb : w'.heap[N]? = some (.cells z7.cells 24 (0, 0))
  rn : w.heap.size ≤ R
  nn : w.heap.size ≤ N
  rN : R ≠ N
  bel : Below w.heap.size w w'
theorem PS.start (w : World) : PS0 w ((w.alloc (.cells #[.int .i64 0, .int .u64 0, .int .u64 0, .int .i64 0, .int .i64 0, .int .i64 0, .string ⟨#[]⟩] 24)).alloc (.cells #[.int .i64 0, .int .u64 0, .int .u64 0, .int .i64 0, .int .i64 0, .int .i64 0, .string ⟨#[]⟩] 24)) w.heap.size (w.heap.size + 1) := by
  refine ⟨?_, ?_, Nat.le_refl _, Nat.le_succ _, by omega, below_alloc (below_alloc (Below.refl _ _) _) _⟩
  · exact blk_alloc (blk_new w _) _
  · have := blk_new (w.alloc (.cells #[.int .i64 0, .int .u64 0, .int .u64 0, .int .i64 0, .int .i64 0, .int .i64 0, .string ⟨#[]⟩] 24)) (.cells #[.int .i64 0, .int .u64 0, .int .u64 0, .int .i64 0, .int .i64 0, .int .i64 0, .string ⟨#[]⟩] 24)
    rw [World.size_alloc] at this
    exact this
theorem PS0.words {w w1 w2 : World} {R N g : Nat} {cs : Array Value} (h : PS0 w w1 R N) (hb : Below w1.heap.size w1 w2) (hg : w2.heap[g]? = some (.cells cs 9 (0, 0))) (hg0 : w1.heap.size ≤ g) : PS w w2 R N g cs := by
  have h1 := blk_lt h.rb
  have h2 := blk_lt h.nb
  exact { rb := (hb.block _ h1).trans h.rb, nb := (hb.block _ h2).trans h.nb, gb := hg, rn := h.rn, nn := h.nn, rN := h.rN, gR := by omega, gN := by omega, bel := below_then h.bel h.bel.size hb }
set_option maxRecDepth 100000 in
set_option maxHeartbeats 8000000 in
theorem rparse_no (s : ByteArray) (hs : s.size ≤ 281474976710656) (l : List (List UInt8)) (hl : wordsL 4 s.data.toList = l) (hk : kindL (l.getD 0 []) = none) (w : World) :
    Calls Tryd.prog 9 #[.string s] w fun e w' => e = .returned (rpV (rpL l)) ∧ Below w.heap.size w w' := by
  have WX := Aside0.mk (fun w1 => words5_x s hs l hl w1)
  have AX := Aside0.mk (fun ad cap w1 h1 h2 => kind_q (l.getD 0 []) ad cap w1 h1 h2)
  have HP := Aside0.mk (wordsL_pos hl)
  rw [show kindI (l.getD 0 []) = -1 from by unfold kindI; rw [hk]] at AX
  have HK := Aside0.mk hk
  clear hs hl hk
  have X0 := Aside0.mk (PS.start w)
  go_enter Tryd.func9, Tryd.ntmps9
  go_wp2_with fail
  refine (WX.out _).mono ?_
  rintro e w1 ⟨g, n, cap, cs, rfl, hn, hgb, hcs, hg0, hb⟩
  have X1 := Aside0.mk (X0.out.words hb hgb hg0)
  have HN := Aside0.mk hn
  have HC := Aside0.mk hcs
  clear hb hgb hg0 hn hcs X0 WX
  obtain ⟨R, hR⟩ : ∃ R, R = w.heap.size := ⟨_, rfl⟩
  rw [← hR] at X1 ⊢
  clear hR
  obtain ⟨x0, hx0⟩ : ∃ x0 : ByteArray, x0 = ⟨(l.getD 0 []).toArray⟩ := ⟨_, rfl⟩
  rw [← hx0] at AX
  have G0 := Aside0.mk (fun (w9 : World) (h : PS w w9 R (R + 1) g cs) => h.word (HC.out 0 _ (getD_some HP.out)))
  rw [← hx0] at G0
  clear hx0
  have hn1 : 0 < n := by rw [HN.out]; exact HP.out
  have hn2 : (0 : Int) < (n : Int) := by omega
  go_wp2_with fail
  have p1 : PS w w1.drew R (R + 1) g cs := X1.out.step (below_drew (Below.refl _ _))
  have p0 : w1.drew.cell? ⟨g, 0, none⟩ = some (.string x0) := G0.out _ p1
  refine start_ (n := 6) (S := fun w' => w'.cell? ⟨g, 0, none⟩ = some (.string x0) ∧ PS w w' R (R + 1) g cs) (ds := []) #[false, false, false, false, false, false] (by kernel_rfl) rfl rfl ⟨p0, p1⟩ (fun hHeld => ?_)
  refine pure_ (i := 1) (N := some 23) (v := ?_) (a' := ?_) #[false, true, false, false, false, false] rfl rfl (by kernel_rfl) (fun _ _ _ h => h) (Or.inl ⟨by rfl, ?_⟩) ?_ ?_
  rotate_left
  · intro w'
    go_simp
    with_reducible rfl
  rotate_left
  · simp only [Act.put, List.setIfInBounds_toArray, List.set_cons_zero, List.set_cons_succ, i64_w, i32_w]
    rfl
  refine pure_ (i := 2) (N := some 24) (v := ?_) (a' := ?_) #[false, true, true, false, false, false] rfl rfl (by kernel_rfl) (fun _ _ _ h => h) (Or.inl ⟨by rfl, ?_⟩) ?_ ?_
  rotate_left
  · intro w'
    go_simp
    with_reducible rfl
  rotate_left
  · simp only [Act.put, List.setIfInBounds_toArray, List.set_cons_zero, List.set_cons_succ, i64_w, i32_w]
    rfl
  refine take_ (i := 3) (N := some 25) (v := ?_) (a' := ?_) #[false, true, true, true, false, false] rfl rfl (by kernel_rfl) (fun _ _ _ h => h) (Or.inl ⟨by rfl, ?_⟩) hHeld ?_ ?_
  rotate_left
  · rintro w' ⟨s0, s1⟩
    go_simp
    with_reducible rfl
  rotate_left
  · simp only [Act.put, List.setIfInBounds_toArray, List.set_cons_zero, List.set_cons_succ, i64_w, i32_w]
    rfl
  refine one_ (i := 0) (N := some 22) #[true, true, true, true, false, false] rfl rfl (by kernel_rfl) (by decide) (fun K hK => ?_)
  refine goes_ Tryd.func16 (by kernel_rfl) rfl #[] (by rfl) rfl rfl (by simp only [List.map_toArray, List.map_cons, List.map_nil]) ?_
  with_reducible refine (kinds_c _).mono ?_
  rintro e w2 ⟨ad, cp2, rfl, hkc, hk7, hb⟩
  refine ⟨_, rfl, ?_⟩
  have HKC := Aside0.mk hkc
  have HK7 := Aside0.mk hk7
  clear hkc hk7
  refine hK.out _ _ ⟨pw_cell_below hb (hHeld.1), (hHeld.2).step hb⟩ (fun hHeld => ?_)
  clear hK K
  refine norm_ (a' := ?_) ?_ ?_
  rotate_left
  · show Act.put _ (some 22) _ = _
    simp only [Act.put, List.setIfInBounds_toArray, List.set_cons_zero, List.set_cons_succ, i64_w, i32_w]
    rfl
  refine one_ (i := 4) (N := some 26) #[true, true, true, true, true, false] rfl rfl (by kernel_rfl) (by decide) (fun K hK => ?_)
  refine goes_ Tryd.func19 (by kernel_rfl) rfl #[.slice (some ad) 7 cp2, .string x0] (by rfl) rfl rfl (by simp only [List.map_toArray, List.map_cons, List.map_nil]; rfl) ?_
  with_reducible refine (AX.out _ _ _ HKC.out HK7.out).mono ?_
  rintro e w3 ⟨rfl, hb⟩
  refine ⟨_, rfl, ?_⟩
  refine hK.out _ _ ⟨pw_cell_below hb (hHeld.1), (hHeld.2).step hb⟩ (fun hHeld => ?_)
  clear hK K
  refine norm_ (a' := ?_) ?_ ?_
  rotate_left
  · show Act.put _ (some 26) _ = _
    simp only [Act.put, List.setIfInBounds_toArray, List.set_cons_zero, List.set_cons_succ, i64_w, i32_w]
    rfl
  refine pure_ (i := 5) (N := some 6) (v := ?_) (a' := ?_) #[true, true, true, true, true, true] rfl rfl (by kernel_rfl) (fun _ _ _ h => h) (Or.inl ⟨by rfl, ?_⟩) ?_ ?_
  rotate_left
  · intro w'
    go_simp
    with_reducible rfl
  rotate_left
  · simp only [Act.put, List.setIfInBounds_toArray, List.set_cons_zero, List.set_cons_succ, i64_w, i32_w]
    rfl
  refine done_ (by kernel_rfl) ?_
  have X3 := Aside0.mk hHeld.2
  clear hHeld p0 p1 X1 HKC HK7 AX
  have X4 := Aside0.mk (X3.out.step (below_alloc (Below.refl _ _) (.cells #[.int .i64 1, .int .i64 2, .int .i64 3, .int .i64 3, .int .i64 3, .int .i64 3, .int .i64 5] 3)))
  have LB := Aside0.mk (blk_new w3 (.cells #[.int .i64 1, .int .i64 2, .int .i64 3, .int .i64 3, .int .i64 3, .int .i64 3, .int .i64 5] 3))
  go_upto_region 5 with (fail)
  obtain ⟨L, hL⟩ : ∃ L, L = w3.heap.size := ⟨_, rfl⟩
  rw [← hL] at LB ⊢
  clear hL X3
  generalize w3.alloc (.cells #[.int .i64 1, .int .i64 2, .int .i64 3, .int .i64 3, .int .i64 3, .int .i64 3, .int .i64 5] 3) = v4 at LB X4 ⊢
  have HQ := Aside0.mk (show rpL l = none from by unfold rpL; rw [HK.out]; rfl)
  have nc0 : v4.cell? ⟨R + 1, 0, none⟩ = some (.int .i64 0) := (blk_cell X4.out.nb 0).trans rfl
  have nf0 := blk_frozen X4.out.nb 0
  have nc1 : v4.cell? ⟨R + 1, 1, none⟩ = some (.int .u64 0) := (blk_cell X4.out.nb 1).trans rfl
  have nf1 := blk_frozen X4.out.nb 1
  have nc2 : v4.cell? ⟨R + 1, 2, none⟩ = some (.int .u64 0) := (blk_cell X4.out.nb 2).trans rfl
  have nf2 := blk_frozen X4.out.nb 2
  have nc3 : v4.cell? ⟨R + 1, 3, none⟩ = some (.int .i64 0) := (blk_cell X4.out.nb 3).trans rfl
  have nf3 := blk_frozen X4.out.nb 3
  have nc4 : v4.cell? ⟨R + 1, 4, none⟩ = some (.int .i64 0) := (blk_cell X4.out.nb 4).trans rfl
  have nf4 := blk_frozen X4.out.nb 4
  have nc5 : v4.cell? ⟨R + 1, 5, none⟩ = some (.int .i64 0) := (blk_cell X4.out.nb 5).trans rfl
  have nf5 := blk_frozen X4.out.nb 5
  have nc6 : v4.cell? ⟨R + 1, 6, none⟩ = some (.string ⟨#[]⟩) := (blk_cell X4.out.nb 6).trans rfl
  have nf6 := blk_frozen X4.out.nb 6
  have hRN : ¬ R = R + 1 := by omega
  have hNR : ¬ R + 1 = R := by omega
  have rc0 : v4.cell? ⟨R, 0, none⟩ = some (.int .i64 0) := (blk_cell X4.out.rb 0).trans rfl
  have rf0 := blk_frozen X4.out.rb 0
  have rc1 : v4.cell? ⟨R, 1, none⟩ = some (.int .u64 0) := (blk_cell X4.out.rb 1).trans rfl
  have rf1 := blk_frozen X4.out.rb 1
  have rc2 : v4.cell? ⟨R, 2, none⟩ = some (.int .u64 0) := (blk_cell X4.out.rb 2).trans rfl
  have rf2 := blk_frozen X4.out.rb 2
  have rc3 : v4.cell? ⟨R, 3, none⟩ = some (.int .i64 0) := (blk_cell X4.out.rb 3).trans rfl
  have rf3 := blk_frozen X4.out.rb 3
  have rc4 : v4.cell? ⟨R, 4, none⟩ = some (.int .i64 0) := (blk_cell X4.out.rb 4).trans rfl
  have rf4 := blk_frozen X4.out.rb 4
  have rc5 : v4.cell? ⟨R, 5, none⟩ = some (.int .i64 0) := (blk_cell X4.out.rb 5).trans rfl
  have rf5 := blk_frozen X4.out.rb 5
  have rc6 : v4.cell? ⟨R, 6, none⟩ = some (.string ⟨#[]⟩) := (blk_cell X4.out.rb 6).trans rfl
  have rf6 := blk_frozen X4.out.rb 6
  go_wp2
  clear rc0 rf0 rc1 rf1 rc2 rf2 rc3 rf3 rc4 rf4 rc5 rf5 rc6 rf6
  have FX : (((((((v4.setCell ⟨R, 0, none⟩ (.int .i64 0)).setCell ⟨R, 1, none⟩ (.int .u64 0)).setCell ⟨R, 2, none⟩ (.int .u64 0)).setCell ⟨R, 3, none⟩ (.int .i64 0)).setCell ⟨R, 4, none⟩ (.int .i64 0)).setCell ⟨R, 5, none⟩ (.int .i64 0)).setCell ⟨R, 6, none⟩ (.string ⟨#[]⟩)).heap[R]? = some (.cells #[.int .i64 0, .int .u64 0, .int .u64 0, .int .i64 0, .int .i64 0, .int .i64 0, .string ⟨#[]⟩] 24 (0, 0)) ∧ Below w.heap.size w (((((((v4.setCell ⟨R, 0, none⟩ (.int .i64 0)).setCell ⟨R, 1, none⟩ (.int .u64 0)).setCell ⟨R, 2, none⟩ (.int .u64 0)).setCell ⟨R, 3, none⟩ (.int .i64 0)).setCell ⟨R, 4, none⟩ (.int .i64 0)).setCell ⟨R, 5, none⟩ (.int .i64 0)).setCell ⟨R, 6, none⟩ (.string ⟨#[]⟩)) := X4.out.fill (.int .i64 0) (.int .u64 0) (.int .u64 0) (.int .i64 0) (.int .i64 0) (.int .i64 0) (.string ⟨#[]⟩)
  have hHR : ∃ w9, w9 = (((((((v4.setCell ⟨R, 0, none⟩ (.int .i64 0)).setCell ⟨R, 1, none⟩ (.int .u64 0)).setCell ⟨R, 2, none⟩ (.int .u64 0)).setCell ⟨R, 3, none⟩ (.int .i64 0)).setCell ⟨R, 4, none⟩ (.int .i64 0)).setCell ⟨R, 5, none⟩ (.int .i64 0)).setCell ⟨R, 6, none⟩ (.string ⟨#[]⟩)) := ⟨_, rfl⟩
  obtain ⟨w9, hw9⟩ := hHR
  rw [← hw9] at FX ⊢
  clear hw9
  obtain ⟨FX1, FX2⟩ := FX
  have rc0 : w9.cell? ⟨R, 0, none⟩ = some (.int .i64 0) := (blk_cell FX1 0).trans rfl
  have rc1 : w9.cell? ⟨R, 1, none⟩ = some (.int .u64 0) := (blk_cell FX1 1).trans rfl
  have rc2 : w9.cell? ⟨R, 2, none⟩ = some (.int .u64 0) := (blk_cell FX1 2).trans rfl
  have rc3 : w9.cell? ⟨R, 3, none⟩ = some (.int .i64 0) := (blk_cell FX1 3).trans rfl
  have rc4 : w9.cell? ⟨R, 4, none⟩ = some (.int .i64 0) := (blk_cell FX1 4).trans rfl
  have rc5 : w9.cell? ⟨R, 5, none⟩ = some (.int .i64 0) := (blk_cell FX1 5).trans rfl
  have rc6 : w9.cell? ⟨R, 6, none⟩ = some (.string ⟨#[]⟩) := (blk_cell FX1 6).trans rfl
  refine bodyPost_ret (v := .tuple #[.agg #[.int .i64 0, .int .u64 0, .int .u64 0, .int .i64 0, .int .i64 0, .int .i64 0, .string ⟨#[]⟩], .int .i64 210]) (by simp [results, Tryd.results9, go_sem, rc0, rc1, rc2, rc3, rc4, rc5, rc6]) rfl ⟨?_, FX2⟩
  rw [HQ.out]
  rfl
set_option maxRecDepth 100000 in
set_option maxHeartbeats 8000000 in
theorem rparse_0 (s : ByteArray) (hs : s.size ≤ 281474976710656) (l : List (List UInt8)) (hl : wordsL 4 s.data.toList = l) (hk : kindL (l.getD 0 []) = some 0) (w : World) :
    Calls Tryd.prog 9 #[.string s] w fun e w' => e = .returned (rpV (rpL l)) ∧ Below w.heap.size w w' := by
  have WX := Aside0.mk (fun w1 => words5_x s hs l hl w1)
  have AX := Aside0.mk (fun ad cap w1 h1 h2 => kind_q (l.getD 0 []) ad cap w1 h1 h2)
  have HP := Aside0.mk (wordsL_pos hl)
  rw [show kindI (l.getD 0 []) = 0 from by unfold kindI; rw [hk]; rfl] at AX
  have HK := Aside0.mk hk
  clear hs hl hk
  have X0 := Aside0.mk (PS.start w)
  go_enter Tryd.func9, Tryd.ntmps9
  go_wp2_with fail
  refine (WX.out _).mono ?_
  rintro e w1 ⟨g, n, cap, cs, rfl, hn, hgb, hcs, hg0, hb⟩
  have X1 := Aside0.mk (X0.out.words hb hgb hg0)
  have HN := Aside0.mk hn
  have HC := Aside0.mk hcs
  clear hb hgb hg0 hn hcs X0 WX
  obtain ⟨R, hR⟩ : ∃ R, R = w.heap.size := ⟨_, rfl⟩
  rw [← hR] at X1 ⊢
  clear hR
  obtain ⟨x0, hx0⟩ : ∃ x0 : ByteArray, x0 = ⟨(l.getD 0 []).toArray⟩ := ⟨_, rfl⟩
  rw [← hx0] at AX
  have G0 := Aside0.mk (fun (w9 : World) (h : PS w w9 R (R + 1) g cs) => h.word (HC.out 0 _ (getD_some HP.out)))
  rw [← hx0] at G0
  clear hx0
  have hn1 : 0 < n := by rw [HN.out]; exact HP.out
  have hn2 : (0 : Int) < (n : Int) := by omega
  go_wp2_with fail
  have p1 : PS w w1.drew R (R + 1) g cs := X1.out.step (below_drew (Below.refl _ _))
  have p0 : w1.drew.cell? ⟨g, 0, none⟩ = some (.string x0) := G0.out _ p1
  refine start_ (n := 6) (S := fun w' => w'.cell? ⟨g, 0, none⟩ = some (.string x0) ∧ PS w w' R (R + 1) g cs) (ds := []) #[false, false, false, false, false, false] (by kernel_rfl) rfl rfl ⟨p0, p1⟩ (fun hHeld => ?_)
  refine pure_ (i := 1) (N := some 23) (v := ?_) (a' := ?_) #[false, true, false, false, false, false] rfl rfl (by kernel_rfl) (fun _ _ _ h => h) (Or.inl ⟨by rfl, ?_⟩) ?_ ?_
  rotate_left
  · intro w'
    go_simp
    with_reducible rfl
  rotate_left
  · simp only [Act.put, List.setIfInBounds_toArray, List.set_cons_zero, List.set_cons_succ, i64_w, i32_w]
    rfl
  refine pure_ (i := 2) (N := some 24) (v := ?_) (a' := ?_) #[false, true, true, false, false, false] rfl rfl (by kernel_rfl) (fun _ _ _ h => h) (Or.inl ⟨by rfl, ?_⟩) ?_ ?_
  rotate_left
  · intro w'
    go_simp
    with_reducible rfl
  rotate_left
  · simp only [Act.put, List.setIfInBounds_toArray, List.set_cons_zero, List.set_cons_succ, i64_w, i32_w]
    rfl
  refine take_ (i := 3) (N := some 25) (v := ?_) (a' := ?_) #[false, true, true, true, false, false] rfl rfl (by kernel_rfl) (fun _ _ _ h => h) (Or.inl ⟨by rfl, ?_⟩) hHeld ?_ ?_
  rotate_left
  · rintro w' ⟨s0, s1⟩
    go_simp
    with_reducible rfl
  rotate_left
  · simp only [Act.put, List.setIfInBounds_toArray, List.set_cons_zero, List.set_cons_succ, i64_w, i32_w]
    rfl
  refine one_ (i := 0) (N := some 22) #[true, true, true, true, false, false] rfl rfl (by kernel_rfl) (by decide) (fun K hK => ?_)
  refine goes_ Tryd.func16 (by kernel_rfl) rfl #[] (by rfl) rfl rfl (by simp only [List.map_toArray, List.map_cons, List.map_nil]) ?_
  with_reducible refine (kinds_c _).mono ?_
  rintro e w2 ⟨ad, cp2, rfl, hkc, hk7, hb⟩
  refine ⟨_, rfl, ?_⟩
  have HKC := Aside0.mk hkc
  have HK7 := Aside0.mk hk7
  clear hkc hk7
  refine hK.out _ _ ⟨pw_cell_below hb (hHeld.1), (hHeld.2).step hb⟩ (fun hHeld => ?_)
  clear hK K
  refine norm_ (a' := ?_) ?_ ?_
  rotate_left
  · show Act.put _ (some 22) _ = _
    simp only [Act.put, List.setIfInBounds_toArray, List.set_cons_zero, List.set_cons_succ, i64_w, i32_w]
    rfl
  refine one_ (i := 4) (N := some 26) #[true, true, true, true, true, false] rfl rfl (by kernel_rfl) (by decide) (fun K hK => ?_)
  refine goes_ Tryd.func19 (by kernel_rfl) rfl #[.slice (some ad) 7 cp2, .string x0] (by rfl) rfl rfl (by simp only [List.map_toArray, List.map_cons, List.map_nil]; rfl) ?_
  with_reducible refine (AX.out _ _ _ HKC.out HK7.out).mono ?_
  rintro e w3 ⟨rfl, hb⟩
  refine ⟨_, rfl, ?_⟩
  refine hK.out _ _ ⟨pw_cell_below hb (hHeld.1), (hHeld.2).step hb⟩ (fun hHeld => ?_)
  clear hK K
  refine norm_ (a' := ?_) ?_ ?_
  rotate_left
  · show Act.put _ (some 26) _ = _
    simp only [Act.put, List.setIfInBounds_toArray, List.set_cons_zero, List.set_cons_succ, i64_w, i32_w]
    rfl
  refine pure_ (i := 5) (N := some 6) (v := ?_) (a' := ?_) #[true, true, true, true, true, true] rfl rfl (by kernel_rfl) (fun _ _ _ h => h) (Or.inl ⟨by rfl, ?_⟩) ?_ ?_
  rotate_left
  · intro w'
    go_simp
    with_reducible rfl
  rotate_left
  · simp only [Act.put, List.setIfInBounds_toArray, List.set_cons_zero, List.set_cons_succ, i64_w, i32_w]
    rfl
  refine done_ (by kernel_rfl) ?_
  have X3 := Aside0.mk hHeld.2
  clear hHeld p0 p1 X1 HKC HK7 AX
  have X4 := Aside0.mk (X3.out.step (below_alloc (Below.refl _ _) (.cells #[.int .i64 1, .int .i64 2, .int .i64 3, .int .i64 3, .int .i64 3, .int .i64 3, .int .i64 5] 3)))
  have LB := Aside0.mk (blk_new w3 (.cells #[.int .i64 1, .int .i64 2, .int .i64 3, .int .i64 3, .int .i64 3, .int .i64 3, .int .i64 5] 3))
  go_upto_region 5 with (fail)
  obtain ⟨L, hL⟩ : ∃ L, L = w3.heap.size := ⟨_, rfl⟩
  rw [← hL] at LB ⊢
  clear hL X3
  generalize w3.alloc (.cells #[.int .i64 1, .int .i64 2, .int .i64 3, .int .i64 3, .int .i64 3, .int .i64 3, .int .i64 5] 3) = v4 at LB X4 ⊢
  by_cases hlen : l.length = 1
  rotate_left
  · skip
    have hne : ((n : Int) != 1) = true := by rw [bne_iff_ne, HN.out]; omega
    have HQ := Aside0.mk (show rpL l = none from by unfold rpL; rw [HK.out, Option.bind_some]; exact if_neg hlen)
    clear hlen
    have lc : v4.cell? ⟨L, 0, none⟩ = some (.int .i64 1) := (blk_cell LB.out 0).trans rfl
    clear LB
    have nc0 : v4.cell? ⟨R + 1, 0, none⟩ = some (.int .i64 0) := (blk_cell X4.out.nb 0).trans rfl
    have nf0 := blk_frozen X4.out.nb 0
    have nc1 : v4.cell? ⟨R + 1, 1, none⟩ = some (.int .u64 0) := (blk_cell X4.out.nb 1).trans rfl
    have nf1 := blk_frozen X4.out.nb 1
    have nc2 : v4.cell? ⟨R + 1, 2, none⟩ = some (.int .u64 0) := (blk_cell X4.out.nb 2).trans rfl
    have nf2 := blk_frozen X4.out.nb 2
    have nc3 : v4.cell? ⟨R + 1, 3, none⟩ = some (.int .i64 0) := (blk_cell X4.out.nb 3).trans rfl
    have nf3 := blk_frozen X4.out.nb 3
    have nc4 : v4.cell? ⟨R + 1, 4, none⟩ = some (.int .i64 0) := (blk_cell X4.out.nb 4).trans rfl
    have nf4 := blk_frozen X4.out.nb 4
    have nc5 : v4.cell? ⟨R + 1, 5, none⟩ = some (.int .i64 0) := (blk_cell X4.out.nb 5).trans rfl
    have nf5 := blk_frozen X4.out.nb 5
    have nc6 : v4.cell? ⟨R + 1, 6, none⟩ = some (.string ⟨#[]⟩) := (blk_cell X4.out.nb 6).trans rfl
    have nf6 := blk_frozen X4.out.nb 6
    have hRN : ¬ R = R + 1 := by omega
    have hNR : ¬ R + 1 = R := by omega
    have rc0 : v4.cell? ⟨R, 0, none⟩ = some (.int .i64 0) := (blk_cell X4.out.rb 0).trans rfl
    have rf0 := blk_frozen X4.out.rb 0
    have rc1 : v4.cell? ⟨R, 1, none⟩ = some (.int .u64 0) := (blk_cell X4.out.rb 1).trans rfl
    have rf1 := blk_frozen X4.out.rb 1
    have rc2 : v4.cell? ⟨R, 2, none⟩ = some (.int .u64 0) := (blk_cell X4.out.rb 2).trans rfl
    have rf2 := blk_frozen X4.out.rb 2
    have rc3 : v4.cell? ⟨R, 3, none⟩ = some (.int .i64 0) := (blk_cell X4.out.rb 3).trans rfl
    have rf3 := blk_frozen X4.out.rb 3
    have rc4 : v4.cell? ⟨R, 4, none⟩ = some (.int .i64 0) := (blk_cell X4.out.rb 4).trans rfl
    have rf4 := blk_frozen X4.out.rb 4
    have rc5 : v4.cell? ⟨R, 5, none⟩ = some (.int .i64 0) := (blk_cell X4.out.rb 5).trans rfl
    have rf5 := blk_frozen X4.out.rb 5
    have rc6 : v4.cell? ⟨R, 6, none⟩ = some (.string ⟨#[]⟩) := (blk_cell X4.out.rb 6).trans rfl
    have rf6 := blk_frozen X4.out.rb 6
    go_wp2
    clear rc0 rf0 rc1 rf1 rc2 rf2 rc3 rf3 rc4 rf4 rc5 rf5 rc6 rf6
    have FX : (((((((v4.setCell ⟨R, 0, none⟩ (.int .i64 0)).setCell ⟨R, 1, none⟩ (.int .u64 0)).setCell ⟨R, 2, none⟩ (.int .u64 0)).setCell ⟨R, 3, none⟩ (.int .i64 0)).setCell ⟨R, 4, none⟩ (.int .i64 0)).setCell ⟨R, 5, none⟩ (.int .i64 0)).setCell ⟨R, 6, none⟩ (.string ⟨#[]⟩)).heap[R]? = some (.cells #[.int .i64 0, .int .u64 0, .int .u64 0, .int .i64 0, .int .i64 0, .int .i64 0, .string ⟨#[]⟩] 24 (0, 0)) ∧ Below w.heap.size w (((((((v4.setCell ⟨R, 0, none⟩ (.int .i64 0)).setCell ⟨R, 1, none⟩ (.int .u64 0)).setCell ⟨R, 2, none⟩ (.int .u64 0)).setCell ⟨R, 3, none⟩ (.int .i64 0)).setCell ⟨R, 4, none⟩ (.int .i64 0)).setCell ⟨R, 5, none⟩ (.int .i64 0)).setCell ⟨R, 6, none⟩ (.string ⟨#[]⟩)) := X4.out.fill (.int .i64 0) (.int .u64 0) (.int .u64 0) (.int .i64 0) (.int .i64 0) (.int .i64 0) (.string ⟨#[]⟩)
    have hHR : ∃ w9, w9 = (((((((v4.setCell ⟨R, 0, none⟩ (.int .i64 0)).setCell ⟨R, 1, none⟩ (.int .u64 0)).setCell ⟨R, 2, none⟩ (.int .u64 0)).setCell ⟨R, 3, none⟩ (.int .i64 0)).setCell ⟨R, 4, none⟩ (.int .i64 0)).setCell ⟨R, 5, none⟩ (.int .i64 0)).setCell ⟨R, 6, none⟩ (.string ⟨#[]⟩)) := ⟨_, rfl⟩
    obtain ⟨w9, hw9⟩ := hHR
    rw [← hw9] at FX ⊢
    clear hw9
    obtain ⟨FX1, FX2⟩ := FX
    have rc0 : w9.cell? ⟨R, 0, none⟩ = some (.int .i64 0) := (blk_cell FX1 0).trans rfl
    have rc1 : w9.cell? ⟨R, 1, none⟩ = some (.int .u64 0) := (blk_cell FX1 1).trans rfl
    have rc2 : w9.cell? ⟨R, 2, none⟩ = some (.int .u64 0) := (blk_cell FX1 2).trans rfl
    have rc3 : w9.cell? ⟨R, 3, none⟩ = some (.int .i64 0) := (blk_cell FX1 3).trans rfl
    have rc4 : w9.cell? ⟨R, 4, none⟩ = some (.int .i64 0) := (blk_cell FX1 4).trans rfl
    have rc5 : w9.cell? ⟨R, 5, none⟩ = some (.int .i64 0) := (blk_cell FX1 5).trans rfl
    have rc6 : w9.cell? ⟨R, 6, none⟩ = some (.string ⟨#[]⟩) := (blk_cell FX1 6).trans rfl
    refine bodyPost_ret (v := .tuple #[.agg #[.int .i64 0, .int .u64 0, .int .u64 0, .int .i64 0, .int .i64 0, .int .i64 0, .string ⟨#[]⟩], .int .i64 210]) (by simp [results, Tryd.results9, go_sem, rc0, rc1, rc2, rc3, rc4, rc5, rc6]) rfl ⟨?_, FX2⟩
    rw [HQ.out]
    rfl
  obtain rfl : n = 1 := by rw [HN.out]; exact hlen
  have HL := Aside0.mk hlen
  clear hlen HN hn1 hn2 HP
  have lc : v4.cell? ⟨L, 0, none⟩ = some (.int .i64 1) := (blk_cell LB.out 0).trans rfl
  clear LB
  have CB := Aside0.mk (blk_new v4 (.cells #[.int .i64 0, .int .u64 0, .int .u64 0, .int .i64 0, .int .i64 0, .int .i64 0, .string ⟨#[]⟩] 24))
  have X5 := Aside0.mk (X4.out.step (below_alloc (Below.refl _ _) (.cells #[.int .i64 0, .int .u64 0, .int .u64 0, .int .i64 0, .int .i64 0, .int .i64 0, .string ⟨#[]⟩] 24)))
  have HCR := Aside0.mk (show v4.heap.size ≠ R ∧ v4.heap.size ≠ R + 1 ∧ v4.heap.size ≠ g ∧ w.heap.size ≤ v4.heap.size from ⟨(Nat.ne_of_lt (blk_lt X4.out.rb)).symm, (Nat.ne_of_lt (blk_lt X4.out.nb)).symm, (Nat.ne_of_lt (blk_lt X4.out.gb)).symm, X4.out.bel.size⟩)
  go_upto_region 8 with (fail)
  obtain ⟨C, hC⟩ : ∃ C, C = v4.heap.size := ⟨_, rfl⟩
  rw [← hC] at CB HCR ⊢
  clear hC lc X4
  generalize v4.alloc (.cells #[.int .i64 0, .int .u64 0, .int .u64 0, .int .i64 0, .int .i64 0, .int .i64 0, .string ⟨#[]⟩] 24) = v5 at CB X5 ⊢
  have HQ := Aside0.mk (show rpL l = some z7 from by unfold rpL; rw [HK.out, Option.bind_some, if_pos (show l.length = manyL 0 from HL.out)]; simp [-List.getD_eq_getElem?_getD, z7])
  have nc0 : v5.cell? ⟨C, 0, none⟩ = some (.int .i64 0) := (blk_cell CB.out 0).trans rfl
  have nf0 := blk_frozen CB.out 0
  have nc1 : v5.cell? ⟨C, 1, none⟩ = some (.int .u64 0) := (blk_cell CB.out 1).trans rfl
  have nf1 := blk_frozen CB.out 1
  have nc2 : v5.cell? ⟨C, 2, none⟩ = some (.int .u64 0) := (blk_cell CB.out 2).trans rfl
  have nf2 := blk_frozen CB.out 2
  have nc3 : v5.cell? ⟨C, 3, none⟩ = some (.int .i64 0) := (blk_cell CB.out 3).trans rfl
  have nf3 := blk_frozen CB.out 3
  have nc4 : v5.cell? ⟨C, 4, none⟩ = some (.int .i64 0) := (blk_cell CB.out 4).trans rfl
  have nf4 := blk_frozen CB.out 4
  have nc5 : v5.cell? ⟨C, 5, none⟩ = some (.int .i64 0) := (blk_cell CB.out 5).trans rfl
  have nf5 := blk_frozen CB.out 5
  have nc6 : v5.cell? ⟨C, 6, none⟩ = some (.string ⟨#[]⟩) := (blk_cell CB.out 6).trans rfl
  have nf6 := blk_frozen CB.out 6
  have hRN : ¬ R = C := fun x => HCR.out.1 x.symm
  have hNR : ¬ C = R := HCR.out.1
  have rc0 : v5.cell? ⟨R, 0, none⟩ = some (.int .i64 0) := (blk_cell X5.out.rb 0).trans rfl
  have rf0 := blk_frozen X5.out.rb 0
  have rc1 : v5.cell? ⟨R, 1, none⟩ = some (.int .u64 0) := (blk_cell X5.out.rb 1).trans rfl
  have rf1 := blk_frozen X5.out.rb 1
  have rc2 : v5.cell? ⟨R, 2, none⟩ = some (.int .u64 0) := (blk_cell X5.out.rb 2).trans rfl
  have rf2 := blk_frozen X5.out.rb 2
  have rc3 : v5.cell? ⟨R, 3, none⟩ = some (.int .i64 0) := (blk_cell X5.out.rb 3).trans rfl
  have rf3 := blk_frozen X5.out.rb 3
  have rc4 : v5.cell? ⟨R, 4, none⟩ = some (.int .i64 0) := (blk_cell X5.out.rb 4).trans rfl
  have rf4 := blk_frozen X5.out.rb 4
  have rc5 : v5.cell? ⟨R, 5, none⟩ = some (.int .i64 0) := (blk_cell X5.out.rb 5).trans rfl
  have rf5 := blk_frozen X5.out.rb 5
  have rc6 : v5.cell? ⟨R, 6, none⟩ = some (.string ⟨#[]⟩) := (blk_cell X5.out.rb 6).trans rfl
  have rf6 := blk_frozen X5.out.rb 6
  go_wp2
  clear rc0 rf0 rc1 rf1 rc2 rf2 rc3 rf3 rc4 rf4 rc5 rf5 rc6 rf6
  have FX : (((((((v5.setCell ⟨R, 0, none⟩ (.int .i64 0)).setCell ⟨R, 1, none⟩ (.int .u64 0)).setCell ⟨R, 2, none⟩ (.int .u64 0)).setCell ⟨R, 3, none⟩ (.int .i64 0)).setCell ⟨R, 4, none⟩ (.int .i64 0)).setCell ⟨R, 5, none⟩ (.int .i64 0)).setCell ⟨R, 6, none⟩ (.string ⟨#[]⟩)).heap[R]? = some (.cells #[.int .i64 0, .int .u64 0, .int .u64 0, .int .i64 0, .int .i64 0, .int .i64 0, .string ⟨#[]⟩] 24 (0, 0)) ∧ Below w.heap.size w (((((((v5.setCell ⟨R, 0, none⟩ (.int .i64 0)).setCell ⟨R, 1, none⟩ (.int .u64 0)).setCell ⟨R, 2, none⟩ (.int .u64 0)).setCell ⟨R, 3, none⟩ (.int .i64 0)).setCell ⟨R, 4, none⟩ (.int .i64 0)).setCell ⟨R, 5, none⟩ (.int .i64 0)).setCell ⟨R, 6, none⟩ (.string ⟨#[]⟩)) := X5.out.fill (.int .i64 0) (.int .u64 0) (.int .u64 0) (.int .i64 0) (.int .i64 0) (.int .i64 0) (.string ⟨#[]⟩)
  have hHR : ∃ w9, w9 = (((((((v5.setCell ⟨R, 0, none⟩ (.int .i64 0)).setCell ⟨R, 1, none⟩ (.int .u64 0)).setCell ⟨R, 2, none⟩ (.int .u64 0)).setCell ⟨R, 3, none⟩ (.int .i64 0)).setCell ⟨R, 4, none⟩ (.int .i64 0)).setCell ⟨R, 5, none⟩ (.int .i64 0)).setCell ⟨R, 6, none⟩ (.string ⟨#[]⟩)) := ⟨_, rfl⟩
  obtain ⟨w9, hw9⟩ := hHR
  rw [← hw9] at FX ⊢
  clear hw9
  obtain ⟨FX1, FX2⟩ := FX
  have rc0 : w9.cell? ⟨R, 0, none⟩ = some (.int .i64 0) := (blk_cell FX1 0).trans rfl
  have rc1 : w9.cell? ⟨R, 1, none⟩ = some (.int .u64 0) := (blk_cell FX1 1).trans rfl
  have rc2 : w9.cell? ⟨R, 2, none⟩ = some (.int .u64 0) := (blk_cell FX1 2).trans rfl
  have rc3 : w9.cell? ⟨R, 3, none⟩ = some (.int .i64 0) := (blk_cell FX1 3).trans rfl
  have rc4 : w9.cell? ⟨R, 4, none⟩ = some (.int .i64 0) := (blk_cell FX1 4).trans rfl
  have rc5 : w9.cell? ⟨R, 5, none⟩ = some (.int .i64 0) := (blk_cell FX1 5).trans rfl
  have rc6 : w9.cell? ⟨R, 6, none⟩ = some (.string ⟨#[]⟩) := (blk_cell FX1 6).trans rfl
  refine bodyPost_ret (v := .tuple #[.agg #[.int .i64 0, .int .u64 0, .int .u64 0, .int .i64 0, .int .i64 0, .int .i64 0, .string ⟨#[]⟩], .int .i64 0]) (by simp [results, Tryd.results9, go_sem, rc0, rc1, rc2, rc3, rc4, rc5, rc6]) rfl ⟨?_, FX2⟩
  rw [HQ.out]
  rfl
set_option maxRecDepth 100000 in
set_option maxHeartbeats 8000000 in
theorem rparse_1 (s : ByteArray) (hs : s.size ≤ 281474976710656) (l : List (List UInt8)) (hl : wordsL 4 s.data.toList = l) (hk : kindL (l.getD 0 []) = some 1) (w : World) :
    Calls Tryd.prog 9 #[.string s] w fun e w' => e = .returned (rpV (rpL l)) ∧ Below w.heap.size w w' := by
  have WX := Aside0.mk (fun w1 => words5_x s hs l hl w1)
  have AX := Aside0.mk (fun ad cap w1 h1 h2 => kind_q (l.getD 0 []) ad cap w1 h1 h2)
  have HP := Aside0.mk (wordsL_pos hl)
  rw [show kindI (l.getD 0 []) = 1 from by unfold kindI; rw [hk]; rfl] at AX
  have HK := Aside0.mk hk
  clear hs hl hk
  have X0 := Aside0.mk (PS.start w)
  go_enter Tryd.func9, Tryd.ntmps9
  go_wp2_with fail
  refine (WX.out _).mono ?_
  rintro e w1 ⟨g, n, cap, cs, rfl, hn, hgb, hcs, hg0, hb⟩
  have X1 := Aside0.mk (X0.out.words hb hgb hg0)
  have HN := Aside0.mk hn
  have HC := Aside0.mk hcs
  clear hb hgb hg0 hn hcs X0 WX
  obtain ⟨R, hR⟩ : ∃ R, R = w.heap.size := ⟨_, rfl⟩
  rw [← hR] at X1 ⊢
  clear hR
  obtain ⟨x0, hx0⟩ : ∃ x0 : ByteArray, x0 = ⟨(l.getD 0 []).toArray⟩ := ⟨_, rfl⟩
  rw [← hx0] at AX
  have G0 := Aside0.mk (fun (w9 : World) (h : PS w w9 R (R + 1) g cs) => h.word (HC.out 0 _ (getD_some HP.out)))
  rw [← hx0] at G0
  clear hx0
  have hn1 : 0 < n := by rw [HN.out]; exact HP.out
  have hn2 : (0 : Int) < (n : Int) := by omega
  go_wp2_with fail
  have p1 : PS w w1.drew R (R + 1) g cs := X1.out.step (below_drew (Below.refl _ _))
  have p0 : w1.drew.cell? ⟨g, 0, none⟩ = some (.string x0) := G0.out _ p1
  refine start_ (n := 6) (S := fun w' => w'.cell? ⟨g, 0, none⟩ = some (.string x0) ∧ PS w w' R (R + 1) g cs) (ds := []) #[false, false, false, false, false, false] (by kernel_rfl) rfl rfl ⟨p0, p1⟩ (fun hHeld => ?_)
  refine pure_ (i := 1) (N := some 23) (v := ?_) (a' := ?_) #[false, true, false, false, false, false] rfl rfl (by kernel_rfl) (fun _ _ _ h => h) (Or.inl ⟨by rfl, ?_⟩) ?_ ?_
  rotate_left
  · intro w'
    go_simp
    with_reducible rfl
  rotate_left
  · simp only [Act.put, List.setIfInBounds_toArray, List.set_cons_zero, List.set_cons_succ, i64_w, i32_w]
    rfl
  refine pure_ (i := 2) (N := some 24) (v := ?_) (a' := ?_) #[false, true, true, false, false, false] rfl rfl (by kernel_rfl) (fun _ _ _ h => h) (Or.inl ⟨by rfl, ?_⟩) ?_ ?_
  rotate_left
  · intro w'
    go_simp
    with_reducible rfl
  rotate_left
  · simp only [Act.put, List.setIfInBounds_toArray, List.set_cons_zero, List.set_cons_succ, i64_w, i32_w]
    rfl
  refine take_ (i := 3) (N := some 25) (v := ?_) (a' := ?_) #[false, true, true, true, false, false] rfl rfl (by kernel_rfl) (fun _ _ _ h => h) (Or.inl ⟨by rfl, ?_⟩) hHeld ?_ ?_
  rotate_left
  · rintro w' ⟨s0, s1⟩
    go_simp
    with_reducible rfl
  rotate_left
  · simp only [Act.put, List.setIfInBounds_toArray, List.set_cons_zero, List.set_cons_succ, i64_w, i32_w]
    rfl
  refine one_ (i := 0) (N := some 22) #[true, true, true, true, false, false] rfl rfl (by kernel_rfl) (by decide) (fun K hK => ?_)
  refine goes_ Tryd.func16 (by kernel_rfl) rfl #[] (by rfl) rfl rfl (by simp only [List.map_toArray, List.map_cons, List.map_nil]) ?_
  with_reducible refine (kinds_c _).mono ?_
  rintro e w2 ⟨ad, cp2, rfl, hkc, hk7, hb⟩
  refine ⟨_, rfl, ?_⟩
  have HKC := Aside0.mk hkc
  have HK7 := Aside0.mk hk7
  clear hkc hk7
  refine hK.out _ _ ⟨pw_cell_below hb (hHeld.1), (hHeld.2).step hb⟩ (fun hHeld => ?_)
  clear hK K
  refine norm_ (a' := ?_) ?_ ?_
  rotate_left
  · show Act.put _ (some 22) _ = _
    simp only [Act.put, List.setIfInBounds_toArray, List.set_cons_zero, List.set_cons_succ, i64_w, i32_w]
    rfl
  refine one_ (i := 4) (N := some 26) #[true, true, true, true, true, false] rfl rfl (by kernel_rfl) (by decide) (fun K hK => ?_)
  refine goes_ Tryd.func19 (by kernel_rfl) rfl #[.slice (some ad) 7 cp2, .string x0] (by rfl) rfl rfl (by simp only [List.map_toArray, List.map_cons, List.map_nil]; rfl) ?_
  with_reducible refine (AX.out _ _ _ HKC.out HK7.out).mono ?_
  rintro e w3 ⟨rfl, hb⟩
  refine ⟨_, rfl, ?_⟩
  refine hK.out _ _ ⟨pw_cell_below hb (hHeld.1), (hHeld.2).step hb⟩ (fun hHeld => ?_)
  clear hK K
  refine norm_ (a' := ?_) ?_ ?_
  rotate_left
  · show Act.put _ (some 26) _ = _
    simp only [Act.put, List.setIfInBounds_toArray, List.set_cons_zero, List.set_cons_succ, i64_w, i32_w]
    rfl
  refine pure_ (i := 5) (N := some 6) (v := ?_) (a' := ?_) #[true, true, true, true, true, true] rfl rfl (by kernel_rfl) (fun _ _ _ h => h) (Or.inl ⟨by rfl, ?_⟩) ?_ ?_
  rotate_left
  · intro w'
    go_simp
    with_reducible rfl
  rotate_left
  · simp only [Act.put, List.setIfInBounds_toArray, List.set_cons_zero, List.set_cons_succ, i64_w, i32_w]
    rfl
  refine done_ (by kernel_rfl) ?_
  have X3 := Aside0.mk hHeld.2
  clear hHeld p0 p1 X1 HKC HK7 AX
  have X4 := Aside0.mk (X3.out.step (below_alloc (Below.refl _ _) (.cells #[.int .i64 1, .int .i64 2, .int .i64 3, .int .i64 3, .int .i64 3, .int .i64 3, .int .i64 5] 3)))
  have LB := Aside0.mk (blk_new w3 (.cells #[.int .i64 1, .int .i64 2, .int .i64 3, .int .i64 3, .int .i64 3, .int .i64 3, .int .i64 5] 3))
  go_upto_region 5 with (fail)
  obtain ⟨L, hL⟩ : ∃ L, L = w3.heap.size := ⟨_, rfl⟩
  rw [← hL] at LB ⊢
  clear hL X3
  generalize w3.alloc (.cells #[.int .i64 1, .int .i64 2, .int .i64 3, .int .i64 3, .int .i64 3, .int .i64 3, .int .i64 5] 3) = v4 at LB X4 ⊢
  by_cases hlen : l.length = 2
  rotate_left
  · skip
    have hne : ((n : Int) != 2) = true := by rw [bne_iff_ne, HN.out]; omega
    have HQ := Aside0.mk (show rpL l = none from by unfold rpL; rw [HK.out, Option.bind_some]; exact if_neg hlen)
    clear hlen
    have lc : v4.cell? ⟨L, 1, none⟩ = some (.int .i64 2) := (blk_cell LB.out 1).trans rfl
    clear LB
    have nc0 : v4.cell? ⟨R + 1, 0, none⟩ = some (.int .i64 0) := (blk_cell X4.out.nb 0).trans rfl
    have nf0 := blk_frozen X4.out.nb 0
    have nc1 : v4.cell? ⟨R + 1, 1, none⟩ = some (.int .u64 0) := (blk_cell X4.out.nb 1).trans rfl
    have nf1 := blk_frozen X4.out.nb 1
    have nc2 : v4.cell? ⟨R + 1, 2, none⟩ = some (.int .u64 0) := (blk_cell X4.out.nb 2).trans rfl
    have nf2 := blk_frozen X4.out.nb 2
    have nc3 : v4.cell? ⟨R + 1, 3, none⟩ = some (.int .i64 0) := (blk_cell X4.out.nb 3).trans rfl
    have nf3 := blk_frozen X4.out.nb 3
    have nc4 : v4.cell? ⟨R + 1, 4, none⟩ = some (.int .i64 0) := (blk_cell X4.out.nb 4).trans rfl
    have nf4 := blk_frozen X4.out.nb 4
    have nc5 : v4.cell? ⟨R + 1, 5, none⟩ = some (.int .i64 0) := (blk_cell X4.out.nb 5).trans rfl
    have nf5 := blk_frozen X4.out.nb 5
    have nc6 : v4.cell? ⟨R + 1, 6, none⟩ = some (.string ⟨#[]⟩) := (blk_cell X4.out.nb 6).trans rfl
    have nf6 := blk_frozen X4.out.nb 6
    have hRN : ¬ R = R + 1 := by omega
    have hNR : ¬ R + 1 = R := by omega
    have rc0 : v4.cell? ⟨R, 0, none⟩ = some (.int .i64 0) := (blk_cell X4.out.rb 0).trans rfl
    have rf0 := blk_frozen X4.out.rb 0
    have rc1 : v4.cell? ⟨R, 1, none⟩ = some (.int .u64 0) := (blk_cell X4.out.rb 1).trans rfl
    have rf1 := blk_frozen X4.out.rb 1
    have rc2 : v4.cell? ⟨R, 2, none⟩ = some (.int .u64 0) := (blk_cell X4.out.rb 2).trans rfl
    have rf2 := blk_frozen X4.out.rb 2
    have rc3 : v4.cell? ⟨R, 3, none⟩ = some (.int .i64 0) := (blk_cell X4.out.rb 3).trans rfl
    have rf3 := blk_frozen X4.out.rb 3
    have rc4 : v4.cell? ⟨R, 4, none⟩ = some (.int .i64 0) := (blk_cell X4.out.rb 4).trans rfl
    have rf4 := blk_frozen X4.out.rb 4
    have rc5 : v4.cell? ⟨R, 5, none⟩ = some (.int .i64 0) := (blk_cell X4.out.rb 5).trans rfl
    have rf5 := blk_frozen X4.out.rb 5
    have rc6 : v4.cell? ⟨R, 6, none⟩ = some (.string ⟨#[]⟩) := (blk_cell X4.out.rb 6).trans rfl
    have rf6 := blk_frozen X4.out.rb 6
    go_wp2
    clear rc0 rf0 rc1 rf1 rc2 rf2 rc3 rf3 rc4 rf4 rc5 rf5 rc6 rf6
    have FX : (((((((v4.setCell ⟨R, 0, none⟩ (.int .i64 0)).setCell ⟨R, 1, none⟩ (.int .u64 0)).setCell ⟨R, 2, none⟩ (.int .u64 0)).setCell ⟨R, 3, none⟩ (.int .i64 0)).setCell ⟨R, 4, none⟩ (.int .i64 0)).setCell ⟨R, 5, none⟩ (.int .i64 0)).setCell ⟨R, 6, none⟩ (.string ⟨#[]⟩)).heap[R]? = some (.cells #[.int .i64 0, .int .u64 0, .int .u64 0, .int .i64 0, .int .i64 0, .int .i64 0, .string ⟨#[]⟩] 24 (0, 0)) ∧ Below w.heap.size w (((((((v4.setCell ⟨R, 0, none⟩ (.int .i64 0)).setCell ⟨R, 1, none⟩ (.int .u64 0)).setCell ⟨R, 2, none⟩ (.int .u64 0)).setCell ⟨R, 3, none⟩ (.int .i64 0)).setCell ⟨R, 4, none⟩ (.int .i64 0)).setCell ⟨R, 5, none⟩ (.int .i64 0)).setCell ⟨R, 6, none⟩ (.string ⟨#[]⟩)) := X4.out.fill (.int .i64 0) (.int .u64 0) (.int .u64 0) (.int .i64 0) (.int .i64 0) (.int .i64 0) (.string ⟨#[]⟩)
    have hHR : ∃ w9, w9 = (((((((v4.setCell ⟨R, 0, none⟩ (.int .i64 0)).setCell ⟨R, 1, none⟩ (.int .u64 0)).setCell ⟨R, 2, none⟩ (.int .u64 0)).setCell ⟨R, 3, none⟩ (.int .i64 0)).setCell ⟨R, 4, none⟩ (.int .i64 0)).setCell ⟨R, 5, none⟩ (.int .i64 0)).setCell ⟨R, 6, none⟩ (.string ⟨#[]⟩)) := ⟨_, rfl⟩
    obtain ⟨w9, hw9⟩ := hHR
    rw [← hw9] at FX ⊢
    clear hw9
    obtain ⟨FX1, FX2⟩ := FX
    have rc0 : w9.cell? ⟨R, 0, none⟩ = some (.int .i64 0) := (blk_cell FX1 0).trans rfl
    have rc1 : w9.cell? ⟨R, 1, none⟩ = some (.int .u64 0) := (blk_cell FX1 1).trans rfl
    have rc2 : w9.cell? ⟨R, 2, none⟩ = some (.int .u64 0) := (blk_cell FX1 2).trans rfl
    have rc3 : w9.cell? ⟨R, 3, none⟩ = some (.int .i64 0) := (blk_cell FX1 3).trans rfl
    have rc4 : w9.cell? ⟨R, 4, none⟩ = some (.int .i64 0) := (blk_cell FX1 4).trans rfl
    have rc5 : w9.cell? ⟨R, 5, none⟩ = some (.int .i64 0) := (blk_cell FX1 5).trans rfl
    have rc6 : w9.cell? ⟨R, 6, none⟩ = some (.string ⟨#[]⟩) := (blk_cell FX1 6).trans rfl
    refine bodyPost_ret (v := .tuple #[.agg #[.int .i64 0, .int .u64 0, .int .u64 0, .int .i64 0, .int .i64 0, .int .i64 0, .string ⟨#[]⟩], .int .i64 210]) (by simp [results, Tryd.results9, go_sem, rc0, rc1, rc2, rc3, rc4, rc5, rc6]) rfl ⟨?_, FX2⟩
    rw [HQ.out]
    rfl
  obtain rfl : n = 2 := by rw [HN.out]; exact hlen
  have HL := Aside0.mk hlen
  clear hlen HN hn1 hn2 HP
  have lc : v4.cell? ⟨L, 1, none⟩ = some (.int .i64 2) := (blk_cell LB.out 1).trans rfl
  clear LB
  have CB := Aside0.mk (blk_new v4 (.cells #[.int .i64 1, .int .u64 0, .int .u64 0, .int .i64 0, .int .i64 0, .int .i64 0, .string ⟨#[]⟩] 24))
  have X5 := Aside0.mk (X4.out.step (below_alloc (Below.refl _ _) (.cells #[.int .i64 1, .int .u64 0, .int .u64 0, .int .i64 0, .int .i64 0, .int .i64 0, .string ⟨#[]⟩] 24)))
  have HCR := Aside0.mk (show v4.heap.size ≠ R ∧ v4.heap.size ≠ R + 1 ∧ v4.heap.size ≠ g ∧ w.heap.size ≤ v4.heap.size from ⟨(Nat.ne_of_lt (blk_lt X4.out.rb)).symm, (Nat.ne_of_lt (blk_lt X4.out.nb)).symm, (Nat.ne_of_lt (blk_lt X4.out.gb)).symm, X4.out.bel.size⟩)
  go_upto_region 8 with (fail)
  obtain ⟨C, hC⟩ : ∃ C, C = v4.heap.size := ⟨_, rfl⟩
  rw [← hC] at CB HCR ⊢
  clear hC lc X4
  generalize v4.alloc (.cells #[.int .i64 1, .int .u64 0, .int .u64 0, .int .i64 0, .int .i64 0, .int .i64 0, .string ⟨#[]⟩] 24) = v5 at CB X5 ⊢
  obtain ⟨x1, hx1⟩ : ∃ x : ByteArray, x = ⟨(l.getD 1 []).toArray⟩ := ⟨_, rfl⟩
  have G1 := Aside0.mk (fun (w9 : World) (h : PS w w9 R (R + 1) g cs) => h.word (HC.out 1 _ (getD_some (by rw [HL.out]; decide))))
  rw [← hx1] at G1
  have HX1 := Aside0.mk hx1
  clear hx1
  cases q1 : numL (l.getD 1 []) with
  | none =>
    obtain ⟨m1, N1⟩ := rnum_no q1
    rw [← HX1.out] at N1
    have NX := Aside0.mk N1
    have Q1 := Aside0.mk q1
    clear N1 q1
    have g1 := G1.out _ X5.out
    go_wp2_with fail
    clear g1
    refine (NX.out _).mono ?_
    rintro e v6 ⟨rfl, hb⟩
    replace CB := Aside0.mk ((hb.block _ (blk_lt CB.out)).trans CB.out)
    have X6 := Aside0.mk (X5.out.step hb)
    clear hb X5
    have HQ := Aside0.mk (show rpL l = none from by unfold rpL; rw [HK.out, Option.bind_some, if_pos (show l.length = manyL 1 from HL.out)]; simp [-List.getD_eq_getElem?_getD, Q1.out])
    have nc0 : v6.cell? ⟨R + 1, 0, none⟩ = some (.int .i64 0) := (blk_cell X6.out.nb 0).trans rfl
    have nf0 := blk_frozen X6.out.nb 0
    have nc1 : v6.cell? ⟨R + 1, 1, none⟩ = some (.int .u64 0) := (blk_cell X6.out.nb 1).trans rfl
    have nf1 := blk_frozen X6.out.nb 1
    have nc2 : v6.cell? ⟨R + 1, 2, none⟩ = some (.int .u64 0) := (blk_cell X6.out.nb 2).trans rfl
    have nf2 := blk_frozen X6.out.nb 2
    have nc3 : v6.cell? ⟨R + 1, 3, none⟩ = some (.int .i64 0) := (blk_cell X6.out.nb 3).trans rfl
    have nf3 := blk_frozen X6.out.nb 3
    have nc4 : v6.cell? ⟨R + 1, 4, none⟩ = some (.int .i64 0) := (blk_cell X6.out.nb 4).trans rfl
    have nf4 := blk_frozen X6.out.nb 4
    have nc5 : v6.cell? ⟨R + 1, 5, none⟩ = some (.int .i64 0) := (blk_cell X6.out.nb 5).trans rfl
    have nf5 := blk_frozen X6.out.nb 5
    have nc6 : v6.cell? ⟨R + 1, 6, none⟩ = some (.string ⟨#[]⟩) := (blk_cell X6.out.nb 6).trans rfl
    have nf6 := blk_frozen X6.out.nb 6
    have hRN : ¬ R = R + 1 := by omega
    have hNR : ¬ R + 1 = R := by omega
    have rc0 : v6.cell? ⟨R, 0, none⟩ = some (.int .i64 0) := (blk_cell X6.out.rb 0).trans rfl
    have rf0 := blk_frozen X6.out.rb 0
    have rc1 : v6.cell? ⟨R, 1, none⟩ = some (.int .u64 0) := (blk_cell X6.out.rb 1).trans rfl
    have rf1 := blk_frozen X6.out.rb 1
    have rc2 : v6.cell? ⟨R, 2, none⟩ = some (.int .u64 0) := (blk_cell X6.out.rb 2).trans rfl
    have rf2 := blk_frozen X6.out.rb 2
    have rc3 : v6.cell? ⟨R, 3, none⟩ = some (.int .i64 0) := (blk_cell X6.out.rb 3).trans rfl
    have rf3 := blk_frozen X6.out.rb 3
    have rc4 : v6.cell? ⟨R, 4, none⟩ = some (.int .i64 0) := (blk_cell X6.out.rb 4).trans rfl
    have rf4 := blk_frozen X6.out.rb 4
    have rc5 : v6.cell? ⟨R, 5, none⟩ = some (.int .i64 0) := (blk_cell X6.out.rb 5).trans rfl
    have rf5 := blk_frozen X6.out.rb 5
    have rc6 : v6.cell? ⟨R, 6, none⟩ = some (.string ⟨#[]⟩) := (blk_cell X6.out.rb 6).trans rfl
    have rf6 := blk_frozen X6.out.rb 6
    go_wp2
    clear rc0 rf0 rc1 rf1 rc2 rf2 rc3 rf3 rc4 rf4 rc5 rf5 rc6 rf6
    have FX : (((((((v6.setCell ⟨R, 0, none⟩ (.int .i64 0)).setCell ⟨R, 1, none⟩ (.int .u64 0)).setCell ⟨R, 2, none⟩ (.int .u64 0)).setCell ⟨R, 3, none⟩ (.int .i64 0)).setCell ⟨R, 4, none⟩ (.int .i64 0)).setCell ⟨R, 5, none⟩ (.int .i64 0)).setCell ⟨R, 6, none⟩ (.string ⟨#[]⟩)).heap[R]? = some (.cells #[.int .i64 0, .int .u64 0, .int .u64 0, .int .i64 0, .int .i64 0, .int .i64 0, .string ⟨#[]⟩] 24 (0, 0)) ∧ Below w.heap.size w (((((((v6.setCell ⟨R, 0, none⟩ (.int .i64 0)).setCell ⟨R, 1, none⟩ (.int .u64 0)).setCell ⟨R, 2, none⟩ (.int .u64 0)).setCell ⟨R, 3, none⟩ (.int .i64 0)).setCell ⟨R, 4, none⟩ (.int .i64 0)).setCell ⟨R, 5, none⟩ (.int .i64 0)).setCell ⟨R, 6, none⟩ (.string ⟨#[]⟩)) := X6.out.fill (.int .i64 0) (.int .u64 0) (.int .u64 0) (.int .i64 0) (.int .i64 0) (.int .i64 0) (.string ⟨#[]⟩)
    have hHR : ∃ w9, w9 = (((((((v6.setCell ⟨R, 0, none⟩ (.int .i64 0)).setCell ⟨R, 1, none⟩ (.int .u64 0)).setCell ⟨R, 2, none⟩ (.int .u64 0)).setCell ⟨R, 3, none⟩ (.int .i64 0)).setCell ⟨R, 4, none⟩ (.int .i64 0)).setCell ⟨R, 5, none⟩ (.int .i64 0)).setCell ⟨R, 6, none⟩ (.string ⟨#[]⟩)) := ⟨_, rfl⟩
    obtain ⟨w9, hw9⟩ := hHR
    rw [← hw9] at FX ⊢
    clear hw9
    obtain ⟨FX1, FX2⟩ := FX
    have rc0 : w9.cell? ⟨R, 0, none⟩ = some (.int .i64 0) := (blk_cell FX1 0).trans rfl
    have rc1 : w9.cell? ⟨R, 1, none⟩ = some (.int .u64 0) := (blk_cell FX1 1).trans rfl
    have rc2 : w9.cell? ⟨R, 2, none⟩ = some (.int .u64 0) := (blk_cell FX1 2).trans rfl
    have rc3 : w9.cell? ⟨R, 3, none⟩ = some (.int .i64 0) := (blk_cell FX1 3).trans rfl
    have rc4 : w9.cell? ⟨R, 4, none⟩ = some (.int .i64 0) := (blk_cell FX1 4).trans rfl
    have rc5 : w9.cell? ⟨R, 5, none⟩ = some (.int .i64 0) := (blk_cell FX1 5).trans rfl
    have rc6 : w9.cell? ⟨R, 6, none⟩ = some (.string ⟨#[]⟩) := (blk_cell FX1 6).trans rfl
    refine bodyPost_ret (v := .tuple #[.agg #[.int .i64 0, .int .u64 0, .int .u64 0, .int .i64 0, .int .i64 0, .int .i64 0, .string ⟨#[]⟩], .int .i64 210]) (by simp [results, Tryd.results9, go_sem, rc0, rc1, rc2, rc3, rc4, rc5, rc6]) rfl ⟨?_, FX2⟩
    rw [HQ.out]
    rfl
  | some h1 =>
    have N1 := fun w => rnum_yes q1 w
    rw [← HX1.out] at N1
    have NX := Aside0.mk N1
    have Q1 := Aside0.mk q1
    clear N1 q1
    have g1 := G1.out _ X5.out
    go_wp2_with fail
    clear g1
    refine (NX.out _).mono ?_
    rintro e v6 ⟨rfl, hb⟩
    replace CB := Aside0.mk ((hb.block _ (blk_lt CB.out)).trans CB.out)
    have X6 := Aside0.mk (X5.out.step hb)
    clear hb X5
    clear NX
    have cc := (blk_cell CB.out 1).trans (show _ = some (.int .u64 0) from rfl)
    have cf := blk_frozen CB.out 1
    replace CB := Aside0.mk (show (v6.setCell ⟨C, 1, none⟩ (.int .u64 (h1 : Int))).heap[C]? = some (.cells #[.int .i64 1, .int .u64 (h1 : Int), .int .u64 0, .int .i64 0, .int .i64 0, .int .i64 0, .string ⟨#[]⟩] 24 (0, 0)) from blk_set CB.out 1 _)
    have X7 := Aside0.mk (X6.out.far HCR.out.1 HCR.out.2.1 HCR.out.2.2.1 HCR.out.2.2.2 1 (.int .u64 (h1 : Int)))
    go_upto_region 14 with (fail)
    clear cc cf X6
    generalize v6.setCell ⟨C, 1, none⟩ (.int .u64 (h1 : Int)) = v7 at CB X7 ⊢
    have HQ := Aside0.mk (show rpL l = some { z7 with kind := 1, handle := h1 } from by unfold rpL; rw [HK.out, Option.bind_some, if_pos (show l.length = manyL 1 from HL.out)]; simp [-List.getD_eq_getElem?_getD, Q1.out, z7])
    have nc0 : v7.cell? ⟨C, 0, none⟩ = some (.int .i64 1) := (blk_cell CB.out 0).trans rfl
    have nf0 := blk_frozen CB.out 0
    have nc1 : v7.cell? ⟨C, 1, none⟩ = some (.int .u64 (h1 : Int)) := (blk_cell CB.out 1).trans rfl
    have nf1 := blk_frozen CB.out 1
    have nc2 : v7.cell? ⟨C, 2, none⟩ = some (.int .u64 0) := (blk_cell CB.out 2).trans rfl
    have nf2 := blk_frozen CB.out 2
    have nc3 : v7.cell? ⟨C, 3, none⟩ = some (.int .i64 0) := (blk_cell CB.out 3).trans rfl
    have nf3 := blk_frozen CB.out 3
    have nc4 : v7.cell? ⟨C, 4, none⟩ = some (.int .i64 0) := (blk_cell CB.out 4).trans rfl
    have nf4 := blk_frozen CB.out 4
    have nc5 : v7.cell? ⟨C, 5, none⟩ = some (.int .i64 0) := (blk_cell CB.out 5).trans rfl
    have nf5 := blk_frozen CB.out 5
    have nc6 : v7.cell? ⟨C, 6, none⟩ = some (.string ⟨#[]⟩) := (blk_cell CB.out 6).trans rfl
    have nf6 := blk_frozen CB.out 6
    have hRN : ¬ R = C := fun x => HCR.out.1 x.symm
    have hNR : ¬ C = R := HCR.out.1
    have rc0 : v7.cell? ⟨R, 0, none⟩ = some (.int .i64 0) := (blk_cell X7.out.rb 0).trans rfl
    have rf0 := blk_frozen X7.out.rb 0
    have rc1 : v7.cell? ⟨R, 1, none⟩ = some (.int .u64 0) := (blk_cell X7.out.rb 1).trans rfl
    have rf1 := blk_frozen X7.out.rb 1
    have rc2 : v7.cell? ⟨R, 2, none⟩ = some (.int .u64 0) := (blk_cell X7.out.rb 2).trans rfl
    have rf2 := blk_frozen X7.out.rb 2
    have rc3 : v7.cell? ⟨R, 3, none⟩ = some (.int .i64 0) := (blk_cell X7.out.rb 3).trans rfl
    have rf3 := blk_frozen X7.out.rb 3
    have rc4 : v7.cell? ⟨R, 4, none⟩ = some (.int .i64 0) := (blk_cell X7.out.rb 4).trans rfl
    have rf4 := blk_frozen X7.out.rb 4
    have rc5 : v7.cell? ⟨R, 5, none⟩ = some (.int .i64 0) := (blk_cell X7.out.rb 5).trans rfl
    have rf5 := blk_frozen X7.out.rb 5
    have rc6 : v7.cell? ⟨R, 6, none⟩ = some (.string ⟨#[]⟩) := (blk_cell X7.out.rb 6).trans rfl
    have rf6 := blk_frozen X7.out.rb 6
    go_wp2
    clear rc0 rf0 rc1 rf1 rc2 rf2 rc3 rf3 rc4 rf4 rc5 rf5 rc6 rf6
    have FX : (((((((v7.setCell ⟨R, 0, none⟩ (.int .i64 1)).setCell ⟨R, 1, none⟩ (.int .u64 (h1 : Int))).setCell ⟨R, 2, none⟩ (.int .u64 0)).setCell ⟨R, 3, none⟩ (.int .i64 0)).setCell ⟨R, 4, none⟩ (.int .i64 0)).setCell ⟨R, 5, none⟩ (.int .i64 0)).setCell ⟨R, 6, none⟩ (.string ⟨#[]⟩)).heap[R]? = some (.cells #[.int .i64 1, .int .u64 (h1 : Int), .int .u64 0, .int .i64 0, .int .i64 0, .int .i64 0, .string ⟨#[]⟩] 24 (0, 0)) ∧ Below w.heap.size w (((((((v7.setCell ⟨R, 0, none⟩ (.int .i64 1)).setCell ⟨R, 1, none⟩ (.int .u64 (h1 : Int))).setCell ⟨R, 2, none⟩ (.int .u64 0)).setCell ⟨R, 3, none⟩ (.int .i64 0)).setCell ⟨R, 4, none⟩ (.int .i64 0)).setCell ⟨R, 5, none⟩ (.int .i64 0)).setCell ⟨R, 6, none⟩ (.string ⟨#[]⟩)) := X7.out.fill (.int .i64 1) (.int .u64 (h1 : Int)) (.int .u64 0) (.int .i64 0) (.int .i64 0) (.int .i64 0) (.string ⟨#[]⟩)
    have hHR : ∃ w9, w9 = (((((((v7.setCell ⟨R, 0, none⟩ (.int .i64 1)).setCell ⟨R, 1, none⟩ (.int .u64 (h1 : Int))).setCell ⟨R, 2, none⟩ (.int .u64 0)).setCell ⟨R, 3, none⟩ (.int .i64 0)).setCell ⟨R, 4, none⟩ (.int .i64 0)).setCell ⟨R, 5, none⟩ (.int .i64 0)).setCell ⟨R, 6, none⟩ (.string ⟨#[]⟩)) := ⟨_, rfl⟩
    obtain ⟨w9, hw9⟩ := hHR
    rw [← hw9] at FX ⊢
    clear hw9
    obtain ⟨FX1, FX2⟩ := FX
    have rc0 : w9.cell? ⟨R, 0, none⟩ = some (.int .i64 1) := (blk_cell FX1 0).trans rfl
    have rc1 : w9.cell? ⟨R, 1, none⟩ = some (.int .u64 (h1 : Int)) := (blk_cell FX1 1).trans rfl
    have rc2 : w9.cell? ⟨R, 2, none⟩ = some (.int .u64 0) := (blk_cell FX1 2).trans rfl
    have rc3 : w9.cell? ⟨R, 3, none⟩ = some (.int .i64 0) := (blk_cell FX1 3).trans rfl
    have rc4 : w9.cell? ⟨R, 4, none⟩ = some (.int .i64 0) := (blk_cell FX1 4).trans rfl
    have rc5 : w9.cell? ⟨R, 5, none⟩ = some (.int .i64 0) := (blk_cell FX1 5).trans rfl
    have rc6 : w9.cell? ⟨R, 6, none⟩ = some (.string ⟨#[]⟩) := (blk_cell FX1 6).trans rfl
    refine bodyPost_ret (v := .tuple #[.agg #[.int .i64 1, .int .u64 (h1 : Int), .int .u64 0, .int .i64 0, .int .i64 0, .int .i64 0, .string ⟨#[]⟩], .int .i64 0]) (by simp [results, Tryd.results9, go_sem, rc0, rc1, rc2, rc3, rc4, rc5, rc6]) rfl ⟨?_, FX2⟩
    rw [HQ.out]
    rfl
set_option maxRecDepth 100000 in
set_option maxHeartbeats 8000000 in
theorem rparse_2 (s : ByteArray) (hs : s.size ≤ 281474976710656) (l : List (List UInt8)) (hl : wordsL 4 s.data.toList = l) (hk : kindL (l.getD 0 []) = some 2) (w : World) :
    Calls Tryd.prog 9 #[.string s] w fun e w' => e = .returned (rpV (rpL l)) ∧ Below w.heap.size w w' := by
  have WX := Aside0.mk (fun w1 => words5_x s hs l hl w1)
  have AX := Aside0.mk (fun ad cap w1 h1 h2 => kind_q (l.getD 0 []) ad cap w1 h1 h2)
  have HP := Aside0.mk (wordsL_pos hl)
  rw [show kindI (l.getD 0 []) = 2 from by unfold kindI; rw [hk]; rfl] at AX
  have HK := Aside0.mk hk
  clear hs hl hk
  have X0 := Aside0.mk (PS.start w)
  go_enter Tryd.func9, Tryd.ntmps9
  go_wp2_with fail
  refine (WX.out _).mono ?_
  rintro e w1 ⟨g, n, cap, cs, rfl, hn, hgb, hcs, hg0, hb⟩
  have X1 := Aside0.mk (X0.out.words hb hgb hg0)
  have HN := Aside0.mk hn
  have HC := Aside0.mk hcs
  clear hb hgb hg0 hn hcs X0 WX
  obtain ⟨R, hR⟩ : ∃ R, R = w.heap.size := ⟨_, rfl⟩
  rw [← hR] at X1 ⊢
  clear hR
  obtain ⟨x0, hx0⟩ : ∃ x0 : ByteArray, x0 = ⟨(l.getD 0 []).toArray⟩ := ⟨_, rfl⟩
  rw [← hx0] at AX
  have G0 := Aside0.mk (fun (w9 : World) (h : PS w w9 R (R + 1) g cs) => h.word (HC.out 0 _ (getD_some HP.out)))
  rw [← hx0] at G0
  clear hx0
  have hn1 : 0 < n := by rw [HN.out]; exact HP.out
  have hn2 : (0 : Int) < (n : Int) := by omega
  go_wp2_with fail
  have p1 : PS w w1.drew R (R + 1) g cs := X1.out.step (below_drew (Below.refl _ _))
  have p0 : w1.drew.cell? ⟨g, 0, none⟩ = some (.string x0) := G0.out _ p1
  refine start_ (n := 6) (S := fun w' => w'.cell? ⟨g, 0, none⟩ = some (.string x0) ∧ PS w w' R (R + 1) g cs) (ds := []) #[false, false, false, false, false, false] (by kernel_rfl) rfl rfl ⟨p0, p1⟩ (fun hHeld => ?_)
  refine pure_ (i := 1) (N := some 23) (v := ?_) (a' := ?_) #[false, true, false, false, false, false] rfl rfl (by kernel_rfl) (fun _ _ _ h => h) (Or.inl ⟨by rfl, ?_⟩) ?_ ?_
  rotate_left
  · intro w'
    go_simp
    with_reducible rfl
  rotate_left
  · simp only [Act.put, List.setIfInBounds_toArray, List.set_cons_zero, List.set_cons_succ, i64_w, i32_w]
    rfl
  refine pure_ (i := 2) (N := some 24) (v := ?_) (a' := ?_) #[false, true, true, false, false, false] rfl rfl (by kernel_rfl) (fun _ _ _ h => h) (Or.inl ⟨by rfl, ?_⟩) ?_ ?_
  rotate_left
  · intro w'
    go_simp
    with_reducible rfl
  rotate_left
  · simp only [Act.put, List.setIfInBounds_toArray, List.set_cons_zero, List.set_cons_succ, i64_w, i32_w]
    rfl
  refine take_ (i := 3) (N := some 25) (v := ?_) (a' := ?_) #[false, true, true, true, false, false] rfl rfl (by kernel_rfl) (fun _ _ _ h => h) (Or.inl ⟨by rfl, ?_⟩) hHeld ?_ ?_
  rotate_left
  · rintro w' ⟨s0, s1⟩
    go_simp
    with_reducible rfl
  rotate_left
  · simp only [Act.put, List.setIfInBounds_toArray, List.set_cons_zero, List.set_cons_succ, i64_w, i32_w]
    rfl
  refine one_ (i := 0) (N := some 22) #[true, true, true, true, false, false] rfl rfl (by kernel_rfl) (by decide) (fun K hK => ?_)
  refine goes_ Tryd.func16 (by kernel_rfl) rfl #[] (by rfl) rfl rfl (by simp only [List.map_toArray, List.map_cons, List.map_nil]) ?_
  with_reducible refine (kinds_c _).mono ?_
  rintro e w2 ⟨ad, cp2, rfl, hkc, hk7, hb⟩
  refine ⟨_, rfl, ?_⟩
  have HKC := Aside0.mk hkc
  have HK7 := Aside0.mk hk7
  clear hkc hk7
  refine hK.out _ _ ⟨pw_cell_below hb (hHeld.1), (hHeld.2).step hb⟩ (fun hHeld => ?_)
  clear hK K
  refine norm_ (a' := ?_) ?_ ?_
  rotate_left
  · show Act.put _ (some 22) _ = _
    simp only [Act.put, List.setIfInBounds_toArray, List.set_cons_zero, List.set_cons_succ, i64_w, i32_w]
    rfl
  refine one_ (i := 4) (N := some 26) #[true, true, true, true, true, false] rfl rfl (by kernel_rfl) (by decide) (fun K hK => ?_)
  refine goes_ Tryd.func19 (by kernel_rfl) rfl #[.slice (some ad) 7 cp2, .string x0] (by rfl) rfl rfl (by simp only [List.map_toArray, List.map_cons, List.map_nil]; rfl) ?_
  with_reducible refine (AX.out _ _ _ HKC.out HK7.out).mono ?_
  rintro e w3 ⟨rfl, hb⟩
  refine ⟨_, rfl, ?_⟩
  refine hK.out _ _ ⟨pw_cell_below hb (hHeld.1), (hHeld.2).step hb⟩ (fun hHeld => ?_)
  clear hK K
  refine norm_ (a' := ?_) ?_ ?_
  rotate_left
  · show Act.put _ (some 26) _ = _
    simp only [Act.put, List.setIfInBounds_toArray, List.set_cons_zero, List.set_cons_succ, i64_w, i32_w]
    rfl
  refine pure_ (i := 5) (N := some 6) (v := ?_) (a' := ?_) #[true, true, true, true, true, true] rfl rfl (by kernel_rfl) (fun _ _ _ h => h) (Or.inl ⟨by rfl, ?_⟩) ?_ ?_
  rotate_left
  · intro w'
    go_simp
    with_reducible rfl
  rotate_left
  · simp only [Act.put, List.setIfInBounds_toArray, List.set_cons_zero, List.set_cons_succ, i64_w, i32_w]
    rfl
  refine done_ (by kernel_rfl) ?_
  have X3 := Aside0.mk hHeld.2
  clear hHeld p0 p1 X1 HKC HK7 AX
  have X4 := Aside0.mk (X3.out.step (below_alloc (Below.refl _ _) (.cells #[.int .i64 1, .int .i64 2, .int .i64 3, .int .i64 3, .int .i64 3, .int .i64 3, .int .i64 5] 3)))
  have LB := Aside0.mk (blk_new w3 (.cells #[.int .i64 1, .int .i64 2, .int .i64 3, .int .i64 3, .int .i64 3, .int .i64 3, .int .i64 5] 3))
  go_upto_region 5 with (fail)
  obtain ⟨L, hL⟩ : ∃ L, L = w3.heap.size := ⟨_, rfl⟩
  rw [← hL] at LB ⊢
  clear hL X3
  generalize w3.alloc (.cells #[.int .i64 1, .int .i64 2, .int .i64 3, .int .i64 3, .int .i64 3, .int .i64 3, .int .i64 5] 3) = v4 at LB X4 ⊢
  by_cases hlen : l.length = 3
  rotate_left
  · skip
    have hne : ((n : Int) != 3) = true := by rw [bne_iff_ne, HN.out]; omega
    have HQ := Aside0.mk (show rpL l = none from by unfold rpL; rw [HK.out, Option.bind_some]; exact if_neg hlen)
    clear hlen
    have lc : v4.cell? ⟨L, 2, none⟩ = some (.int .i64 3) := (blk_cell LB.out 2).trans rfl
    clear LB
    have nc0 : v4.cell? ⟨R + 1, 0, none⟩ = some (.int .i64 0) := (blk_cell X4.out.nb 0).trans rfl
    have nf0 := blk_frozen X4.out.nb 0
    have nc1 : v4.cell? ⟨R + 1, 1, none⟩ = some (.int .u64 0) := (blk_cell X4.out.nb 1).trans rfl
    have nf1 := blk_frozen X4.out.nb 1
    have nc2 : v4.cell? ⟨R + 1, 2, none⟩ = some (.int .u64 0) := (blk_cell X4.out.nb 2).trans rfl
    have nf2 := blk_frozen X4.out.nb 2
    have nc3 : v4.cell? ⟨R + 1, 3, none⟩ = some (.int .i64 0) := (blk_cell X4.out.nb 3).trans rfl
    have nf3 := blk_frozen X4.out.nb 3
    have nc4 : v4.cell? ⟨R + 1, 4, none⟩ = some (.int .i64 0) := (blk_cell X4.out.nb 4).trans rfl
    have nf4 := blk_frozen X4.out.nb 4
    have nc5 : v4.cell? ⟨R + 1, 5, none⟩ = some (.int .i64 0) := (blk_cell X4.out.nb 5).trans rfl
    have nf5 := blk_frozen X4.out.nb 5
    have nc6 : v4.cell? ⟨R + 1, 6, none⟩ = some (.string ⟨#[]⟩) := (blk_cell X4.out.nb 6).trans rfl
    have nf6 := blk_frozen X4.out.nb 6
    have hRN : ¬ R = R + 1 := by omega
    have hNR : ¬ R + 1 = R := by omega
    have rc0 : v4.cell? ⟨R, 0, none⟩ = some (.int .i64 0) := (blk_cell X4.out.rb 0).trans rfl
    have rf0 := blk_frozen X4.out.rb 0
    have rc1 : v4.cell? ⟨R, 1, none⟩ = some (.int .u64 0) := (blk_cell X4.out.rb 1).trans rfl
    have rf1 := blk_frozen X4.out.rb 1
    have rc2 : v4.cell? ⟨R, 2, none⟩ = some (.int .u64 0) := (blk_cell X4.out.rb 2).trans rfl
    have rf2 := blk_frozen X4.out.rb 2
    have rc3 : v4.cell? ⟨R, 3, none⟩ = some (.int .i64 0) := (blk_cell X4.out.rb 3).trans rfl
    have rf3 := blk_frozen X4.out.rb 3
    have rc4 : v4.cell? ⟨R, 4, none⟩ = some (.int .i64 0) := (blk_cell X4.out.rb 4).trans rfl
    have rf4 := blk_frozen X4.out.rb 4
    have rc5 : v4.cell? ⟨R, 5, none⟩ = some (.int .i64 0) := (blk_cell X4.out.rb 5).trans rfl
    have rf5 := blk_frozen X4.out.rb 5
    have rc6 : v4.cell? ⟨R, 6, none⟩ = some (.string ⟨#[]⟩) := (blk_cell X4.out.rb 6).trans rfl
    have rf6 := blk_frozen X4.out.rb 6
    go_wp2
    clear rc0 rf0 rc1 rf1 rc2 rf2 rc3 rf3 rc4 rf4 rc5 rf5 rc6 rf6
    have FX : (((((((v4.setCell ⟨R, 0, none⟩ (.int .i64 0)).setCell ⟨R, 1, none⟩ (.int .u64 0)).setCell ⟨R, 2, none⟩ (.int .u64 0)).setCell ⟨R, 3, none⟩ (.int .i64 0)).setCell ⟨R, 4, none⟩ (.int .i64 0)).setCell ⟨R, 5, none⟩ (.int .i64 0)).setCell ⟨R, 6, none⟩ (.string ⟨#[]⟩)).heap[R]? = some (.cells #[.int .i64 0, .int .u64 0, .int .u64 0, .int .i64 0, .int .i64 0, .int .i64 0, .string ⟨#[]⟩] 24 (0, 0)) ∧ Below w.heap.size w (((((((v4.setCell ⟨R, 0, none⟩ (.int .i64 0)).setCell ⟨R, 1, none⟩ (.int .u64 0)).setCell ⟨R, 2, none⟩ (.int .u64 0)).setCell ⟨R, 3, none⟩ (.int .i64 0)).setCell ⟨R, 4, none⟩ (.int .i64 0)).setCell ⟨R, 5, none⟩ (.int .i64 0)).setCell ⟨R, 6, none⟩ (.string ⟨#[]⟩)) := X4.out.fill (.int .i64 0) (.int .u64 0) (.int .u64 0) (.int .i64 0) (.int .i64 0) (.int .i64 0) (.string ⟨#[]⟩)
    have hHR : ∃ w9, w9 = (((((((v4.setCell ⟨R, 0, none⟩ (.int .i64 0)).setCell ⟨R, 1, none⟩ (.int .u64 0)).setCell ⟨R, 2, none⟩ (.int .u64 0)).setCell ⟨R, 3, none⟩ (.int .i64 0)).setCell ⟨R, 4, none⟩ (.int .i64 0)).setCell ⟨R, 5, none⟩ (.int .i64 0)).setCell ⟨R, 6, none⟩ (.string ⟨#[]⟩)) := ⟨_, rfl⟩
    obtain ⟨w9, hw9⟩ := hHR
    rw [← hw9] at FX ⊢
    clear hw9
    obtain ⟨FX1, FX2⟩ := FX
    have rc0 : w9.cell? ⟨R, 0, none⟩ = some (.int .i64 0) := (blk_cell FX1 0).trans rfl
    have rc1 : w9.cell? ⟨R, 1, none⟩ = some (.int .u64 0) := (blk_cell FX1 1).trans rfl
    have rc2 : w9.cell? ⟨R, 2, none⟩ = some (.int .u64 0) := (blk_cell FX1 2).trans rfl
    have rc3 : w9.cell? ⟨R, 3, none⟩ = some (.int .i64 0) := (blk_cell FX1 3).trans rfl
    have rc4 : w9.cell? ⟨R, 4, none⟩ = some (.int .i64 0) := (blk_cell FX1 4).trans rfl
    have rc5 : w9.cell? ⟨R, 5, none⟩ = some (.int .i64 0) := (blk_cell FX1 5).trans rfl
    have rc6 : w9.cell? ⟨R, 6, none⟩ = some (.string ⟨#[]⟩) := (blk_cell FX1 6).trans rfl
    refine bodyPost_ret (v := .tuple #[.agg #[.int .i64 0, .int .u64 0, .int .u64 0, .int .i64 0, .int .i64 0, .int .i64 0, .string ⟨#[]⟩], .int .i64 210]) (by simp [results, Tryd.results9, go_sem, rc0, rc1, rc2, rc3, rc4, rc5, rc6]) rfl ⟨?_, FX2⟩
    rw [HQ.out]
    rfl
  obtain rfl : n = 3 := by rw [HN.out]; exact hlen
  have HL := Aside0.mk hlen
  clear hlen HN hn1 hn2 HP
  have lc : v4.cell? ⟨L, 2, none⟩ = some (.int .i64 3) := (blk_cell LB.out 2).trans rfl
  clear LB
  have CB := Aside0.mk (blk_new v4 (.cells #[.int .i64 2, .int .u64 0, .int .u64 0, .int .i64 0, .int .i64 0, .int .i64 0, .string ⟨#[]⟩] 24))
  have X5 := Aside0.mk (X4.out.step (below_alloc (Below.refl _ _) (.cells #[.int .i64 2, .int .u64 0, .int .u64 0, .int .i64 0, .int .i64 0, .int .i64 0, .string ⟨#[]⟩] 24)))
  have HCR := Aside0.mk (show v4.heap.size ≠ R ∧ v4.heap.size ≠ R + 1 ∧ v4.heap.size ≠ g ∧ w.heap.size ≤ v4.heap.size from ⟨(Nat.ne_of_lt (blk_lt X4.out.rb)).symm, (Nat.ne_of_lt (blk_lt X4.out.nb)).symm, (Nat.ne_of_lt (blk_lt X4.out.gb)).symm, X4.out.bel.size⟩)
  go_upto_region 8 with (fail)
  obtain ⟨C, hC⟩ : ∃ C, C = v4.heap.size := ⟨_, rfl⟩
  rw [← hC] at CB HCR ⊢
  clear hC lc X4
  generalize v4.alloc (.cells #[.int .i64 2, .int .u64 0, .int .u64 0, .int .i64 0, .int .i64 0, .int .i64 0, .string ⟨#[]⟩] 24) = v5 at CB X5 ⊢
  obtain ⟨x1, hx1⟩ : ∃ x : ByteArray, x = ⟨(l.getD 1 []).toArray⟩ := ⟨_, rfl⟩
  have G1 := Aside0.mk (fun (w9 : World) (h : PS w w9 R (R + 1) g cs) => h.word (HC.out 1 _ (getD_some (by rw [HL.out]; decide))))
  rw [← hx1] at G1
  have HX1 := Aside0.mk hx1
  clear hx1
  obtain ⟨x2, hx2⟩ : ∃ x : ByteArray, x = ⟨(l.getD 2 []).toArray⟩ := ⟨_, rfl⟩
  have G2 := Aside0.mk (fun (w9 : World) (h : PS w w9 R (R + 1) g cs) => h.word (HC.out 2 _ (getD_some (by rw [HL.out]; decide))))
  rw [← hx2] at G2
  have HX2 := Aside0.mk hx2
  clear hx2
  cases q1 : numL (l.getD 1 []) with
  | none =>
    obtain ⟨m1, N1⟩ := rnum_no q1
    rw [← HX1.out] at N1
    have NX := Aside0.mk N1
    have Q1 := Aside0.mk q1
    clear N1 q1
    have g1 := G1.out _ X5.out
    go_wp2_with fail
    clear g1
    refine (NX.out _).mono ?_
    rintro e v6 ⟨rfl, hb⟩
    replace CB := Aside0.mk ((hb.block _ (blk_lt CB.out)).trans CB.out)
    have X6 := Aside0.mk (X5.out.step hb)
    clear hb X5
    have HQ := Aside0.mk (show rpL l = none from by unfold rpL; rw [HK.out, Option.bind_some, if_pos (show l.length = manyL 2 from HL.out)]; simp [-List.getD_eq_getElem?_getD, Q1.out])
    have nc0 : v6.cell? ⟨R + 1, 0, none⟩ = some (.int .i64 0) := (blk_cell X6.out.nb 0).trans rfl
    have nf0 := blk_frozen X6.out.nb 0
    have nc1 : v6.cell? ⟨R + 1, 1, none⟩ = some (.int .u64 0) := (blk_cell X6.out.nb 1).trans rfl
    have nf1 := blk_frozen X6.out.nb 1
    have nc2 : v6.cell? ⟨R + 1, 2, none⟩ = some (.int .u64 0) := (blk_cell X6.out.nb 2).trans rfl
    have nf2 := blk_frozen X6.out.nb 2
    have nc3 : v6.cell? ⟨R + 1, 3, none⟩ = some (.int .i64 0) := (blk_cell X6.out.nb 3).trans rfl
    have nf3 := blk_frozen X6.out.nb 3
    have nc4 : v6.cell? ⟨R + 1, 4, none⟩ = some (.int .i64 0) := (blk_cell X6.out.nb 4).trans rfl
    have nf4 := blk_frozen X6.out.nb 4
    have nc5 : v6.cell? ⟨R + 1, 5, none⟩ = some (.int .i64 0) := (blk_cell X6.out.nb 5).trans rfl
    have nf5 := blk_frozen X6.out.nb 5
    have nc6 : v6.cell? ⟨R + 1, 6, none⟩ = some (.string ⟨#[]⟩) := (blk_cell X6.out.nb 6).trans rfl
    have nf6 := blk_frozen X6.out.nb 6
    have hRN : ¬ R = R + 1 := by omega
    have hNR : ¬ R + 1 = R := by omega
    have rc0 : v6.cell? ⟨R, 0, none⟩ = some (.int .i64 0) := (blk_cell X6.out.rb 0).trans rfl
    have rf0 := blk_frozen X6.out.rb 0
    have rc1 : v6.cell? ⟨R, 1, none⟩ = some (.int .u64 0) := (blk_cell X6.out.rb 1).trans rfl
    have rf1 := blk_frozen X6.out.rb 1
    have rc2 : v6.cell? ⟨R, 2, none⟩ = some (.int .u64 0) := (blk_cell X6.out.rb 2).trans rfl
    have rf2 := blk_frozen X6.out.rb 2
    have rc3 : v6.cell? ⟨R, 3, none⟩ = some (.int .i64 0) := (blk_cell X6.out.rb 3).trans rfl
    have rf3 := blk_frozen X6.out.rb 3
    have rc4 : v6.cell? ⟨R, 4, none⟩ = some (.int .i64 0) := (blk_cell X6.out.rb 4).trans rfl
    have rf4 := blk_frozen X6.out.rb 4
    have rc5 : v6.cell? ⟨R, 5, none⟩ = some (.int .i64 0) := (blk_cell X6.out.rb 5).trans rfl
    have rf5 := blk_frozen X6.out.rb 5
    have rc6 : v6.cell? ⟨R, 6, none⟩ = some (.string ⟨#[]⟩) := (blk_cell X6.out.rb 6).trans rfl
    have rf6 := blk_frozen X6.out.rb 6
    go_wp2
    clear rc0 rf0 rc1 rf1 rc2 rf2 rc3 rf3 rc4 rf4 rc5 rf5 rc6 rf6
    have FX : (((((((v6.setCell ⟨R, 0, none⟩ (.int .i64 0)).setCell ⟨R, 1, none⟩ (.int .u64 0)).setCell ⟨R, 2, none⟩ (.int .u64 0)).setCell ⟨R, 3, none⟩ (.int .i64 0)).setCell ⟨R, 4, none⟩ (.int .i64 0)).setCell ⟨R, 5, none⟩ (.int .i64 0)).setCell ⟨R, 6, none⟩ (.string ⟨#[]⟩)).heap[R]? = some (.cells #[.int .i64 0, .int .u64 0, .int .u64 0, .int .i64 0, .int .i64 0, .int .i64 0, .string ⟨#[]⟩] 24 (0, 0)) ∧ Below w.heap.size w (((((((v6.setCell ⟨R, 0, none⟩ (.int .i64 0)).setCell ⟨R, 1, none⟩ (.int .u64 0)).setCell ⟨R, 2, none⟩ (.int .u64 0)).setCell ⟨R, 3, none⟩ (.int .i64 0)).setCell ⟨R, 4, none⟩ (.int .i64 0)).setCell ⟨R, 5, none⟩ (.int .i64 0)).setCell ⟨R, 6, none⟩ (.string ⟨#[]⟩)) := X6.out.fill (.int .i64 0) (.int .u64 0) (.int .u64 0) (.int .i64 0) (.int .i64 0) (.int .i64 0) (.string ⟨#[]⟩)
    have hHR : ∃ w9, w9 = (((((((v6.setCell ⟨R, 0, none⟩ (.int .i64 0)).setCell ⟨R, 1, none⟩ (.int .u64 0)).setCell ⟨R, 2, none⟩ (.int .u64 0)).setCell ⟨R, 3, none⟩ (.int .i64 0)).setCell ⟨R, 4, none⟩ (.int .i64 0)).setCell ⟨R, 5, none⟩ (.int .i64 0)).setCell ⟨R, 6, none⟩ (.string ⟨#[]⟩)) := ⟨_, rfl⟩
    obtain ⟨w9, hw9⟩ := hHR
    rw [← hw9] at FX ⊢
    clear hw9
    obtain ⟨FX1, FX2⟩ := FX
    have rc0 : w9.cell? ⟨R, 0, none⟩ = some (.int .i64 0) := (blk_cell FX1 0).trans rfl
    have rc1 : w9.cell? ⟨R, 1, none⟩ = some (.int .u64 0) := (blk_cell FX1 1).trans rfl
    have rc2 : w9.cell? ⟨R, 2, none⟩ = some (.int .u64 0) := (blk_cell FX1 2).trans rfl
    have rc3 : w9.cell? ⟨R, 3, none⟩ = some (.int .i64 0) := (blk_cell FX1 3).trans rfl
    have rc4 : w9.cell? ⟨R, 4, none⟩ = some (.int .i64 0) := (blk_cell FX1 4).trans rfl
    have rc5 : w9.cell? ⟨R, 5, none⟩ = some (.int .i64 0) := (blk_cell FX1 5).trans rfl
    have rc6 : w9.cell? ⟨R, 6, none⟩ = some (.string ⟨#[]⟩) := (blk_cell FX1 6).trans rfl
    refine bodyPost_ret (v := .tuple #[.agg #[.int .i64 0, .int .u64 0, .int .u64 0, .int .i64 0, .int .i64 0, .int .i64 0, .string ⟨#[]⟩], .int .i64 210]) (by simp [results, Tryd.results9, go_sem, rc0, rc1, rc2, rc3, rc4, rc5, rc6]) rfl ⟨?_, FX2⟩
    rw [HQ.out]
    rfl
  | some h1 =>
    have N1 := fun w => rnum_yes q1 w
    rw [← HX1.out] at N1
    have NX := Aside0.mk N1
    have Q1 := Aside0.mk q1
    clear N1 q1
    have g1 := G1.out _ X5.out
    go_wp2_with fail
    clear g1
    refine (NX.out _).mono ?_
    rintro e v6 ⟨rfl, hb⟩
    replace CB := Aside0.mk ((hb.block _ (blk_lt CB.out)).trans CB.out)
    have X6 := Aside0.mk (X5.out.step hb)
    clear hb X5
    clear NX
    have cc := (blk_cell CB.out 1).trans (show _ = some (.int .u64 0) from rfl)
    have cf := blk_frozen CB.out 1
    replace CB := Aside0.mk (show (v6.setCell ⟨C, 1, none⟩ (.int .u64 (h1 : Int))).heap[C]? = some (.cells #[.int .i64 2, .int .u64 (h1 : Int), .int .u64 0, .int .i64 0, .int .i64 0, .int .i64 0, .string ⟨#[]⟩] 24 (0, 0)) from blk_set CB.out 1 _)
    have X7 := Aside0.mk (X6.out.far HCR.out.1 HCR.out.2.1 HCR.out.2.2.1 HCR.out.2.2.2 1 (.int .u64 (h1 : Int)))
    go_upto_region 14 with (fail)
    clear cc cf X6
    generalize v6.setCell ⟨C, 1, none⟩ (.int .u64 (h1 : Int)) = v7 at CB X7 ⊢
    cases q2 : digL 1 (l.getD 2 []) with
    | none =>
      obtain ⟨m2, N2⟩ := rdig_no q2
      rw [← HX2.out] at N2
      have NX : Aside0 (∀ w1, Calls Tryd.prog 21 #[.string x2, .int .i64 1] w1 fun e w' => e = .returned (.tuple #[.int .i64 (m2 : Int), .bool false]) ∧ Below w1.heap.size w1 w') := ⟨N2⟩
      have Q2 := Aside0.mk q2
      clear N2 q2
      have g2 := G2.out _ X7.out
      go_wp2_with fail
      clear g2
      refine (NX.out _).mono ?_
      rintro e v8 ⟨rfl, hb⟩
      replace CB := Aside0.mk ((hb.block _ (blk_lt CB.out)).trans CB.out)
      have X8 := Aside0.mk (X7.out.step hb)
      clear hb X7
      clear NX
      have cc := (blk_cell CB.out 3).trans (show _ = some (.int .i64 0) from rfl)
      have cf := blk_frozen CB.out 3
      replace CB := Aside0.mk (show (v8.setCell ⟨C, 3, none⟩ (.int .i64 (m2 : Int))).heap[C]? = some (.cells #[.int .i64 2, .int .u64 (h1 : Int), .int .u64 0, .int .i64 (m2 : Int), .int .i64 0, .int .i64 0, .string ⟨#[]⟩] 24 (0, 0)) from blk_set CB.out 3 _)
      have X9 := Aside0.mk (X8.out.far HCR.out.1 HCR.out.2.1 HCR.out.2.2.1 HCR.out.2.2.2 3 (.int .i64 (m2 : Int)))
      go_upto_region 19 with (fail)
      clear cc cf X8
      generalize v8.setCell ⟨C, 3, none⟩ (.int .i64 (m2 : Int)) = v9 at CB X9 ⊢
      have HQ := Aside0.mk (show rpL l = none from by unfold rpL; rw [HK.out, Option.bind_some, if_pos (show l.length = manyL 2 from HL.out)]; simp [-List.getD_eq_getElem?_getD, Q1.out, Q2.out])
      have nc0 : v9.cell? ⟨R + 1, 0, none⟩ = some (.int .i64 0) := (blk_cell X9.out.nb 0).trans rfl
      have nf0 := blk_frozen X9.out.nb 0
      have nc1 : v9.cell? ⟨R + 1, 1, none⟩ = some (.int .u64 0) := (blk_cell X9.out.nb 1).trans rfl
      have nf1 := blk_frozen X9.out.nb 1
      have nc2 : v9.cell? ⟨R + 1, 2, none⟩ = some (.int .u64 0) := (blk_cell X9.out.nb 2).trans rfl
      have nf2 := blk_frozen X9.out.nb 2
      have nc3 : v9.cell? ⟨R + 1, 3, none⟩ = some (.int .i64 0) := (blk_cell X9.out.nb 3).trans rfl
      have nf3 := blk_frozen X9.out.nb 3
      have nc4 : v9.cell? ⟨R + 1, 4, none⟩ = some (.int .i64 0) := (blk_cell X9.out.nb 4).trans rfl
      have nf4 := blk_frozen X9.out.nb 4
      have nc5 : v9.cell? ⟨R + 1, 5, none⟩ = some (.int .i64 0) := (blk_cell X9.out.nb 5).trans rfl
      have nf5 := blk_frozen X9.out.nb 5
      have nc6 : v9.cell? ⟨R + 1, 6, none⟩ = some (.string ⟨#[]⟩) := (blk_cell X9.out.nb 6).trans rfl
      have nf6 := blk_frozen X9.out.nb 6
      have hRN : ¬ R = R + 1 := by omega
      have hNR : ¬ R + 1 = R := by omega
      have rc0 : v9.cell? ⟨R, 0, none⟩ = some (.int .i64 0) := (blk_cell X9.out.rb 0).trans rfl
      have rf0 := blk_frozen X9.out.rb 0
      have rc1 : v9.cell? ⟨R, 1, none⟩ = some (.int .u64 0) := (blk_cell X9.out.rb 1).trans rfl
      have rf1 := blk_frozen X9.out.rb 1
      have rc2 : v9.cell? ⟨R, 2, none⟩ = some (.int .u64 0) := (blk_cell X9.out.rb 2).trans rfl
      have rf2 := blk_frozen X9.out.rb 2
      have rc3 : v9.cell? ⟨R, 3, none⟩ = some (.int .i64 0) := (blk_cell X9.out.rb 3).trans rfl
      have rf3 := blk_frozen X9.out.rb 3
      have rc4 : v9.cell? ⟨R, 4, none⟩ = some (.int .i64 0) := (blk_cell X9.out.rb 4).trans rfl
      have rf4 := blk_frozen X9.out.rb 4
      have rc5 : v9.cell? ⟨R, 5, none⟩ = some (.int .i64 0) := (blk_cell X9.out.rb 5).trans rfl
      have rf5 := blk_frozen X9.out.rb 5
      have rc6 : v9.cell? ⟨R, 6, none⟩ = some (.string ⟨#[]⟩) := (blk_cell X9.out.rb 6).trans rfl
      have rf6 := blk_frozen X9.out.rb 6
      go_wp2
      clear rc0 rf0 rc1 rf1 rc2 rf2 rc3 rf3 rc4 rf4 rc5 rf5 rc6 rf6
      have FX : (((((((v9.setCell ⟨R, 0, none⟩ (.int .i64 0)).setCell ⟨R, 1, none⟩ (.int .u64 0)).setCell ⟨R, 2, none⟩ (.int .u64 0)).setCell ⟨R, 3, none⟩ (.int .i64 0)).setCell ⟨R, 4, none⟩ (.int .i64 0)).setCell ⟨R, 5, none⟩ (.int .i64 0)).setCell ⟨R, 6, none⟩ (.string ⟨#[]⟩)).heap[R]? = some (.cells #[.int .i64 0, .int .u64 0, .int .u64 0, .int .i64 0, .int .i64 0, .int .i64 0, .string ⟨#[]⟩] 24 (0, 0)) ∧ Below w.heap.size w (((((((v9.setCell ⟨R, 0, none⟩ (.int .i64 0)).setCell ⟨R, 1, none⟩ (.int .u64 0)).setCell ⟨R, 2, none⟩ (.int .u64 0)).setCell ⟨R, 3, none⟩ (.int .i64 0)).setCell ⟨R, 4, none⟩ (.int .i64 0)).setCell ⟨R, 5, none⟩ (.int .i64 0)).setCell ⟨R, 6, none⟩ (.string ⟨#[]⟩)) := X9.out.fill (.int .i64 0) (.int .u64 0) (.int .u64 0) (.int .i64 0) (.int .i64 0) (.int .i64 0) (.string ⟨#[]⟩)
      have hHR : ∃ w9, w9 = (((((((v9.setCell ⟨R, 0, none⟩ (.int .i64 0)).setCell ⟨R, 1, none⟩ (.int .u64 0)).setCell ⟨R, 2, none⟩ (.int .u64 0)).setCell ⟨R, 3, none⟩ (.int .i64 0)).setCell ⟨R, 4, none⟩ (.int .i64 0)).setCell ⟨R, 5, none⟩ (.int .i64 0)).setCell ⟨R, 6, none⟩ (.string ⟨#[]⟩)) := ⟨_, rfl⟩
      obtain ⟨w9, hw9⟩ := hHR
      rw [← hw9] at FX ⊢
      clear hw9
      obtain ⟨FX1, FX2⟩ := FX
      have rc0 : w9.cell? ⟨R, 0, none⟩ = some (.int .i64 0) := (blk_cell FX1 0).trans rfl
      have rc1 : w9.cell? ⟨R, 1, none⟩ = some (.int .u64 0) := (blk_cell FX1 1).trans rfl
      have rc2 : w9.cell? ⟨R, 2, none⟩ = some (.int .u64 0) := (blk_cell FX1 2).trans rfl
      have rc3 : w9.cell? ⟨R, 3, none⟩ = some (.int .i64 0) := (blk_cell FX1 3).trans rfl
      have rc4 : w9.cell? ⟨R, 4, none⟩ = some (.int .i64 0) := (blk_cell FX1 4).trans rfl
      have rc5 : w9.cell? ⟨R, 5, none⟩ = some (.int .i64 0) := (blk_cell FX1 5).trans rfl
      have rc6 : w9.cell? ⟨R, 6, none⟩ = some (.string ⟨#[]⟩) := (blk_cell FX1 6).trans rfl
      refine bodyPost_ret (v := .tuple #[.agg #[.int .i64 0, .int .u64 0, .int .u64 0, .int .i64 0, .int .i64 0, .int .i64 0, .string ⟨#[]⟩], .int .i64 210]) (by simp [results, Tryd.results9, go_sem, rc0, rc1, rc2, rc3, rc4, rc5, rc6]) rfl ⟨?_, FX2⟩
      rw [HQ.out]
      rfl
    | some h2 =>
      have N2 := fun w => rdig_yes q2 w
      rw [← HX2.out] at N2
      have NX : Aside0 (∀ w1, Calls Tryd.prog 21 #[.string x2, .int .i64 1] w1 fun e w' => e = .returned (.tuple #[.int .i64 (h2 : Int), .bool true]) ∧ Below w1.heap.size w1 w') := ⟨N2⟩
      have Q2 := Aside0.mk q2
      clear N2 q2
      have g2 := G2.out _ X7.out
      go_wp2_with fail
      clear g2
      refine (NX.out _).mono ?_
      rintro e v8 ⟨rfl, hb⟩
      replace CB := Aside0.mk ((hb.block _ (blk_lt CB.out)).trans CB.out)
      have X8 := Aside0.mk (X7.out.step hb)
      clear hb X7
      clear NX
      have cc := (blk_cell CB.out 3).trans (show _ = some (.int .i64 0) from rfl)
      have cf := blk_frozen CB.out 3
      replace CB := Aside0.mk (show (v8.setCell ⟨C, 3, none⟩ (.int .i64 (h2 : Int))).heap[C]? = some (.cells #[.int .i64 2, .int .u64 (h1 : Int), .int .u64 0, .int .i64 (h2 : Int), .int .i64 0, .int .i64 0, .string ⟨#[]⟩] 24 (0, 0)) from blk_set CB.out 3 _)
      have X9 := Aside0.mk (X8.out.far HCR.out.1 HCR.out.2.1 HCR.out.2.2.1 HCR.out.2.2.2 3 (.int .i64 (h2 : Int)))
      go_upto_region 19 with (fail)
      clear cc cf X8
      generalize v8.setCell ⟨C, 3, none⟩ (.int .i64 (h2 : Int)) = v9 at CB X9 ⊢
      have HQ := Aside0.mk (show rpL l = some { z7 with kind := 2, handle := h1, give := h2 } from by unfold rpL; rw [HK.out, Option.bind_some, if_pos (show l.length = manyL 2 from HL.out)]; simp [-List.getD_eq_getElem?_getD, Q1.out, Q2.out, z7])
      have nc0 : v9.cell? ⟨C, 0, none⟩ = some (.int .i64 2) := (blk_cell CB.out 0).trans rfl
      have nf0 := blk_frozen CB.out 0
      have nc1 : v9.cell? ⟨C, 1, none⟩ = some (.int .u64 (h1 : Int)) := (blk_cell CB.out 1).trans rfl
      have nf1 := blk_frozen CB.out 1
      have nc2 : v9.cell? ⟨C, 2, none⟩ = some (.int .u64 0) := (blk_cell CB.out 2).trans rfl
      have nf2 := blk_frozen CB.out 2
      have nc3 : v9.cell? ⟨C, 3, none⟩ = some (.int .i64 (h2 : Int)) := (blk_cell CB.out 3).trans rfl
      have nf3 := blk_frozen CB.out 3
      have nc4 : v9.cell? ⟨C, 4, none⟩ = some (.int .i64 0) := (blk_cell CB.out 4).trans rfl
      have nf4 := blk_frozen CB.out 4
      have nc5 : v9.cell? ⟨C, 5, none⟩ = some (.int .i64 0) := (blk_cell CB.out 5).trans rfl
      have nf5 := blk_frozen CB.out 5
      have nc6 : v9.cell? ⟨C, 6, none⟩ = some (.string ⟨#[]⟩) := (blk_cell CB.out 6).trans rfl
      have nf6 := blk_frozen CB.out 6
      have hRN : ¬ R = C := fun x => HCR.out.1 x.symm
      have hNR : ¬ C = R := HCR.out.1
      have rc0 : v9.cell? ⟨R, 0, none⟩ = some (.int .i64 0) := (blk_cell X9.out.rb 0).trans rfl
      have rf0 := blk_frozen X9.out.rb 0
      have rc1 : v9.cell? ⟨R, 1, none⟩ = some (.int .u64 0) := (blk_cell X9.out.rb 1).trans rfl
      have rf1 := blk_frozen X9.out.rb 1
      have rc2 : v9.cell? ⟨R, 2, none⟩ = some (.int .u64 0) := (blk_cell X9.out.rb 2).trans rfl
      have rf2 := blk_frozen X9.out.rb 2
      have rc3 : v9.cell? ⟨R, 3, none⟩ = some (.int .i64 0) := (blk_cell X9.out.rb 3).trans rfl
      have rf3 := blk_frozen X9.out.rb 3
      have rc4 : v9.cell? ⟨R, 4, none⟩ = some (.int .i64 0) := (blk_cell X9.out.rb 4).trans rfl
      have rf4 := blk_frozen X9.out.rb 4
      have rc5 : v9.cell? ⟨R, 5, none⟩ = some (.int .i64 0) := (blk_cell X9.out.rb 5).trans rfl
      have rf5 := blk_frozen X9.out.rb 5
      have rc6 : v9.cell? ⟨R, 6, none⟩ = some (.string ⟨#[]⟩) := (blk_cell X9.out.rb 6).trans rfl
      have rf6 := blk_frozen X9.out.rb 6
      go_wp2
      clear rc0 rf0 rc1 rf1 rc2 rf2 rc3 rf3 rc4 rf4 rc5 rf5 rc6 rf6
      have FX : (((((((v9.setCell ⟨R, 0, none⟩ (.int .i64 2)).setCell ⟨R, 1, none⟩ (.int .u64 (h1 : Int))).setCell ⟨R, 2, none⟩ (.int .u64 0)).setCell ⟨R, 3, none⟩ (.int .i64 (h2 : Int))).setCell ⟨R, 4, none⟩ (.int .i64 0)).setCell ⟨R, 5, none⟩ (.int .i64 0)).setCell ⟨R, 6, none⟩ (.string ⟨#[]⟩)).heap[R]? = some (.cells #[.int .i64 2, .int .u64 (h1 : Int), .int .u64 0, .int .i64 (h2 : Int), .int .i64 0, .int .i64 0, .string ⟨#[]⟩] 24 (0, 0)) ∧ Below w.heap.size w (((((((v9.setCell ⟨R, 0, none⟩ (.int .i64 2)).setCell ⟨R, 1, none⟩ (.int .u64 (h1 : Int))).setCell ⟨R, 2, none⟩ (.int .u64 0)).setCell ⟨R, 3, none⟩ (.int .i64 (h2 : Int))).setCell ⟨R, 4, none⟩ (.int .i64 0)).setCell ⟨R, 5, none⟩ (.int .i64 0)).setCell ⟨R, 6, none⟩ (.string ⟨#[]⟩)) := X9.out.fill (.int .i64 2) (.int .u64 (h1 : Int)) (.int .u64 0) (.int .i64 (h2 : Int)) (.int .i64 0) (.int .i64 0) (.string ⟨#[]⟩)
      have hHR : ∃ w9, w9 = (((((((v9.setCell ⟨R, 0, none⟩ (.int .i64 2)).setCell ⟨R, 1, none⟩ (.int .u64 (h1 : Int))).setCell ⟨R, 2, none⟩ (.int .u64 0)).setCell ⟨R, 3, none⟩ (.int .i64 (h2 : Int))).setCell ⟨R, 4, none⟩ (.int .i64 0)).setCell ⟨R, 5, none⟩ (.int .i64 0)).setCell ⟨R, 6, none⟩ (.string ⟨#[]⟩)) := ⟨_, rfl⟩
      obtain ⟨w9, hw9⟩ := hHR
      rw [← hw9] at FX ⊢
      clear hw9
      obtain ⟨FX1, FX2⟩ := FX
      have rc0 : w9.cell? ⟨R, 0, none⟩ = some (.int .i64 2) := (blk_cell FX1 0).trans rfl
      have rc1 : w9.cell? ⟨R, 1, none⟩ = some (.int .u64 (h1 : Int)) := (blk_cell FX1 1).trans rfl
      have rc2 : w9.cell? ⟨R, 2, none⟩ = some (.int .u64 0) := (blk_cell FX1 2).trans rfl
      have rc3 : w9.cell? ⟨R, 3, none⟩ = some (.int .i64 (h2 : Int)) := (blk_cell FX1 3).trans rfl
      have rc4 : w9.cell? ⟨R, 4, none⟩ = some (.int .i64 0) := (blk_cell FX1 4).trans rfl
      have rc5 : w9.cell? ⟨R, 5, none⟩ = some (.int .i64 0) := (blk_cell FX1 5).trans rfl
      have rc6 : w9.cell? ⟨R, 6, none⟩ = some (.string ⟨#[]⟩) := (blk_cell FX1 6).trans rfl
      refine bodyPost_ret (v := .tuple #[.agg #[.int .i64 2, .int .u64 (h1 : Int), .int .u64 0, .int .i64 (h2 : Int), .int .i64 0, .int .i64 0, .string ⟨#[]⟩], .int .i64 0]) (by simp [results, Tryd.results9, go_sem, rc0, rc1, rc2, rc3, rc4, rc5, rc6]) rfl ⟨?_, FX2⟩
      rw [HQ.out]
      rfl
set_option maxRecDepth 100000 in
set_option maxHeartbeats 8000000 in
theorem rparse_3 (s : ByteArray) (hs : s.size ≤ 281474976710656) (l : List (List UInt8)) (hl : wordsL 4 s.data.toList = l) (hk : kindL (l.getD 0 []) = some 3) (w : World) :
    Calls Tryd.prog 9 #[.string s] w fun e w' => e = .returned (rpV (rpL l)) ∧ Below w.heap.size w w' := by
  have WX := Aside0.mk (fun w1 => words5_x s hs l hl w1)
  have AX := Aside0.mk (fun ad cap w1 h1 h2 => kind_q (l.getD 0 []) ad cap w1 h1 h2)
  have HP := Aside0.mk (wordsL_pos hl)
  rw [show kindI (l.getD 0 []) = 3 from by unfold kindI; rw [hk]; rfl] at AX
  have HK := Aside0.mk hk
  clear hs hl hk
  have X0 := Aside0.mk (PS.start w)
  go_enter Tryd.func9, Tryd.ntmps9
  go_wp2_with fail
  refine (WX.out _).mono ?_
  rintro e w1 ⟨g, n, cap, cs, rfl, hn, hgb, hcs, hg0, hb⟩
  have X1 := Aside0.mk (X0.out.words hb hgb hg0)
  have HN := Aside0.mk hn
  have HC := Aside0.mk hcs
  clear hb hgb hg0 hn hcs X0 WX
  obtain ⟨R, hR⟩ : ∃ R, R = w.heap.size := ⟨_, rfl⟩
  rw [← hR] at X1 ⊢
  clear hR
  obtain ⟨x0, hx0⟩ : ∃ x0 : ByteArray, x0 = ⟨(l.getD 0 []).toArray⟩ := ⟨_, rfl⟩
  rw [← hx0] at AX
  have G0 := Aside0.mk (fun (w9 : World) (h : PS w w9 R (R + 1) g cs) => h.word (HC.out 0 _ (getD_some HP.out)))
  rw [← hx0] at G0
  clear hx0
  have hn1 : 0 < n := by rw [HN.out]; exact HP.out
  have hn2 : (0 : Int) < (n : Int) := by omega
  go_wp2_with fail
  have p1 : PS w w1.drew R (R + 1) g cs := X1.out.step (below_drew (Below.refl _ _))
  have p0 : w1.drew.cell? ⟨g, 0, none⟩ = some (.string x0) := G0.out _ p1
  refine start_ (n := 6) (S := fun w' => w'.cell? ⟨g, 0, none⟩ = some (.string x0) ∧ PS w w' R (R + 1) g cs) (ds := []) #[false, false, false, false, false, false] (by kernel_rfl) rfl rfl ⟨p0, p1⟩ (fun hHeld => ?_)
  refine pure_ (i := 1) (N := some 23) (v := ?_) (a' := ?_) #[false, true, false, false, false, false] rfl rfl (by kernel_rfl) (fun _ _ _ h => h) (Or.inl ⟨by rfl, ?_⟩) ?_ ?_
  rotate_left
  · intro w'
    go_simp
    with_reducible rfl
  rotate_left
  · simp only [Act.put, List.setIfInBounds_toArray, List.set_cons_zero, List.set_cons_succ, i64_w, i32_w]
    rfl
  refine pure_ (i := 2) (N := some 24) (v := ?_) (a' := ?_) #[false, true, true, false, false, false] rfl rfl (by kernel_rfl) (fun _ _ _ h => h) (Or.inl ⟨by rfl, ?_⟩) ?_ ?_
  rotate_left
  · intro w'
    go_simp
    with_reducible rfl
  rotate_left
  · simp only [Act.put, List.setIfInBounds_toArray, List.set_cons_zero, List.set_cons_succ, i64_w, i32_w]
    rfl
  refine take_ (i := 3) (N := some 25) (v := ?_) (a' := ?_) #[false, true, true, true, false, false] rfl rfl (by kernel_rfl) (fun _ _ _ h => h) (Or.inl ⟨by rfl, ?_⟩) hHeld ?_ ?_
  rotate_left
  · rintro w' ⟨s0, s1⟩
    go_simp
    with_reducible rfl
  rotate_left
  · simp only [Act.put, List.setIfInBounds_toArray, List.set_cons_zero, List.set_cons_succ, i64_w, i32_w]
    rfl
  refine one_ (i := 0) (N := some 22) #[true, true, true, true, false, false] rfl rfl (by kernel_rfl) (by decide) (fun K hK => ?_)
  refine goes_ Tryd.func16 (by kernel_rfl) rfl #[] (by rfl) rfl rfl (by simp only [List.map_toArray, List.map_cons, List.map_nil]) ?_
  with_reducible refine (kinds_c _).mono ?_
  rintro e w2 ⟨ad, cp2, rfl, hkc, hk7, hb⟩
  refine ⟨_, rfl, ?_⟩
  have HKC := Aside0.mk hkc
  have HK7 := Aside0.mk hk7
  clear hkc hk7
  refine hK.out _ _ ⟨pw_cell_below hb (hHeld.1), (hHeld.2).step hb⟩ (fun hHeld => ?_)
  clear hK K
  refine norm_ (a' := ?_) ?_ ?_
  rotate_left
  · show Act.put _ (some 22) _ = _
    simp only [Act.put, List.setIfInBounds_toArray, List.set_cons_zero, List.set_cons_succ, i64_w, i32_w]
    rfl
  refine one_ (i := 4) (N := some 26) #[true, true, true, true, true, false] rfl rfl (by kernel_rfl) (by decide) (fun K hK => ?_)
  refine goes_ Tryd.func19 (by kernel_rfl) rfl #[.slice (some ad) 7 cp2, .string x0] (by rfl) rfl rfl (by simp only [List.map_toArray, List.map_cons, List.map_nil]; rfl) ?_
  with_reducible refine (AX.out _ _ _ HKC.out HK7.out).mono ?_
  rintro e w3 ⟨rfl, hb⟩
  refine ⟨_, rfl, ?_⟩
  refine hK.out _ _ ⟨pw_cell_below hb (hHeld.1), (hHeld.2).step hb⟩ (fun hHeld => ?_)
  clear hK K
  refine norm_ (a' := ?_) ?_ ?_
  rotate_left
  · show Act.put _ (some 26) _ = _
    simp only [Act.put, List.setIfInBounds_toArray, List.set_cons_zero, List.set_cons_succ, i64_w, i32_w]
    rfl
  refine pure_ (i := 5) (N := some 6) (v := ?_) (a' := ?_) #[true, true, true, true, true, true] rfl rfl (by kernel_rfl) (fun _ _ _ h => h) (Or.inl ⟨by rfl, ?_⟩) ?_ ?_
  rotate_left
  · intro w'
    go_simp
    with_reducible rfl
  rotate_left
  · simp only [Act.put, List.setIfInBounds_toArray, List.set_cons_zero, List.set_cons_succ, i64_w, i32_w]
    rfl
  refine done_ (by kernel_rfl) ?_
  have X3 := Aside0.mk hHeld.2
  clear hHeld p0 p1 X1 HKC HK7 AX
  have X4 := Aside0.mk (X3.out.step (below_alloc (Below.refl _ _) (.cells #[.int .i64 1, .int .i64 2, .int .i64 3, .int .i64 3, .int .i64 3, .int .i64 3, .int .i64 5] 3)))
  have LB := Aside0.mk (blk_new w3 (.cells #[.int .i64 1, .int .i64 2, .int .i64 3, .int .i64 3, .int .i64 3, .int .i64 3, .int .i64 5] 3))
  go_upto_region 5 with (fail)
  obtain ⟨L, hL⟩ : ∃ L, L = w3.heap.size := ⟨_, rfl⟩
  rw [← hL] at LB ⊢
  clear hL X3
  generalize w3.alloc (.cells #[.int .i64 1, .int .i64 2, .int .i64 3, .int .i64 3, .int .i64 3, .int .i64 3, .int .i64 5] 3) = v4 at LB X4 ⊢
  by_cases hlen : l.length = 3
  rotate_left
  · skip
    have hne : ((n : Int) != 3) = true := by rw [bne_iff_ne, HN.out]; omega
    have HQ := Aside0.mk (show rpL l = none from by unfold rpL; rw [HK.out, Option.bind_some]; exact if_neg hlen)
    clear hlen
    have lc : v4.cell? ⟨L, 3, none⟩ = some (.int .i64 3) := (blk_cell LB.out 3).trans rfl
    clear LB
    have nc0 : v4.cell? ⟨R + 1, 0, none⟩ = some (.int .i64 0) := (blk_cell X4.out.nb 0).trans rfl
    have nf0 := blk_frozen X4.out.nb 0
    have nc1 : v4.cell? ⟨R + 1, 1, none⟩ = some (.int .u64 0) := (blk_cell X4.out.nb 1).trans rfl
    have nf1 := blk_frozen X4.out.nb 1
    have nc2 : v4.cell? ⟨R + 1, 2, none⟩ = some (.int .u64 0) := (blk_cell X4.out.nb 2).trans rfl
    have nf2 := blk_frozen X4.out.nb 2
    have nc3 : v4.cell? ⟨R + 1, 3, none⟩ = some (.int .i64 0) := (blk_cell X4.out.nb 3).trans rfl
    have nf3 := blk_frozen X4.out.nb 3
    have nc4 : v4.cell? ⟨R + 1, 4, none⟩ = some (.int .i64 0) := (blk_cell X4.out.nb 4).trans rfl
    have nf4 := blk_frozen X4.out.nb 4
    have nc5 : v4.cell? ⟨R + 1, 5, none⟩ = some (.int .i64 0) := (blk_cell X4.out.nb 5).trans rfl
    have nf5 := blk_frozen X4.out.nb 5
    have nc6 : v4.cell? ⟨R + 1, 6, none⟩ = some (.string ⟨#[]⟩) := (blk_cell X4.out.nb 6).trans rfl
    have nf6 := blk_frozen X4.out.nb 6
    have hRN : ¬ R = R + 1 := by omega
    have hNR : ¬ R + 1 = R := by omega
    have rc0 : v4.cell? ⟨R, 0, none⟩ = some (.int .i64 0) := (blk_cell X4.out.rb 0).trans rfl
    have rf0 := blk_frozen X4.out.rb 0
    have rc1 : v4.cell? ⟨R, 1, none⟩ = some (.int .u64 0) := (blk_cell X4.out.rb 1).trans rfl
    have rf1 := blk_frozen X4.out.rb 1
    have rc2 : v4.cell? ⟨R, 2, none⟩ = some (.int .u64 0) := (blk_cell X4.out.rb 2).trans rfl
    have rf2 := blk_frozen X4.out.rb 2
    have rc3 : v4.cell? ⟨R, 3, none⟩ = some (.int .i64 0) := (blk_cell X4.out.rb 3).trans rfl
    have rf3 := blk_frozen X4.out.rb 3
    have rc4 : v4.cell? ⟨R, 4, none⟩ = some (.int .i64 0) := (blk_cell X4.out.rb 4).trans rfl
    have rf4 := blk_frozen X4.out.rb 4
    have rc5 : v4.cell? ⟨R, 5, none⟩ = some (.int .i64 0) := (blk_cell X4.out.rb 5).trans rfl
    have rf5 := blk_frozen X4.out.rb 5
    have rc6 : v4.cell? ⟨R, 6, none⟩ = some (.string ⟨#[]⟩) := (blk_cell X4.out.rb 6).trans rfl
    have rf6 := blk_frozen X4.out.rb 6
    go_wp2
    clear rc0 rf0 rc1 rf1 rc2 rf2 rc3 rf3 rc4 rf4 rc5 rf5 rc6 rf6
    have FX : (((((((v4.setCell ⟨R, 0, none⟩ (.int .i64 0)).setCell ⟨R, 1, none⟩ (.int .u64 0)).setCell ⟨R, 2, none⟩ (.int .u64 0)).setCell ⟨R, 3, none⟩ (.int .i64 0)).setCell ⟨R, 4, none⟩ (.int .i64 0)).setCell ⟨R, 5, none⟩ (.int .i64 0)).setCell ⟨R, 6, none⟩ (.string ⟨#[]⟩)).heap[R]? = some (.cells #[.int .i64 0, .int .u64 0, .int .u64 0, .int .i64 0, .int .i64 0, .int .i64 0, .string ⟨#[]⟩] 24 (0, 0)) ∧ Below w.heap.size w (((((((v4.setCell ⟨R, 0, none⟩ (.int .i64 0)).setCell ⟨R, 1, none⟩ (.int .u64 0)).setCell ⟨R, 2, none⟩ (.int .u64 0)).setCell ⟨R, 3, none⟩ (.int .i64 0)).setCell ⟨R, 4, none⟩ (.int .i64 0)).setCell ⟨R, 5, none⟩ (.int .i64 0)).setCell ⟨R, 6, none⟩ (.string ⟨#[]⟩)) := X4.out.fill (.int .i64 0) (.int .u64 0) (.int .u64 0) (.int .i64 0) (.int .i64 0) (.int .i64 0) (.string ⟨#[]⟩)
    have hHR : ∃ w9, w9 = (((((((v4.setCell ⟨R, 0, none⟩ (.int .i64 0)).setCell ⟨R, 1, none⟩ (.int .u64 0)).setCell ⟨R, 2, none⟩ (.int .u64 0)).setCell ⟨R, 3, none⟩ (.int .i64 0)).setCell ⟨R, 4, none⟩ (.int .i64 0)).setCell ⟨R, 5, none⟩ (.int .i64 0)).setCell ⟨R, 6, none⟩ (.string ⟨#[]⟩)) := ⟨_, rfl⟩
    obtain ⟨w9, hw9⟩ := hHR
    rw [← hw9] at FX ⊢
    clear hw9
    obtain ⟨FX1, FX2⟩ := FX
    have rc0 : w9.cell? ⟨R, 0, none⟩ = some (.int .i64 0) := (blk_cell FX1 0).trans rfl
    have rc1 : w9.cell? ⟨R, 1, none⟩ = some (.int .u64 0) := (blk_cell FX1 1).trans rfl
    have rc2 : w9.cell? ⟨R, 2, none⟩ = some (.int .u64 0) := (blk_cell FX1 2).trans rfl
    have rc3 : w9.cell? ⟨R, 3, none⟩ = some (.int .i64 0) := (blk_cell FX1 3).trans rfl
    have rc4 : w9.cell? ⟨R, 4, none⟩ = some (.int .i64 0) := (blk_cell FX1 4).trans rfl
    have rc5 : w9.cell? ⟨R, 5, none⟩ = some (.int .i64 0) := (blk_cell FX1 5).trans rfl
    have rc6 : w9.cell? ⟨R, 6, none⟩ = some (.string ⟨#[]⟩) := (blk_cell FX1 6).trans rfl
    refine bodyPost_ret (v := .tuple #[.agg #[.int .i64 0, .int .u64 0, .int .u64 0, .int .i64 0, .int .i64 0, .int .i64 0, .string ⟨#[]⟩], .int .i64 210]) (by simp [results, Tryd.results9, go_sem, rc0, rc1, rc2, rc3, rc4, rc5, rc6]) rfl ⟨?_, FX2⟩
    rw [HQ.out]
    rfl
  obtain rfl : n = 3 := by rw [HN.out]; exact hlen
  have HL := Aside0.mk hlen
  clear hlen HN hn1 hn2 HP
  have lc : v4.cell? ⟨L, 3, none⟩ = some (.int .i64 3) := (blk_cell LB.out 3).trans rfl
  clear LB
  have CB := Aside0.mk (blk_new v4 (.cells #[.int .i64 3, .int .u64 0, .int .u64 0, .int .i64 0, .int .i64 0, .int .i64 0, .string ⟨#[]⟩] 24))
  have X5 := Aside0.mk (X4.out.step (below_alloc (Below.refl _ _) (.cells #[.int .i64 3, .int .u64 0, .int .u64 0, .int .i64 0, .int .i64 0, .int .i64 0, .string ⟨#[]⟩] 24)))
  have HCR := Aside0.mk (show v4.heap.size ≠ R ∧ v4.heap.size ≠ R + 1 ∧ v4.heap.size ≠ g ∧ w.heap.size ≤ v4.heap.size from ⟨(Nat.ne_of_lt (blk_lt X4.out.rb)).symm, (Nat.ne_of_lt (blk_lt X4.out.nb)).symm, (Nat.ne_of_lt (blk_lt X4.out.gb)).symm, X4.out.bel.size⟩)
  go_upto_region 8 with (fail)
  obtain ⟨C, hC⟩ : ∃ C, C = v4.heap.size := ⟨_, rfl⟩
  rw [← hC] at CB HCR ⊢
  clear hC lc X4
  generalize v4.alloc (.cells #[.int .i64 3, .int .u64 0, .int .u64 0, .int .i64 0, .int .i64 0, .int .i64 0, .string ⟨#[]⟩] 24) = v5 at CB X5 ⊢
  obtain ⟨x1, hx1⟩ : ∃ x : ByteArray, x = ⟨(l.getD 1 []).toArray⟩ := ⟨_, rfl⟩
  have G1 := Aside0.mk (fun (w9 : World) (h : PS w w9 R (R + 1) g cs) => h.word (HC.out 1 _ (getD_some (by rw [HL.out]; decide))))
  rw [← hx1] at G1
  have HX1 := Aside0.mk hx1
  clear hx1
  obtain ⟨x2, hx2⟩ : ∃ x : ByteArray, x = ⟨(l.getD 2 []).toArray⟩ := ⟨_, rfl⟩
  have G2 := Aside0.mk (fun (w9 : World) (h : PS w w9 R (R + 1) g cs) => h.word (HC.out 2 _ (getD_some (by rw [HL.out]; decide))))
  rw [← hx2] at G2
  have HX2 := Aside0.mk hx2
  clear hx2
  cases q1 : numL (l.getD 1 []) with
  | none =>
    obtain ⟨m1, N1⟩ := rnum_no q1
    rw [← HX1.out] at N1
    have NX := Aside0.mk N1
    have Q1 := Aside0.mk q1
    clear N1 q1
    have g1 := G1.out _ X5.out
    go_wp2_with fail
    clear g1
    refine (NX.out _).mono ?_
    rintro e v6 ⟨rfl, hb⟩
    replace CB := Aside0.mk ((hb.block _ (blk_lt CB.out)).trans CB.out)
    have X6 := Aside0.mk (X5.out.step hb)
    clear hb X5
    have HQ := Aside0.mk (show rpL l = none from by unfold rpL; rw [HK.out, Option.bind_some, if_pos (show l.length = manyL 3 from HL.out)]; simp [-List.getD_eq_getElem?_getD, Q1.out])
    have nc0 : v6.cell? ⟨R + 1, 0, none⟩ = some (.int .i64 0) := (blk_cell X6.out.nb 0).trans rfl
    have nf0 := blk_frozen X6.out.nb 0
    have nc1 : v6.cell? ⟨R + 1, 1, none⟩ = some (.int .u64 0) := (blk_cell X6.out.nb 1).trans rfl
    have nf1 := blk_frozen X6.out.nb 1
    have nc2 : v6.cell? ⟨R + 1, 2, none⟩ = some (.int .u64 0) := (blk_cell X6.out.nb 2).trans rfl
    have nf2 := blk_frozen X6.out.nb 2
    have nc3 : v6.cell? ⟨R + 1, 3, none⟩ = some (.int .i64 0) := (blk_cell X6.out.nb 3).trans rfl
    have nf3 := blk_frozen X6.out.nb 3
    have nc4 : v6.cell? ⟨R + 1, 4, none⟩ = some (.int .i64 0) := (blk_cell X6.out.nb 4).trans rfl
    have nf4 := blk_frozen X6.out.nb 4
    have nc5 : v6.cell? ⟨R + 1, 5, none⟩ = some (.int .i64 0) := (blk_cell X6.out.nb 5).trans rfl
    have nf5 := blk_frozen X6.out.nb 5
    have nc6 : v6.cell? ⟨R + 1, 6, none⟩ = some (.string ⟨#[]⟩) := (blk_cell X6.out.nb 6).trans rfl
    have nf6 := blk_frozen X6.out.nb 6
    have hRN : ¬ R = R + 1 := by omega
    have hNR : ¬ R + 1 = R := by omega
    have rc0 : v6.cell? ⟨R, 0, none⟩ = some (.int .i64 0) := (blk_cell X6.out.rb 0).trans rfl
    have rf0 := blk_frozen X6.out.rb 0
    have rc1 : v6.cell? ⟨R, 1, none⟩ = some (.int .u64 0) := (blk_cell X6.out.rb 1).trans rfl
    have rf1 := blk_frozen X6.out.rb 1
    have rc2 : v6.cell? ⟨R, 2, none⟩ = some (.int .u64 0) := (blk_cell X6.out.rb 2).trans rfl
    have rf2 := blk_frozen X6.out.rb 2
    have rc3 : v6.cell? ⟨R, 3, none⟩ = some (.int .i64 0) := (blk_cell X6.out.rb 3).trans rfl
    have rf3 := blk_frozen X6.out.rb 3
    have rc4 : v6.cell? ⟨R, 4, none⟩ = some (.int .i64 0) := (blk_cell X6.out.rb 4).trans rfl
    have rf4 := blk_frozen X6.out.rb 4
    have rc5 : v6.cell? ⟨R, 5, none⟩ = some (.int .i64 0) := (blk_cell X6.out.rb 5).trans rfl
    have rf5 := blk_frozen X6.out.rb 5
    have rc6 : v6.cell? ⟨R, 6, none⟩ = some (.string ⟨#[]⟩) := (blk_cell X6.out.rb 6).trans rfl
    have rf6 := blk_frozen X6.out.rb 6
    go_wp2
    clear rc0 rf0 rc1 rf1 rc2 rf2 rc3 rf3 rc4 rf4 rc5 rf5 rc6 rf6
    have FX : (((((((v6.setCell ⟨R, 0, none⟩ (.int .i64 0)).setCell ⟨R, 1, none⟩ (.int .u64 0)).setCell ⟨R, 2, none⟩ (.int .u64 0)).setCell ⟨R, 3, none⟩ (.int .i64 0)).setCell ⟨R, 4, none⟩ (.int .i64 0)).setCell ⟨R, 5, none⟩ (.int .i64 0)).setCell ⟨R, 6, none⟩ (.string ⟨#[]⟩)).heap[R]? = some (.cells #[.int .i64 0, .int .u64 0, .int .u64 0, .int .i64 0, .int .i64 0, .int .i64 0, .string ⟨#[]⟩] 24 (0, 0)) ∧ Below w.heap.size w (((((((v6.setCell ⟨R, 0, none⟩ (.int .i64 0)).setCell ⟨R, 1, none⟩ (.int .u64 0)).setCell ⟨R, 2, none⟩ (.int .u64 0)).setCell ⟨R, 3, none⟩ (.int .i64 0)).setCell ⟨R, 4, none⟩ (.int .i64 0)).setCell ⟨R, 5, none⟩ (.int .i64 0)).setCell ⟨R, 6, none⟩ (.string ⟨#[]⟩)) := X6.out.fill (.int .i64 0) (.int .u64 0) (.int .u64 0) (.int .i64 0) (.int .i64 0) (.int .i64 0) (.string ⟨#[]⟩)
    have hHR : ∃ w9, w9 = (((((((v6.setCell ⟨R, 0, none⟩ (.int .i64 0)).setCell ⟨R, 1, none⟩ (.int .u64 0)).setCell ⟨R, 2, none⟩ (.int .u64 0)).setCell ⟨R, 3, none⟩ (.int .i64 0)).setCell ⟨R, 4, none⟩ (.int .i64 0)).setCell ⟨R, 5, none⟩ (.int .i64 0)).setCell ⟨R, 6, none⟩ (.string ⟨#[]⟩)) := ⟨_, rfl⟩
    obtain ⟨w9, hw9⟩ := hHR
    rw [← hw9] at FX ⊢
    clear hw9
    obtain ⟨FX1, FX2⟩ := FX
    have rc0 : w9.cell? ⟨R, 0, none⟩ = some (.int .i64 0) := (blk_cell FX1 0).trans rfl
    have rc1 : w9.cell? ⟨R, 1, none⟩ = some (.int .u64 0) := (blk_cell FX1 1).trans rfl
    have rc2 : w9.cell? ⟨R, 2, none⟩ = some (.int .u64 0) := (blk_cell FX1 2).trans rfl
    have rc3 : w9.cell? ⟨R, 3, none⟩ = some (.int .i64 0) := (blk_cell FX1 3).trans rfl
    have rc4 : w9.cell? ⟨R, 4, none⟩ = some (.int .i64 0) := (blk_cell FX1 4).trans rfl
    have rc5 : w9.cell? ⟨R, 5, none⟩ = some (.int .i64 0) := (blk_cell FX1 5).trans rfl
    have rc6 : w9.cell? ⟨R, 6, none⟩ = some (.string ⟨#[]⟩) := (blk_cell FX1 6).trans rfl
    refine bodyPost_ret (v := .tuple #[.agg #[.int .i64 0, .int .u64 0, .int .u64 0, .int .i64 0, .int .i64 0, .int .i64 0, .string ⟨#[]⟩], .int .i64 210]) (by simp [results, Tryd.results9, go_sem, rc0, rc1, rc2, rc3, rc4, rc5, rc6]) rfl ⟨?_, FX2⟩
    rw [HQ.out]
    rfl
  | some h1 =>
    have N1 := fun w => rnum_yes q1 w
    rw [← HX1.out] at N1
    have NX := Aside0.mk N1
    have Q1 := Aside0.mk q1
    clear N1 q1
    have g1 := G1.out _ X5.out
    go_wp2_with fail
    clear g1
    refine (NX.out _).mono ?_
    rintro e v6 ⟨rfl, hb⟩
    replace CB := Aside0.mk ((hb.block _ (blk_lt CB.out)).trans CB.out)
    have X6 := Aside0.mk (X5.out.step hb)
    clear hb X5
    clear NX
    have cc := (blk_cell CB.out 1).trans (show _ = some (.int .u64 0) from rfl)
    have cf := blk_frozen CB.out 1
    replace CB := Aside0.mk (show (v6.setCell ⟨C, 1, none⟩ (.int .u64 (h1 : Int))).heap[C]? = some (.cells #[.int .i64 3, .int .u64 (h1 : Int), .int .u64 0, .int .i64 0, .int .i64 0, .int .i64 0, .string ⟨#[]⟩] 24 (0, 0)) from blk_set CB.out 1 _)
    have X7 := Aside0.mk (X6.out.far HCR.out.1 HCR.out.2.1 HCR.out.2.2.1 HCR.out.2.2.2 1 (.int .u64 (h1 : Int)))
    go_upto_region 14 with (fail)
    clear cc cf X6
    generalize v6.setCell ⟨C, 1, none⟩ (.int .u64 (h1 : Int)) = v7 at CB X7 ⊢
    cases q2 : numL (l.getD 2 []) with
    | none =>
      obtain ⟨m2, N2⟩ := rnum_no q2
      rw [← HX2.out] at N2
      have NX : Aside0 (∀ w1, Calls Tryd.prog 20 #[.string x2] w1 fun e w' => e = .returned (.tuple #[.int .u64 (m2 : Int), .bool false]) ∧ Below w1.heap.size w1 w') := ⟨N2⟩
      have Q2 := Aside0.mk q2
      clear N2 q2
      have g2 := G2.out _ X7.out
      go_wp2_with fail
      clear g2
      refine (NX.out _).mono ?_
      rintro e v8 ⟨rfl, hb⟩
      replace CB := Aside0.mk ((hb.block _ (blk_lt CB.out)).trans CB.out)
      have X8 := Aside0.mk (X7.out.step hb)
      clear hb X7
      clear NX
      have cc := (blk_cell CB.out 2).trans (show _ = some (.int .u64 0) from rfl)
      have cf := blk_frozen CB.out 2
      replace CB := Aside0.mk (show (v8.setCell ⟨C, 2, none⟩ (.int .u64 (m2 : Int))).heap[C]? = some (.cells #[.int .i64 3, .int .u64 (h1 : Int), .int .u64 (m2 : Int), .int .i64 0, .int .i64 0, .int .i64 0, .string ⟨#[]⟩] 24 (0, 0)) from blk_set CB.out 2 _)
      have X9 := Aside0.mk (X8.out.far HCR.out.1 HCR.out.2.1 HCR.out.2.2.1 HCR.out.2.2.2 2 (.int .u64 (m2 : Int)))
      go_upto_region 23 with (fail)
      clear cc cf X8
      generalize v8.setCell ⟨C, 2, none⟩ (.int .u64 (m2 : Int)) = v9 at CB X9 ⊢
      have HQ := Aside0.mk (show rpL l = none from by unfold rpL; rw [HK.out, Option.bind_some, if_pos (show l.length = manyL 3 from HL.out)]; simp [-List.getD_eq_getElem?_getD, Q1.out, Q2.out])
      have nc0 : v9.cell? ⟨R + 1, 0, none⟩ = some (.int .i64 0) := (blk_cell X9.out.nb 0).trans rfl
      have nf0 := blk_frozen X9.out.nb 0
      have nc1 : v9.cell? ⟨R + 1, 1, none⟩ = some (.int .u64 0) := (blk_cell X9.out.nb 1).trans rfl
      have nf1 := blk_frozen X9.out.nb 1
      have nc2 : v9.cell? ⟨R + 1, 2, none⟩ = some (.int .u64 0) := (blk_cell X9.out.nb 2).trans rfl
      have nf2 := blk_frozen X9.out.nb 2
      have nc3 : v9.cell? ⟨R + 1, 3, none⟩ = some (.int .i64 0) := (blk_cell X9.out.nb 3).trans rfl
      have nf3 := blk_frozen X9.out.nb 3
      have nc4 : v9.cell? ⟨R + 1, 4, none⟩ = some (.int .i64 0) := (blk_cell X9.out.nb 4).trans rfl
      have nf4 := blk_frozen X9.out.nb 4
      have nc5 : v9.cell? ⟨R + 1, 5, none⟩ = some (.int .i64 0) := (blk_cell X9.out.nb 5).trans rfl
      have nf5 := blk_frozen X9.out.nb 5
      have nc6 : v9.cell? ⟨R + 1, 6, none⟩ = some (.string ⟨#[]⟩) := (blk_cell X9.out.nb 6).trans rfl
      have nf6 := blk_frozen X9.out.nb 6
      have hRN : ¬ R = R + 1 := by omega
      have hNR : ¬ R + 1 = R := by omega
      have rc0 : v9.cell? ⟨R, 0, none⟩ = some (.int .i64 0) := (blk_cell X9.out.rb 0).trans rfl
      have rf0 := blk_frozen X9.out.rb 0
      have rc1 : v9.cell? ⟨R, 1, none⟩ = some (.int .u64 0) := (blk_cell X9.out.rb 1).trans rfl
      have rf1 := blk_frozen X9.out.rb 1
      have rc2 : v9.cell? ⟨R, 2, none⟩ = some (.int .u64 0) := (blk_cell X9.out.rb 2).trans rfl
      have rf2 := blk_frozen X9.out.rb 2
      have rc3 : v9.cell? ⟨R, 3, none⟩ = some (.int .i64 0) := (blk_cell X9.out.rb 3).trans rfl
      have rf3 := blk_frozen X9.out.rb 3
      have rc4 : v9.cell? ⟨R, 4, none⟩ = some (.int .i64 0) := (blk_cell X9.out.rb 4).trans rfl
      have rf4 := blk_frozen X9.out.rb 4
      have rc5 : v9.cell? ⟨R, 5, none⟩ = some (.int .i64 0) := (blk_cell X9.out.rb 5).trans rfl
      have rf5 := blk_frozen X9.out.rb 5
      have rc6 : v9.cell? ⟨R, 6, none⟩ = some (.string ⟨#[]⟩) := (blk_cell X9.out.rb 6).trans rfl
      have rf6 := blk_frozen X9.out.rb 6
      go_wp2
      clear rc0 rf0 rc1 rf1 rc2 rf2 rc3 rf3 rc4 rf4 rc5 rf5 rc6 rf6
      have FX : (((((((v9.setCell ⟨R, 0, none⟩ (.int .i64 0)).setCell ⟨R, 1, none⟩ (.int .u64 0)).setCell ⟨R, 2, none⟩ (.int .u64 0)).setCell ⟨R, 3, none⟩ (.int .i64 0)).setCell ⟨R, 4, none⟩ (.int .i64 0)).setCell ⟨R, 5, none⟩ (.int .i64 0)).setCell ⟨R, 6, none⟩ (.string ⟨#[]⟩)).heap[R]? = some (.cells #[.int .i64 0, .int .u64 0, .int .u64 0, .int .i64 0, .int .i64 0, .int .i64 0, .string ⟨#[]⟩] 24 (0, 0)) ∧ Below w.heap.size w (((((((v9.setCell ⟨R, 0, none⟩ (.int .i64 0)).setCell ⟨R, 1, none⟩ (.int .u64 0)).setCell ⟨R, 2, none⟩ (.int .u64 0)).setCell ⟨R, 3, none⟩ (.int .i64 0)).setCell ⟨R, 4, none⟩ (.int .i64 0)).setCell ⟨R, 5, none⟩ (.int .i64 0)).setCell ⟨R, 6, none⟩ (.string ⟨#[]⟩)) := X9.out.fill (.int .i64 0) (.int .u64 0) (.int .u64 0) (.int .i64 0) (.int .i64 0) (.int .i64 0) (.string ⟨#[]⟩)
      have hHR : ∃ w9, w9 = (((((((v9.setCell ⟨R, 0, none⟩ (.int .i64 0)).setCell ⟨R, 1, none⟩ (.int .u64 0)).setCell ⟨R, 2, none⟩ (.int .u64 0)).setCell ⟨R, 3, none⟩ (.int .i64 0)).setCell ⟨R, 4, none⟩ (.int .i64 0)).setCell ⟨R, 5, none⟩ (.int .i64 0)).setCell ⟨R, 6, none⟩ (.string ⟨#[]⟩)) := ⟨_, rfl⟩
      obtain ⟨w9, hw9⟩ := hHR
      rw [← hw9] at FX ⊢
      clear hw9
      obtain ⟨FX1, FX2⟩ := FX
      have rc0 : w9.cell? ⟨R, 0, none⟩ = some (.int .i64 0) := (blk_cell FX1 0).trans rfl
      have rc1 : w9.cell? ⟨R, 1, none⟩ = some (.int .u64 0) := (blk_cell FX1 1).trans rfl
      have rc2 : w9.cell? ⟨R, 2, none⟩ = some (.int .u64 0) := (blk_cell FX1 2).trans rfl
      have rc3 : w9.cell? ⟨R, 3, none⟩ = some (.int .i64 0) := (blk_cell FX1 3).trans rfl
      have rc4 : w9.cell? ⟨R, 4, none⟩ = some (.int .i64 0) := (blk_cell FX1 4).trans rfl
      have rc5 : w9.cell? ⟨R, 5, none⟩ = some (.int .i64 0) := (blk_cell FX1 5).trans rfl
      have rc6 : w9.cell? ⟨R, 6, none⟩ = some (.string ⟨#[]⟩) := (blk_cell FX1 6).trans rfl
      refine bodyPost_ret (v := .tuple #[.agg #[.int .i64 0, .int .u64 0, .int .u64 0, .int .i64 0, .int .i64 0, .int .i64 0, .string ⟨#[]⟩], .int .i64 210]) (by simp [results, Tryd.results9, go_sem, rc0, rc1, rc2, rc3, rc4, rc5, rc6]) rfl ⟨?_, FX2⟩
      rw [HQ.out]
      rfl
    | some h2 =>
      have N2 := fun w => rnum_yes q2 w
      rw [← HX2.out] at N2
      have NX : Aside0 (∀ w1, Calls Tryd.prog 20 #[.string x2] w1 fun e w' => e = .returned (.tuple #[.int .u64 (h2 : Int), .bool true]) ∧ Below w1.heap.size w1 w') := ⟨N2⟩
      have Q2 := Aside0.mk q2
      clear N2 q2
      have g2 := G2.out _ X7.out
      go_wp2_with fail
      clear g2
      refine (NX.out _).mono ?_
      rintro e v8 ⟨rfl, hb⟩
      replace CB := Aside0.mk ((hb.block _ (blk_lt CB.out)).trans CB.out)
      have X8 := Aside0.mk (X7.out.step hb)
      clear hb X7
      clear NX
      have cc := (blk_cell CB.out 2).trans (show _ = some (.int .u64 0) from rfl)
      have cf := blk_frozen CB.out 2
      replace CB := Aside0.mk (show (v8.setCell ⟨C, 2, none⟩ (.int .u64 (h2 : Int))).heap[C]? = some (.cells #[.int .i64 3, .int .u64 (h1 : Int), .int .u64 (h2 : Int), .int .i64 0, .int .i64 0, .int .i64 0, .string ⟨#[]⟩] 24 (0, 0)) from blk_set CB.out 2 _)
      have X9 := Aside0.mk (X8.out.far HCR.out.1 HCR.out.2.1 HCR.out.2.2.1 HCR.out.2.2.2 2 (.int .u64 (h2 : Int)))
      go_upto_region 23 with (fail)
      clear cc cf X8
      generalize v8.setCell ⟨C, 2, none⟩ (.int .u64 (h2 : Int)) = v9 at CB X9 ⊢
      have HQ := Aside0.mk (show rpL l = some { z7 with kind := 3, handle := h1, other := h2 } from by unfold rpL; rw [HK.out, Option.bind_some, if_pos (show l.length = manyL 3 from HL.out)]; simp [-List.getD_eq_getElem?_getD, Q1.out, Q2.out, z7])
      have nc0 : v9.cell? ⟨C, 0, none⟩ = some (.int .i64 3) := (blk_cell CB.out 0).trans rfl
      have nf0 := blk_frozen CB.out 0
      have nc1 : v9.cell? ⟨C, 1, none⟩ = some (.int .u64 (h1 : Int)) := (blk_cell CB.out 1).trans rfl
      have nf1 := blk_frozen CB.out 1
      have nc2 : v9.cell? ⟨C, 2, none⟩ = some (.int .u64 (h2 : Int)) := (blk_cell CB.out 2).trans rfl
      have nf2 := blk_frozen CB.out 2
      have nc3 : v9.cell? ⟨C, 3, none⟩ = some (.int .i64 0) := (blk_cell CB.out 3).trans rfl
      have nf3 := blk_frozen CB.out 3
      have nc4 : v9.cell? ⟨C, 4, none⟩ = some (.int .i64 0) := (blk_cell CB.out 4).trans rfl
      have nf4 := blk_frozen CB.out 4
      have nc5 : v9.cell? ⟨C, 5, none⟩ = some (.int .i64 0) := (blk_cell CB.out 5).trans rfl
      have nf5 := blk_frozen CB.out 5
      have nc6 : v9.cell? ⟨C, 6, none⟩ = some (.string ⟨#[]⟩) := (blk_cell CB.out 6).trans rfl
      have nf6 := blk_frozen CB.out 6
      have hRN : ¬ R = C := fun x => HCR.out.1 x.symm
      have hNR : ¬ C = R := HCR.out.1
      have rc0 : v9.cell? ⟨R, 0, none⟩ = some (.int .i64 0) := (blk_cell X9.out.rb 0).trans rfl
      have rf0 := blk_frozen X9.out.rb 0
      have rc1 : v9.cell? ⟨R, 1, none⟩ = some (.int .u64 0) := (blk_cell X9.out.rb 1).trans rfl
      have rf1 := blk_frozen X9.out.rb 1
      have rc2 : v9.cell? ⟨R, 2, none⟩ = some (.int .u64 0) := (blk_cell X9.out.rb 2).trans rfl
      have rf2 := blk_frozen X9.out.rb 2
      have rc3 : v9.cell? ⟨R, 3, none⟩ = some (.int .i64 0) := (blk_cell X9.out.rb 3).trans rfl
      have rf3 := blk_frozen X9.out.rb 3
      have rc4 : v9.cell? ⟨R, 4, none⟩ = some (.int .i64 0) := (blk_cell X9.out.rb 4).trans rfl
      have rf4 := blk_frozen X9.out.rb 4
      have rc5 : v9.cell? ⟨R, 5, none⟩ = some (.int .i64 0) := (blk_cell X9.out.rb 5).trans rfl
      have rf5 := blk_frozen X9.out.rb 5
      have rc6 : v9.cell? ⟨R, 6, none⟩ = some (.string ⟨#[]⟩) := (blk_cell X9.out.rb 6).trans rfl
      have rf6 := blk_frozen X9.out.rb 6
      go_wp2
      clear rc0 rf0 rc1 rf1 rc2 rf2 rc3 rf3 rc4 rf4 rc5 rf5 rc6 rf6
      have FX : (((((((v9.setCell ⟨R, 0, none⟩ (.int .i64 3)).setCell ⟨R, 1, none⟩ (.int .u64 (h1 : Int))).setCell ⟨R, 2, none⟩ (.int .u64 (h2 : Int))).setCell ⟨R, 3, none⟩ (.int .i64 0)).setCell ⟨R, 4, none⟩ (.int .i64 0)).setCell ⟨R, 5, none⟩ (.int .i64 0)).setCell ⟨R, 6, none⟩ (.string ⟨#[]⟩)).heap[R]? = some (.cells #[.int .i64 3, .int .u64 (h1 : Int), .int .u64 (h2 : Int), .int .i64 0, .int .i64 0, .int .i64 0, .string ⟨#[]⟩] 24 (0, 0)) ∧ Below w.heap.size w (((((((v9.setCell ⟨R, 0, none⟩ (.int .i64 3)).setCell ⟨R, 1, none⟩ (.int .u64 (h1 : Int))).setCell ⟨R, 2, none⟩ (.int .u64 (h2 : Int))).setCell ⟨R, 3, none⟩ (.int .i64 0)).setCell ⟨R, 4, none⟩ (.int .i64 0)).setCell ⟨R, 5, none⟩ (.int .i64 0)).setCell ⟨R, 6, none⟩ (.string ⟨#[]⟩)) := X9.out.fill (.int .i64 3) (.int .u64 (h1 : Int)) (.int .u64 (h2 : Int)) (.int .i64 0) (.int .i64 0) (.int .i64 0) (.string ⟨#[]⟩)
      have hHR : ∃ w9, w9 = (((((((v9.setCell ⟨R, 0, none⟩ (.int .i64 3)).setCell ⟨R, 1, none⟩ (.int .u64 (h1 : Int))).setCell ⟨R, 2, none⟩ (.int .u64 (h2 : Int))).setCell ⟨R, 3, none⟩ (.int .i64 0)).setCell ⟨R, 4, none⟩ (.int .i64 0)).setCell ⟨R, 5, none⟩ (.int .i64 0)).setCell ⟨R, 6, none⟩ (.string ⟨#[]⟩)) := ⟨_, rfl⟩
      obtain ⟨w9, hw9⟩ := hHR
      rw [← hw9] at FX ⊢
      clear hw9
      obtain ⟨FX1, FX2⟩ := FX
      have rc0 : w9.cell? ⟨R, 0, none⟩ = some (.int .i64 3) := (blk_cell FX1 0).trans rfl
      have rc1 : w9.cell? ⟨R, 1, none⟩ = some (.int .u64 (h1 : Int)) := (blk_cell FX1 1).trans rfl
      have rc2 : w9.cell? ⟨R, 2, none⟩ = some (.int .u64 (h2 : Int)) := (blk_cell FX1 2).trans rfl
      have rc3 : w9.cell? ⟨R, 3, none⟩ = some (.int .i64 0) := (blk_cell FX1 3).trans rfl
      have rc4 : w9.cell? ⟨R, 4, none⟩ = some (.int .i64 0) := (blk_cell FX1 4).trans rfl
      have rc5 : w9.cell? ⟨R, 5, none⟩ = some (.int .i64 0) := (blk_cell FX1 5).trans rfl
      have rc6 : w9.cell? ⟨R, 6, none⟩ = some (.string ⟨#[]⟩) := (blk_cell FX1 6).trans rfl
      refine bodyPost_ret (v := .tuple #[.agg #[.int .i64 3, .int .u64 (h1 : Int), .int .u64 (h2 : Int), .int .i64 0, .int .i64 0, .int .i64 0, .string ⟨#[]⟩], .int .i64 0]) (by simp [results, Tryd.results9, go_sem, rc0, rc1, rc2, rc3, rc4, rc5, rc6]) rfl ⟨?_, FX2⟩
      rw [HQ.out]
      rfl
set_option maxRecDepth 100000 in
set_option maxHeartbeats 8000000 in
theorem rparse_4 (s : ByteArray) (hs : s.size ≤ 281474976710656) (l : List (List UInt8)) (hl : wordsL 4 s.data.toList = l) (hk : kindL (l.getD 0 []) = some 4) (w : World) :
    Calls Tryd.prog 9 #[.string s] w fun e w' => e = .returned (rpV (rpL l)) ∧ Below w.heap.size w w' := by
  have WX := Aside0.mk (fun w1 => words5_x s hs l hl w1)
  have AX := Aside0.mk (fun ad cap w1 h1 h2 => kind_q (l.getD 0 []) ad cap w1 h1 h2)
  have HP := Aside0.mk (wordsL_pos hl)
  rw [show kindI (l.getD 0 []) = 4 from by unfold kindI; rw [hk]; rfl] at AX
  have HK := Aside0.mk hk
  clear hs hl hk
  have X0 := Aside0.mk (PS.start w)
  go_enter Tryd.func9, Tryd.ntmps9
  go_wp2_with fail
  refine (WX.out _).mono ?_
  rintro e w1 ⟨g, n, cap, cs, rfl, hn, hgb, hcs, hg0, hb⟩
  have X1 := Aside0.mk (X0.out.words hb hgb hg0)
  have HN := Aside0.mk hn
  have HC := Aside0.mk hcs
  clear hb hgb hg0 hn hcs X0 WX
  obtain ⟨R, hR⟩ : ∃ R, R = w.heap.size := ⟨_, rfl⟩
  rw [← hR] at X1 ⊢
  clear hR
  obtain ⟨x0, hx0⟩ : ∃ x0 : ByteArray, x0 = ⟨(l.getD 0 []).toArray⟩ := ⟨_, rfl⟩
  rw [← hx0] at AX
  have G0 := Aside0.mk (fun (w9 : World) (h : PS w w9 R (R + 1) g cs) => h.word (HC.out 0 _ (getD_some HP.out)))
  rw [← hx0] at G0
  clear hx0
  have hn1 : 0 < n := by rw [HN.out]; exact HP.out
  have hn2 : (0 : Int) < (n : Int) := by omega
  go_wp2_with fail
  have p1 : PS w w1.drew R (R + 1) g cs := X1.out.step (below_drew (Below.refl _ _))
  have p0 : w1.drew.cell? ⟨g, 0, none⟩ = some (.string x0) := G0.out _ p1
  refine start_ (n := 6) (S := fun w' => w'.cell? ⟨g, 0, none⟩ = some (.string x0) ∧ PS w w' R (R + 1) g cs) (ds := []) #[false, false, false, false, false, false] (by kernel_rfl) rfl rfl ⟨p0, p1⟩ (fun hHeld => ?_)
  refine pure_ (i := 1) (N := some 23) (v := ?_) (a' := ?_) #[false, true, false, false, false, false] rfl rfl (by kernel_rfl) (fun _ _ _ h => h) (Or.inl ⟨by rfl, ?_⟩) ?_ ?_
  rotate_left
  · intro w'
    go_simp
    with_reducible rfl
  rotate_left
  · simp only [Act.put, List.setIfInBounds_toArray, List.set_cons_zero, List.set_cons_succ, i64_w, i32_w]
    rfl
  refine pure_ (i := 2) (N := some 24) (v := ?_) (a' := ?_) #[false, true, true, false, false, false] rfl rfl (by kernel_rfl) (fun _ _ _ h => h) (Or.inl ⟨by rfl, ?_⟩) ?_ ?_
  rotate_left
  · intro w'
    go_simp
    with_reducible rfl
  rotate_left
  · simp only [Act.put, List.setIfInBounds_toArray, List.set_cons_zero, List.set_cons_succ, i64_w, i32_w]
    rfl
  refine take_ (i := 3) (N := some 25) (v := ?_) (a' := ?_) #[false, true, true, true, false, false] rfl rfl (by kernel_rfl) (fun _ _ _ h => h) (Or.inl ⟨by rfl, ?_⟩) hHeld ?_ ?_
  rotate_left
  · rintro w' ⟨s0, s1⟩
    go_simp
    with_reducible rfl
  rotate_left
  · simp only [Act.put, List.setIfInBounds_toArray, List.set_cons_zero, List.set_cons_succ, i64_w, i32_w]
    rfl
  refine one_ (i := 0) (N := some 22) #[true, true, true, true, false, false] rfl rfl (by kernel_rfl) (by decide) (fun K hK => ?_)
  refine goes_ Tryd.func16 (by kernel_rfl) rfl #[] (by rfl) rfl rfl (by simp only [List.map_toArray, List.map_cons, List.map_nil]) ?_
  with_reducible refine (kinds_c _).mono ?_
  rintro e w2 ⟨ad, cp2, rfl, hkc, hk7, hb⟩
  refine ⟨_, rfl, ?_⟩
  have HKC := Aside0.mk hkc
  have HK7 := Aside0.mk hk7
  clear hkc hk7
  refine hK.out _ _ ⟨pw_cell_below hb (hHeld.1), (hHeld.2).step hb⟩ (fun hHeld => ?_)
  clear hK K
  refine norm_ (a' := ?_) ?_ ?_
  rotate_left
  · show Act.put _ (some 22) _ = _
    simp only [Act.put, List.setIfInBounds_toArray, List.set_cons_zero, List.set_cons_succ, i64_w, i32_w]
    rfl
  refine one_ (i := 4) (N := some 26) #[true, true, true, true, true, false] rfl rfl (by kernel_rfl) (by decide) (fun K hK => ?_)
  refine goes_ Tryd.func19 (by kernel_rfl) rfl #[.slice (some ad) 7 cp2, .string x0] (by rfl) rfl rfl (by simp only [List.map_toArray, List.map_cons, List.map_nil]; rfl) ?_
  with_reducible refine (AX.out _ _ _ HKC.out HK7.out).mono ?_
  rintro e w3 ⟨rfl, hb⟩
  refine ⟨_, rfl, ?_⟩
  refine hK.out _ _ ⟨pw_cell_below hb (hHeld.1), (hHeld.2).step hb⟩ (fun hHeld => ?_)
  clear hK K
  refine norm_ (a' := ?_) ?_ ?_
  rotate_left
  · show Act.put _ (some 26) _ = _
    simp only [Act.put, List.setIfInBounds_toArray, List.set_cons_zero, List.set_cons_succ, i64_w, i32_w]
    rfl
  refine pure_ (i := 5) (N := some 6) (v := ?_) (a' := ?_) #[true, true, true, true, true, true] rfl rfl (by kernel_rfl) (fun _ _ _ h => h) (Or.inl ⟨by rfl, ?_⟩) ?_ ?_
  rotate_left
  · intro w'
    go_simp
    with_reducible rfl
  rotate_left
  · simp only [Act.put, List.setIfInBounds_toArray, List.set_cons_zero, List.set_cons_succ, i64_w, i32_w]
    rfl
  refine done_ (by kernel_rfl) ?_
  have X3 := Aside0.mk hHeld.2
  clear hHeld p0 p1 X1 HKC HK7 AX
  have X4 := Aside0.mk (X3.out.step (below_alloc (Below.refl _ _) (.cells #[.int .i64 1, .int .i64 2, .int .i64 3, .int .i64 3, .int .i64 3, .int .i64 3, .int .i64 5] 3)))
  have LB := Aside0.mk (blk_new w3 (.cells #[.int .i64 1, .int .i64 2, .int .i64 3, .int .i64 3, .int .i64 3, .int .i64 3, .int .i64 5] 3))
  go_upto_region 5 with (fail)
  obtain ⟨L, hL⟩ : ∃ L, L = w3.heap.size := ⟨_, rfl⟩
  rw [← hL] at LB ⊢
  clear hL X3
  generalize w3.alloc (.cells #[.int .i64 1, .int .i64 2, .int .i64 3, .int .i64 3, .int .i64 3, .int .i64 3, .int .i64 5] 3) = v4 at LB X4 ⊢
  by_cases hlen : l.length = 3
  rotate_left
  · skip
    have hne : ((n : Int) != 3) = true := by rw [bne_iff_ne, HN.out]; omega
    have HQ := Aside0.mk (show rpL l = none from by unfold rpL; rw [HK.out, Option.bind_some]; exact if_neg hlen)
    clear hlen
    have lc : v4.cell? ⟨L, 4, none⟩ = some (.int .i64 3) := (blk_cell LB.out 4).trans rfl
    clear LB
    have nc0 : v4.cell? ⟨R + 1, 0, none⟩ = some (.int .i64 0) := (blk_cell X4.out.nb 0).trans rfl
    have nf0 := blk_frozen X4.out.nb 0
    have nc1 : v4.cell? ⟨R + 1, 1, none⟩ = some (.int .u64 0) := (blk_cell X4.out.nb 1).trans rfl
    have nf1 := blk_frozen X4.out.nb 1
    have nc2 : v4.cell? ⟨R + 1, 2, none⟩ = some (.int .u64 0) := (blk_cell X4.out.nb 2).trans rfl
    have nf2 := blk_frozen X4.out.nb 2
    have nc3 : v4.cell? ⟨R + 1, 3, none⟩ = some (.int .i64 0) := (blk_cell X4.out.nb 3).trans rfl
    have nf3 := blk_frozen X4.out.nb 3
    have nc4 : v4.cell? ⟨R + 1, 4, none⟩ = some (.int .i64 0) := (blk_cell X4.out.nb 4).trans rfl
    have nf4 := blk_frozen X4.out.nb 4
    have nc5 : v4.cell? ⟨R + 1, 5, none⟩ = some (.int .i64 0) := (blk_cell X4.out.nb 5).trans rfl
    have nf5 := blk_frozen X4.out.nb 5
    have nc6 : v4.cell? ⟨R + 1, 6, none⟩ = some (.string ⟨#[]⟩) := (blk_cell X4.out.nb 6).trans rfl
    have nf6 := blk_frozen X4.out.nb 6
    have hRN : ¬ R = R + 1 := by omega
    have hNR : ¬ R + 1 = R := by omega
    have rc0 : v4.cell? ⟨R, 0, none⟩ = some (.int .i64 0) := (blk_cell X4.out.rb 0).trans rfl
    have rf0 := blk_frozen X4.out.rb 0
    have rc1 : v4.cell? ⟨R, 1, none⟩ = some (.int .u64 0) := (blk_cell X4.out.rb 1).trans rfl
    have rf1 := blk_frozen X4.out.rb 1
    have rc2 : v4.cell? ⟨R, 2, none⟩ = some (.int .u64 0) := (blk_cell X4.out.rb 2).trans rfl
    have rf2 := blk_frozen X4.out.rb 2
    have rc3 : v4.cell? ⟨R, 3, none⟩ = some (.int .i64 0) := (blk_cell X4.out.rb 3).trans rfl
    have rf3 := blk_frozen X4.out.rb 3
    have rc4 : v4.cell? ⟨R, 4, none⟩ = some (.int .i64 0) := (blk_cell X4.out.rb 4).trans rfl
    have rf4 := blk_frozen X4.out.rb 4
    have rc5 : v4.cell? ⟨R, 5, none⟩ = some (.int .i64 0) := (blk_cell X4.out.rb 5).trans rfl
    have rf5 := blk_frozen X4.out.rb 5
    have rc6 : v4.cell? ⟨R, 6, none⟩ = some (.string ⟨#[]⟩) := (blk_cell X4.out.rb 6).trans rfl
    have rf6 := blk_frozen X4.out.rb 6
    go_wp2
    clear rc0 rf0 rc1 rf1 rc2 rf2 rc3 rf3 rc4 rf4 rc5 rf5 rc6 rf6
    have FX : (((((((v4.setCell ⟨R, 0, none⟩ (.int .i64 0)).setCell ⟨R, 1, none⟩ (.int .u64 0)).setCell ⟨R, 2, none⟩ (.int .u64 0)).setCell ⟨R, 3, none⟩ (.int .i64 0)).setCell ⟨R, 4, none⟩ (.int .i64 0)).setCell ⟨R, 5, none⟩ (.int .i64 0)).setCell ⟨R, 6, none⟩ (.string ⟨#[]⟩)).heap[R]? = some (.cells #[.int .i64 0, .int .u64 0, .int .u64 0, .int .i64 0, .int .i64 0, .int .i64 0, .string ⟨#[]⟩] 24 (0, 0)) ∧ Below w.heap.size w (((((((v4.setCell ⟨R, 0, none⟩ (.int .i64 0)).setCell ⟨R, 1, none⟩ (.int .u64 0)).setCell ⟨R, 2, none⟩ (.int .u64 0)).setCell ⟨R, 3, none⟩ (.int .i64 0)).setCell ⟨R, 4, none⟩ (.int .i64 0)).setCell ⟨R, 5, none⟩ (.int .i64 0)).setCell ⟨R, 6, none⟩ (.string ⟨#[]⟩)) := X4.out.fill (.int .i64 0) (.int .u64 0) (.int .u64 0) (.int .i64 0) (.int .i64 0) (.int .i64 0) (.string ⟨#[]⟩)
    have hHR : ∃ w9, w9 = (((((((v4.setCell ⟨R, 0, none⟩ (.int .i64 0)).setCell ⟨R, 1, none⟩ (.int .u64 0)).setCell ⟨R, 2, none⟩ (.int .u64 0)).setCell ⟨R, 3, none⟩ (.int .i64 0)).setCell ⟨R, 4, none⟩ (.int .i64 0)).setCell ⟨R, 5, none⟩ (.int .i64 0)).setCell ⟨R, 6, none⟩ (.string ⟨#[]⟩)) := ⟨_, rfl⟩
    obtain ⟨w9, hw9⟩ := hHR
    rw [← hw9] at FX ⊢
    clear hw9
    obtain ⟨FX1, FX2⟩ := FX
    have rc0 : w9.cell? ⟨R, 0, none⟩ = some (.int .i64 0) := (blk_cell FX1 0).trans rfl
    have rc1 : w9.cell? ⟨R, 1, none⟩ = some (.int .u64 0) := (blk_cell FX1 1).trans rfl
    have rc2 : w9.cell? ⟨R, 2, none⟩ = some (.int .u64 0) := (blk_cell FX1 2).trans rfl
    have rc3 : w9.cell? ⟨R, 3, none⟩ = some (.int .i64 0) := (blk_cell FX1 3).trans rfl
    have rc4 : w9.cell? ⟨R, 4, none⟩ = some (.int .i64 0) := (blk_cell FX1 4).trans rfl
    have rc5 : w9.cell? ⟨R, 5, none⟩ = some (.int .i64 0) := (blk_cell FX1 5).trans rfl
    have rc6 : w9.cell? ⟨R, 6, none⟩ = some (.string ⟨#[]⟩) := (blk_cell FX1 6).trans rfl
    refine bodyPost_ret (v := .tuple #[.agg #[.int .i64 0, .int .u64 0, .int .u64 0, .int .i64 0, .int .i64 0, .int .i64 0, .string ⟨#[]⟩], .int .i64 210]) (by simp [results, Tryd.results9, go_sem, rc0, rc1, rc2, rc3, rc4, rc5, rc6]) rfl ⟨?_, FX2⟩
    rw [HQ.out]
    rfl
  obtain rfl : n = 3 := by rw [HN.out]; exact hlen
  have HL := Aside0.mk hlen
  clear hlen HN hn1 hn2 HP
  have lc : v4.cell? ⟨L, 4, none⟩ = some (.int .i64 3) := (blk_cell LB.out 4).trans rfl
  clear LB
  have CB := Aside0.mk (blk_new v4 (.cells #[.int .i64 4, .int .u64 0, .int .u64 0, .int .i64 0, .int .i64 0, .int .i64 0, .string ⟨#[]⟩] 24))
  have X5 := Aside0.mk (X4.out.step (below_alloc (Below.refl _ _) (.cells #[.int .i64 4, .int .u64 0, .int .u64 0, .int .i64 0, .int .i64 0, .int .i64 0, .string ⟨#[]⟩] 24)))
  have HCR := Aside0.mk (show v4.heap.size ≠ R ∧ v4.heap.size ≠ R + 1 ∧ v4.heap.size ≠ g ∧ w.heap.size ≤ v4.heap.size from ⟨(Nat.ne_of_lt (blk_lt X4.out.rb)).symm, (Nat.ne_of_lt (blk_lt X4.out.nb)).symm, (Nat.ne_of_lt (blk_lt X4.out.gb)).symm, X4.out.bel.size⟩)
  go_upto_region 8 with (fail)
  obtain ⟨C, hC⟩ : ∃ C, C = v4.heap.size := ⟨_, rfl⟩
  rw [← hC] at CB HCR ⊢
  clear hC lc X4
  generalize v4.alloc (.cells #[.int .i64 4, .int .u64 0, .int .u64 0, .int .i64 0, .int .i64 0, .int .i64 0, .string ⟨#[]⟩] 24) = v5 at CB X5 ⊢
  obtain ⟨x1, hx1⟩ : ∃ x : ByteArray, x = ⟨(l.getD 1 []).toArray⟩ := ⟨_, rfl⟩
  have G1 := Aside0.mk (fun (w9 : World) (h : PS w w9 R (R + 1) g cs) => h.word (HC.out 1 _ (getD_some (by rw [HL.out]; decide))))
  rw [← hx1] at G1
  have HX1 := Aside0.mk hx1
  clear hx1
  obtain ⟨x2, hx2⟩ : ∃ x : ByteArray, x = ⟨(l.getD 2 []).toArray⟩ := ⟨_, rfl⟩
  have G2 := Aside0.mk (fun (w9 : World) (h : PS w w9 R (R + 1) g cs) => h.word (HC.out 2 _ (getD_some (by rw [HL.out]; decide))))
  rw [← hx2] at G2
  have HX2 := Aside0.mk hx2
  clear hx2
  cases q1 : numL (l.getD 1 []) with
  | none =>
    obtain ⟨m1, N1⟩ := rnum_no q1
    rw [← HX1.out] at N1
    have NX := Aside0.mk N1
    have Q1 := Aside0.mk q1
    clear N1 q1
    have g1 := G1.out _ X5.out
    go_wp2_with fail
    clear g1
    refine (NX.out _).mono ?_
    rintro e v6 ⟨rfl, hb⟩
    replace CB := Aside0.mk ((hb.block _ (blk_lt CB.out)).trans CB.out)
    have X6 := Aside0.mk (X5.out.step hb)
    clear hb X5
    have HQ := Aside0.mk (show rpL l = none from by unfold rpL; rw [HK.out, Option.bind_some, if_pos (show l.length = manyL 4 from HL.out)]; simp [-List.getD_eq_getElem?_getD, Q1.out])
    have nc0 : v6.cell? ⟨R + 1, 0, none⟩ = some (.int .i64 0) := (blk_cell X6.out.nb 0).trans rfl
    have nf0 := blk_frozen X6.out.nb 0
    have nc1 : v6.cell? ⟨R + 1, 1, none⟩ = some (.int .u64 0) := (blk_cell X6.out.nb 1).trans rfl
    have nf1 := blk_frozen X6.out.nb 1
    have nc2 : v6.cell? ⟨R + 1, 2, none⟩ = some (.int .u64 0) := (blk_cell X6.out.nb 2).trans rfl
    have nf2 := blk_frozen X6.out.nb 2
    have nc3 : v6.cell? ⟨R + 1, 3, none⟩ = some (.int .i64 0) := (blk_cell X6.out.nb 3).trans rfl
    have nf3 := blk_frozen X6.out.nb 3
    have nc4 : v6.cell? ⟨R + 1, 4, none⟩ = some (.int .i64 0) := (blk_cell X6.out.nb 4).trans rfl
    have nf4 := blk_frozen X6.out.nb 4
    have nc5 : v6.cell? ⟨R + 1, 5, none⟩ = some (.int .i64 0) := (blk_cell X6.out.nb 5).trans rfl
    have nf5 := blk_frozen X6.out.nb 5
    have nc6 : v6.cell? ⟨R + 1, 6, none⟩ = some (.string ⟨#[]⟩) := (blk_cell X6.out.nb 6).trans rfl
    have nf6 := blk_frozen X6.out.nb 6
    have hRN : ¬ R = R + 1 := by omega
    have hNR : ¬ R + 1 = R := by omega
    have rc0 : v6.cell? ⟨R, 0, none⟩ = some (.int .i64 0) := (blk_cell X6.out.rb 0).trans rfl
    have rf0 := blk_frozen X6.out.rb 0
    have rc1 : v6.cell? ⟨R, 1, none⟩ = some (.int .u64 0) := (blk_cell X6.out.rb 1).trans rfl
    have rf1 := blk_frozen X6.out.rb 1
    have rc2 : v6.cell? ⟨R, 2, none⟩ = some (.int .u64 0) := (blk_cell X6.out.rb 2).trans rfl
    have rf2 := blk_frozen X6.out.rb 2
    have rc3 : v6.cell? ⟨R, 3, none⟩ = some (.int .i64 0) := (blk_cell X6.out.rb 3).trans rfl
    have rf3 := blk_frozen X6.out.rb 3
    have rc4 : v6.cell? ⟨R, 4, none⟩ = some (.int .i64 0) := (blk_cell X6.out.rb 4).trans rfl
    have rf4 := blk_frozen X6.out.rb 4
    have rc5 : v6.cell? ⟨R, 5, none⟩ = some (.int .i64 0) := (blk_cell X6.out.rb 5).trans rfl
    have rf5 := blk_frozen X6.out.rb 5
    have rc6 : v6.cell? ⟨R, 6, none⟩ = some (.string ⟨#[]⟩) := (blk_cell X6.out.rb 6).trans rfl
    have rf6 := blk_frozen X6.out.rb 6
    go_wp2
    clear rc0 rf0 rc1 rf1 rc2 rf2 rc3 rf3 rc4 rf4 rc5 rf5 rc6 rf6
    have FX : (((((((v6.setCell ⟨R, 0, none⟩ (.int .i64 0)).setCell ⟨R, 1, none⟩ (.int .u64 0)).setCell ⟨R, 2, none⟩ (.int .u64 0)).setCell ⟨R, 3, none⟩ (.int .i64 0)).setCell ⟨R, 4, none⟩ (.int .i64 0)).setCell ⟨R, 5, none⟩ (.int .i64 0)).setCell ⟨R, 6, none⟩ (.string ⟨#[]⟩)).heap[R]? = some (.cells #[.int .i64 0, .int .u64 0, .int .u64 0, .int .i64 0, .int .i64 0, .int .i64 0, .string ⟨#[]⟩] 24 (0, 0)) ∧ Below w.heap.size w (((((((v6.setCell ⟨R, 0, none⟩ (.int .i64 0)).setCell ⟨R, 1, none⟩ (.int .u64 0)).setCell ⟨R, 2, none⟩ (.int .u64 0)).setCell ⟨R, 3, none⟩ (.int .i64 0)).setCell ⟨R, 4, none⟩ (.int .i64 0)).setCell ⟨R, 5, none⟩ (.int .i64 0)).setCell ⟨R, 6, none⟩ (.string ⟨#[]⟩)) := X6.out.fill (.int .i64 0) (.int .u64 0) (.int .u64 0) (.int .i64 0) (.int .i64 0) (.int .i64 0) (.string ⟨#[]⟩)
    have hHR : ∃ w9, w9 = (((((((v6.setCell ⟨R, 0, none⟩ (.int .i64 0)).setCell ⟨R, 1, none⟩ (.int .u64 0)).setCell ⟨R, 2, none⟩ (.int .u64 0)).setCell ⟨R, 3, none⟩ (.int .i64 0)).setCell ⟨R, 4, none⟩ (.int .i64 0)).setCell ⟨R, 5, none⟩ (.int .i64 0)).setCell ⟨R, 6, none⟩ (.string ⟨#[]⟩)) := ⟨_, rfl⟩
    obtain ⟨w9, hw9⟩ := hHR
    rw [← hw9] at FX ⊢
    clear hw9
    obtain ⟨FX1, FX2⟩ := FX
    have rc0 : w9.cell? ⟨R, 0, none⟩ = some (.int .i64 0) := (blk_cell FX1 0).trans rfl
    have rc1 : w9.cell? ⟨R, 1, none⟩ = some (.int .u64 0) := (blk_cell FX1 1).trans rfl
    have rc2 : w9.cell? ⟨R, 2, none⟩ = some (.int .u64 0) := (blk_cell FX1 2).trans rfl
    have rc3 : w9.cell? ⟨R, 3, none⟩ = some (.int .i64 0) := (blk_cell FX1 3).trans rfl
    have rc4 : w9.cell? ⟨R, 4, none⟩ = some (.int .i64 0) := (blk_cell FX1 4).trans rfl
    have rc5 : w9.cell? ⟨R, 5, none⟩ = some (.int .i64 0) := (blk_cell FX1 5).trans rfl
    have rc6 : w9.cell? ⟨R, 6, none⟩ = some (.string ⟨#[]⟩) := (blk_cell FX1 6).trans rfl
    refine bodyPost_ret (v := .tuple #[.agg #[.int .i64 0, .int .u64 0, .int .u64 0, .int .i64 0, .int .i64 0, .int .i64 0, .string ⟨#[]⟩], .int .i64 210]) (by simp [results, Tryd.results9, go_sem, rc0, rc1, rc2, rc3, rc4, rc5, rc6]) rfl ⟨?_, FX2⟩
    rw [HQ.out]
    rfl
  | some h1 =>
    have N1 := fun w => rnum_yes q1 w
    rw [← HX1.out] at N1
    have NX := Aside0.mk N1
    have Q1 := Aside0.mk q1
    clear N1 q1
    have g1 := G1.out _ X5.out
    go_wp2_with fail
    clear g1
    refine (NX.out _).mono ?_
    rintro e v6 ⟨rfl, hb⟩
    replace CB := Aside0.mk ((hb.block _ (blk_lt CB.out)).trans CB.out)
    have X6 := Aside0.mk (X5.out.step hb)
    clear hb X5
    clear NX
    have cc := (blk_cell CB.out 1).trans (show _ = some (.int .u64 0) from rfl)
    have cf := blk_frozen CB.out 1
    replace CB := Aside0.mk (show (v6.setCell ⟨C, 1, none⟩ (.int .u64 (h1 : Int))).heap[C]? = some (.cells #[.int .i64 4, .int .u64 (h1 : Int), .int .u64 0, .int .i64 0, .int .i64 0, .int .i64 0, .string ⟨#[]⟩] 24 (0, 0)) from blk_set CB.out 1 _)
    have X7 := Aside0.mk (X6.out.far HCR.out.1 HCR.out.2.1 HCR.out.2.2.1 HCR.out.2.2.2 1 (.int .u64 (h1 : Int)))
    go_upto_region 14 with (fail)
    clear cc cf X6
    generalize v6.setCell ⟨C, 1, none⟩ (.int .u64 (h1 : Int)) = v7 at CB X7 ⊢
    cases q2 : digL 0 (l.getD 2 []) with
    | none =>
      obtain ⟨m2, N2⟩ := rdig_no q2
      rw [← HX2.out] at N2
      have NX : Aside0 (∀ w1, Calls Tryd.prog 21 #[.string x2, .int .i64 0] w1 fun e w' => e = .returned (.tuple #[.int .i64 (m2 : Int), .bool false]) ∧ Below w1.heap.size w1 w') := ⟨N2⟩
      have Q2 := Aside0.mk q2
      clear N2 q2
      have g2 := G2.out _ X7.out
      go_wp2_with fail
      clear g2
      refine (NX.out _).mono ?_
      rintro e v8 ⟨rfl, hb⟩
      replace CB := Aside0.mk ((hb.block _ (blk_lt CB.out)).trans CB.out)
      have X8 := Aside0.mk (X7.out.step hb)
      clear hb X7
      clear NX
      have cc := (blk_cell CB.out 4).trans (show _ = some (.int .i64 0) from rfl)
      have cf := blk_frozen CB.out 4
      replace CB := Aside0.mk (show (v8.setCell ⟨C, 4, none⟩ (.int .i64 (m2 : Int))).heap[C]? = some (.cells #[.int .i64 4, .int .u64 (h1 : Int), .int .u64 0, .int .i64 0, .int .i64 (m2 : Int), .int .i64 0, .string ⟨#[]⟩] 24 (0, 0)) from blk_set CB.out 4 _)
      have X9 := Aside0.mk (X8.out.far HCR.out.1 HCR.out.2.1 HCR.out.2.2.1 HCR.out.2.2.2 4 (.int .i64 (m2 : Int)))
      go_upto_region 29 with (fail)
      clear cc cf X8
      generalize v8.setCell ⟨C, 4, none⟩ (.int .i64 (m2 : Int)) = v9 at CB X9 ⊢
      have HQ := Aside0.mk (show rpL l = none from by unfold rpL; rw [HK.out, Option.bind_some, if_pos (show l.length = manyL 4 from HL.out)]; simp [-List.getD_eq_getElem?_getD, Q1.out, Q2.out])
      have nc0 : v9.cell? ⟨R + 1, 0, none⟩ = some (.int .i64 0) := (blk_cell X9.out.nb 0).trans rfl
      have nf0 := blk_frozen X9.out.nb 0
      have nc1 : v9.cell? ⟨R + 1, 1, none⟩ = some (.int .u64 0) := (blk_cell X9.out.nb 1).trans rfl
      have nf1 := blk_frozen X9.out.nb 1
      have nc2 : v9.cell? ⟨R + 1, 2, none⟩ = some (.int .u64 0) := (blk_cell X9.out.nb 2).trans rfl
      have nf2 := blk_frozen X9.out.nb 2
      have nc3 : v9.cell? ⟨R + 1, 3, none⟩ = some (.int .i64 0) := (blk_cell X9.out.nb 3).trans rfl
      have nf3 := blk_frozen X9.out.nb 3
      have nc4 : v9.cell? ⟨R + 1, 4, none⟩ = some (.int .i64 0) := (blk_cell X9.out.nb 4).trans rfl
      have nf4 := blk_frozen X9.out.nb 4
      have nc5 : v9.cell? ⟨R + 1, 5, none⟩ = some (.int .i64 0) := (blk_cell X9.out.nb 5).trans rfl
      have nf5 := blk_frozen X9.out.nb 5
      have nc6 : v9.cell? ⟨R + 1, 6, none⟩ = some (.string ⟨#[]⟩) := (blk_cell X9.out.nb 6).trans rfl
      have nf6 := blk_frozen X9.out.nb 6
      have hRN : ¬ R = R + 1 := by omega
      have hNR : ¬ R + 1 = R := by omega
      have rc0 : v9.cell? ⟨R, 0, none⟩ = some (.int .i64 0) := (blk_cell X9.out.rb 0).trans rfl
      have rf0 := blk_frozen X9.out.rb 0
      have rc1 : v9.cell? ⟨R, 1, none⟩ = some (.int .u64 0) := (blk_cell X9.out.rb 1).trans rfl
      have rf1 := blk_frozen X9.out.rb 1
      have rc2 : v9.cell? ⟨R, 2, none⟩ = some (.int .u64 0) := (blk_cell X9.out.rb 2).trans rfl
      have rf2 := blk_frozen X9.out.rb 2
      have rc3 : v9.cell? ⟨R, 3, none⟩ = some (.int .i64 0) := (blk_cell X9.out.rb 3).trans rfl
      have rf3 := blk_frozen X9.out.rb 3
      have rc4 : v9.cell? ⟨R, 4, none⟩ = some (.int .i64 0) := (blk_cell X9.out.rb 4).trans rfl
      have rf4 := blk_frozen X9.out.rb 4
      have rc5 : v9.cell? ⟨R, 5, none⟩ = some (.int .i64 0) := (blk_cell X9.out.rb 5).trans rfl
      have rf5 := blk_frozen X9.out.rb 5
      have rc6 : v9.cell? ⟨R, 6, none⟩ = some (.string ⟨#[]⟩) := (blk_cell X9.out.rb 6).trans rfl
      have rf6 := blk_frozen X9.out.rb 6
      go_wp2
      clear rc0 rf0 rc1 rf1 rc2 rf2 rc3 rf3 rc4 rf4 rc5 rf5 rc6 rf6
      have FX : (((((((v9.setCell ⟨R, 0, none⟩ (.int .i64 0)).setCell ⟨R, 1, none⟩ (.int .u64 0)).setCell ⟨R, 2, none⟩ (.int .u64 0)).setCell ⟨R, 3, none⟩ (.int .i64 0)).setCell ⟨R, 4, none⟩ (.int .i64 0)).setCell ⟨R, 5, none⟩ (.int .i64 0)).setCell ⟨R, 6, none⟩ (.string ⟨#[]⟩)).heap[R]? = some (.cells #[.int .i64 0, .int .u64 0, .int .u64 0, .int .i64 0, .int .i64 0, .int .i64 0, .string ⟨#[]⟩] 24 (0, 0)) ∧ Below w.heap.size w (((((((v9.setCell ⟨R, 0, none⟩ (.int .i64 0)).setCell ⟨R, 1, none⟩ (.int .u64 0)).setCell ⟨R, 2, none⟩ (.int .u64 0)).setCell ⟨R, 3, none⟩ (.int .i64 0)).setCell ⟨R, 4, none⟩ (.int .i64 0)).setCell ⟨R, 5, none⟩ (.int .i64 0)).setCell ⟨R, 6, none⟩ (.string ⟨#[]⟩)) := X9.out.fill (.int .i64 0) (.int .u64 0) (.int .u64 0) (.int .i64 0) (.int .i64 0) (.int .i64 0) (.string ⟨#[]⟩)
      have hHR : ∃ w9, w9 = (((((((v9.setCell ⟨R, 0, none⟩ (.int .i64 0)).setCell ⟨R, 1, none⟩ (.int .u64 0)).setCell ⟨R, 2, none⟩ (.int .u64 0)).setCell ⟨R, 3, none⟩ (.int .i64 0)).setCell ⟨R, 4, none⟩ (.int .i64 0)).setCell ⟨R, 5, none⟩ (.int .i64 0)).setCell ⟨R, 6, none⟩ (.string ⟨#[]⟩)) := ⟨_, rfl⟩
      obtain ⟨w9, hw9⟩ := hHR
      rw [← hw9] at FX ⊢
      clear hw9
      obtain ⟨FX1, FX2⟩ := FX
      have rc0 : w9.cell? ⟨R, 0, none⟩ = some (.int .i64 0) := (blk_cell FX1 0).trans rfl
      have rc1 : w9.cell? ⟨R, 1, none⟩ = some (.int .u64 0) := (blk_cell FX1 1).trans rfl
      have rc2 : w9.cell? ⟨R, 2, none⟩ = some (.int .u64 0) := (blk_cell FX1 2).trans rfl
      have rc3 : w9.cell? ⟨R, 3, none⟩ = some (.int .i64 0) := (blk_cell FX1 3).trans rfl
      have rc4 : w9.cell? ⟨R, 4, none⟩ = some (.int .i64 0) := (blk_cell FX1 4).trans rfl
      have rc5 : w9.cell? ⟨R, 5, none⟩ = some (.int .i64 0) := (blk_cell FX1 5).trans rfl
      have rc6 : w9.cell? ⟨R, 6, none⟩ = some (.string ⟨#[]⟩) := (blk_cell FX1 6).trans rfl
      refine bodyPost_ret (v := .tuple #[.agg #[.int .i64 0, .int .u64 0, .int .u64 0, .int .i64 0, .int .i64 0, .int .i64 0, .string ⟨#[]⟩], .int .i64 210]) (by simp [results, Tryd.results9, go_sem, rc0, rc1, rc2, rc3, rc4, rc5, rc6]) rfl ⟨?_, FX2⟩
      rw [HQ.out]
      rfl
    | some h2 =>
      have N2 := fun w => rdig_yes q2 w
      rw [← HX2.out] at N2
      have NX : Aside0 (∀ w1, Calls Tryd.prog 21 #[.string x2, .int .i64 0] w1 fun e w' => e = .returned (.tuple #[.int .i64 (h2 : Int), .bool true]) ∧ Below w1.heap.size w1 w') := ⟨N2⟩
      have Q2 := Aside0.mk q2
      clear N2 q2
      have g2 := G2.out _ X7.out
      go_wp2_with fail
      clear g2
      refine (NX.out _).mono ?_
      rintro e v8 ⟨rfl, hb⟩
      replace CB := Aside0.mk ((hb.block _ (blk_lt CB.out)).trans CB.out)
      have X8 := Aside0.mk (X7.out.step hb)
      clear hb X7
      clear NX
      have cc := (blk_cell CB.out 4).trans (show _ = some (.int .i64 0) from rfl)
      have cf := blk_frozen CB.out 4
      replace CB := Aside0.mk (show (v8.setCell ⟨C, 4, none⟩ (.int .i64 (h2 : Int))).heap[C]? = some (.cells #[.int .i64 4, .int .u64 (h1 : Int), .int .u64 0, .int .i64 0, .int .i64 (h2 : Int), .int .i64 0, .string ⟨#[]⟩] 24 (0, 0)) from blk_set CB.out 4 _)
      have X9 := Aside0.mk (X8.out.far HCR.out.1 HCR.out.2.1 HCR.out.2.2.1 HCR.out.2.2.2 4 (.int .i64 (h2 : Int)))
      go_upto_region 29 with (fail)
      clear cc cf X8
      generalize v8.setCell ⟨C, 4, none⟩ (.int .i64 (h2 : Int)) = v9 at CB X9 ⊢
      have HQ := Aside0.mk (show rpL l = some { z7 with kind := 4, handle := h1, grp := h2 } from by unfold rpL; rw [HK.out, Option.bind_some, if_pos (show l.length = manyL 4 from HL.out)]; simp [-List.getD_eq_getElem?_getD, Q1.out, Q2.out, z7])
      have nc0 : v9.cell? ⟨C, 0, none⟩ = some (.int .i64 4) := (blk_cell CB.out 0).trans rfl
      have nf0 := blk_frozen CB.out 0
      have nc1 : v9.cell? ⟨C, 1, none⟩ = some (.int .u64 (h1 : Int)) := (blk_cell CB.out 1).trans rfl
      have nf1 := blk_frozen CB.out 1
      have nc2 : v9.cell? ⟨C, 2, none⟩ = some (.int .u64 0) := (blk_cell CB.out 2).trans rfl
      have nf2 := blk_frozen CB.out 2
      have nc3 : v9.cell? ⟨C, 3, none⟩ = some (.int .i64 0) := (blk_cell CB.out 3).trans rfl
      have nf3 := blk_frozen CB.out 3
      have nc4 : v9.cell? ⟨C, 4, none⟩ = some (.int .i64 (h2 : Int)) := (blk_cell CB.out 4).trans rfl
      have nf4 := blk_frozen CB.out 4
      have nc5 : v9.cell? ⟨C, 5, none⟩ = some (.int .i64 0) := (blk_cell CB.out 5).trans rfl
      have nf5 := blk_frozen CB.out 5
      have nc6 : v9.cell? ⟨C, 6, none⟩ = some (.string ⟨#[]⟩) := (blk_cell CB.out 6).trans rfl
      have nf6 := blk_frozen CB.out 6
      have hRN : ¬ R = C := fun x => HCR.out.1 x.symm
      have hNR : ¬ C = R := HCR.out.1
      have rc0 : v9.cell? ⟨R, 0, none⟩ = some (.int .i64 0) := (blk_cell X9.out.rb 0).trans rfl
      have rf0 := blk_frozen X9.out.rb 0
      have rc1 : v9.cell? ⟨R, 1, none⟩ = some (.int .u64 0) := (blk_cell X9.out.rb 1).trans rfl
      have rf1 := blk_frozen X9.out.rb 1
      have rc2 : v9.cell? ⟨R, 2, none⟩ = some (.int .u64 0) := (blk_cell X9.out.rb 2).trans rfl
      have rf2 := blk_frozen X9.out.rb 2
      have rc3 : v9.cell? ⟨R, 3, none⟩ = some (.int .i64 0) := (blk_cell X9.out.rb 3).trans rfl
      have rf3 := blk_frozen X9.out.rb 3
      have rc4 : v9.cell? ⟨R, 4, none⟩ = some (.int .i64 0) := (blk_cell X9.out.rb 4).trans rfl
      have rf4 := blk_frozen X9.out.rb 4
      have rc5 : v9.cell? ⟨R, 5, none⟩ = some (.int .i64 0) := (blk_cell X9.out.rb 5).trans rfl
      have rf5 := blk_frozen X9.out.rb 5
      have rc6 : v9.cell? ⟨R, 6, none⟩ = some (.string ⟨#[]⟩) := (blk_cell X9.out.rb 6).trans rfl
      have rf6 := blk_frozen X9.out.rb 6
      go_wp2
      clear rc0 rf0 rc1 rf1 rc2 rf2 rc3 rf3 rc4 rf4 rc5 rf5 rc6 rf6
      have FX : (((((((v9.setCell ⟨R, 0, none⟩ (.int .i64 4)).setCell ⟨R, 1, none⟩ (.int .u64 (h1 : Int))).setCell ⟨R, 2, none⟩ (.int .u64 0)).setCell ⟨R, 3, none⟩ (.int .i64 0)).setCell ⟨R, 4, none⟩ (.int .i64 (h2 : Int))).setCell ⟨R, 5, none⟩ (.int .i64 0)).setCell ⟨R, 6, none⟩ (.string ⟨#[]⟩)).heap[R]? = some (.cells #[.int .i64 4, .int .u64 (h1 : Int), .int .u64 0, .int .i64 0, .int .i64 (h2 : Int), .int .i64 0, .string ⟨#[]⟩] 24 (0, 0)) ∧ Below w.heap.size w (((((((v9.setCell ⟨R, 0, none⟩ (.int .i64 4)).setCell ⟨R, 1, none⟩ (.int .u64 (h1 : Int))).setCell ⟨R, 2, none⟩ (.int .u64 0)).setCell ⟨R, 3, none⟩ (.int .i64 0)).setCell ⟨R, 4, none⟩ (.int .i64 (h2 : Int))).setCell ⟨R, 5, none⟩ (.int .i64 0)).setCell ⟨R, 6, none⟩ (.string ⟨#[]⟩)) := X9.out.fill (.int .i64 4) (.int .u64 (h1 : Int)) (.int .u64 0) (.int .i64 0) (.int .i64 (h2 : Int)) (.int .i64 0) (.string ⟨#[]⟩)
      have hHR : ∃ w9, w9 = (((((((v9.setCell ⟨R, 0, none⟩ (.int .i64 4)).setCell ⟨R, 1, none⟩ (.int .u64 (h1 : Int))).setCell ⟨R, 2, none⟩ (.int .u64 0)).setCell ⟨R, 3, none⟩ (.int .i64 0)).setCell ⟨R, 4, none⟩ (.int .i64 (h2 : Int))).setCell ⟨R, 5, none⟩ (.int .i64 0)).setCell ⟨R, 6, none⟩ (.string ⟨#[]⟩)) := ⟨_, rfl⟩
      obtain ⟨w9, hw9⟩ := hHR
      rw [← hw9] at FX ⊢
      clear hw9
      obtain ⟨FX1, FX2⟩ := FX
      have rc0 : w9.cell? ⟨R, 0, none⟩ = some (.int .i64 4) := (blk_cell FX1 0).trans rfl
      have rc1 : w9.cell? ⟨R, 1, none⟩ = some (.int .u64 (h1 : Int)) := (blk_cell FX1 1).trans rfl
      have rc2 : w9.cell? ⟨R, 2, none⟩ = some (.int .u64 0) := (blk_cell FX1 2).trans rfl
      have rc3 : w9.cell? ⟨R, 3, none⟩ = some (.int .i64 0) := (blk_cell FX1 3).trans rfl
      have rc4 : w9.cell? ⟨R, 4, none⟩ = some (.int .i64 (h2 : Int)) := (blk_cell FX1 4).trans rfl
      have rc5 : w9.cell? ⟨R, 5, none⟩ = some (.int .i64 0) := (blk_cell FX1 5).trans rfl
      have rc6 : w9.cell? ⟨R, 6, none⟩ = some (.string ⟨#[]⟩) := (blk_cell FX1 6).trans rfl
      refine bodyPost_ret (v := .tuple #[.agg #[.int .i64 4, .int .u64 (h1 : Int), .int .u64 0, .int .i64 0, .int .i64 (h2 : Int), .int .i64 0, .string ⟨#[]⟩], .int .i64 0]) (by simp [results, Tryd.results9, go_sem, rc0, rc1, rc2, rc3, rc4, rc5, rc6]) rfl ⟨?_, FX2⟩
      rw [HQ.out]
      rfl
set_option maxRecDepth 100000 in
set_option maxHeartbeats 8000000 in
theorem rparse_5 (s : ByteArray) (hs : s.size ≤ 281474976710656) (l : List (List UInt8)) (hl : wordsL 4 s.data.toList = l) (hk : kindL (l.getD 0 []) = some 5) (w : World) :
    Calls Tryd.prog 9 #[.string s] w fun e w' => e = .returned (rpV (rpL l)) ∧ Below w.heap.size w w' := by
  have WX := Aside0.mk (fun w1 => words5_x s hs l hl w1)
  have AX := Aside0.mk (fun ad cap w1 h1 h2 => kind_q (l.getD 0 []) ad cap w1 h1 h2)
  have HP := Aside0.mk (wordsL_pos hl)
  rw [show kindI (l.getD 0 []) = 5 from by unfold kindI; rw [hk]; rfl] at AX
  have HK := Aside0.mk hk
  clear hs hl hk
  have X0 := Aside0.mk (PS.start w)
  go_enter Tryd.func9, Tryd.ntmps9
  go_wp2_with fail
  refine (WX.out _).mono ?_
  rintro e w1 ⟨g, n, cap, cs, rfl, hn, hgb, hcs, hg0, hb⟩
  have X1 := Aside0.mk (X0.out.words hb hgb hg0)
  have HN := Aside0.mk hn
  have HC := Aside0.mk hcs
  clear hb hgb hg0 hn hcs X0 WX
  obtain ⟨R, hR⟩ : ∃ R, R = w.heap.size := ⟨_, rfl⟩
  rw [← hR] at X1 ⊢
  clear hR
  obtain ⟨x0, hx0⟩ : ∃ x0 : ByteArray, x0 = ⟨(l.getD 0 []).toArray⟩ := ⟨_, rfl⟩
  rw [← hx0] at AX
  have G0 := Aside0.mk (fun (w9 : World) (h : PS w w9 R (R + 1) g cs) => h.word (HC.out 0 _ (getD_some HP.out)))
  rw [← hx0] at G0
  clear hx0
  have hn1 : 0 < n := by rw [HN.out]; exact HP.out
  have hn2 : (0 : Int) < (n : Int) := by omega
  go_wp2_with fail
  have p1 : PS w w1.drew R (R + 1) g cs := X1.out.step (below_drew (Below.refl _ _))
  have p0 : w1.drew.cell? ⟨g, 0, none⟩ = some (.string x0) := G0.out _ p1
  refine start_ (n := 6) (S := fun w' => w'.cell? ⟨g, 0, none⟩ = some (.string x0) ∧ PS w w' R (R + 1) g cs) (ds := []) #[false, false, false, false, false, false] (by kernel_rfl) rfl rfl ⟨p0, p1⟩ (fun hHeld => ?_)
  refine pure_ (i := 1) (N := some 23) (v := ?_) (a' := ?_) #[false, true, false, false, false, false] rfl rfl (by kernel_rfl) (fun _ _ _ h => h) (Or.inl ⟨by rfl, ?_⟩) ?_ ?_
  rotate_left
  · intro w'
    go_simp
    with_reducible rfl
  rotate_left
  · simp only [Act.put, List.setIfInBounds_toArray, List.set_cons_zero, List.set_cons_succ, i64_w, i32_w]
    rfl
  refine pure_ (i := 2) (N := some 24) (v := ?_) (a' := ?_) #[false, true, true, false, false, false] rfl rfl (by kernel_rfl) (fun _ _ _ h => h) (Or.inl ⟨by rfl, ?_⟩) ?_ ?_
  rotate_left
  · intro w'
    go_simp
    with_reducible rfl
  rotate_left
  · simp only [Act.put, List.setIfInBounds_toArray, List.set_cons_zero, List.set_cons_succ, i64_w, i32_w]
    rfl
  refine take_ (i := 3) (N := some 25) (v := ?_) (a' := ?_) #[false, true, true, true, false, false] rfl rfl (by kernel_rfl) (fun _ _ _ h => h) (Or.inl ⟨by rfl, ?_⟩) hHeld ?_ ?_
  rotate_left
  · rintro w' ⟨s0, s1⟩
    go_simp
    with_reducible rfl
  rotate_left
  · simp only [Act.put, List.setIfInBounds_toArray, List.set_cons_zero, List.set_cons_succ, i64_w, i32_w]
    rfl
  refine one_ (i := 0) (N := some 22) #[true, true, true, true, false, false] rfl rfl (by kernel_rfl) (by decide) (fun K hK => ?_)
  refine goes_ Tryd.func16 (by kernel_rfl) rfl #[] (by rfl) rfl rfl (by simp only [List.map_toArray, List.map_cons, List.map_nil]) ?_
  with_reducible refine (kinds_c _).mono ?_
  rintro e w2 ⟨ad, cp2, rfl, hkc, hk7, hb⟩
  refine ⟨_, rfl, ?_⟩
  have HKC := Aside0.mk hkc
  have HK7 := Aside0.mk hk7
  clear hkc hk7
  refine hK.out _ _ ⟨pw_cell_below hb (hHeld.1), (hHeld.2).step hb⟩ (fun hHeld => ?_)
  clear hK K
  refine norm_ (a' := ?_) ?_ ?_
  rotate_left
  · show Act.put _ (some 22) _ = _
    simp only [Act.put, List.setIfInBounds_toArray, List.set_cons_zero, List.set_cons_succ, i64_w, i32_w]
    rfl
  refine one_ (i := 4) (N := some 26) #[true, true, true, true, true, false] rfl rfl (by kernel_rfl) (by decide) (fun K hK => ?_)
  refine goes_ Tryd.func19 (by kernel_rfl) rfl #[.slice (some ad) 7 cp2, .string x0] (by rfl) rfl rfl (by simp only [List.map_toArray, List.map_cons, List.map_nil]; rfl) ?_
  with_reducible refine (AX.out _ _ _ HKC.out HK7.out).mono ?_
  rintro e w3 ⟨rfl, hb⟩
  refine ⟨_, rfl, ?_⟩
  refine hK.out _ _ ⟨pw_cell_below hb (hHeld.1), (hHeld.2).step hb⟩ (fun hHeld => ?_)
  clear hK K
  refine norm_ (a' := ?_) ?_ ?_
  rotate_left
  · show Act.put _ (some 26) _ = _
    simp only [Act.put, List.setIfInBounds_toArray, List.set_cons_zero, List.set_cons_succ, i64_w, i32_w]
    rfl
  refine pure_ (i := 5) (N := some 6) (v := ?_) (a' := ?_) #[true, true, true, true, true, true] rfl rfl (by kernel_rfl) (fun _ _ _ h => h) (Or.inl ⟨by rfl, ?_⟩) ?_ ?_
  rotate_left
  · intro w'
    go_simp
    with_reducible rfl
  rotate_left
  · simp only [Act.put, List.setIfInBounds_toArray, List.set_cons_zero, List.set_cons_succ, i64_w, i32_w]
    rfl
  refine done_ (by kernel_rfl) ?_
  have X3 := Aside0.mk hHeld.2
  clear hHeld p0 p1 X1 HKC HK7 AX
  have X4 := Aside0.mk (X3.out.step (below_alloc (Below.refl _ _) (.cells #[.int .i64 1, .int .i64 2, .int .i64 3, .int .i64 3, .int .i64 3, .int .i64 3, .int .i64 5] 3)))
  have LB := Aside0.mk (blk_new w3 (.cells #[.int .i64 1, .int .i64 2, .int .i64 3, .int .i64 3, .int .i64 3, .int .i64 3, .int .i64 5] 3))
  go_upto_region 5 with (fail)
  obtain ⟨L, hL⟩ : ∃ L, L = w3.heap.size := ⟨_, rfl⟩
  rw [← hL] at LB ⊢
  clear hL X3
  generalize w3.alloc (.cells #[.int .i64 1, .int .i64 2, .int .i64 3, .int .i64 3, .int .i64 3, .int .i64 3, .int .i64 5] 3) = v4 at LB X4 ⊢
  by_cases hlen : l.length = 3
  rotate_left
  · skip
    have hne : ((n : Int) != 3) = true := by rw [bne_iff_ne, HN.out]; omega
    have HQ := Aside0.mk (show rpL l = none from by unfold rpL; rw [HK.out, Option.bind_some]; exact if_neg hlen)
    clear hlen
    have lc : v4.cell? ⟨L, 5, none⟩ = some (.int .i64 3) := (blk_cell LB.out 5).trans rfl
    clear LB
    have nc0 : v4.cell? ⟨R + 1, 0, none⟩ = some (.int .i64 0) := (blk_cell X4.out.nb 0).trans rfl
    have nf0 := blk_frozen X4.out.nb 0
    have nc1 : v4.cell? ⟨R + 1, 1, none⟩ = some (.int .u64 0) := (blk_cell X4.out.nb 1).trans rfl
    have nf1 := blk_frozen X4.out.nb 1
    have nc2 : v4.cell? ⟨R + 1, 2, none⟩ = some (.int .u64 0) := (blk_cell X4.out.nb 2).trans rfl
    have nf2 := blk_frozen X4.out.nb 2
    have nc3 : v4.cell? ⟨R + 1, 3, none⟩ = some (.int .i64 0) := (blk_cell X4.out.nb 3).trans rfl
    have nf3 := blk_frozen X4.out.nb 3
    have nc4 : v4.cell? ⟨R + 1, 4, none⟩ = some (.int .i64 0) := (blk_cell X4.out.nb 4).trans rfl
    have nf4 := blk_frozen X4.out.nb 4
    have nc5 : v4.cell? ⟨R + 1, 5, none⟩ = some (.int .i64 0) := (blk_cell X4.out.nb 5).trans rfl
    have nf5 := blk_frozen X4.out.nb 5
    have nc6 : v4.cell? ⟨R + 1, 6, none⟩ = some (.string ⟨#[]⟩) := (blk_cell X4.out.nb 6).trans rfl
    have nf6 := blk_frozen X4.out.nb 6
    have hRN : ¬ R = R + 1 := by omega
    have hNR : ¬ R + 1 = R := by omega
    have rc0 : v4.cell? ⟨R, 0, none⟩ = some (.int .i64 0) := (blk_cell X4.out.rb 0).trans rfl
    have rf0 := blk_frozen X4.out.rb 0
    have rc1 : v4.cell? ⟨R, 1, none⟩ = some (.int .u64 0) := (blk_cell X4.out.rb 1).trans rfl
    have rf1 := blk_frozen X4.out.rb 1
    have rc2 : v4.cell? ⟨R, 2, none⟩ = some (.int .u64 0) := (blk_cell X4.out.rb 2).trans rfl
    have rf2 := blk_frozen X4.out.rb 2
    have rc3 : v4.cell? ⟨R, 3, none⟩ = some (.int .i64 0) := (blk_cell X4.out.rb 3).trans rfl
    have rf3 := blk_frozen X4.out.rb 3
    have rc4 : v4.cell? ⟨R, 4, none⟩ = some (.int .i64 0) := (blk_cell X4.out.rb 4).trans rfl
    have rf4 := blk_frozen X4.out.rb 4
    have rc5 : v4.cell? ⟨R, 5, none⟩ = some (.int .i64 0) := (blk_cell X4.out.rb 5).trans rfl
    have rf5 := blk_frozen X4.out.rb 5
    have rc6 : v4.cell? ⟨R, 6, none⟩ = some (.string ⟨#[]⟩) := (blk_cell X4.out.rb 6).trans rfl
    have rf6 := blk_frozen X4.out.rb 6
    go_wp2
    clear rc0 rf0 rc1 rf1 rc2 rf2 rc3 rf3 rc4 rf4 rc5 rf5 rc6 rf6
    have FX : (((((((v4.setCell ⟨R, 0, none⟩ (.int .i64 0)).setCell ⟨R, 1, none⟩ (.int .u64 0)).setCell ⟨R, 2, none⟩ (.int .u64 0)).setCell ⟨R, 3, none⟩ (.int .i64 0)).setCell ⟨R, 4, none⟩ (.int .i64 0)).setCell ⟨R, 5, none⟩ (.int .i64 0)).setCell ⟨R, 6, none⟩ (.string ⟨#[]⟩)).heap[R]? = some (.cells #[.int .i64 0, .int .u64 0, .int .u64 0, .int .i64 0, .int .i64 0, .int .i64 0, .string ⟨#[]⟩] 24 (0, 0)) ∧ Below w.heap.size w (((((((v4.setCell ⟨R, 0, none⟩ (.int .i64 0)).setCell ⟨R, 1, none⟩ (.int .u64 0)).setCell ⟨R, 2, none⟩ (.int .u64 0)).setCell ⟨R, 3, none⟩ (.int .i64 0)).setCell ⟨R, 4, none⟩ (.int .i64 0)).setCell ⟨R, 5, none⟩ (.int .i64 0)).setCell ⟨R, 6, none⟩ (.string ⟨#[]⟩)) := X4.out.fill (.int .i64 0) (.int .u64 0) (.int .u64 0) (.int .i64 0) (.int .i64 0) (.int .i64 0) (.string ⟨#[]⟩)
    have hHR : ∃ w9, w9 = (((((((v4.setCell ⟨R, 0, none⟩ (.int .i64 0)).setCell ⟨R, 1, none⟩ (.int .u64 0)).setCell ⟨R, 2, none⟩ (.int .u64 0)).setCell ⟨R, 3, none⟩ (.int .i64 0)).setCell ⟨R, 4, none⟩ (.int .i64 0)).setCell ⟨R, 5, none⟩ (.int .i64 0)).setCell ⟨R, 6, none⟩ (.string ⟨#[]⟩)) := ⟨_, rfl⟩
    obtain ⟨w9, hw9⟩ := hHR
    rw [← hw9] at FX ⊢
    clear hw9
    obtain ⟨FX1, FX2⟩ := FX
    have rc0 : w9.cell? ⟨R, 0, none⟩ = some (.int .i64 0) := (blk_cell FX1 0).trans rfl
    have rc1 : w9.cell? ⟨R, 1, none⟩ = some (.int .u64 0) := (blk_cell FX1 1).trans rfl
    have rc2 : w9.cell? ⟨R, 2, none⟩ = some (.int .u64 0) := (blk_cell FX1 2).trans rfl
    have rc3 : w9.cell? ⟨R, 3, none⟩ = some (.int .i64 0) := (blk_cell FX1 3).trans rfl
    have rc4 : w9.cell? ⟨R, 4, none⟩ = some (.int .i64 0) := (blk_cell FX1 4).trans rfl
    have rc5 : w9.cell? ⟨R, 5, none⟩ = some (.int .i64 0) := (blk_cell FX1 5).trans rfl
    have rc6 : w9.cell? ⟨R, 6, none⟩ = some (.string ⟨#[]⟩) := (blk_cell FX1 6).trans rfl
    refine bodyPost_ret (v := .tuple #[.agg #[.int .i64 0, .int .u64 0, .int .u64 0, .int .i64 0, .int .i64 0, .int .i64 0, .string ⟨#[]⟩], .int .i64 210]) (by simp [results, Tryd.results9, go_sem, rc0, rc1, rc2, rc3, rc4, rc5, rc6]) rfl ⟨?_, FX2⟩
    rw [HQ.out]
    rfl
  obtain rfl : n = 3 := by rw [HN.out]; exact hlen
  have HL := Aside0.mk hlen
  clear hlen HN hn1 hn2 HP
  have lc : v4.cell? ⟨L, 5, none⟩ = some (.int .i64 3) := (blk_cell LB.out 5).trans rfl
  clear LB
  have CB := Aside0.mk (blk_new v4 (.cells #[.int .i64 5, .int .u64 0, .int .u64 0, .int .i64 0, .int .i64 0, .int .i64 0, .string ⟨#[]⟩] 24))
  have X5 := Aside0.mk (X4.out.step (below_alloc (Below.refl _ _) (.cells #[.int .i64 5, .int .u64 0, .int .u64 0, .int .i64 0, .int .i64 0, .int .i64 0, .string ⟨#[]⟩] 24)))
  have HCR := Aside0.mk (show v4.heap.size ≠ R ∧ v4.heap.size ≠ R + 1 ∧ v4.heap.size ≠ g ∧ w.heap.size ≤ v4.heap.size from ⟨(Nat.ne_of_lt (blk_lt X4.out.rb)).symm, (Nat.ne_of_lt (blk_lt X4.out.nb)).symm, (Nat.ne_of_lt (blk_lt X4.out.gb)).symm, X4.out.bel.size⟩)
  go_upto_region 8 with (fail)
  obtain ⟨C, hC⟩ : ∃ C, C = v4.heap.size := ⟨_, rfl⟩
  rw [← hC] at CB HCR ⊢
  clear hC lc X4
  generalize v4.alloc (.cells #[.int .i64 5, .int .u64 0, .int .u64 0, .int .i64 0, .int .i64 0, .int .i64 0, .string ⟨#[]⟩] 24) = v5 at CB X5 ⊢
  obtain ⟨x1, hx1⟩ : ∃ x : ByteArray, x = ⟨(l.getD 1 []).toArray⟩ := ⟨_, rfl⟩
  have G1 := Aside0.mk (fun (w9 : World) (h : PS w w9 R (R + 1) g cs) => h.word (HC.out 1 _ (getD_some (by rw [HL.out]; decide))))
  rw [← hx1] at G1
  have HX1 := Aside0.mk hx1
  clear hx1
  obtain ⟨x2, hx2⟩ : ∃ x : ByteArray, x = ⟨(l.getD 2 []).toArray⟩ := ⟨_, rfl⟩
  have G2 := Aside0.mk (fun (w9 : World) (h : PS w w9 R (R + 1) g cs) => h.word (HC.out 2 _ (getD_some (by rw [HL.out]; decide))))
  rw [← hx2] at G2
  have HX2 := Aside0.mk hx2
  clear hx2
  cases q1 : numL (l.getD 1 []) with
  | none =>
    obtain ⟨m1, N1⟩ := rnum_no q1
    rw [← HX1.out] at N1
    have NX := Aside0.mk N1
    have Q1 := Aside0.mk q1
    clear N1 q1
    have g1 := G1.out _ X5.out
    go_wp2_with fail
    clear g1
    refine (NX.out _).mono ?_
    rintro e v6 ⟨rfl, hb⟩
    replace CB := Aside0.mk ((hb.block _ (blk_lt CB.out)).trans CB.out)
    have X6 := Aside0.mk (X5.out.step hb)
    clear hb X5
    have HQ := Aside0.mk (show rpL l = none from by unfold rpL; rw [HK.out, Option.bind_some, if_pos (show l.length = manyL 5 from HL.out)]; simp [-List.getD_eq_getElem?_getD, Q1.out])
    have nc0 : v6.cell? ⟨R + 1, 0, none⟩ = some (.int .i64 0) := (blk_cell X6.out.nb 0).trans rfl
    have nf0 := blk_frozen X6.out.nb 0
    have nc1 : v6.cell? ⟨R + 1, 1, none⟩ = some (.int .u64 0) := (blk_cell X6.out.nb 1).trans rfl
    have nf1 := blk_frozen X6.out.nb 1
    have nc2 : v6.cell? ⟨R + 1, 2, none⟩ = some (.int .u64 0) := (blk_cell X6.out.nb 2).trans rfl
    have nf2 := blk_frozen X6.out.nb 2
    have nc3 : v6.cell? ⟨R + 1, 3, none⟩ = some (.int .i64 0) := (blk_cell X6.out.nb 3).trans rfl
    have nf3 := blk_frozen X6.out.nb 3
    have nc4 : v6.cell? ⟨R + 1, 4, none⟩ = some (.int .i64 0) := (blk_cell X6.out.nb 4).trans rfl
    have nf4 := blk_frozen X6.out.nb 4
    have nc5 : v6.cell? ⟨R + 1, 5, none⟩ = some (.int .i64 0) := (blk_cell X6.out.nb 5).trans rfl
    have nf5 := blk_frozen X6.out.nb 5
    have nc6 : v6.cell? ⟨R + 1, 6, none⟩ = some (.string ⟨#[]⟩) := (blk_cell X6.out.nb 6).trans rfl
    have nf6 := blk_frozen X6.out.nb 6
    have hRN : ¬ R = R + 1 := by omega
    have hNR : ¬ R + 1 = R := by omega
    have rc0 : v6.cell? ⟨R, 0, none⟩ = some (.int .i64 0) := (blk_cell X6.out.rb 0).trans rfl
    have rf0 := blk_frozen X6.out.rb 0
    have rc1 : v6.cell? ⟨R, 1, none⟩ = some (.int .u64 0) := (blk_cell X6.out.rb 1).trans rfl
    have rf1 := blk_frozen X6.out.rb 1
    have rc2 : v6.cell? ⟨R, 2, none⟩ = some (.int .u64 0) := (blk_cell X6.out.rb 2).trans rfl
    have rf2 := blk_frozen X6.out.rb 2
    have rc3 : v6.cell? ⟨R, 3, none⟩ = some (.int .i64 0) := (blk_cell X6.out.rb 3).trans rfl
    have rf3 := blk_frozen X6.out.rb 3
    have rc4 : v6.cell? ⟨R, 4, none⟩ = some (.int .i64 0) := (blk_cell X6.out.rb 4).trans rfl
    have rf4 := blk_frozen X6.out.rb 4
    have rc5 : v6.cell? ⟨R, 5, none⟩ = some (.int .i64 0) := (blk_cell X6.out.rb 5).trans rfl
    have rf5 := blk_frozen X6.out.rb 5
    have rc6 : v6.cell? ⟨R, 6, none⟩ = some (.string ⟨#[]⟩) := (blk_cell X6.out.rb 6).trans rfl
    have rf6 := blk_frozen X6.out.rb 6
    go_wp2
    clear rc0 rf0 rc1 rf1 rc2 rf2 rc3 rf3 rc4 rf4 rc5 rf5 rc6 rf6
    have FX : (((((((v6.setCell ⟨R, 0, none⟩ (.int .i64 0)).setCell ⟨R, 1, none⟩ (.int .u64 0)).setCell ⟨R, 2, none⟩ (.int .u64 0)).setCell ⟨R, 3, none⟩ (.int .i64 0)).setCell ⟨R, 4, none⟩ (.int .i64 0)).setCell ⟨R, 5, none⟩ (.int .i64 0)).setCell ⟨R, 6, none⟩ (.string ⟨#[]⟩)).heap[R]? = some (.cells #[.int .i64 0, .int .u64 0, .int .u64 0, .int .i64 0, .int .i64 0, .int .i64 0, .string ⟨#[]⟩] 24 (0, 0)) ∧ Below w.heap.size w (((((((v6.setCell ⟨R, 0, none⟩ (.int .i64 0)).setCell ⟨R, 1, none⟩ (.int .u64 0)).setCell ⟨R, 2, none⟩ (.int .u64 0)).setCell ⟨R, 3, none⟩ (.int .i64 0)).setCell ⟨R, 4, none⟩ (.int .i64 0)).setCell ⟨R, 5, none⟩ (.int .i64 0)).setCell ⟨R, 6, none⟩ (.string ⟨#[]⟩)) := X6.out.fill (.int .i64 0) (.int .u64 0) (.int .u64 0) (.int .i64 0) (.int .i64 0) (.int .i64 0) (.string ⟨#[]⟩)
    have hHR : ∃ w9, w9 = (((((((v6.setCell ⟨R, 0, none⟩ (.int .i64 0)).setCell ⟨R, 1, none⟩ (.int .u64 0)).setCell ⟨R, 2, none⟩ (.int .u64 0)).setCell ⟨R, 3, none⟩ (.int .i64 0)).setCell ⟨R, 4, none⟩ (.int .i64 0)).setCell ⟨R, 5, none⟩ (.int .i64 0)).setCell ⟨R, 6, none⟩ (.string ⟨#[]⟩)) := ⟨_, rfl⟩
    obtain ⟨w9, hw9⟩ := hHR
    rw [← hw9] at FX ⊢
    clear hw9
    obtain ⟨FX1, FX2⟩ := FX
    have rc0 : w9.cell? ⟨R, 0, none⟩ = some (.int .i64 0) := (blk_cell FX1 0).trans rfl
    have rc1 : w9.cell? ⟨R, 1, none⟩ = some (.int .u64 0) := (blk_cell FX1 1).trans rfl
    have rc2 : w9.cell? ⟨R, 2, none⟩ = some (.int .u64 0) := (blk_cell FX1 2).trans rfl
    have rc3 : w9.cell? ⟨R, 3, none⟩ = some (.int .i64 0) := (blk_cell FX1 3).trans rfl
    have rc4 : w9.cell? ⟨R, 4, none⟩ = some (.int .i64 0) := (blk_cell FX1 4).trans rfl
    have rc5 : w9.cell? ⟨R, 5, none⟩ = some (.int .i64 0) := (blk_cell FX1 5).trans rfl
    have rc6 : w9.cell? ⟨R, 6, none⟩ = some (.string ⟨#[]⟩) := (blk_cell FX1 6).trans rfl
    refine bodyPost_ret (v := .tuple #[.agg #[.int .i64 0, .int .u64 0, .int .u64 0, .int .i64 0, .int .i64 0, .int .i64 0, .string ⟨#[]⟩], .int .i64 210]) (by simp [results, Tryd.results9, go_sem, rc0, rc1, rc2, rc3, rc4, rc5, rc6]) rfl ⟨?_, FX2⟩
    rw [HQ.out]
    rfl
  | some h1 =>
    have N1 := fun w => rnum_yes q1 w
    rw [← HX1.out] at N1
    have NX := Aside0.mk N1
    have Q1 := Aside0.mk q1
    clear N1 q1
    have g1 := G1.out _ X5.out
    go_wp2_with fail
    clear g1
    refine (NX.out _).mono ?_
    rintro e v6 ⟨rfl, hb⟩
    replace CB := Aside0.mk ((hb.block _ (blk_lt CB.out)).trans CB.out)
    have X6 := Aside0.mk (X5.out.step hb)
    clear hb X5
    clear NX
    have cc := (blk_cell CB.out 1).trans (show _ = some (.int .u64 0) from rfl)
    have cf := blk_frozen CB.out 1
    replace CB := Aside0.mk (show (v6.setCell ⟨C, 1, none⟩ (.int .u64 (h1 : Int))).heap[C]? = some (.cells #[.int .i64 5, .int .u64 (h1 : Int), .int .u64 0, .int .i64 0, .int .i64 0, .int .i64 0, .string ⟨#[]⟩] 24 (0, 0)) from blk_set CB.out 1 _)
    have X7 := Aside0.mk (X6.out.far HCR.out.1 HCR.out.2.1 HCR.out.2.2.1 HCR.out.2.2.2 1 (.int .u64 (h1 : Int)))
    go_upto_region 14 with (fail)
    clear cc cf X6
    generalize v6.setCell ⟨C, 1, none⟩ (.int .u64 (h1 : Int)) = v7 at CB X7 ⊢
    cases q2 : digL 0 (l.getD 2 []) with
    | none =>
      obtain ⟨m2, N2⟩ := rdig_no q2
      rw [← HX2.out] at N2
      have NX : Aside0 (∀ w1, Calls Tryd.prog 21 #[.string x2, .int .i64 0] w1 fun e w' => e = .returned (.tuple #[.int .i64 (m2 : Int), .bool false]) ∧ Below w1.heap.size w1 w') := ⟨N2⟩
      have Q2 := Aside0.mk q2
      clear N2 q2
      have g2 := G2.out _ X7.out
      go_wp2_with fail
      clear g2
      refine (NX.out _).mono ?_
      rintro e v8 ⟨rfl, hb⟩
      replace CB := Aside0.mk ((hb.block _ (blk_lt CB.out)).trans CB.out)
      have X8 := Aside0.mk (X7.out.step hb)
      clear hb X7
      clear NX
      have cc := (blk_cell CB.out 4).trans (show _ = some (.int .i64 0) from rfl)
      have cf := blk_frozen CB.out 4
      replace CB := Aside0.mk (show (v8.setCell ⟨C, 4, none⟩ (.int .i64 (m2 : Int))).heap[C]? = some (.cells #[.int .i64 5, .int .u64 (h1 : Int), .int .u64 0, .int .i64 0, .int .i64 (m2 : Int), .int .i64 0, .string ⟨#[]⟩] 24 (0, 0)) from blk_set CB.out 4 _)
      have X9 := Aside0.mk (X8.out.far HCR.out.1 HCR.out.2.1 HCR.out.2.2.1 HCR.out.2.2.2 4 (.int .i64 (m2 : Int)))
      go_upto_region 29 with (fail)
      clear cc cf X8
      generalize v8.setCell ⟨C, 4, none⟩ (.int .i64 (m2 : Int)) = v9 at CB X9 ⊢
      have HQ := Aside0.mk (show rpL l = none from by unfold rpL; rw [HK.out, Option.bind_some, if_pos (show l.length = manyL 5 from HL.out)]; simp [-List.getD_eq_getElem?_getD, Q1.out, Q2.out])
      have nc0 : v9.cell? ⟨R + 1, 0, none⟩ = some (.int .i64 0) := (blk_cell X9.out.nb 0).trans rfl
      have nf0 := blk_frozen X9.out.nb 0
      have nc1 : v9.cell? ⟨R + 1, 1, none⟩ = some (.int .u64 0) := (blk_cell X9.out.nb 1).trans rfl
      have nf1 := blk_frozen X9.out.nb 1
      have nc2 : v9.cell? ⟨R + 1, 2, none⟩ = some (.int .u64 0) := (blk_cell X9.out.nb 2).trans rfl
      have nf2 := blk_frozen X9.out.nb 2
      have nc3 : v9.cell? ⟨R + 1, 3, none⟩ = some (.int .i64 0) := (blk_cell X9.out.nb 3).trans rfl
      have nf3 := blk_frozen X9.out.nb 3
      have nc4 : v9.cell? ⟨R + 1, 4, none⟩ = some (.int .i64 0) := (blk_cell X9.out.nb 4).trans rfl
      have nf4 := blk_frozen X9.out.nb 4
      have nc5 : v9.cell? ⟨R + 1, 5, none⟩ = some (.int .i64 0) := (blk_cell X9.out.nb 5).trans rfl
      have nf5 := blk_frozen X9.out.nb 5
      have nc6 : v9.cell? ⟨R + 1, 6, none⟩ = some (.string ⟨#[]⟩) := (blk_cell X9.out.nb 6).trans rfl
      have nf6 := blk_frozen X9.out.nb 6
      have hRN : ¬ R = R + 1 := by omega
      have hNR : ¬ R + 1 = R := by omega
      have rc0 : v9.cell? ⟨R, 0, none⟩ = some (.int .i64 0) := (blk_cell X9.out.rb 0).trans rfl
      have rf0 := blk_frozen X9.out.rb 0
      have rc1 : v9.cell? ⟨R, 1, none⟩ = some (.int .u64 0) := (blk_cell X9.out.rb 1).trans rfl
      have rf1 := blk_frozen X9.out.rb 1
      have rc2 : v9.cell? ⟨R, 2, none⟩ = some (.int .u64 0) := (blk_cell X9.out.rb 2).trans rfl
      have rf2 := blk_frozen X9.out.rb 2
      have rc3 : v9.cell? ⟨R, 3, none⟩ = some (.int .i64 0) := (blk_cell X9.out.rb 3).trans rfl
      have rf3 := blk_frozen X9.out.rb 3
      have rc4 : v9.cell? ⟨R, 4, none⟩ = some (.int .i64 0) := (blk_cell X9.out.rb 4).trans rfl
      have rf4 := blk_frozen X9.out.rb 4
      have rc5 : v9.cell? ⟨R, 5, none⟩ = some (.int .i64 0) := (blk_cell X9.out.rb 5).trans rfl
      have rf5 := blk_frozen X9.out.rb 5
      have rc6 : v9.cell? ⟨R, 6, none⟩ = some (.string ⟨#[]⟩) := (blk_cell X9.out.rb 6).trans rfl
      have rf6 := blk_frozen X9.out.rb 6
      go_wp2
      clear rc0 rf0 rc1 rf1 rc2 rf2 rc3 rf3 rc4 rf4 rc5 rf5 rc6 rf6
      have FX : (((((((v9.setCell ⟨R, 0, none⟩ (.int .i64 0)).setCell ⟨R, 1, none⟩ (.int .u64 0)).setCell ⟨R, 2, none⟩ (.int .u64 0)).setCell ⟨R, 3, none⟩ (.int .i64 0)).setCell ⟨R, 4, none⟩ (.int .i64 0)).setCell ⟨R, 5, none⟩ (.int .i64 0)).setCell ⟨R, 6, none⟩ (.string ⟨#[]⟩)).heap[R]? = some (.cells #[.int .i64 0, .int .u64 0, .int .u64 0, .int .i64 0, .int .i64 0, .int .i64 0, .string ⟨#[]⟩] 24 (0, 0)) ∧ Below w.heap.size w (((((((v9.setCell ⟨R, 0, none⟩ (.int .i64 0)).setCell ⟨R, 1, none⟩ (.int .u64 0)).setCell ⟨R, 2, none⟩ (.int .u64 0)).setCell ⟨R, 3, none⟩ (.int .i64 0)).setCell ⟨R, 4, none⟩ (.int .i64 0)).setCell ⟨R, 5, none⟩ (.int .i64 0)).setCell ⟨R, 6, none⟩ (.string ⟨#[]⟩)) := X9.out.fill (.int .i64 0) (.int .u64 0) (.int .u64 0) (.int .i64 0) (.int .i64 0) (.int .i64 0) (.string ⟨#[]⟩)
      have hHR : ∃ w9, w9 = (((((((v9.setCell ⟨R, 0, none⟩ (.int .i64 0)).setCell ⟨R, 1, none⟩ (.int .u64 0)).setCell ⟨R, 2, none⟩ (.int .u64 0)).setCell ⟨R, 3, none⟩ (.int .i64 0)).setCell ⟨R, 4, none⟩ (.int .i64 0)).setCell ⟨R, 5, none⟩ (.int .i64 0)).setCell ⟨R, 6, none⟩ (.string ⟨#[]⟩)) := ⟨_, rfl⟩
      obtain ⟨w9, hw9⟩ := hHR
      rw [← hw9] at FX ⊢
      clear hw9
      obtain ⟨FX1, FX2⟩ := FX
      have rc0 : w9.cell? ⟨R, 0, none⟩ = some (.int .i64 0) := (blk_cell FX1 0).trans rfl
      have rc1 : w9.cell? ⟨R, 1, none⟩ = some (.int .u64 0) := (blk_cell FX1 1).trans rfl
      have rc2 : w9.cell? ⟨R, 2, none⟩ = some (.int .u64 0) := (blk_cell FX1 2).trans rfl
      have rc3 : w9.cell? ⟨R, 3, none⟩ = some (.int .i64 0) := (blk_cell FX1 3).trans rfl
      have rc4 : w9.cell? ⟨R, 4, none⟩ = some (.int .i64 0) := (blk_cell FX1 4).trans rfl
      have rc5 : w9.cell? ⟨R, 5, none⟩ = some (.int .i64 0) := (blk_cell FX1 5).trans rfl
      have rc6 : w9.cell? ⟨R, 6, none⟩ = some (.string ⟨#[]⟩) := (blk_cell FX1 6).trans rfl
      refine bodyPost_ret (v := .tuple #[.agg #[.int .i64 0, .int .u64 0, .int .u64 0, .int .i64 0, .int .i64 0, .int .i64 0, .string ⟨#[]⟩], .int .i64 210]) (by simp [results, Tryd.results9, go_sem, rc0, rc1, rc2, rc3, rc4, rc5, rc6]) rfl ⟨?_, FX2⟩
      rw [HQ.out]
      rfl
    | some h2 =>
      have N2 := fun w => rdig_yes q2 w
      rw [← HX2.out] at N2
      have NX : Aside0 (∀ w1, Calls Tryd.prog 21 #[.string x2, .int .i64 0] w1 fun e w' => e = .returned (.tuple #[.int .i64 (h2 : Int), .bool true]) ∧ Below w1.heap.size w1 w') := ⟨N2⟩
      have Q2 := Aside0.mk q2
      clear N2 q2
      have g2 := G2.out _ X7.out
      go_wp2_with fail
      clear g2
      refine (NX.out _).mono ?_
      rintro e v8 ⟨rfl, hb⟩
      replace CB := Aside0.mk ((hb.block _ (blk_lt CB.out)).trans CB.out)
      have X8 := Aside0.mk (X7.out.step hb)
      clear hb X7
      clear NX
      have cc := (blk_cell CB.out 4).trans (show _ = some (.int .i64 0) from rfl)
      have cf := blk_frozen CB.out 4
      replace CB := Aside0.mk (show (v8.setCell ⟨C, 4, none⟩ (.int .i64 (h2 : Int))).heap[C]? = some (.cells #[.int .i64 5, .int .u64 (h1 : Int), .int .u64 0, .int .i64 0, .int .i64 (h2 : Int), .int .i64 0, .string ⟨#[]⟩] 24 (0, 0)) from blk_set CB.out 4 _)
      have X9 := Aside0.mk (X8.out.far HCR.out.1 HCR.out.2.1 HCR.out.2.2.1 HCR.out.2.2.2 4 (.int .i64 (h2 : Int)))
      go_upto_region 29 with (fail)
      clear cc cf X8
      generalize v8.setCell ⟨C, 4, none⟩ (.int .i64 (h2 : Int)) = v9 at CB X9 ⊢
      have HQ := Aside0.mk (show rpL l = some { z7 with kind := 5, handle := h1, grp := h2 } from by unfold rpL; rw [HK.out, Option.bind_some, if_pos (show l.length = manyL 5 from HL.out)]; simp [-List.getD_eq_getElem?_getD, Q1.out, Q2.out, z7])
      have nc0 : v9.cell? ⟨C, 0, none⟩ = some (.int .i64 5) := (blk_cell CB.out 0).trans rfl
      have nf0 := blk_frozen CB.out 0
      have nc1 : v9.cell? ⟨C, 1, none⟩ = some (.int .u64 (h1 : Int)) := (blk_cell CB.out 1).trans rfl
      have nf1 := blk_frozen CB.out 1
      have nc2 : v9.cell? ⟨C, 2, none⟩ = some (.int .u64 0) := (blk_cell CB.out 2).trans rfl
      have nf2 := blk_frozen CB.out 2
      have nc3 : v9.cell? ⟨C, 3, none⟩ = some (.int .i64 0) := (blk_cell CB.out 3).trans rfl
      have nf3 := blk_frozen CB.out 3
      have nc4 : v9.cell? ⟨C, 4, none⟩ = some (.int .i64 (h2 : Int)) := (blk_cell CB.out 4).trans rfl
      have nf4 := blk_frozen CB.out 4
      have nc5 : v9.cell? ⟨C, 5, none⟩ = some (.int .i64 0) := (blk_cell CB.out 5).trans rfl
      have nf5 := blk_frozen CB.out 5
      have nc6 : v9.cell? ⟨C, 6, none⟩ = some (.string ⟨#[]⟩) := (blk_cell CB.out 6).trans rfl
      have nf6 := blk_frozen CB.out 6
      have hRN : ¬ R = C := fun x => HCR.out.1 x.symm
      have hNR : ¬ C = R := HCR.out.1
      have rc0 : v9.cell? ⟨R, 0, none⟩ = some (.int .i64 0) := (blk_cell X9.out.rb 0).trans rfl
      have rf0 := blk_frozen X9.out.rb 0
      have rc1 : v9.cell? ⟨R, 1, none⟩ = some (.int .u64 0) := (blk_cell X9.out.rb 1).trans rfl
      have rf1 := blk_frozen X9.out.rb 1
      have rc2 : v9.cell? ⟨R, 2, none⟩ = some (.int .u64 0) := (blk_cell X9.out.rb 2).trans rfl
      have rf2 := blk_frozen X9.out.rb 2
      have rc3 : v9.cell? ⟨R, 3, none⟩ = some (.int .i64 0) := (blk_cell X9.out.rb 3).trans rfl
      have rf3 := blk_frozen X9.out.rb 3
      have rc4 : v9.cell? ⟨R, 4, none⟩ = some (.int .i64 0) := (blk_cell X9.out.rb 4).trans rfl
      have rf4 := blk_frozen X9.out.rb 4
      have rc5 : v9.cell? ⟨R, 5, none⟩ = some (.int .i64 0) := (blk_cell X9.out.rb 5).trans rfl
      have rf5 := blk_frozen X9.out.rb 5
      have rc6 : v9.cell? ⟨R, 6, none⟩ = some (.string ⟨#[]⟩) := (blk_cell X9.out.rb 6).trans rfl
      have rf6 := blk_frozen X9.out.rb 6
      go_wp2
      clear rc0 rf0 rc1 rf1 rc2 rf2 rc3 rf3 rc4 rf4 rc5 rf5 rc6 rf6
      have FX : (((((((v9.setCell ⟨R, 0, none⟩ (.int .i64 5)).setCell ⟨R, 1, none⟩ (.int .u64 (h1 : Int))).setCell ⟨R, 2, none⟩ (.int .u64 0)).setCell ⟨R, 3, none⟩ (.int .i64 0)).setCell ⟨R, 4, none⟩ (.int .i64 (h2 : Int))).setCell ⟨R, 5, none⟩ (.int .i64 0)).setCell ⟨R, 6, none⟩ (.string ⟨#[]⟩)).heap[R]? = some (.cells #[.int .i64 5, .int .u64 (h1 : Int), .int .u64 0, .int .i64 0, .int .i64 (h2 : Int), .int .i64 0, .string ⟨#[]⟩] 24 (0, 0)) ∧ Below w.heap.size w (((((((v9.setCell ⟨R, 0, none⟩ (.int .i64 5)).setCell ⟨R, 1, none⟩ (.int .u64 (h1 : Int))).setCell ⟨R, 2, none⟩ (.int .u64 0)).setCell ⟨R, 3, none⟩ (.int .i64 0)).setCell ⟨R, 4, none⟩ (.int .i64 (h2 : Int))).setCell ⟨R, 5, none⟩ (.int .i64 0)).setCell ⟨R, 6, none⟩ (.string ⟨#[]⟩)) := X9.out.fill (.int .i64 5) (.int .u64 (h1 : Int)) (.int .u64 0) (.int .i64 0) (.int .i64 (h2 : Int)) (.int .i64 0) (.string ⟨#[]⟩)
      have hHR : ∃ w9, w9 = (((((((v9.setCell ⟨R, 0, none⟩ (.int .i64 5)).setCell ⟨R, 1, none⟩ (.int .u64 (h1 : Int))).setCell ⟨R, 2, none⟩ (.int .u64 0)).setCell ⟨R, 3, none⟩ (.int .i64 0)).setCell ⟨R, 4, none⟩ (.int .i64 (h2 : Int))).setCell ⟨R, 5, none⟩ (.int .i64 0)).setCell ⟨R, 6, none⟩ (.string ⟨#[]⟩)) := ⟨_, rfl⟩
      obtain ⟨w9, hw9⟩ := hHR
      rw [← hw9] at FX ⊢
      clear hw9
      obtain ⟨FX1, FX2⟩ := FX
      have rc0 : w9.cell? ⟨R, 0, none⟩ = some (.int .i64 5) := (blk_cell FX1 0).trans rfl
      have rc1 : w9.cell? ⟨R, 1, none⟩ = some (.int .u64 (h1 : Int)) := (blk_cell FX1 1).trans rfl
      have rc2 : w9.cell? ⟨R, 2, none⟩ = some (.int .u64 0) := (blk_cell FX1 2).trans rfl
      have rc3 : w9.cell? ⟨R, 3, none⟩ = some (.int .i64 0) := (blk_cell FX1 3).trans rfl
      have rc4 : w9.cell? ⟨R, 4, none⟩ = some (.int .i64 (h2 : Int)) := (blk_cell FX1 4).trans rfl
      have rc5 : w9.cell? ⟨R, 5, none⟩ = some (.int .i64 0) := (blk_cell FX1 5).trans rfl
      have rc6 : w9.cell? ⟨R, 6, none⟩ = some (.string ⟨#[]⟩) := (blk_cell FX1 6).trans rfl
      refine bodyPost_ret (v := .tuple #[.agg #[.int .i64 5, .int .u64 (h1 : Int), .int .u64 0, .int .i64 0, .int .i64 (h2 : Int), .int .i64 0, .string ⟨#[]⟩], .int .i64 0]) (by simp [results, Tryd.results9, go_sem, rc0, rc1, rc2, rc3, rc4, rc5, rc6]) rfl ⟨?_, FX2⟩
      rw [HQ.out]
      rfl
set_option maxRecDepth 100000 in
set_option maxHeartbeats 8000000 in
theorem rparse_6 (s : ByteArray) (hs : s.size ≤ 281474976710656) (l : List (List UInt8)) (hl : wordsL 4 s.data.toList = l) (hk : kindL (l.getD 0 []) = some 6) (w : World) :
    Calls Tryd.prog 9 #[.string s] w fun e w' => e = .returned (rpV (rpL l)) ∧ Below w.heap.size w w' := by
  have WX := Aside0.mk (fun w1 => words5_x s hs l hl w1)
  have AX := Aside0.mk (fun ad cap w1 h1 h2 => kind_q (l.getD 0 []) ad cap w1 h1 h2)
  have HP := Aside0.mk (wordsL_pos hl)
  rw [show kindI (l.getD 0 []) = 6 from by unfold kindI; rw [hk]; rfl] at AX
  have HK := Aside0.mk hk
  clear hs hl hk
  have X0 := Aside0.mk (PS.start w)
  go_enter Tryd.func9, Tryd.ntmps9
  go_wp2_with fail
  refine (WX.out _).mono ?_
  rintro e w1 ⟨g, n, cap, cs, rfl, hn, hgb, hcs, hg0, hb⟩
  have X1 := Aside0.mk (X0.out.words hb hgb hg0)
  have HN := Aside0.mk hn
  have HC := Aside0.mk hcs
  clear hb hgb hg0 hn hcs X0 WX
  obtain ⟨R, hR⟩ : ∃ R, R = w.heap.size := ⟨_, rfl⟩
  rw [← hR] at X1 ⊢
  clear hR
  obtain ⟨x0, hx0⟩ : ∃ x0 : ByteArray, x0 = ⟨(l.getD 0 []).toArray⟩ := ⟨_, rfl⟩
  rw [← hx0] at AX
  have G0 := Aside0.mk (fun (w9 : World) (h : PS w w9 R (R + 1) g cs) => h.word (HC.out 0 _ (getD_some HP.out)))
  rw [← hx0] at G0
  clear hx0
  have hn1 : 0 < n := by rw [HN.out]; exact HP.out
  have hn2 : (0 : Int) < (n : Int) := by omega
  go_wp2_with fail
  have p1 : PS w w1.drew R (R + 1) g cs := X1.out.step (below_drew (Below.refl _ _))
  have p0 : w1.drew.cell? ⟨g, 0, none⟩ = some (.string x0) := G0.out _ p1
  refine start_ (n := 6) (S := fun w' => w'.cell? ⟨g, 0, none⟩ = some (.string x0) ∧ PS w w' R (R + 1) g cs) (ds := []) #[false, false, false, false, false, false] (by kernel_rfl) rfl rfl ⟨p0, p1⟩ (fun hHeld => ?_)
  refine pure_ (i := 1) (N := some 23) (v := ?_) (a' := ?_) #[false, true, false, false, false, false] rfl rfl (by kernel_rfl) (fun _ _ _ h => h) (Or.inl ⟨by rfl, ?_⟩) ?_ ?_
  rotate_left
  · intro w'
    go_simp
    with_reducible rfl
  rotate_left
  · simp only [Act.put, List.setIfInBounds_toArray, List.set_cons_zero, List.set_cons_succ, i64_w, i32_w]
    rfl
  refine pure_ (i := 2) (N := some 24) (v := ?_) (a' := ?_) #[false, true, true, false, false, false] rfl rfl (by kernel_rfl) (fun _ _ _ h => h) (Or.inl ⟨by rfl, ?_⟩) ?_ ?_
  rotate_left
  · intro w'
    go_simp
    with_reducible rfl
  rotate_left
  · simp only [Act.put, List.setIfInBounds_toArray, List.set_cons_zero, List.set_cons_succ, i64_w, i32_w]
    rfl
  refine take_ (i := 3) (N := some 25) (v := ?_) (a' := ?_) #[false, true, true, true, false, false] rfl rfl (by kernel_rfl) (fun _ _ _ h => h) (Or.inl ⟨by rfl, ?_⟩) hHeld ?_ ?_
  rotate_left
  · rintro w' ⟨s0, s1⟩
    go_simp
    with_reducible rfl
  rotate_left
  · simp only [Act.put, List.setIfInBounds_toArray, List.set_cons_zero, List.set_cons_succ, i64_w, i32_w]
    rfl
  refine one_ (i := 0) (N := some 22) #[true, true, true, true, false, false] rfl rfl (by kernel_rfl) (by decide) (fun K hK => ?_)
  refine goes_ Tryd.func16 (by kernel_rfl) rfl #[] (by rfl) rfl rfl (by simp only [List.map_toArray, List.map_cons, List.map_nil]) ?_
  with_reducible refine (kinds_c _).mono ?_
  rintro e w2 ⟨ad, cp2, rfl, hkc, hk7, hb⟩
  refine ⟨_, rfl, ?_⟩
  have HKC := Aside0.mk hkc
  have HK7 := Aside0.mk hk7
  clear hkc hk7
  refine hK.out _ _ ⟨pw_cell_below hb (hHeld.1), (hHeld.2).step hb⟩ (fun hHeld => ?_)
  clear hK K
  refine norm_ (a' := ?_) ?_ ?_
  rotate_left
  · show Act.put _ (some 22) _ = _
    simp only [Act.put, List.setIfInBounds_toArray, List.set_cons_zero, List.set_cons_succ, i64_w, i32_w]
    rfl
  refine one_ (i := 4) (N := some 26) #[true, true, true, true, true, false] rfl rfl (by kernel_rfl) (by decide) (fun K hK => ?_)
  refine goes_ Tryd.func19 (by kernel_rfl) rfl #[.slice (some ad) 7 cp2, .string x0] (by rfl) rfl rfl (by simp only [List.map_toArray, List.map_cons, List.map_nil]; rfl) ?_
  with_reducible refine (AX.out _ _ _ HKC.out HK7.out).mono ?_
  rintro e w3 ⟨rfl, hb⟩
  refine ⟨_, rfl, ?_⟩
  refine hK.out _ _ ⟨pw_cell_below hb (hHeld.1), (hHeld.2).step hb⟩ (fun hHeld => ?_)
  clear hK K
  refine norm_ (a' := ?_) ?_ ?_
  rotate_left
  · show Act.put _ (some 26) _ = _
    simp only [Act.put, List.setIfInBounds_toArray, List.set_cons_zero, List.set_cons_succ, i64_w, i32_w]
    rfl
  refine pure_ (i := 5) (N := some 6) (v := ?_) (a' := ?_) #[true, true, true, true, true, true] rfl rfl (by kernel_rfl) (fun _ _ _ h => h) (Or.inl ⟨by rfl, ?_⟩) ?_ ?_
  rotate_left
  · intro w'
    go_simp
    with_reducible rfl
  rotate_left
  · simp only [Act.put, List.setIfInBounds_toArray, List.set_cons_zero, List.set_cons_succ, i64_w, i32_w]
    rfl
  refine done_ (by kernel_rfl) ?_
  have X3 := Aside0.mk hHeld.2
  clear hHeld p0 p1 X1 HKC HK7 AX
  have X4 := Aside0.mk (X3.out.step (below_alloc (Below.refl _ _) (.cells #[.int .i64 1, .int .i64 2, .int .i64 3, .int .i64 3, .int .i64 3, .int .i64 3, .int .i64 5] 3)))
  have LB := Aside0.mk (blk_new w3 (.cells #[.int .i64 1, .int .i64 2, .int .i64 3, .int .i64 3, .int .i64 3, .int .i64 3, .int .i64 5] 3))
  go_upto_region 5 with (fail)
  obtain ⟨L, hL⟩ : ∃ L, L = w3.heap.size := ⟨_, rfl⟩
  rw [← hL] at LB ⊢
  clear hL X3
  generalize w3.alloc (.cells #[.int .i64 1, .int .i64 2, .int .i64 3, .int .i64 3, .int .i64 3, .int .i64 3, .int .i64 5] 3) = v4 at LB X4 ⊢
  by_cases hlen : l.length = 5
  rotate_left
  · skip
    have hne : ((n : Int) != 5) = true := by rw [bne_iff_ne, HN.out]; omega
    have HQ := Aside0.mk (show rpL l = none from by unfold rpL; rw [HK.out, Option.bind_some]; exact if_neg hlen)
    clear hlen
    have lc : v4.cell? ⟨L, 6, none⟩ = some (.int .i64 5) := (blk_cell LB.out 6).trans rfl
    clear LB
    have nc0 : v4.cell? ⟨R + 1, 0, none⟩ = some (.int .i64 0) := (blk_cell X4.out.nb 0).trans rfl
    have nf0 := blk_frozen X4.out.nb 0
    have nc1 : v4.cell? ⟨R + 1, 1, none⟩ = some (.int .u64 0) := (blk_cell X4.out.nb 1).trans rfl
    have nf1 := blk_frozen X4.out.nb 1
    have nc2 : v4.cell? ⟨R + 1, 2, none⟩ = some (.int .u64 0) := (blk_cell X4.out.nb 2).trans rfl
    have nf2 := blk_frozen X4.out.nb 2
    have nc3 : v4.cell? ⟨R + 1, 3, none⟩ = some (.int .i64 0) := (blk_cell X4.out.nb 3).trans rfl
    have nf3 := blk_frozen X4.out.nb 3
    have nc4 : v4.cell? ⟨R + 1, 4, none⟩ = some (.int .i64 0) := (blk_cell X4.out.nb 4).trans rfl
    have nf4 := blk_frozen X4.out.nb 4
    have nc5 : v4.cell? ⟨R + 1, 5, none⟩ = some (.int .i64 0) := (blk_cell X4.out.nb 5).trans rfl
    have nf5 := blk_frozen X4.out.nb 5
    have nc6 : v4.cell? ⟨R + 1, 6, none⟩ = some (.string ⟨#[]⟩) := (blk_cell X4.out.nb 6).trans rfl
    have nf6 := blk_frozen X4.out.nb 6
    have hRN : ¬ R = R + 1 := by omega
    have hNR : ¬ R + 1 = R := by omega
    have rc0 : v4.cell? ⟨R, 0, none⟩ = some (.int .i64 0) := (blk_cell X4.out.rb 0).trans rfl
    have rf0 := blk_frozen X4.out.rb 0
    have rc1 : v4.cell? ⟨R, 1, none⟩ = some (.int .u64 0) := (blk_cell X4.out.rb 1).trans rfl
    have rf1 := blk_frozen X4.out.rb 1
    have rc2 : v4.cell? ⟨R, 2, none⟩ = some (.int .u64 0) := (blk_cell X4.out.rb 2).trans rfl
    have rf2 := blk_frozen X4.out.rb 2
    have rc3 : v4.cell? ⟨R, 3, none⟩ = some (.int .i64 0) := (blk_cell X4.out.rb 3).trans rfl
    have rf3 := blk_frozen X4.out.rb 3
    have rc4 : v4.cell? ⟨R, 4, none⟩ = some (.int .i64 0) := (blk_cell X4.out.rb 4).trans rfl
    have rf4 := blk_frozen X4.out.rb 4
    have rc5 : v4.cell? ⟨R, 5, none⟩ = some (.int .i64 0) := (blk_cell X4.out.rb 5).trans rfl
    have rf5 := blk_frozen X4.out.rb 5
    have rc6 : v4.cell? ⟨R, 6, none⟩ = some (.string ⟨#[]⟩) := (blk_cell X4.out.rb 6).trans rfl
    have rf6 := blk_frozen X4.out.rb 6
    go_wp2
    clear rc0 rf0 rc1 rf1 rc2 rf2 rc3 rf3 rc4 rf4 rc5 rf5 rc6 rf6
    have FX : (((((((v4.setCell ⟨R, 0, none⟩ (.int .i64 0)).setCell ⟨R, 1, none⟩ (.int .u64 0)).setCell ⟨R, 2, none⟩ (.int .u64 0)).setCell ⟨R, 3, none⟩ (.int .i64 0)).setCell ⟨R, 4, none⟩ (.int .i64 0)).setCell ⟨R, 5, none⟩ (.int .i64 0)).setCell ⟨R, 6, none⟩ (.string ⟨#[]⟩)).heap[R]? = some (.cells #[.int .i64 0, .int .u64 0, .int .u64 0, .int .i64 0, .int .i64 0, .int .i64 0, .string ⟨#[]⟩] 24 (0, 0)) ∧ Below w.heap.size w (((((((v4.setCell ⟨R, 0, none⟩ (.int .i64 0)).setCell ⟨R, 1, none⟩ (.int .u64 0)).setCell ⟨R, 2, none⟩ (.int .u64 0)).setCell ⟨R, 3, none⟩ (.int .i64 0)).setCell ⟨R, 4, none⟩ (.int .i64 0)).setCell ⟨R, 5, none⟩ (.int .i64 0)).setCell ⟨R, 6, none⟩ (.string ⟨#[]⟩)) := X4.out.fill (.int .i64 0) (.int .u64 0) (.int .u64 0) (.int .i64 0) (.int .i64 0) (.int .i64 0) (.string ⟨#[]⟩)
    have hHR : ∃ w9, w9 = (((((((v4.setCell ⟨R, 0, none⟩ (.int .i64 0)).setCell ⟨R, 1, none⟩ (.int .u64 0)).setCell ⟨R, 2, none⟩ (.int .u64 0)).setCell ⟨R, 3, none⟩ (.int .i64 0)).setCell ⟨R, 4, none⟩ (.int .i64 0)).setCell ⟨R, 5, none⟩ (.int .i64 0)).setCell ⟨R, 6, none⟩ (.string ⟨#[]⟩)) := ⟨_, rfl⟩
    obtain ⟨w9, hw9⟩ := hHR
    rw [← hw9] at FX ⊢
    clear hw9
    obtain ⟨FX1, FX2⟩ := FX
    have rc0 : w9.cell? ⟨R, 0, none⟩ = some (.int .i64 0) := (blk_cell FX1 0).trans rfl
    have rc1 : w9.cell? ⟨R, 1, none⟩ = some (.int .u64 0) := (blk_cell FX1 1).trans rfl
    have rc2 : w9.cell? ⟨R, 2, none⟩ = some (.int .u64 0) := (blk_cell FX1 2).trans rfl
    have rc3 : w9.cell? ⟨R, 3, none⟩ = some (.int .i64 0) := (blk_cell FX1 3).trans rfl
    have rc4 : w9.cell? ⟨R, 4, none⟩ = some (.int .i64 0) := (blk_cell FX1 4).trans rfl
    have rc5 : w9.cell? ⟨R, 5, none⟩ = some (.int .i64 0) := (blk_cell FX1 5).trans rfl
    have rc6 : w9.cell? ⟨R, 6, none⟩ = some (.string ⟨#[]⟩) := (blk_cell FX1 6).trans rfl
    refine bodyPost_ret (v := .tuple #[.agg #[.int .i64 0, .int .u64 0, .int .u64 0, .int .i64 0, .int .i64 0, .int .i64 0, .string ⟨#[]⟩], .int .i64 210]) (by simp [results, Tryd.results9, go_sem, rc0, rc1, rc2, rc3, rc4, rc5, rc6]) rfl ⟨?_, FX2⟩
    rw [HQ.out]
    rfl
  obtain rfl : n = 5 := by rw [HN.out]; exact hlen
  have HL := Aside0.mk hlen
  clear hlen HN hn1 hn2 HP
  have lc : v4.cell? ⟨L, 6, none⟩ = some (.int .i64 5) := (blk_cell LB.out 6).trans rfl
  clear LB
  have CB := Aside0.mk (blk_new v4 (.cells #[.int .i64 6, .int .u64 0, .int .u64 0, .int .i64 0, .int .i64 0, .int .i64 0, .string ⟨#[]⟩] 24))
  have X5 := Aside0.mk (X4.out.step (below_alloc (Below.refl _ _) (.cells #[.int .i64 6, .int .u64 0, .int .u64 0, .int .i64 0, .int .i64 0, .int .i64 0, .string ⟨#[]⟩] 24)))
  have HCR := Aside0.mk (show v4.heap.size ≠ R ∧ v4.heap.size ≠ R + 1 ∧ v4.heap.size ≠ g ∧ w.heap.size ≤ v4.heap.size from ⟨(Nat.ne_of_lt (blk_lt X4.out.rb)).symm, (Nat.ne_of_lt (blk_lt X4.out.nb)).symm, (Nat.ne_of_lt (blk_lt X4.out.gb)).symm, X4.out.bel.size⟩)
  go_upto_region 8 with (fail)
  obtain ⟨C, hC⟩ : ∃ C, C = v4.heap.size := ⟨_, rfl⟩
  rw [← hC] at CB HCR ⊢
  clear hC lc X4
  generalize v4.alloc (.cells #[.int .i64 6, .int .u64 0, .int .u64 0, .int .i64 0, .int .i64 0, .int .i64 0, .string ⟨#[]⟩] 24) = v5 at CB X5 ⊢
  obtain ⟨x1, hx1⟩ : ∃ x : ByteArray, x = ⟨(l.getD 1 []).toArray⟩ := ⟨_, rfl⟩
  have G1 := Aside0.mk (fun (w9 : World) (h : PS w w9 R (R + 1) g cs) => h.word (HC.out 1 _ (getD_some (by rw [HL.out]; decide))))
  rw [← hx1] at G1
  have HX1 := Aside0.mk hx1
  clear hx1
  obtain ⟨x2, hx2⟩ : ∃ x : ByteArray, x = ⟨(l.getD 2 []).toArray⟩ := ⟨_, rfl⟩
  have G2 := Aside0.mk (fun (w9 : World) (h : PS w w9 R (R + 1) g cs) => h.word (HC.out 2 _ (getD_some (by rw [HL.out]; decide))))
  rw [← hx2] at G2
  have HX2 := Aside0.mk hx2
  clear hx2
  obtain ⟨x3, hx3⟩ : ∃ x : ByteArray, x = ⟨(l.getD 3 []).toArray⟩ := ⟨_, rfl⟩
  have G3 := Aside0.mk (fun (w9 : World) (h : PS w w9 R (R + 1) g cs) => h.word (HC.out 3 _ (getD_some (by rw [HL.out]; decide))))
  rw [← hx3] at G3
  have HX3 := Aside0.mk hx3
  clear hx3
  obtain ⟨x4, hx4⟩ : ∃ x : ByteArray, x = ⟨(l.getD 4 []).toArray⟩ := ⟨_, rfl⟩
  have G4 := Aside0.mk (fun (w9 : World) (h : PS w w9 R (R + 1) g cs) => h.word (HC.out 4 _ (getD_some (by rw [HL.out]; decide))))
  rw [← hx4] at G4
  have HX4 := Aside0.mk hx4
  clear hx4
  cases q1 : numL (l.getD 1 []) with
  | none =>
    obtain ⟨m1, N1⟩ := rnum_no q1
    rw [← HX1.out] at N1
    have NX := Aside0.mk N1
    have Q1 := Aside0.mk q1
    clear N1 q1
    have g1 := G1.out _ X5.out
    go_wp2_with fail
    clear g1
    refine (NX.out _).mono ?_
    rintro e v6 ⟨rfl, hb⟩
    replace CB := Aside0.mk ((hb.block _ (blk_lt CB.out)).trans CB.out)
    have X6 := Aside0.mk (X5.out.step hb)
    clear hb X5
    have HQ := Aside0.mk (show rpL l = none from by unfold rpL; rw [HK.out, Option.bind_some, if_pos (show l.length = manyL 6 from HL.out)]; simp [-List.getD_eq_getElem?_getD, Q1.out])
    have nc0 : v6.cell? ⟨R + 1, 0, none⟩ = some (.int .i64 0) := (blk_cell X6.out.nb 0).trans rfl
    have nf0 := blk_frozen X6.out.nb 0
    have nc1 : v6.cell? ⟨R + 1, 1, none⟩ = some (.int .u64 0) := (blk_cell X6.out.nb 1).trans rfl
    have nf1 := blk_frozen X6.out.nb 1
    have nc2 : v6.cell? ⟨R + 1, 2, none⟩ = some (.int .u64 0) := (blk_cell X6.out.nb 2).trans rfl
    have nf2 := blk_frozen X6.out.nb 2
    have nc3 : v6.cell? ⟨R + 1, 3, none⟩ = some (.int .i64 0) := (blk_cell X6.out.nb 3).trans rfl
    have nf3 := blk_frozen X6.out.nb 3
    have nc4 : v6.cell? ⟨R + 1, 4, none⟩ = some (.int .i64 0) := (blk_cell X6.out.nb 4).trans rfl
    have nf4 := blk_frozen X6.out.nb 4
    have nc5 : v6.cell? ⟨R + 1, 5, none⟩ = some (.int .i64 0) := (blk_cell X6.out.nb 5).trans rfl
    have nf5 := blk_frozen X6.out.nb 5
    have nc6 : v6.cell? ⟨R + 1, 6, none⟩ = some (.string ⟨#[]⟩) := (blk_cell X6.out.nb 6).trans rfl
    have nf6 := blk_frozen X6.out.nb 6
    have hRN : ¬ R = R + 1 := by omega
    have hNR : ¬ R + 1 = R := by omega
    have rc0 : v6.cell? ⟨R, 0, none⟩ = some (.int .i64 0) := (blk_cell X6.out.rb 0).trans rfl
    have rf0 := blk_frozen X6.out.rb 0
    have rc1 : v6.cell? ⟨R, 1, none⟩ = some (.int .u64 0) := (blk_cell X6.out.rb 1).trans rfl
    have rf1 := blk_frozen X6.out.rb 1
    have rc2 : v6.cell? ⟨R, 2, none⟩ = some (.int .u64 0) := (blk_cell X6.out.rb 2).trans rfl
    have rf2 := blk_frozen X6.out.rb 2
    have rc3 : v6.cell? ⟨R, 3, none⟩ = some (.int .i64 0) := (blk_cell X6.out.rb 3).trans rfl
    have rf3 := blk_frozen X6.out.rb 3
    have rc4 : v6.cell? ⟨R, 4, none⟩ = some (.int .i64 0) := (blk_cell X6.out.rb 4).trans rfl
    have rf4 := blk_frozen X6.out.rb 4
    have rc5 : v6.cell? ⟨R, 5, none⟩ = some (.int .i64 0) := (blk_cell X6.out.rb 5).trans rfl
    have rf5 := blk_frozen X6.out.rb 5
    have rc6 : v6.cell? ⟨R, 6, none⟩ = some (.string ⟨#[]⟩) := (blk_cell X6.out.rb 6).trans rfl
    have rf6 := blk_frozen X6.out.rb 6
    go_wp2
    clear rc0 rf0 rc1 rf1 rc2 rf2 rc3 rf3 rc4 rf4 rc5 rf5 rc6 rf6
    have FX : (((((((v6.setCell ⟨R, 0, none⟩ (.int .i64 0)).setCell ⟨R, 1, none⟩ (.int .u64 0)).setCell ⟨R, 2, none⟩ (.int .u64 0)).setCell ⟨R, 3, none⟩ (.int .i64 0)).setCell ⟨R, 4, none⟩ (.int .i64 0)).setCell ⟨R, 5, none⟩ (.int .i64 0)).setCell ⟨R, 6, none⟩ (.string ⟨#[]⟩)).heap[R]? = some (.cells #[.int .i64 0, .int .u64 0, .int .u64 0, .int .i64 0, .int .i64 0, .int .i64 0, .string ⟨#[]⟩] 24 (0, 0)) ∧ Below w.heap.size w (((((((v6.setCell ⟨R, 0, none⟩ (.int .i64 0)).setCell ⟨R, 1, none⟩ (.int .u64 0)).setCell ⟨R, 2, none⟩ (.int .u64 0)).setCell ⟨R, 3, none⟩ (.int .i64 0)).setCell ⟨R, 4, none⟩ (.int .i64 0)).setCell ⟨R, 5, none⟩ (.int .i64 0)).setCell ⟨R, 6, none⟩ (.string ⟨#[]⟩)) := X6.out.fill (.int .i64 0) (.int .u64 0) (.int .u64 0) (.int .i64 0) (.int .i64 0) (.int .i64 0) (.string ⟨#[]⟩)
    have hHR : ∃ w9, w9 = (((((((v6.setCell ⟨R, 0, none⟩ (.int .i64 0)).setCell ⟨R, 1, none⟩ (.int .u64 0)).setCell ⟨R, 2, none⟩ (.int .u64 0)).setCell ⟨R, 3, none⟩ (.int .i64 0)).setCell ⟨R, 4, none⟩ (.int .i64 0)).setCell ⟨R, 5, none⟩ (.int .i64 0)).setCell ⟨R, 6, none⟩ (.string ⟨#[]⟩)) := ⟨_, rfl⟩
    obtain ⟨w9, hw9⟩ := hHR
    rw [← hw9] at FX ⊢
    clear hw9
    obtain ⟨FX1, FX2⟩ := FX
    have rc0 : w9.cell? ⟨R, 0, none⟩ = some (.int .i64 0) := (blk_cell FX1 0).trans rfl
    have rc1 : w9.cell? ⟨R, 1, none⟩ = some (.int .u64 0) := (blk_cell FX1 1).trans rfl
    have rc2 : w9.cell? ⟨R, 2, none⟩ = some (.int .u64 0) := (blk_cell FX1 2).trans rfl
    have rc3 : w9.cell? ⟨R, 3, none⟩ = some (.int .i64 0) := (blk_cell FX1 3).trans rfl
    have rc4 : w9.cell? ⟨R, 4, none⟩ = some (.int .i64 0) := (blk_cell FX1 4).trans rfl
    have rc5 : w9.cell? ⟨R, 5, none⟩ = some (.int .i64 0) := (blk_cell FX1 5).trans rfl
    have rc6 : w9.cell? ⟨R, 6, none⟩ = some (.string ⟨#[]⟩) := (blk_cell FX1 6).trans rfl
    refine bodyPost_ret (v := .tuple #[.agg #[.int .i64 0, .int .u64 0, .int .u64 0, .int .i64 0, .int .i64 0, .int .i64 0, .string ⟨#[]⟩], .int .i64 210]) (by simp [results, Tryd.results9, go_sem, rc0, rc1, rc2, rc3, rc4, rc5, rc6]) rfl ⟨?_, FX2⟩
    rw [HQ.out]
    rfl
  | some h1 =>
    have N1 := fun w => rnum_yes q1 w
    rw [← HX1.out] at N1
    have NX := Aside0.mk N1
    have Q1 := Aside0.mk q1
    clear N1 q1
    have g1 := G1.out _ X5.out
    go_wp2_with fail
    clear g1
    refine (NX.out _).mono ?_
    rintro e v6 ⟨rfl, hb⟩
    replace CB := Aside0.mk ((hb.block _ (blk_lt CB.out)).trans CB.out)
    have X6 := Aside0.mk (X5.out.step hb)
    clear hb X5
    clear NX
    have cc := (blk_cell CB.out 1).trans (show _ = some (.int .u64 0) from rfl)
    have cf := blk_frozen CB.out 1
    replace CB := Aside0.mk (show (v6.setCell ⟨C, 1, none⟩ (.int .u64 (h1 : Int))).heap[C]? = some (.cells #[.int .i64 6, .int .u64 (h1 : Int), .int .u64 0, .int .i64 0, .int .i64 0, .int .i64 0, .string ⟨#[]⟩] 24 (0, 0)) from blk_set CB.out 1 _)
    have X7 := Aside0.mk (X6.out.far HCR.out.1 HCR.out.2.1 HCR.out.2.2.1 HCR.out.2.2.2 1 (.int .u64 (h1 : Int)))
    go_upto_region 14 with (fail)
    clear cc cf X6
    generalize v6.setCell ⟨C, 1, none⟩ (.int .u64 (h1 : Int)) = v7 at CB X7 ⊢
    cases q2 : digL 0 (l.getD 2 []) with
    | none =>
      obtain ⟨m2, N2⟩ := rdig_no q2
      rw [← HX2.out] at N2
      have NX : Aside0 (∀ w1, Calls Tryd.prog 21 #[.string x2, .int .i64 0] w1 fun e w' => e = .returned (.tuple #[.int .i64 (m2 : Int), .bool false]) ∧ Below w1.heap.size w1 w') := ⟨N2⟩
      have Q2 := Aside0.mk q2
      clear N2 q2
      have g2 := G2.out _ X7.out
      go_wp2_with fail
      clear g2
      refine (NX.out _).mono ?_
      rintro e v8 ⟨rfl, hb⟩
      replace CB := Aside0.mk ((hb.block _ (blk_lt CB.out)).trans CB.out)
      have X8 := Aside0.mk (X7.out.step hb)
      clear hb X7
      clear NX
      have cc := (blk_cell CB.out 4).trans (show _ = some (.int .i64 0) from rfl)
      have cf := blk_frozen CB.out 4
      replace CB := Aside0.mk (show (v8.setCell ⟨C, 4, none⟩ (.int .i64 (m2 : Int))).heap[C]? = some (.cells #[.int .i64 6, .int .u64 (h1 : Int), .int .u64 0, .int .i64 0, .int .i64 (m2 : Int), .int .i64 0, .string ⟨#[]⟩] 24 (0, 0)) from blk_set CB.out 4 _)
      have X9 := Aside0.mk (X8.out.far HCR.out.1 HCR.out.2.1 HCR.out.2.2.1 HCR.out.2.2.2 4 (.int .i64 (m2 : Int)))
      go_upto_region 29 with (fail)
      clear cc cf X8
      generalize v8.setCell ⟨C, 4, none⟩ (.int .i64 (m2 : Int)) = v9 at CB X9 ⊢
      cases q3 : svcAt (l.getD 3 []) with
      | none =>
        have SX := Aside0.mk (fun ad cap w1 h1 h2 => svcq (l.getD 3 []) ad cap w1 h1 h2)
        rw [show svcI (l.getD 3 []) = (-1) from by unfold svcI; rw [q3], ← HX3.out] at SX
        have Q3 := Aside0.mk q3
        clear q3
        have g3 : v9.drew.cell? ⟨g, 3, none⟩ = some (.string x3) := G3.out _ (X9.out.step (below_drew (Below.refl _ _)))
        have p1 : PS w v9.drew R (R + 1) g cs := X9.out.step (below_drew (Below.refl _ _))
        have p2 : v9.drew.heap[C]? = some (.cells #[.int .i64 6, .int .u64 (h1 : Int), .int .u64 0, .int .i64 0, .int .i64 (m2 : Int), .int .i64 0, .string ⟨#[]⟩] 24 (0, 0)) := CB.out
        go_wp2_with fail
        refine start_ (n := 7) (S := fun w' => w'.cell? ⟨g, 3, none⟩ = some (.string x3) ∧ PS w w' R (R + 1) g cs ∧ w'.heap[C]? = some (.cells #[.int .i64 6, .int .u64 (h1 : Int), .int .u64 0, .int .i64 0, .int .i64 (m2 : Int), .int .i64 0, .string ⟨#[]⟩] 24 (0, 0))) (ds := [6]) #[false, false, false, false, false, false, false] (by kernel_rfl) rfl rfl ⟨g3, p1, p2⟩ (fun hHeld => ?_)
        refine pure_ (i := 1) (N := some 99) (v := ?_) (a' := ?_) #[false, true, false, false, false, false, false] rfl rfl (by kernel_rfl) (fun _ _ _ h => h) (Or.inl ⟨by rfl, ?_⟩) ?_ ?_
        rotate_left
        · intro w'
          go_simp
          with_reducible rfl
        rotate_left
        · simp only [Act.put, List.setIfInBounds_toArray, List.set_cons_zero, List.set_cons_succ, i64_w, i32_w]
          rfl
        refine pure_ (i := 2) (N := some 100) (v := ?_) (a' := ?_) #[false, true, true, false, false, false, false] rfl rfl (by kernel_rfl) (fun _ _ _ h => h) (Or.inl ⟨by rfl, ?_⟩) ?_ ?_
        rotate_left
        · intro w'
          go_simp
          with_reducible rfl
        rotate_left
        · simp only [Act.put, List.setIfInBounds_toArray, List.set_cons_zero, List.set_cons_succ, i64_w, i32_w]
          rfl
        refine take_ (i := 3) (N := some 101) (v := ?_) (a' := ?_) #[false, true, true, true, false, false, false] rfl rfl (by kernel_rfl) (fun _ _ _ h => h) (Or.inl ⟨by rfl, ?_⟩) hHeld ?_ ?_
        rotate_left
        · rintro w' ⟨s0, s1, s2⟩
          go_simp
          with_reducible rfl
        rotate_left
        · simp only [Act.put, List.setIfInBounds_toArray, List.set_cons_zero, List.set_cons_succ, i64_w, i32_w]
          rfl
        refine one_ (i := 0) (N := some 98) #[true, true, true, true, false, false, false] rfl rfl (by kernel_rfl) (by decide) (fun K hK => ?_)
        refine goes_ Tryd.func22 (by kernel_rfl) rfl #[] (by rfl) rfl rfl (by simp only [List.map_toArray, List.map_cons, List.map_nil]) ?_
        with_reducible refine (services_c _).mono ?_
        rintro e y1 ⟨ad2, cp3, rfl, hkc, hk7, hb⟩
        refine ⟨_, rfl, ?_⟩
        have HKC := Aside0.mk hkc
        have HK7 := Aside0.mk hk7
        clear hkc hk7
        refine hK.out _ _ ⟨pw_cell_below hb (hHeld.1), (hHeld.2.1).step hb, (hb.block _ (blk_lt hHeld.2.2)).trans hHeld.2.2⟩ (fun hHeld => ?_)
        clear hK K
        refine norm_ (a' := ?_) ?_ ?_
        rotate_left
        · show Act.put _ (some 98) _ = _
          simp only [Act.put, List.setIfInBounds_toArray, List.set_cons_zero, List.set_cons_succ, i64_w, i32_w]
          rfl
        refine one_ (i := 4) (N := some 102) #[true, true, true, true, true, false, false] rfl rfl (by kernel_rfl) (by decide) (fun K hK => ?_)
        refine goes_ Tryd.func19 (by kernel_rfl) rfl #[.slice (some ad2) 4 cp3, .string x3] (by rfl) rfl rfl (by simp only [List.map_toArray, List.map_cons, List.map_nil]; rfl) ?_
        with_reducible refine (SX.out _ _ _ HKC.out HK7.out).mono ?_
        rintro e y2 ⟨rfl, hb⟩
        refine ⟨_, rfl, ?_⟩
        refine hK.out _ _ ⟨pw_cell_below hb (hHeld.1), (hHeld.2.1).step hb, (hb.block _ (blk_lt hHeld.2.2)).trans hHeld.2.2⟩ (fun hHeld => ?_)
        clear hK K
        refine norm_ (a' := ?_) ?_ ?_
        rotate_left
        · show Act.put _ (some 102) _ = _
          simp only [Act.put, List.setIfInBounds_toArray, List.set_cons_zero, List.set_cons_succ, i64_w, i32_w]
          rfl
        refine pure_ (i := 5) (N := some 103) (v := ?_) (a' := ?_) #[true, true, true, true, true, true, false] rfl rfl (by kernel_rfl) (fun _ _ _ h => h) (Or.inl ⟨by rfl, ?_⟩) ?_ ?_
        rotate_left
        · intro w'
          go_simp
          with_reducible rfl
        rotate_left
        · simp only [Act.put, List.setIfInBounds_toArray, List.set_cons_zero, List.set_cons_succ, i64_w, i32_w]
          rfl
        refine last_ (i := 6) (N := none) #[true, true, true, true, true, true, true] rfl rfl (by kernel_rfl) (by decide) (fun K hK => ?_)
        have cc := (blk_cell hHeld.2.2 5).trans (show _ = some (.int .i64 0) from rfl)
        have cf := blk_frozen hHeld.2.2 5
        refine skip_ (w1 := ?_) (by rfl) rfl ?_ ?_
        rotate_left
        · go_simp
          rfl
        refine hK.out _ _ ?_
        clear hK K
        refine done_ (by kernel_rfl) ?_
        have CB2 := Aside0.mk (show (y2.setCell ⟨C, 5, none⟩ (.int .i64 (-1))).heap[C]? = some (.cells #[.int .i64 6, .int .u64 (h1 : Int), .int .u64 0, .int .i64 0, .int .i64 (m2 : Int), .int .i64 (-1), .string ⟨#[]⟩] 24 (0, 0)) from blk_set hHeld.2.2 5 _)
        have X10 := Aside0.mk ((hHeld.2.1).far HCR.out.1 HCR.out.2.1 HCR.out.2.2.1 HCR.out.2.2.2 5 (.int .i64 (-1)))
        clear hHeld g3 p1 p2 CB X9 HKC HK7 SX
        have CB := CB2
        clear CB2
        generalize y2.setCell ⟨C, 5, none⟩ (.int .i64 (-1)) = v10 at CB X10 ⊢
        have g4 := G4.out _ X10.out
        have cc := (blk_cell CB.out 5).trans (show _ = some (.int .i64 (-1)) from rfl)
        have HQ := Aside0.mk (show rpL l = none from by unfold rpL; rw [HK.out, Option.bind_some, if_pos (show l.length = manyL 6 from HL.out)]; simp [-List.getD_eq_getElem?_getD, Q1.out, Q2.out, Q3.out])
        have nc0 : v10.cell? ⟨R + 1, 0, none⟩ = some (.int .i64 0) := (blk_cell X10.out.nb 0).trans rfl
        have nf0 := blk_frozen X10.out.nb 0
        have nc1 : v10.cell? ⟨R + 1, 1, none⟩ = some (.int .u64 0) := (blk_cell X10.out.nb 1).trans rfl
        have nf1 := blk_frozen X10.out.nb 1
        have nc2 : v10.cell? ⟨R + 1, 2, none⟩ = some (.int .u64 0) := (blk_cell X10.out.nb 2).trans rfl
        have nf2 := blk_frozen X10.out.nb 2
        have nc3 : v10.cell? ⟨R + 1, 3, none⟩ = some (.int .i64 0) := (blk_cell X10.out.nb 3).trans rfl
        have nf3 := blk_frozen X10.out.nb 3
        have nc4 : v10.cell? ⟨R + 1, 4, none⟩ = some (.int .i64 0) := (blk_cell X10.out.nb 4).trans rfl
        have nf4 := blk_frozen X10.out.nb 4
        have nc5 : v10.cell? ⟨R + 1, 5, none⟩ = some (.int .i64 0) := (blk_cell X10.out.nb 5).trans rfl
        have nf5 := blk_frozen X10.out.nb 5
        have nc6 : v10.cell? ⟨R + 1, 6, none⟩ = some (.string ⟨#[]⟩) := (blk_cell X10.out.nb 6).trans rfl
        have nf6 := blk_frozen X10.out.nb 6
        have hRN : ¬ R = R + 1 := by omega
        have hNR : ¬ R + 1 = R := by omega
        have rc0 : v10.cell? ⟨R, 0, none⟩ = some (.int .i64 0) := (blk_cell X10.out.rb 0).trans rfl
        have rf0 := blk_frozen X10.out.rb 0
        have rc1 : v10.cell? ⟨R, 1, none⟩ = some (.int .u64 0) := (blk_cell X10.out.rb 1).trans rfl
        have rf1 := blk_frozen X10.out.rb 1
        have rc2 : v10.cell? ⟨R, 2, none⟩ = some (.int .u64 0) := (blk_cell X10.out.rb 2).trans rfl
        have rf2 := blk_frozen X10.out.rb 2
        have rc3 : v10.cell? ⟨R, 3, none⟩ = some (.int .i64 0) := (blk_cell X10.out.rb 3).trans rfl
        have rf3 := blk_frozen X10.out.rb 3
        have rc4 : v10.cell? ⟨R, 4, none⟩ = some (.int .i64 0) := (blk_cell X10.out.rb 4).trans rfl
        have rf4 := blk_frozen X10.out.rb 4
        have rc5 : v10.cell? ⟨R, 5, none⟩ = some (.int .i64 0) := (blk_cell X10.out.rb 5).trans rfl
        have rf5 := blk_frozen X10.out.rb 5
        have rc6 : v10.cell? ⟨R, 6, none⟩ = some (.string ⟨#[]⟩) := (blk_cell X10.out.rb 6).trans rfl
        have rf6 := blk_frozen X10.out.rb 6
        go_wp2
        clear rc0 rf0 rc1 rf1 rc2 rf2 rc3 rf3 rc4 rf4 rc5 rf5 rc6 rf6
        have FX : (((((((v10.setCell ⟨R, 0, none⟩ (.int .i64 0)).setCell ⟨R, 1, none⟩ (.int .u64 0)).setCell ⟨R, 2, none⟩ (.int .u64 0)).setCell ⟨R, 3, none⟩ (.int .i64 0)).setCell ⟨R, 4, none⟩ (.int .i64 0)).setCell ⟨R, 5, none⟩ (.int .i64 0)).setCell ⟨R, 6, none⟩ (.string ⟨#[]⟩)).heap[R]? = some (.cells #[.int .i64 0, .int .u64 0, .int .u64 0, .int .i64 0, .int .i64 0, .int .i64 0, .string ⟨#[]⟩] 24 (0, 0)) ∧ Below w.heap.size w (((((((v10.setCell ⟨R, 0, none⟩ (.int .i64 0)).setCell ⟨R, 1, none⟩ (.int .u64 0)).setCell ⟨R, 2, none⟩ (.int .u64 0)).setCell ⟨R, 3, none⟩ (.int .i64 0)).setCell ⟨R, 4, none⟩ (.int .i64 0)).setCell ⟨R, 5, none⟩ (.int .i64 0)).setCell ⟨R, 6, none⟩ (.string ⟨#[]⟩)) := X10.out.fill (.int .i64 0) (.int .u64 0) (.int .u64 0) (.int .i64 0) (.int .i64 0) (.int .i64 0) (.string ⟨#[]⟩)
        have hHR : ∃ w9, w9 = (((((((v10.setCell ⟨R, 0, none⟩ (.int .i64 0)).setCell ⟨R, 1, none⟩ (.int .u64 0)).setCell ⟨R, 2, none⟩ (.int .u64 0)).setCell ⟨R, 3, none⟩ (.int .i64 0)).setCell ⟨R, 4, none⟩ (.int .i64 0)).setCell ⟨R, 5, none⟩ (.int .i64 0)).setCell ⟨R, 6, none⟩ (.string ⟨#[]⟩)) := ⟨_, rfl⟩
        obtain ⟨w9, hw9⟩ := hHR
        rw [← hw9] at FX ⊢
        clear hw9
        obtain ⟨FX1, FX2⟩ := FX
        have rc0 : w9.cell? ⟨R, 0, none⟩ = some (.int .i64 0) := (blk_cell FX1 0).trans rfl
        have rc1 : w9.cell? ⟨R, 1, none⟩ = some (.int .u64 0) := (blk_cell FX1 1).trans rfl
        have rc2 : w9.cell? ⟨R, 2, none⟩ = some (.int .u64 0) := (blk_cell FX1 2).trans rfl
        have rc3 : w9.cell? ⟨R, 3, none⟩ = some (.int .i64 0) := (blk_cell FX1 3).trans rfl
        have rc4 : w9.cell? ⟨R, 4, none⟩ = some (.int .i64 0) := (blk_cell FX1 4).trans rfl
        have rc5 : w9.cell? ⟨R, 5, none⟩ = some (.int .i64 0) := (blk_cell FX1 5).trans rfl
        have rc6 : w9.cell? ⟨R, 6, none⟩ = some (.string ⟨#[]⟩) := (blk_cell FX1 6).trans rfl
        refine bodyPost_ret (v := .tuple #[.agg #[.int .i64 0, .int .u64 0, .int .u64 0, .int .i64 0, .int .i64 0, .int .i64 0, .string ⟨#[]⟩], .int .i64 210]) (by simp [results, Tryd.results9, go_sem, rc0, rc1, rc2, rc3, rc4, rc5, rc6]) rfl ⟨?_, FX2⟩
        rw [HQ.out]
        rfl
      | some h3 =>
        have SX := Aside0.mk (fun ad cap w1 h1 h2 => svcq (l.getD 3 []) ad cap w1 h1 h2)
        rw [show svcI (l.getD 3 []) = (h3 : Int) from by unfold svcI; rw [q3], ← HX3.out] at SX
        have Q3 := Aside0.mk q3
        clear q3
        have g3 : v9.drew.cell? ⟨g, 3, none⟩ = some (.string x3) := G3.out _ (X9.out.step (below_drew (Below.refl _ _)))
        have p1 : PS w v9.drew R (R + 1) g cs := X9.out.step (below_drew (Below.refl _ _))
        have p2 : v9.drew.heap[C]? = some (.cells #[.int .i64 6, .int .u64 (h1 : Int), .int .u64 0, .int .i64 0, .int .i64 (m2 : Int), .int .i64 0, .string ⟨#[]⟩] 24 (0, 0)) := CB.out
        go_wp2_with fail
        refine start_ (n := 7) (S := fun w' => w'.cell? ⟨g, 3, none⟩ = some (.string x3) ∧ PS w w' R (R + 1) g cs ∧ w'.heap[C]? = some (.cells #[.int .i64 6, .int .u64 (h1 : Int), .int .u64 0, .int .i64 0, .int .i64 (m2 : Int), .int .i64 0, .string ⟨#[]⟩] 24 (0, 0))) (ds := [6]) #[false, false, false, false, false, false, false] (by kernel_rfl) rfl rfl ⟨g3, p1, p2⟩ (fun hHeld => ?_)
        refine pure_ (i := 1) (N := some 99) (v := ?_) (a' := ?_) #[false, true, false, false, false, false, false] rfl rfl (by kernel_rfl) (fun _ _ _ h => h) (Or.inl ⟨by rfl, ?_⟩) ?_ ?_
        rotate_left
        · intro w'
          go_simp
          with_reducible rfl
        rotate_left
        · simp only [Act.put, List.setIfInBounds_toArray, List.set_cons_zero, List.set_cons_succ, i64_w, i32_w]
          rfl
        refine pure_ (i := 2) (N := some 100) (v := ?_) (a' := ?_) #[false, true, true, false, false, false, false] rfl rfl (by kernel_rfl) (fun _ _ _ h => h) (Or.inl ⟨by rfl, ?_⟩) ?_ ?_
        rotate_left
        · intro w'
          go_simp
          with_reducible rfl
        rotate_left
        · simp only [Act.put, List.setIfInBounds_toArray, List.set_cons_zero, List.set_cons_succ, i64_w, i32_w]
          rfl
        refine take_ (i := 3) (N := some 101) (v := ?_) (a' := ?_) #[false, true, true, true, false, false, false] rfl rfl (by kernel_rfl) (fun _ _ _ h => h) (Or.inl ⟨by rfl, ?_⟩) hHeld ?_ ?_
        rotate_left
        · rintro w' ⟨s0, s1, s2⟩
          go_simp
          with_reducible rfl
        rotate_left
        · simp only [Act.put, List.setIfInBounds_toArray, List.set_cons_zero, List.set_cons_succ, i64_w, i32_w]
          rfl
        refine one_ (i := 0) (N := some 98) #[true, true, true, true, false, false, false] rfl rfl (by kernel_rfl) (by decide) (fun K hK => ?_)
        refine goes_ Tryd.func22 (by kernel_rfl) rfl #[] (by rfl) rfl rfl (by simp only [List.map_toArray, List.map_cons, List.map_nil]) ?_
        with_reducible refine (services_c _).mono ?_
        rintro e y1 ⟨ad2, cp3, rfl, hkc, hk7, hb⟩
        refine ⟨_, rfl, ?_⟩
        have HKC := Aside0.mk hkc
        have HK7 := Aside0.mk hk7
        clear hkc hk7
        refine hK.out _ _ ⟨pw_cell_below hb (hHeld.1), (hHeld.2.1).step hb, (hb.block _ (blk_lt hHeld.2.2)).trans hHeld.2.2⟩ (fun hHeld => ?_)
        clear hK K
        refine norm_ (a' := ?_) ?_ ?_
        rotate_left
        · show Act.put _ (some 98) _ = _
          simp only [Act.put, List.setIfInBounds_toArray, List.set_cons_zero, List.set_cons_succ, i64_w, i32_w]
          rfl
        refine one_ (i := 4) (N := some 102) #[true, true, true, true, true, false, false] rfl rfl (by kernel_rfl) (by decide) (fun K hK => ?_)
        refine goes_ Tryd.func19 (by kernel_rfl) rfl #[.slice (some ad2) 4 cp3, .string x3] (by rfl) rfl rfl (by simp only [List.map_toArray, List.map_cons, List.map_nil]; rfl) ?_
        with_reducible refine (SX.out _ _ _ HKC.out HK7.out).mono ?_
        rintro e y2 ⟨rfl, hb⟩
        refine ⟨_, rfl, ?_⟩
        refine hK.out _ _ ⟨pw_cell_below hb (hHeld.1), (hHeld.2.1).step hb, (hb.block _ (blk_lt hHeld.2.2)).trans hHeld.2.2⟩ (fun hHeld => ?_)
        clear hK K
        refine norm_ (a' := ?_) ?_ ?_
        rotate_left
        · show Act.put _ (some 102) _ = _
          simp only [Act.put, List.setIfInBounds_toArray, List.set_cons_zero, List.set_cons_succ, i64_w, i32_w]
          rfl
        refine pure_ (i := 5) (N := some 103) (v := ?_) (a' := ?_) #[true, true, true, true, true, true, false] rfl rfl (by kernel_rfl) (fun _ _ _ h => h) (Or.inl ⟨by rfl, ?_⟩) ?_ ?_
        rotate_left
        · intro w'
          go_simp
          with_reducible rfl
        rotate_left
        · simp only [Act.put, List.setIfInBounds_toArray, List.set_cons_zero, List.set_cons_succ, i64_w, i32_w]
          rfl
        refine last_ (i := 6) (N := none) #[true, true, true, true, true, true, true] rfl rfl (by kernel_rfl) (by decide) (fun K hK => ?_)
        have cc := (blk_cell hHeld.2.2 5).trans (show _ = some (.int .i64 0) from rfl)
        have cf := blk_frozen hHeld.2.2 5
        refine skip_ (w1 := ?_) (by rfl) rfl ?_ ?_
        rotate_left
        · go_simp
          rfl
        refine hK.out _ _ ?_
        clear hK K
        refine done_ (by kernel_rfl) ?_
        have CB2 := Aside0.mk (show (y2.setCell ⟨C, 5, none⟩ (.int .i64 (h3 : Int))).heap[C]? = some (.cells #[.int .i64 6, .int .u64 (h1 : Int), .int .u64 0, .int .i64 0, .int .i64 (m2 : Int), .int .i64 (h3 : Int), .string ⟨#[]⟩] 24 (0, 0)) from blk_set hHeld.2.2 5 _)
        have X10 := Aside0.mk ((hHeld.2.1).far HCR.out.1 HCR.out.2.1 HCR.out.2.2.1 HCR.out.2.2.2 5 (.int .i64 (h3 : Int)))
        clear hHeld g3 p1 p2 CB X9 HKC HK7 SX
        have CB := CB2
        clear CB2
        generalize y2.setCell ⟨C, 5, none⟩ (.int .i64 (h3 : Int)) = v10 at CB X10 ⊢
        have g4 := G4.out _ X10.out
        have cc := (blk_cell CB.out 5).trans (show _ = some (.int .i64 (h3 : Int)) from rfl)
        have HQ := Aside0.mk (show rpL l = none from by unfold rpL; rw [HK.out, Option.bind_some, if_pos (show l.length = manyL 6 from HL.out)]; simp [-List.getD_eq_getElem?_getD, Q1.out, Q2.out, Q3.out])
        have nc0 : v10.cell? ⟨R + 1, 0, none⟩ = some (.int .i64 0) := (blk_cell X10.out.nb 0).trans rfl
        have nf0 := blk_frozen X10.out.nb 0
        have nc1 : v10.cell? ⟨R + 1, 1, none⟩ = some (.int .u64 0) := (blk_cell X10.out.nb 1).trans rfl
        have nf1 := blk_frozen X10.out.nb 1
        have nc2 : v10.cell? ⟨R + 1, 2, none⟩ = some (.int .u64 0) := (blk_cell X10.out.nb 2).trans rfl
        have nf2 := blk_frozen X10.out.nb 2
        have nc3 : v10.cell? ⟨R + 1, 3, none⟩ = some (.int .i64 0) := (blk_cell X10.out.nb 3).trans rfl
        have nf3 := blk_frozen X10.out.nb 3
        have nc4 : v10.cell? ⟨R + 1, 4, none⟩ = some (.int .i64 0) := (blk_cell X10.out.nb 4).trans rfl
        have nf4 := blk_frozen X10.out.nb 4
        have nc5 : v10.cell? ⟨R + 1, 5, none⟩ = some (.int .i64 0) := (blk_cell X10.out.nb 5).trans rfl
        have nf5 := blk_frozen X10.out.nb 5
        have nc6 : v10.cell? ⟨R + 1, 6, none⟩ = some (.string ⟨#[]⟩) := (blk_cell X10.out.nb 6).trans rfl
        have nf6 := blk_frozen X10.out.nb 6
        have hRN : ¬ R = R + 1 := by omega
        have hNR : ¬ R + 1 = R := by omega
        have rc0 : v10.cell? ⟨R, 0, none⟩ = some (.int .i64 0) := (blk_cell X10.out.rb 0).trans rfl
        have rf0 := blk_frozen X10.out.rb 0
        have rc1 : v10.cell? ⟨R, 1, none⟩ = some (.int .u64 0) := (blk_cell X10.out.rb 1).trans rfl
        have rf1 := blk_frozen X10.out.rb 1
        have rc2 : v10.cell? ⟨R, 2, none⟩ = some (.int .u64 0) := (blk_cell X10.out.rb 2).trans rfl
        have rf2 := blk_frozen X10.out.rb 2
        have rc3 : v10.cell? ⟨R, 3, none⟩ = some (.int .i64 0) := (blk_cell X10.out.rb 3).trans rfl
        have rf3 := blk_frozen X10.out.rb 3
        have rc4 : v10.cell? ⟨R, 4, none⟩ = some (.int .i64 0) := (blk_cell X10.out.rb 4).trans rfl
        have rf4 := blk_frozen X10.out.rb 4
        have rc5 : v10.cell? ⟨R, 5, none⟩ = some (.int .i64 0) := (blk_cell X10.out.rb 5).trans rfl
        have rf5 := blk_frozen X10.out.rb 5
        have rc6 : v10.cell? ⟨R, 6, none⟩ = some (.string ⟨#[]⟩) := (blk_cell X10.out.rb 6).trans rfl
        have rf6 := blk_frozen X10.out.rb 6
        go_wp2
        clear rc0 rf0 rc1 rf1 rc2 rf2 rc3 rf3 rc4 rf4 rc5 rf5 rc6 rf6
        have FX : (((((((v10.setCell ⟨R, 0, none⟩ (.int .i64 0)).setCell ⟨R, 1, none⟩ (.int .u64 0)).setCell ⟨R, 2, none⟩ (.int .u64 0)).setCell ⟨R, 3, none⟩ (.int .i64 0)).setCell ⟨R, 4, none⟩ (.int .i64 0)).setCell ⟨R, 5, none⟩ (.int .i64 0)).setCell ⟨R, 6, none⟩ (.string ⟨#[]⟩)).heap[R]? = some (.cells #[.int .i64 0, .int .u64 0, .int .u64 0, .int .i64 0, .int .i64 0, .int .i64 0, .string ⟨#[]⟩] 24 (0, 0)) ∧ Below w.heap.size w (((((((v10.setCell ⟨R, 0, none⟩ (.int .i64 0)).setCell ⟨R, 1, none⟩ (.int .u64 0)).setCell ⟨R, 2, none⟩ (.int .u64 0)).setCell ⟨R, 3, none⟩ (.int .i64 0)).setCell ⟨R, 4, none⟩ (.int .i64 0)).setCell ⟨R, 5, none⟩ (.int .i64 0)).setCell ⟨R, 6, none⟩ (.string ⟨#[]⟩)) := X10.out.fill (.int .i64 0) (.int .u64 0) (.int .u64 0) (.int .i64 0) (.int .i64 0) (.int .i64 0) (.string ⟨#[]⟩)
        have hHR : ∃ w9, w9 = (((((((v10.setCell ⟨R, 0, none⟩ (.int .i64 0)).setCell ⟨R, 1, none⟩ (.int .u64 0)).setCell ⟨R, 2, none⟩ (.int .u64 0)).setCell ⟨R, 3, none⟩ (.int .i64 0)).setCell ⟨R, 4, none⟩ (.int .i64 0)).setCell ⟨R, 5, none⟩ (.int .i64 0)).setCell ⟨R, 6, none⟩ (.string ⟨#[]⟩)) := ⟨_, rfl⟩
        obtain ⟨w9, hw9⟩ := hHR
        rw [← hw9] at FX ⊢
        clear hw9
        obtain ⟨FX1, FX2⟩ := FX
        have rc0 : w9.cell? ⟨R, 0, none⟩ = some (.int .i64 0) := (blk_cell FX1 0).trans rfl
        have rc1 : w9.cell? ⟨R, 1, none⟩ = some (.int .u64 0) := (blk_cell FX1 1).trans rfl
        have rc2 : w9.cell? ⟨R, 2, none⟩ = some (.int .u64 0) := (blk_cell FX1 2).trans rfl
        have rc3 : w9.cell? ⟨R, 3, none⟩ = some (.int .i64 0) := (blk_cell FX1 3).trans rfl
        have rc4 : w9.cell? ⟨R, 4, none⟩ = some (.int .i64 0) := (blk_cell FX1 4).trans rfl
        have rc5 : w9.cell? ⟨R, 5, none⟩ = some (.int .i64 0) := (blk_cell FX1 5).trans rfl
        have rc6 : w9.cell? ⟨R, 6, none⟩ = some (.string ⟨#[]⟩) := (blk_cell FX1 6).trans rfl
        refine bodyPost_ret (v := .tuple #[.agg #[.int .i64 0, .int .u64 0, .int .u64 0, .int .i64 0, .int .i64 0, .int .i64 0, .string ⟨#[]⟩], .int .i64 210]) (by simp [results, Tryd.results9, go_sem, rc0, rc1, rc2, rc3, rc4, rc5, rc6]) rfl ⟨?_, FX2⟩
        rw [HQ.out]
        rfl
    | some h2 =>
      have N2 := fun w => rdig_yes q2 w
      rw [← HX2.out] at N2
      have NX : Aside0 (∀ w1, Calls Tryd.prog 21 #[.string x2, .int .i64 0] w1 fun e w' => e = .returned (.tuple #[.int .i64 (h2 : Int), .bool true]) ∧ Below w1.heap.size w1 w') := ⟨N2⟩
      have Q2 := Aside0.mk q2
      clear N2 q2
      have g2 := G2.out _ X7.out
      go_wp2_with fail
      clear g2
      refine (NX.out _).mono ?_
      rintro e v8 ⟨rfl, hb⟩
      replace CB := Aside0.mk ((hb.block _ (blk_lt CB.out)).trans CB.out)
      have X8 := Aside0.mk (X7.out.step hb)
      clear hb X7
      clear NX
      have cc := (blk_cell CB.out 4).trans (show _ = some (.int .i64 0) from rfl)
      have cf := blk_frozen CB.out 4
      replace CB := Aside0.mk (show (v8.setCell ⟨C, 4, none⟩ (.int .i64 (h2 : Int))).heap[C]? = some (.cells #[.int .i64 6, .int .u64 (h1 : Int), .int .u64 0, .int .i64 0, .int .i64 (h2 : Int), .int .i64 0, .string ⟨#[]⟩] 24 (0, 0)) from blk_set CB.out 4 _)
      have X9 := Aside0.mk (X8.out.far HCR.out.1 HCR.out.2.1 HCR.out.2.2.1 HCR.out.2.2.2 4 (.int .i64 (h2 : Int)))
      go_upto_region 29 with (fail)
      clear cc cf X8
      generalize v8.setCell ⟨C, 4, none⟩ (.int .i64 (h2 : Int)) = v9 at CB X9 ⊢
      cases q3 : svcAt (l.getD 3 []) with
      | none =>
        have SX := Aside0.mk (fun ad cap w1 h1 h2 => svcq (l.getD 3 []) ad cap w1 h1 h2)
        rw [show svcI (l.getD 3 []) = (-1) from by unfold svcI; rw [q3], ← HX3.out] at SX
        have Q3 := Aside0.mk q3
        clear q3
        have g3 : v9.drew.cell? ⟨g, 3, none⟩ = some (.string x3) := G3.out _ (X9.out.step (below_drew (Below.refl _ _)))
        have p1 : PS w v9.drew R (R + 1) g cs := X9.out.step (below_drew (Below.refl _ _))
        have p2 : v9.drew.heap[C]? = some (.cells #[.int .i64 6, .int .u64 (h1 : Int), .int .u64 0, .int .i64 0, .int .i64 (h2 : Int), .int .i64 0, .string ⟨#[]⟩] 24 (0, 0)) := CB.out
        go_wp2_with fail
        refine start_ (n := 7) (S := fun w' => w'.cell? ⟨g, 3, none⟩ = some (.string x3) ∧ PS w w' R (R + 1) g cs ∧ w'.heap[C]? = some (.cells #[.int .i64 6, .int .u64 (h1 : Int), .int .u64 0, .int .i64 0, .int .i64 (h2 : Int), .int .i64 0, .string ⟨#[]⟩] 24 (0, 0))) (ds := [6]) #[false, false, false, false, false, false, false] (by kernel_rfl) rfl rfl ⟨g3, p1, p2⟩ (fun hHeld => ?_)
        refine pure_ (i := 1) (N := some 99) (v := ?_) (a' := ?_) #[false, true, false, false, false, false, false] rfl rfl (by kernel_rfl) (fun _ _ _ h => h) (Or.inl ⟨by rfl, ?_⟩) ?_ ?_
        rotate_left
        · intro w'
          go_simp
          with_reducible rfl
        rotate_left
        · simp only [Act.put, List.setIfInBounds_toArray, List.set_cons_zero, List.set_cons_succ, i64_w, i32_w]
          rfl
        refine pure_ (i := 2) (N := some 100) (v := ?_) (a' := ?_) #[false, true, true, false, false, false, false] rfl rfl (by kernel_rfl) (fun _ _ _ h => h) (Or.inl ⟨by rfl, ?_⟩) ?_ ?_
        rotate_left
        · intro w'
          go_simp
          with_reducible rfl
        rotate_left
        · simp only [Act.put, List.setIfInBounds_toArray, List.set_cons_zero, List.set_cons_succ, i64_w, i32_w]
          rfl
        refine take_ (i := 3) (N := some 101) (v := ?_) (a' := ?_) #[false, true, true, true, false, false, false] rfl rfl (by kernel_rfl) (fun _ _ _ h => h) (Or.inl ⟨by rfl, ?_⟩) hHeld ?_ ?_
        rotate_left
        · rintro w' ⟨s0, s1, s2⟩
          go_simp
          with_reducible rfl
        rotate_left
        · simp only [Act.put, List.setIfInBounds_toArray, List.set_cons_zero, List.set_cons_succ, i64_w, i32_w]
          rfl
        refine one_ (i := 0) (N := some 98) #[true, true, true, true, false, false, false] rfl rfl (by kernel_rfl) (by decide) (fun K hK => ?_)
        refine goes_ Tryd.func22 (by kernel_rfl) rfl #[] (by rfl) rfl rfl (by simp only [List.map_toArray, List.map_cons, List.map_nil]) ?_
        with_reducible refine (services_c _).mono ?_
        rintro e y1 ⟨ad2, cp3, rfl, hkc, hk7, hb⟩
        refine ⟨_, rfl, ?_⟩
        have HKC := Aside0.mk hkc
        have HK7 := Aside0.mk hk7
        clear hkc hk7
        refine hK.out _ _ ⟨pw_cell_below hb (hHeld.1), (hHeld.2.1).step hb, (hb.block _ (blk_lt hHeld.2.2)).trans hHeld.2.2⟩ (fun hHeld => ?_)
        clear hK K
        refine norm_ (a' := ?_) ?_ ?_
        rotate_left
        · show Act.put _ (some 98) _ = _
          simp only [Act.put, List.setIfInBounds_toArray, List.set_cons_zero, List.set_cons_succ, i64_w, i32_w]
          rfl
        refine one_ (i := 4) (N := some 102) #[true, true, true, true, true, false, false] rfl rfl (by kernel_rfl) (by decide) (fun K hK => ?_)
        refine goes_ Tryd.func19 (by kernel_rfl) rfl #[.slice (some ad2) 4 cp3, .string x3] (by rfl) rfl rfl (by simp only [List.map_toArray, List.map_cons, List.map_nil]; rfl) ?_
        with_reducible refine (SX.out _ _ _ HKC.out HK7.out).mono ?_
        rintro e y2 ⟨rfl, hb⟩
        refine ⟨_, rfl, ?_⟩
        refine hK.out _ _ ⟨pw_cell_below hb (hHeld.1), (hHeld.2.1).step hb, (hb.block _ (blk_lt hHeld.2.2)).trans hHeld.2.2⟩ (fun hHeld => ?_)
        clear hK K
        refine norm_ (a' := ?_) ?_ ?_
        rotate_left
        · show Act.put _ (some 102) _ = _
          simp only [Act.put, List.setIfInBounds_toArray, List.set_cons_zero, List.set_cons_succ, i64_w, i32_w]
          rfl
        refine pure_ (i := 5) (N := some 103) (v := ?_) (a' := ?_) #[true, true, true, true, true, true, false] rfl rfl (by kernel_rfl) (fun _ _ _ h => h) (Or.inl ⟨by rfl, ?_⟩) ?_ ?_
        rotate_left
        · intro w'
          go_simp
          with_reducible rfl
        rotate_left
        · simp only [Act.put, List.setIfInBounds_toArray, List.set_cons_zero, List.set_cons_succ, i64_w, i32_w]
          rfl
        refine last_ (i := 6) (N := none) #[true, true, true, true, true, true, true] rfl rfl (by kernel_rfl) (by decide) (fun K hK => ?_)
        have cc := (blk_cell hHeld.2.2 5).trans (show _ = some (.int .i64 0) from rfl)
        have cf := blk_frozen hHeld.2.2 5
        refine skip_ (w1 := ?_) (by rfl) rfl ?_ ?_
        rotate_left
        · go_simp
          rfl
        refine hK.out _ _ ?_
        clear hK K
        refine done_ (by kernel_rfl) ?_
        have CB2 := Aside0.mk (show (y2.setCell ⟨C, 5, none⟩ (.int .i64 (-1))).heap[C]? = some (.cells #[.int .i64 6, .int .u64 (h1 : Int), .int .u64 0, .int .i64 0, .int .i64 (h2 : Int), .int .i64 (-1), .string ⟨#[]⟩] 24 (0, 0)) from blk_set hHeld.2.2 5 _)
        have X10 := Aside0.mk ((hHeld.2.1).far HCR.out.1 HCR.out.2.1 HCR.out.2.2.1 HCR.out.2.2.2 5 (.int .i64 (-1)))
        clear hHeld g3 p1 p2 CB X9 HKC HK7 SX
        have CB := CB2
        clear CB2
        generalize y2.setCell ⟨C, 5, none⟩ (.int .i64 (-1)) = v10 at CB X10 ⊢
        have g4 := G4.out _ X10.out
        have cc := (blk_cell CB.out 5).trans (show _ = some (.int .i64 (-1)) from rfl)
        have HQ := Aside0.mk (show rpL l = none from by unfold rpL; rw [HK.out, Option.bind_some, if_pos (show l.length = manyL 6 from HL.out)]; simp [-List.getD_eq_getElem?_getD, Q1.out, Q2.out, Q3.out])
        have nc0 : v10.cell? ⟨R + 1, 0, none⟩ = some (.int .i64 0) := (blk_cell X10.out.nb 0).trans rfl
        have nf0 := blk_frozen X10.out.nb 0
        have nc1 : v10.cell? ⟨R + 1, 1, none⟩ = some (.int .u64 0) := (blk_cell X10.out.nb 1).trans rfl
        have nf1 := blk_frozen X10.out.nb 1
        have nc2 : v10.cell? ⟨R + 1, 2, none⟩ = some (.int .u64 0) := (blk_cell X10.out.nb 2).trans rfl
        have nf2 := blk_frozen X10.out.nb 2
        have nc3 : v10.cell? ⟨R + 1, 3, none⟩ = some (.int .i64 0) := (blk_cell X10.out.nb 3).trans rfl
        have nf3 := blk_frozen X10.out.nb 3
        have nc4 : v10.cell? ⟨R + 1, 4, none⟩ = some (.int .i64 0) := (blk_cell X10.out.nb 4).trans rfl
        have nf4 := blk_frozen X10.out.nb 4
        have nc5 : v10.cell? ⟨R + 1, 5, none⟩ = some (.int .i64 0) := (blk_cell X10.out.nb 5).trans rfl
        have nf5 := blk_frozen X10.out.nb 5
        have nc6 : v10.cell? ⟨R + 1, 6, none⟩ = some (.string ⟨#[]⟩) := (blk_cell X10.out.nb 6).trans rfl
        have nf6 := blk_frozen X10.out.nb 6
        have hRN : ¬ R = R + 1 := by omega
        have hNR : ¬ R + 1 = R := by omega
        have rc0 : v10.cell? ⟨R, 0, none⟩ = some (.int .i64 0) := (blk_cell X10.out.rb 0).trans rfl
        have rf0 := blk_frozen X10.out.rb 0
        have rc1 : v10.cell? ⟨R, 1, none⟩ = some (.int .u64 0) := (blk_cell X10.out.rb 1).trans rfl
        have rf1 := blk_frozen X10.out.rb 1
        have rc2 : v10.cell? ⟨R, 2, none⟩ = some (.int .u64 0) := (blk_cell X10.out.rb 2).trans rfl
        have rf2 := blk_frozen X10.out.rb 2
        have rc3 : v10.cell? ⟨R, 3, none⟩ = some (.int .i64 0) := (blk_cell X10.out.rb 3).trans rfl
        have rf3 := blk_frozen X10.out.rb 3
        have rc4 : v10.cell? ⟨R, 4, none⟩ = some (.int .i64 0) := (blk_cell X10.out.rb 4).trans rfl
        have rf4 := blk_frozen X10.out.rb 4
        have rc5 : v10.cell? ⟨R, 5, none⟩ = some (.int .i64 0) := (blk_cell X10.out.rb 5).trans rfl
        have rf5 := blk_frozen X10.out.rb 5
        have rc6 : v10.cell? ⟨R, 6, none⟩ = some (.string ⟨#[]⟩) := (blk_cell X10.out.rb 6).trans rfl
        have rf6 := blk_frozen X10.out.rb 6
        go_wp2
        clear rc0 rf0 rc1 rf1 rc2 rf2 rc3 rf3 rc4 rf4 rc5 rf5 rc6 rf6
        have FX : (((((((v10.setCell ⟨R, 0, none⟩ (.int .i64 0)).setCell ⟨R, 1, none⟩ (.int .u64 0)).setCell ⟨R, 2, none⟩ (.int .u64 0)).setCell ⟨R, 3, none⟩ (.int .i64 0)).setCell ⟨R, 4, none⟩ (.int .i64 0)).setCell ⟨R, 5, none⟩ (.int .i64 0)).setCell ⟨R, 6, none⟩ (.string ⟨#[]⟩)).heap[R]? = some (.cells #[.int .i64 0, .int .u64 0, .int .u64 0, .int .i64 0, .int .i64 0, .int .i64 0, .string ⟨#[]⟩] 24 (0, 0)) ∧ Below w.heap.size w (((((((v10.setCell ⟨R, 0, none⟩ (.int .i64 0)).setCell ⟨R, 1, none⟩ (.int .u64 0)).setCell ⟨R, 2, none⟩ (.int .u64 0)).setCell ⟨R, 3, none⟩ (.int .i64 0)).setCell ⟨R, 4, none⟩ (.int .i64 0)).setCell ⟨R, 5, none⟩ (.int .i64 0)).setCell ⟨R, 6, none⟩ (.string ⟨#[]⟩)) := X10.out.fill (.int .i64 0) (.int .u64 0) (.int .u64 0) (.int .i64 0) (.int .i64 0) (.int .i64 0) (.string ⟨#[]⟩)
        have hHR : ∃ w9, w9 = (((((((v10.setCell ⟨R, 0, none⟩ (.int .i64 0)).setCell ⟨R, 1, none⟩ (.int .u64 0)).setCell ⟨R, 2, none⟩ (.int .u64 0)).setCell ⟨R, 3, none⟩ (.int .i64 0)).setCell ⟨R, 4, none⟩ (.int .i64 0)).setCell ⟨R, 5, none⟩ (.int .i64 0)).setCell ⟨R, 6, none⟩ (.string ⟨#[]⟩)) := ⟨_, rfl⟩
        obtain ⟨w9, hw9⟩ := hHR
        rw [← hw9] at FX ⊢
        clear hw9
        obtain ⟨FX1, FX2⟩ := FX
        have rc0 : w9.cell? ⟨R, 0, none⟩ = some (.int .i64 0) := (blk_cell FX1 0).trans rfl
        have rc1 : w9.cell? ⟨R, 1, none⟩ = some (.int .u64 0) := (blk_cell FX1 1).trans rfl
        have rc2 : w9.cell? ⟨R, 2, none⟩ = some (.int .u64 0) := (blk_cell FX1 2).trans rfl
        have rc3 : w9.cell? ⟨R, 3, none⟩ = some (.int .i64 0) := (blk_cell FX1 3).trans rfl
        have rc4 : w9.cell? ⟨R, 4, none⟩ = some (.int .i64 0) := (blk_cell FX1 4).trans rfl
        have rc5 : w9.cell? ⟨R, 5, none⟩ = some (.int .i64 0) := (blk_cell FX1 5).trans rfl
        have rc6 : w9.cell? ⟨R, 6, none⟩ = some (.string ⟨#[]⟩) := (blk_cell FX1 6).trans rfl
        refine bodyPost_ret (v := .tuple #[.agg #[.int .i64 0, .int .u64 0, .int .u64 0, .int .i64 0, .int .i64 0, .int .i64 0, .string ⟨#[]⟩], .int .i64 210]) (by simp [results, Tryd.results9, go_sem, rc0, rc1, rc2, rc3, rc4, rc5, rc6]) rfl ⟨?_, FX2⟩
        rw [HQ.out]
        rfl
      | some h3 =>
        have SX := Aside0.mk (fun ad cap w1 h1 h2 => svcq (l.getD 3 []) ad cap w1 h1 h2)
        rw [show svcI (l.getD 3 []) = (h3 : Int) from by unfold svcI; rw [q3], ← HX3.out] at SX
        have Q3 := Aside0.mk q3
        clear q3
        have g3 : v9.drew.cell? ⟨g, 3, none⟩ = some (.string x3) := G3.out _ (X9.out.step (below_drew (Below.refl _ _)))
        have p1 : PS w v9.drew R (R + 1) g cs := X9.out.step (below_drew (Below.refl _ _))
        have p2 : v9.drew.heap[C]? = some (.cells #[.int .i64 6, .int .u64 (h1 : Int), .int .u64 0, .int .i64 0, .int .i64 (h2 : Int), .int .i64 0, .string ⟨#[]⟩] 24 (0, 0)) := CB.out
        go_wp2_with fail
        refine start_ (n := 7) (S := fun w' => w'.cell? ⟨g, 3, none⟩ = some (.string x3) ∧ PS w w' R (R + 1) g cs ∧ w'.heap[C]? = some (.cells #[.int .i64 6, .int .u64 (h1 : Int), .int .u64 0, .int .i64 0, .int .i64 (h2 : Int), .int .i64 0, .string ⟨#[]⟩] 24 (0, 0))) (ds := [6]) #[false, false, false, false, false, false, false] (by kernel_rfl) rfl rfl ⟨g3, p1, p2⟩ (fun hHeld => ?_)
        refine pure_ (i := 1) (N := some 99) (v := ?_) (a' := ?_) #[false, true, false, false, false, false, false] rfl rfl (by kernel_rfl) (fun _ _ _ h => h) (Or.inl ⟨by rfl, ?_⟩) ?_ ?_
        rotate_left
        · intro w'
          go_simp
          with_reducible rfl
        rotate_left
        · simp only [Act.put, List.setIfInBounds_toArray, List.set_cons_zero, List.set_cons_succ, i64_w, i32_w]
          rfl
        refine pure_ (i := 2) (N := some 100) (v := ?_) (a' := ?_) #[false, true, true, false, false, false, false] rfl rfl (by kernel_rfl) (fun _ _ _ h => h) (Or.inl ⟨by rfl, ?_⟩) ?_ ?_
        rotate_left
        · intro w'
          go_simp
          with_reducible rfl
        rotate_left
        · simp only [Act.put, List.setIfInBounds_toArray, List.set_cons_zero, List.set_cons_succ, i64_w, i32_w]
          rfl
        refine take_ (i := 3) (N := some 101) (v := ?_) (a' := ?_) #[false, true, true, true, false, false, false] rfl rfl (by kernel_rfl) (fun _ _ _ h => h) (Or.inl ⟨by rfl, ?_⟩) hHeld ?_ ?_
        rotate_left
        · rintro w' ⟨s0, s1, s2⟩
          go_simp
          with_reducible rfl
        rotate_left
        · simp only [Act.put, List.setIfInBounds_toArray, List.set_cons_zero, List.set_cons_succ, i64_w, i32_w]
          rfl
        refine one_ (i := 0) (N := some 98) #[true, true, true, true, false, false, false] rfl rfl (by kernel_rfl) (by decide) (fun K hK => ?_)
        refine goes_ Tryd.func22 (by kernel_rfl) rfl #[] (by rfl) rfl rfl (by simp only [List.map_toArray, List.map_cons, List.map_nil]) ?_
        with_reducible refine (services_c _).mono ?_
        rintro e y1 ⟨ad2, cp3, rfl, hkc, hk7, hb⟩
        refine ⟨_, rfl, ?_⟩
        have HKC := Aside0.mk hkc
        have HK7 := Aside0.mk hk7
        clear hkc hk7
        refine hK.out _ _ ⟨pw_cell_below hb (hHeld.1), (hHeld.2.1).step hb, (hb.block _ (blk_lt hHeld.2.2)).trans hHeld.2.2⟩ (fun hHeld => ?_)
        clear hK K
        refine norm_ (a' := ?_) ?_ ?_
        rotate_left
        · show Act.put _ (some 98) _ = _
          simp only [Act.put, List.setIfInBounds_toArray, List.set_cons_zero, List.set_cons_succ, i64_w, i32_w]
          rfl
        refine one_ (i := 4) (N := some 102) #[true, true, true, true, true, false, false] rfl rfl (by kernel_rfl) (by decide) (fun K hK => ?_)
        refine goes_ Tryd.func19 (by kernel_rfl) rfl #[.slice (some ad2) 4 cp3, .string x3] (by rfl) rfl rfl (by simp only [List.map_toArray, List.map_cons, List.map_nil]; rfl) ?_
        with_reducible refine (SX.out _ _ _ HKC.out HK7.out).mono ?_
        rintro e y2 ⟨rfl, hb⟩
        refine ⟨_, rfl, ?_⟩
        refine hK.out _ _ ⟨pw_cell_below hb (hHeld.1), (hHeld.2.1).step hb, (hb.block _ (blk_lt hHeld.2.2)).trans hHeld.2.2⟩ (fun hHeld => ?_)
        clear hK K
        refine norm_ (a' := ?_) ?_ ?_
        rotate_left
        · show Act.put _ (some 102) _ = _
          simp only [Act.put, List.setIfInBounds_toArray, List.set_cons_zero, List.set_cons_succ, i64_w, i32_w]
          rfl
        refine pure_ (i := 5) (N := some 103) (v := ?_) (a' := ?_) #[true, true, true, true, true, true, false] rfl rfl (by kernel_rfl) (fun _ _ _ h => h) (Or.inl ⟨by rfl, ?_⟩) ?_ ?_
        rotate_left
        · intro w'
          go_simp
          with_reducible rfl
        rotate_left
        · simp only [Act.put, List.setIfInBounds_toArray, List.set_cons_zero, List.set_cons_succ, i64_w, i32_w]
          rfl
        refine last_ (i := 6) (N := none) #[true, true, true, true, true, true, true] rfl rfl (by kernel_rfl) (by decide) (fun K hK => ?_)
        have cc := (blk_cell hHeld.2.2 5).trans (show _ = some (.int .i64 0) from rfl)
        have cf := blk_frozen hHeld.2.2 5
        refine skip_ (w1 := ?_) (by rfl) rfl ?_ ?_
        rotate_left
        · go_simp
          rfl
        refine hK.out _ _ ?_
        clear hK K
        refine done_ (by kernel_rfl) ?_
        have CB2 := Aside0.mk (show (y2.setCell ⟨C, 5, none⟩ (.int .i64 (h3 : Int))).heap[C]? = some (.cells #[.int .i64 6, .int .u64 (h1 : Int), .int .u64 0, .int .i64 0, .int .i64 (h2 : Int), .int .i64 (h3 : Int), .string ⟨#[]⟩] 24 (0, 0)) from blk_set hHeld.2.2 5 _)
        have X10 := Aside0.mk ((hHeld.2.1).far HCR.out.1 HCR.out.2.1 HCR.out.2.2.1 HCR.out.2.2.2 5 (.int .i64 (h3 : Int)))
        clear hHeld g3 p1 p2 CB X9 HKC HK7 SX
        have CB := CB2
        clear CB2
        generalize y2.setCell ⟨C, 5, none⟩ (.int .i64 (h3 : Int)) = v10 at CB X10 ⊢
        have CC := Aside0.mk ((blk_cell CB.out 5).trans (show _ = some (.int .i64 (h3 : Int)) from rfl))
        have G4' := Aside0.mk (G4.out _ X10.out)
        clear G4
        have TX := Aside0.mk (show x4 = ⟨(l.getD 4 []).toArray⟩ from HX4.out)
        cases q4 : l.getD 4 [] with
        | nil =>
          rw [q4] at TX
          have Q4 := Aside0.mk q4
          clear HX4 q4
          have hT := TX.out
          subst hT
          have g4 := G4'.out
          have cc := CC.out
          have hs4 : (⟨([] : List UInt8).toArray⟩ : ByteArray).size = 0 := rfl
          have HQ := Aside0.mk (show rpL l = none from by unfold rpL; rw [HK.out, Option.bind_some, if_pos (show l.length = manyL 6 from HL.out)]; simp [-List.getD_eq_getElem?_getD, Q1.out, Q2.out, Q3.out, Q4.out, txtL])
          have nc0 : v10.cell? ⟨R + 1, 0, none⟩ = some (.int .i64 0) := (blk_cell X10.out.nb 0).trans rfl
          have nf0 := blk_frozen X10.out.nb 0
          have nc1 : v10.cell? ⟨R + 1, 1, none⟩ = some (.int .u64 0) := (blk_cell X10.out.nb 1).trans rfl
          have nf1 := blk_frozen X10.out.nb 1
          have nc2 : v10.cell? ⟨R + 1, 2, none⟩ = some (.int .u64 0) := (blk_cell X10.out.nb 2).trans rfl
          have nf2 := blk_frozen X10.out.nb 2
          have nc3 : v10.cell? ⟨R + 1, 3, none⟩ = some (.int .i64 0) := (blk_cell X10.out.nb 3).trans rfl
          have nf3 := blk_frozen X10.out.nb 3
          have nc4 : v10.cell? ⟨R + 1, 4, none⟩ = some (.int .i64 0) := (blk_cell X10.out.nb 4).trans rfl
          have nf4 := blk_frozen X10.out.nb 4
          have nc5 : v10.cell? ⟨R + 1, 5, none⟩ = some (.int .i64 0) := (blk_cell X10.out.nb 5).trans rfl
          have nf5 := blk_frozen X10.out.nb 5
          have nc6 : v10.cell? ⟨R + 1, 6, none⟩ = some (.string ⟨#[]⟩) := (blk_cell X10.out.nb 6).trans rfl
          have nf6 := blk_frozen X10.out.nb 6
          have hRN : ¬ R = R + 1 := by omega
          have hNR : ¬ R + 1 = R := by omega
          have rc0 : v10.cell? ⟨R, 0, none⟩ = some (.int .i64 0) := (blk_cell X10.out.rb 0).trans rfl
          have rf0 := blk_frozen X10.out.rb 0
          have rc1 : v10.cell? ⟨R, 1, none⟩ = some (.int .u64 0) := (blk_cell X10.out.rb 1).trans rfl
          have rf1 := blk_frozen X10.out.rb 1
          have rc2 : v10.cell? ⟨R, 2, none⟩ = some (.int .u64 0) := (blk_cell X10.out.rb 2).trans rfl
          have rf2 := blk_frozen X10.out.rb 2
          have rc3 : v10.cell? ⟨R, 3, none⟩ = some (.int .i64 0) := (blk_cell X10.out.rb 3).trans rfl
          have rf3 := blk_frozen X10.out.rb 3
          have rc4 : v10.cell? ⟨R, 4, none⟩ = some (.int .i64 0) := (blk_cell X10.out.rb 4).trans rfl
          have rf4 := blk_frozen X10.out.rb 4
          have rc5 : v10.cell? ⟨R, 5, none⟩ = some (.int .i64 0) := (blk_cell X10.out.rb 5).trans rfl
          have rf5 := blk_frozen X10.out.rb 5
          have rc6 : v10.cell? ⟨R, 6, none⟩ = some (.string ⟨#[]⟩) := (blk_cell X10.out.rb 6).trans rfl
          have rf6 := blk_frozen X10.out.rb 6
          go_wp2
          clear rc0 rf0 rc1 rf1 rc2 rf2 rc3 rf3 rc4 rf4 rc5 rf5 rc6 rf6
          have FX : (((((((v10.setCell ⟨R, 0, none⟩ (.int .i64 0)).setCell ⟨R, 1, none⟩ (.int .u64 0)).setCell ⟨R, 2, none⟩ (.int .u64 0)).setCell ⟨R, 3, none⟩ (.int .i64 0)).setCell ⟨R, 4, none⟩ (.int .i64 0)).setCell ⟨R, 5, none⟩ (.int .i64 0)).setCell ⟨R, 6, none⟩ (.string ⟨#[]⟩)).heap[R]? = some (.cells #[.int .i64 0, .int .u64 0, .int .u64 0, .int .i64 0, .int .i64 0, .int .i64 0, .string ⟨#[]⟩] 24 (0, 0)) ∧ Below w.heap.size w (((((((v10.setCell ⟨R, 0, none⟩ (.int .i64 0)).setCell ⟨R, 1, none⟩ (.int .u64 0)).setCell ⟨R, 2, none⟩ (.int .u64 0)).setCell ⟨R, 3, none⟩ (.int .i64 0)).setCell ⟨R, 4, none⟩ (.int .i64 0)).setCell ⟨R, 5, none⟩ (.int .i64 0)).setCell ⟨R, 6, none⟩ (.string ⟨#[]⟩)) := X10.out.fill (.int .i64 0) (.int .u64 0) (.int .u64 0) (.int .i64 0) (.int .i64 0) (.int .i64 0) (.string ⟨#[]⟩)
          have hHR : ∃ w9, w9 = (((((((v10.setCell ⟨R, 0, none⟩ (.int .i64 0)).setCell ⟨R, 1, none⟩ (.int .u64 0)).setCell ⟨R, 2, none⟩ (.int .u64 0)).setCell ⟨R, 3, none⟩ (.int .i64 0)).setCell ⟨R, 4, none⟩ (.int .i64 0)).setCell ⟨R, 5, none⟩ (.int .i64 0)).setCell ⟨R, 6, none⟩ (.string ⟨#[]⟩)) := ⟨_, rfl⟩
          obtain ⟨w9, hw9⟩ := hHR
          rw [← hw9] at FX ⊢
          clear hw9
          obtain ⟨FX1, FX2⟩ := FX
          have rc0 : w9.cell? ⟨R, 0, none⟩ = some (.int .i64 0) := (blk_cell FX1 0).trans rfl
          have rc1 : w9.cell? ⟨R, 1, none⟩ = some (.int .u64 0) := (blk_cell FX1 1).trans rfl
          have rc2 : w9.cell? ⟨R, 2, none⟩ = some (.int .u64 0) := (blk_cell FX1 2).trans rfl
          have rc3 : w9.cell? ⟨R, 3, none⟩ = some (.int .i64 0) := (blk_cell FX1 3).trans rfl
          have rc4 : w9.cell? ⟨R, 4, none⟩ = some (.int .i64 0) := (blk_cell FX1 4).trans rfl
          have rc5 : w9.cell? ⟨R, 5, none⟩ = some (.int .i64 0) := (blk_cell FX1 5).trans rfl
          have rc6 : w9.cell? ⟨R, 6, none⟩ = some (.string ⟨#[]⟩) := (blk_cell FX1 6).trans rfl
          refine bodyPost_ret (v := .tuple #[.agg #[.int .i64 0, .int .u64 0, .int .u64 0, .int .i64 0, .int .i64 0, .int .i64 0, .string ⟨#[]⟩], .int .i64 210]) (by simp [results, Tryd.results9, go_sem, rc0, rc1, rc2, rc3, rc4, rc5, rc6]) rfl ⟨?_, FX2⟩
          rw [HQ.out]
          rfl
        | cons b t =>
          rw [q4] at TX
          have Q4 := Aside0.mk q4
          clear HX4 q4
          have hsz : x4.size = t.length + 1 := by rw [TX.out]; exact bsA_size _
          have HSZ := Aside0.mk hsz
          have hp : decide (0 < x4.size) = true := decide_eq_true (by omega)
          have hp2 : 0 < x4.size := by omega
          have hx5 : ∀ h : 0 < x4.size, ((x4[0]'h).toNat : Int) = (b.toNat : Int) := by rw [TX.out]; intro h; rfl
          by_cases h18 : t.length ≤ 16
          rotate_left
          · skip
            have hq : decide ((x4.size : Int) < 18) = false := decide_eq_false (by omega)
            have H18 := Aside0.mk h18
            clear hsz h18 hx5
            have g4 := G4'.out
            have cc := CC.out
            have HT := Aside0.mk (show txtL (b :: t) = none from by unfold txtL; split; (rename_i hh; injection hh with h1 h2; subst h2; exact if_neg H18.out); rfl)
            have HQ := Aside0.mk (show rpL l = none from by unfold rpL; rw [HK.out, Option.bind_some, if_pos (show l.length = manyL 6 from HL.out)]; simp [-List.getD_eq_getElem?_getD, Q1.out, Q2.out, Q3.out, Q4.out, HT.out])
            have nc0 : v10.cell? ⟨R + 1, 0, none⟩ = some (.int .i64 0) := (blk_cell X10.out.nb 0).trans rfl
            have nf0 := blk_frozen X10.out.nb 0
            have nc1 : v10.cell? ⟨R + 1, 1, none⟩ = some (.int .u64 0) := (blk_cell X10.out.nb 1).trans rfl
            have nf1 := blk_frozen X10.out.nb 1
            have nc2 : v10.cell? ⟨R + 1, 2, none⟩ = some (.int .u64 0) := (blk_cell X10.out.nb 2).trans rfl
            have nf2 := blk_frozen X10.out.nb 2
            have nc3 : v10.cell? ⟨R + 1, 3, none⟩ = some (.int .i64 0) := (blk_cell X10.out.nb 3).trans rfl
            have nf3 := blk_frozen X10.out.nb 3
            have nc4 : v10.cell? ⟨R + 1, 4, none⟩ = some (.int .i64 0) := (blk_cell X10.out.nb 4).trans rfl
            have nf4 := blk_frozen X10.out.nb 4
            have nc5 : v10.cell? ⟨R + 1, 5, none⟩ = some (.int .i64 0) := (blk_cell X10.out.nb 5).trans rfl
            have nf5 := blk_frozen X10.out.nb 5
            have nc6 : v10.cell? ⟨R + 1, 6, none⟩ = some (.string ⟨#[]⟩) := (blk_cell X10.out.nb 6).trans rfl
            have nf6 := blk_frozen X10.out.nb 6
            have hRN : ¬ R = R + 1 := by omega
            have hNR : ¬ R + 1 = R := by omega
            have rc0 : v10.cell? ⟨R, 0, none⟩ = some (.int .i64 0) := (blk_cell X10.out.rb 0).trans rfl
            have rf0 := blk_frozen X10.out.rb 0
            have rc1 : v10.cell? ⟨R, 1, none⟩ = some (.int .u64 0) := (blk_cell X10.out.rb 1).trans rfl
            have rf1 := blk_frozen X10.out.rb 1
            have rc2 : v10.cell? ⟨R, 2, none⟩ = some (.int .u64 0) := (blk_cell X10.out.rb 2).trans rfl
            have rf2 := blk_frozen X10.out.rb 2
            have rc3 : v10.cell? ⟨R, 3, none⟩ = some (.int .i64 0) := (blk_cell X10.out.rb 3).trans rfl
            have rf3 := blk_frozen X10.out.rb 3
            have rc4 : v10.cell? ⟨R, 4, none⟩ = some (.int .i64 0) := (blk_cell X10.out.rb 4).trans rfl
            have rf4 := blk_frozen X10.out.rb 4
            have rc5 : v10.cell? ⟨R, 5, none⟩ = some (.int .i64 0) := (blk_cell X10.out.rb 5).trans rfl
            have rf5 := blk_frozen X10.out.rb 5
            have rc6 : v10.cell? ⟨R, 6, none⟩ = some (.string ⟨#[]⟩) := (blk_cell X10.out.rb 6).trans rfl
            have rf6 := blk_frozen X10.out.rb 6
            go_wp2
            clear rc0 rf0 rc1 rf1 rc2 rf2 rc3 rf3 rc4 rf4 rc5 rf5 rc6 rf6
            have FX : (((((((v10.setCell ⟨R, 0, none⟩ (.int .i64 0)).setCell ⟨R, 1, none⟩ (.int .u64 0)).setCell ⟨R, 2, none⟩ (.int .u64 0)).setCell ⟨R, 3, none⟩ (.int .i64 0)).setCell ⟨R, 4, none⟩ (.int .i64 0)).setCell ⟨R, 5, none⟩ (.int .i64 0)).setCell ⟨R, 6, none⟩ (.string ⟨#[]⟩)).heap[R]? = some (.cells #[.int .i64 0, .int .u64 0, .int .u64 0, .int .i64 0, .int .i64 0, .int .i64 0, .string ⟨#[]⟩] 24 (0, 0)) ∧ Below w.heap.size w (((((((v10.setCell ⟨R, 0, none⟩ (.int .i64 0)).setCell ⟨R, 1, none⟩ (.int .u64 0)).setCell ⟨R, 2, none⟩ (.int .u64 0)).setCell ⟨R, 3, none⟩ (.int .i64 0)).setCell ⟨R, 4, none⟩ (.int .i64 0)).setCell ⟨R, 5, none⟩ (.int .i64 0)).setCell ⟨R, 6, none⟩ (.string ⟨#[]⟩)) := X10.out.fill (.int .i64 0) (.int .u64 0) (.int .u64 0) (.int .i64 0) (.int .i64 0) (.int .i64 0) (.string ⟨#[]⟩)
            have hHR : ∃ w9, w9 = (((((((v10.setCell ⟨R, 0, none⟩ (.int .i64 0)).setCell ⟨R, 1, none⟩ (.int .u64 0)).setCell ⟨R, 2, none⟩ (.int .u64 0)).setCell ⟨R, 3, none⟩ (.int .i64 0)).setCell ⟨R, 4, none⟩ (.int .i64 0)).setCell ⟨R, 5, none⟩ (.int .i64 0)).setCell ⟨R, 6, none⟩ (.string ⟨#[]⟩)) := ⟨_, rfl⟩
            obtain ⟨w9, hw9⟩ := hHR
            rw [← hw9] at FX ⊢
            clear hw9
            obtain ⟨FX1, FX2⟩ := FX
            have rc0 : w9.cell? ⟨R, 0, none⟩ = some (.int .i64 0) := (blk_cell FX1 0).trans rfl
            have rc1 : w9.cell? ⟨R, 1, none⟩ = some (.int .u64 0) := (blk_cell FX1 1).trans rfl
            have rc2 : w9.cell? ⟨R, 2, none⟩ = some (.int .u64 0) := (blk_cell FX1 2).trans rfl
            have rc3 : w9.cell? ⟨R, 3, none⟩ = some (.int .i64 0) := (blk_cell FX1 3).trans rfl
            have rc4 : w9.cell? ⟨R, 4, none⟩ = some (.int .i64 0) := (blk_cell FX1 4).trans rfl
            have rc5 : w9.cell? ⟨R, 5, none⟩ = some (.int .i64 0) := (blk_cell FX1 5).trans rfl
            have rc6 : w9.cell? ⟨R, 6, none⟩ = some (.string ⟨#[]⟩) := (blk_cell FX1 6).trans rfl
            refine bodyPost_ret (v := .tuple #[.agg #[.int .i64 0, .int .u64 0, .int .u64 0, .int .i64 0, .int .i64 0, .int .i64 0, .string ⟨#[]⟩], .int .i64 210]) (by simp [results, Tryd.results9, go_sem, rc0, rc1, rc2, rc3, rc4, rc5, rc6]) rfl ⟨?_, FX2⟩
            rw [HQ.out]
            rfl
          have hq : decide ((x4.size : Int) < 18) = true := decide_eq_true (by omega)
          have H18 := Aside0.mk h18
          by_cases h61 : b = 61
          rotate_left
          · skip
            have hb6 : ((b.toNat : Int) == 61) = false := by rw [beq_eq_false_iff_ne]; intro e; exact h61 (UInt8.toNat_inj.1 (by show b.toNat = 61; omega))
            have HT := Aside0.mk (show txtL (b :: t) = none from by unfold txtL; split; (rename_i hh; injection hh with h1 h2; exact absurd h1 h61); rfl)
            clear hsz h18 h61
            have g4 := G4'.out
            have cc := CC.out
            have HQ := Aside0.mk (show rpL l = none from by unfold rpL; rw [HK.out, Option.bind_some, if_pos (show l.length = manyL 6 from HL.out)]; simp [-List.getD_eq_getElem?_getD, Q1.out, Q2.out, Q3.out, Q4.out, HT.out])
            have nc0 : v10.cell? ⟨R + 1, 0, none⟩ = some (.int .i64 0) := (blk_cell X10.out.nb 0).trans rfl
            have nf0 := blk_frozen X10.out.nb 0
            have nc1 : v10.cell? ⟨R + 1, 1, none⟩ = some (.int .u64 0) := (blk_cell X10.out.nb 1).trans rfl
            have nf1 := blk_frozen X10.out.nb 1
            have nc2 : v10.cell? ⟨R + 1, 2, none⟩ = some (.int .u64 0) := (blk_cell X10.out.nb 2).trans rfl
            have nf2 := blk_frozen X10.out.nb 2
            have nc3 : v10.cell? ⟨R + 1, 3, none⟩ = some (.int .i64 0) := (blk_cell X10.out.nb 3).trans rfl
            have nf3 := blk_frozen X10.out.nb 3
            have nc4 : v10.cell? ⟨R + 1, 4, none⟩ = some (.int .i64 0) := (blk_cell X10.out.nb 4).trans rfl
            have nf4 := blk_frozen X10.out.nb 4
            have nc5 : v10.cell? ⟨R + 1, 5, none⟩ = some (.int .i64 0) := (blk_cell X10.out.nb 5).trans rfl
            have nf5 := blk_frozen X10.out.nb 5
            have nc6 : v10.cell? ⟨R + 1, 6, none⟩ = some (.string ⟨#[]⟩) := (blk_cell X10.out.nb 6).trans rfl
            have nf6 := blk_frozen X10.out.nb 6
            have hRN : ¬ R = R + 1 := by omega
            have hNR : ¬ R + 1 = R := by omega
            have rc0 : v10.cell? ⟨R, 0, none⟩ = some (.int .i64 0) := (blk_cell X10.out.rb 0).trans rfl
            have rf0 := blk_frozen X10.out.rb 0
            have rc1 : v10.cell? ⟨R, 1, none⟩ = some (.int .u64 0) := (blk_cell X10.out.rb 1).trans rfl
            have rf1 := blk_frozen X10.out.rb 1
            have rc2 : v10.cell? ⟨R, 2, none⟩ = some (.int .u64 0) := (blk_cell X10.out.rb 2).trans rfl
            have rf2 := blk_frozen X10.out.rb 2
            have rc3 : v10.cell? ⟨R, 3, none⟩ = some (.int .i64 0) := (blk_cell X10.out.rb 3).trans rfl
            have rf3 := blk_frozen X10.out.rb 3
            have rc4 : v10.cell? ⟨R, 4, none⟩ = some (.int .i64 0) := (blk_cell X10.out.rb 4).trans rfl
            have rf4 := blk_frozen X10.out.rb 4
            have rc5 : v10.cell? ⟨R, 5, none⟩ = some (.int .i64 0) := (blk_cell X10.out.rb 5).trans rfl
            have rf5 := blk_frozen X10.out.rb 5
            have rc6 : v10.cell? ⟨R, 6, none⟩ = some (.string ⟨#[]⟩) := (blk_cell X10.out.rb 6).trans rfl
            have rf6 := blk_frozen X10.out.rb 6
            go_wp2
            clear rc0 rf0 rc1 rf1 rc2 rf2 rc3 rf3 rc4 rf4 rc5 rf5 rc6 rf6
            have FX : (((((((v10.setCell ⟨R, 0, none⟩ (.int .i64 0)).setCell ⟨R, 1, none⟩ (.int .u64 0)).setCell ⟨R, 2, none⟩ (.int .u64 0)).setCell ⟨R, 3, none⟩ (.int .i64 0)).setCell ⟨R, 4, none⟩ (.int .i64 0)).setCell ⟨R, 5, none⟩ (.int .i64 0)).setCell ⟨R, 6, none⟩ (.string ⟨#[]⟩)).heap[R]? = some (.cells #[.int .i64 0, .int .u64 0, .int .u64 0, .int .i64 0, .int .i64 0, .int .i64 0, .string ⟨#[]⟩] 24 (0, 0)) ∧ Below w.heap.size w (((((((v10.setCell ⟨R, 0, none⟩ (.int .i64 0)).setCell ⟨R, 1, none⟩ (.int .u64 0)).setCell ⟨R, 2, none⟩ (.int .u64 0)).setCell ⟨R, 3, none⟩ (.int .i64 0)).setCell ⟨R, 4, none⟩ (.int .i64 0)).setCell ⟨R, 5, none⟩ (.int .i64 0)).setCell ⟨R, 6, none⟩ (.string ⟨#[]⟩)) := X10.out.fill (.int .i64 0) (.int .u64 0) (.int .u64 0) (.int .i64 0) (.int .i64 0) (.int .i64 0) (.string ⟨#[]⟩)
            have hHR : ∃ w9, w9 = (((((((v10.setCell ⟨R, 0, none⟩ (.int .i64 0)).setCell ⟨R, 1, none⟩ (.int .u64 0)).setCell ⟨R, 2, none⟩ (.int .u64 0)).setCell ⟨R, 3, none⟩ (.int .i64 0)).setCell ⟨R, 4, none⟩ (.int .i64 0)).setCell ⟨R, 5, none⟩ (.int .i64 0)).setCell ⟨R, 6, none⟩ (.string ⟨#[]⟩)) := ⟨_, rfl⟩
            obtain ⟨w9, hw9⟩ := hHR
            rw [← hw9] at FX ⊢
            clear hw9
            obtain ⟨FX1, FX2⟩ := FX
            have rc0 : w9.cell? ⟨R, 0, none⟩ = some (.int .i64 0) := (blk_cell FX1 0).trans rfl
            have rc1 : w9.cell? ⟨R, 1, none⟩ = some (.int .u64 0) := (blk_cell FX1 1).trans rfl
            have rc2 : w9.cell? ⟨R, 2, none⟩ = some (.int .u64 0) := (blk_cell FX1 2).trans rfl
            have rc3 : w9.cell? ⟨R, 3, none⟩ = some (.int .i64 0) := (blk_cell FX1 3).trans rfl
            have rc4 : w9.cell? ⟨R, 4, none⟩ = some (.int .i64 0) := (blk_cell FX1 4).trans rfl
            have rc5 : w9.cell? ⟨R, 5, none⟩ = some (.int .i64 0) := (blk_cell FX1 5).trans rfl
            have rc6 : w9.cell? ⟨R, 6, none⟩ = some (.string ⟨#[]⟩) := (blk_cell FX1 6).trans rfl
            refine bodyPost_ret (v := .tuple #[.agg #[.int .i64 0, .int .u64 0, .int .u64 0, .int .i64 0, .int .i64 0, .int .i64 0, .string ⟨#[]⟩], .int .i64 210]) (by simp [results, Tryd.results9, go_sem, rc0, rc1, rc2, rc3, rc4, rc5, rc6]) rfl ⟨?_, FX2⟩
            rw [HQ.out]
            rfl
          have hb6 : ((b.toNat : Int) == 61) = true := by rw [h61]; rfl
          have hs1 : 1 ≤ x4.size := by omega
          clear hsz h18
          have HE := Aside0.mk (show txtL (b :: t) = some t from by rw [h61]; exact if_pos H18.out)
          clear h61
          have HT := Aside0.mk (show x4.extract 1 x4.size = ⟨t.toArray⟩ from by rw [TX.out, extract_bs]; unfold bsA; simp [ByteArray.size])
          have HQ := Aside0.mk (show rpL l = some { z7 with kind := 6, handle := h1, grp := h2, svc := h3, txt := t } from by unfold rpL; rw [HK.out, Option.bind_some, if_pos (show l.length = manyL 6 from HL.out)]; simp [-List.getD_eq_getElem?_getD, Q1.out, Q2.out, Q3.out, Q4.out, HE.out, z7])
          have g4 := G4'.out
          have cc := CC.out
          have c6 := (blk_cell CB.out 6).trans (show _ = some (.string ⟨#[]⟩) from rfl)
          have f6 := blk_frozen CB.out 6
          have CB2 := Aside0.mk (show (v10.setCell ⟨C, 6, none⟩ (.string (x4.extract 1 x4.size))).heap[C]? = some (.cells #[.int .i64 6, .int .u64 (h1 : Int), .int .u64 0, .int .i64 0, .int .i64 (h2 : Int), .int .i64 (h3 : Int), .string (x4.extract 1 x4.size)] 24 (0, 0)) from blk_set CB.out 6 _)
          have X11 := Aside0.mk (X10.out.far HCR.out.1 HCR.out.2.1 HCR.out.2.2.1 HCR.out.2.2.2 6 (.string (x4.extract 1 x4.size)))
          go_upto_region 36 with (fail)
          clear cc c6 f6 g4 CB X10 hx5 hb6 hp hp2 hq hs1 CC G4'
          generalize v10.setCell ⟨C, 6, none⟩ (.string (x4.extract 1 x4.size)) = v11 at CB2 X11 ⊢
          have CB := CB2
          clear CB2
          have nc0 : v11.cell? ⟨C, 0, none⟩ = some (.int .i64 6) := (blk_cell CB.out 0).trans rfl
          have nf0 := blk_frozen CB.out 0
          have nc1 : v11.cell? ⟨C, 1, none⟩ = some (.int .u64 (h1 : Int)) := (blk_cell CB.out 1).trans rfl
          have nf1 := blk_frozen CB.out 1
          have nc2 : v11.cell? ⟨C, 2, none⟩ = some (.int .u64 0) := (blk_cell CB.out 2).trans rfl
          have nf2 := blk_frozen CB.out 2
          have nc3 : v11.cell? ⟨C, 3, none⟩ = some (.int .i64 0) := (blk_cell CB.out 3).trans rfl
          have nf3 := blk_frozen CB.out 3
          have nc4 : v11.cell? ⟨C, 4, none⟩ = some (.int .i64 (h2 : Int)) := (blk_cell CB.out 4).trans rfl
          have nf4 := blk_frozen CB.out 4
          have nc5 : v11.cell? ⟨C, 5, none⟩ = some (.int .i64 (h3 : Int)) := (blk_cell CB.out 5).trans rfl
          have nf5 := blk_frozen CB.out 5
          have nc6 : v11.cell? ⟨C, 6, none⟩ = some (.string (x4.extract 1 x4.size)) := (blk_cell CB.out 6).trans rfl
          have nf6 := blk_frozen CB.out 6
          have hRN : ¬ R = C := fun x => HCR.out.1 x.symm
          have hNR : ¬ C = R := HCR.out.1
          have rc0 : v11.cell? ⟨R, 0, none⟩ = some (.int .i64 0) := (blk_cell X11.out.rb 0).trans rfl
          have rf0 := blk_frozen X11.out.rb 0
          have rc1 : v11.cell? ⟨R, 1, none⟩ = some (.int .u64 0) := (blk_cell X11.out.rb 1).trans rfl
          have rf1 := blk_frozen X11.out.rb 1
          have rc2 : v11.cell? ⟨R, 2, none⟩ = some (.int .u64 0) := (blk_cell X11.out.rb 2).trans rfl
          have rf2 := blk_frozen X11.out.rb 2
          have rc3 : v11.cell? ⟨R, 3, none⟩ = some (.int .i64 0) := (blk_cell X11.out.rb 3).trans rfl
          have rf3 := blk_frozen X11.out.rb 3
          have rc4 : v11.cell? ⟨R, 4, none⟩ = some (.int .i64 0) := (blk_cell X11.out.rb 4).trans rfl
          have rf4 := blk_frozen X11.out.rb 4
          have rc5 : v11.cell? ⟨R, 5, none⟩ = some (.int .i64 0) := (blk_cell X11.out.rb 5).trans rfl
          have rf5 := blk_frozen X11.out.rb 5
          have rc6 : v11.cell? ⟨R, 6, none⟩ = some (.string ⟨#[]⟩) := (blk_cell X11.out.rb 6).trans rfl
          have rf6 := blk_frozen X11.out.rb 6
          go_wp2
          clear rc0 rf0 rc1 rf1 rc2 rf2 rc3 rf3 rc4 rf4 rc5 rf5 rc6 rf6
          have FX : (((((((v11.setCell ⟨R, 0, none⟩ (.int .i64 6)).setCell ⟨R, 1, none⟩ (.int .u64 (h1 : Int))).setCell ⟨R, 2, none⟩ (.int .u64 0)).setCell ⟨R, 3, none⟩ (.int .i64 0)).setCell ⟨R, 4, none⟩ (.int .i64 (h2 : Int))).setCell ⟨R, 5, none⟩ (.int .i64 (h3 : Int))).setCell ⟨R, 6, none⟩ (.string (x4.extract 1 x4.size))).heap[R]? = some (.cells #[.int .i64 6, .int .u64 (h1 : Int), .int .u64 0, .int .i64 0, .int .i64 (h2 : Int), .int .i64 (h3 : Int), .string (x4.extract 1 x4.size)] 24 (0, 0)) ∧ Below w.heap.size w (((((((v11.setCell ⟨R, 0, none⟩ (.int .i64 6)).setCell ⟨R, 1, none⟩ (.int .u64 (h1 : Int))).setCell ⟨R, 2, none⟩ (.int .u64 0)).setCell ⟨R, 3, none⟩ (.int .i64 0)).setCell ⟨R, 4, none⟩ (.int .i64 (h2 : Int))).setCell ⟨R, 5, none⟩ (.int .i64 (h3 : Int))).setCell ⟨R, 6, none⟩ (.string (x4.extract 1 x4.size))) := X11.out.fill (.int .i64 6) (.int .u64 (h1 : Int)) (.int .u64 0) (.int .i64 0) (.int .i64 (h2 : Int)) (.int .i64 (h3 : Int)) (.string (x4.extract 1 x4.size))
          have hHR : ∃ w9, w9 = (((((((v11.setCell ⟨R, 0, none⟩ (.int .i64 6)).setCell ⟨R, 1, none⟩ (.int .u64 (h1 : Int))).setCell ⟨R, 2, none⟩ (.int .u64 0)).setCell ⟨R, 3, none⟩ (.int .i64 0)).setCell ⟨R, 4, none⟩ (.int .i64 (h2 : Int))).setCell ⟨R, 5, none⟩ (.int .i64 (h3 : Int))).setCell ⟨R, 6, none⟩ (.string (x4.extract 1 x4.size))) := ⟨_, rfl⟩
          obtain ⟨w9, hw9⟩ := hHR
          rw [← hw9] at FX ⊢
          clear hw9
          obtain ⟨FX1, FX2⟩ := FX
          have rc0 : w9.cell? ⟨R, 0, none⟩ = some (.int .i64 6) := (blk_cell FX1 0).trans rfl
          have rc1 : w9.cell? ⟨R, 1, none⟩ = some (.int .u64 (h1 : Int)) := (blk_cell FX1 1).trans rfl
          have rc2 : w9.cell? ⟨R, 2, none⟩ = some (.int .u64 0) := (blk_cell FX1 2).trans rfl
          have rc3 : w9.cell? ⟨R, 3, none⟩ = some (.int .i64 0) := (blk_cell FX1 3).trans rfl
          have rc4 : w9.cell? ⟨R, 4, none⟩ = some (.int .i64 (h2 : Int)) := (blk_cell FX1 4).trans rfl
          have rc5 : w9.cell? ⟨R, 5, none⟩ = some (.int .i64 (h3 : Int)) := (blk_cell FX1 5).trans rfl
          have rc6 : w9.cell? ⟨R, 6, none⟩ = some (.string (x4.extract 1 x4.size)) := (blk_cell FX1 6).trans rfl
          refine bodyPost_ret (v := .tuple #[.agg #[.int .i64 6, .int .u64 (h1 : Int), .int .u64 0, .int .i64 0, .int .i64 (h2 : Int), .int .i64 (h3 : Int), .string (x4.extract 1 x4.size)], .int .i64 0]) (by simp [results, Tryd.results9, go_sem, rc0, rc1, rc2, rc3, rc4, rc5, rc6]) rfl ⟨?_, FX2⟩
          rw [HQ.out, HT.out]
          rfl
theorem kindL_lt {x : List UInt8} {k : Nat} (h : kindL x = some k) : k < 7 := by
  unfold kindL at h
  repeat' split at h
  all_goals first | (cases h; done) | (injection h with h; omega)
theorem rparse_q (s : ByteArray) (hs : s.size ≤ 281474976710656) (w : World) : Calls Tryd.prog 9 #[.string s] w fun e w' => e = .returned (rpV (callP s.data.toList)) ∧ Below w.heap.size w w' := by
  rw [← rp_eq]
  cases hk : kindL ((wordsL 4 s.data.toList).getD 0 []) with
  | none => exact rparse_no s hs _ rfl hk w
  | some k =>
    have h7 := kindL_lt hk
    match k, h7 with
    | 0, _ => exact rparse_0 s hs _ rfl hk w
    | 1, _ => exact rparse_1 s hs _ rfl hk w
    | 2, _ => exact rparse_2 s hs _ rfl hk w
    | 3, _ => exact rparse_3 s hs _ rfl hk w
    | 4, _ => exact rparse_4 s hs _ rfl hk w
    | 5, _ => exact rparse_5 s hs _ rfl hk w
    | 6, _ => exact rparse_6 s hs _ rfl hk w
end Go.Proofs.YtljgmbpfeajmhaaDoor
