/- The walk of the law ParseStrict. -/
import Derived.Test.YtljgmbpfeajmhaaDoorPlain
import Derived.Test.YtljgmbpfeajmhaaDoorFixed
set_option linter.unusedVariables false
set_option linter.unusedSimpArgs false
namespace Go.Proofs.YtljgmbpfeajmhaaDoor
open Go.Proofs Go.Shelf Go.RowKit Go.Proofs.YtljgmbpfeajmhaaDoorW.PrintWords Go.Proofs.YtljgmbpfeajmhaaDoorW.PrintLast
attribute [local go_sem high] P.eqA24
/-- Parse at a text of bytes: that it says none, or which call. -/
theorem ps_no (s : ByteArray) (hl : s.size ≤ 281474976710656) (w : World) (ht : Tens w) (he : Errs w) (hc : callP s.data.toList = none) : Calls Tryd.prog 8 #[.string s] w fun e w' => e = .returned (.tuple #[.agg #[.int .i64 0, .int .u64 0, .int .u64 0, .int .i64 0, .int .i64 0, .int .i64 0, .string ⟨#[]⟩], .int .i64 210]) ∧ Below w.heap.size w w' := parse_none s.data.toList w (by rw [Array.length_toList]; exact hl) ht he hc
theorem ps_yes (s : ByteArray) (hl : s.size ≤ 281474976710656) (b0 b1 b2 b3 b4 b5 : Int) (b6 : List UInt8) (w : World) (ht : Tens w) (he : Errs w) (hc : callP s.data.toList = some (⟨b0, b1, b2, b3, b4, b5, b6⟩ : Call7)) : Calls Tryd.prog 8 #[.string s] w fun e w' => e = .returned (.tuple #[.agg #[.int .i64 b0, .int .u64 b1, .int .u64 b2, .int .i64 b3, .int .i64 b4, .int .i64 b5, .string ⟨b6.toArray⟩], .int .i64 0]) ∧ Below w.heap.size w w' := parse_some s.data.toList w (by rw [Array.length_toList]; exact hl) ht he (⟨b0, b1, b2, b3, b4, b5, b6⟩ : Call7) hc
/-- A byte more, a byte fewer. -/
abbrev more (s : ByteArray) (a : Nat) (c : UInt8) : ByteArray := s.extract 0 a ++ ⟨#[c]⟩ ++ s.extract a s.size
abbrev fewer (s : ByteArray) (a : Nat) : ByteArray := s.extract 0 a ++ s.extract (a + 1) s.size
theorem more_size (s : ByteArray) (a : Nat) (c : UInt8) (h : a ≤ s.size) : (more s a c).size = s.size + 1 := by
  unfold more
  simp [ByteArray.size_append, ByteArray.size_extract]
  rw [Nat.min_eq_left h, show (⟨#[c]⟩ : ByteArray).size = 1 from rfl]
  omega
theorem fewer_size (s : ByteArray) (a : Nat) (h : a < s.size) : (fewer s a).size + 1 = s.size := by
  unfold fewer
  simp [ByteArray.size_append, ByteArray.size_extract]
  omega
theorem list_size (s : ByteArray) : s.data.toList.length = s.size := by rw [Array.length_toList]; rfl
theorem eq_parts {x y : Call7} (h : x ≠ y) : (x.kind == y.kind && (x.handle == y.handle && (x.other == y.other && (x.give == y.give && (x.grp == y.grp && (x.svc == y.svc && x.txt == y.txt)))))) = false := by
  rw [Bool.eq_false_iff]
  intro hx
  apply h
  cases x
  cases y
  simpa [Call7.mk.injEq] using hx
theorem conv_one (W : World) (b : Nat) (c : UInt8) (h : W.cell? ⟨b, 0, none⟩ = some (.int .u8 (c.toNat : Int))) : (convert 33 9 (.slice (some ⟨b, 0, none⟩) 1 1)).run Tryd.prog W = .ok (.string ⟨#[c]⟩) W := by
  have h := run_convert_bytes_back (P := Tryd.prog) W 33 9 5 ⟨b, 0, none⟩ 1 [c] Tryd.underlying33 Tryd.underlying5 Tryd.underlying9 (fun j hj => by
    have : j = 0 := by simpa using hj
    subst this
    exact h)
  exact h

set_option maxRecDepth 100000 in
set_option maxHeartbeats 8000000 in
theorem strict_none (s : ByteArray) (hs : s.size ≤ 281474976710000) (a : Int) (ha0 : -9223372036854775808 ≤ a) (ha1 : a ≤ 9223372036854775807) (c : UInt8) (w : World) (ht : Tens w) (he : Errs w)
    (hy : callP s.data.toList = none) :
    Calls Tryd.prog 6 #[.string s, .int .i64 a, .int .u8 (c.toNat : Int)] w fun e w' => e = .returned (.bool true) ∧ Below w.heap.size w w' := by
  have HT := Aside0.mk ht
  have HE := Aside0.mk he
  have HS := Aside0.mk (show s.size ≤ 281474976710656 by omega)
  have D0 := Aside0.mk (Below.refl w.heap.size w)
  have HY := Aside0.mk hy
  clear ht he hy ha0 ha1 hs
  go_enter Tryd.func6, Tryd.ntmps6
  go_wp2_with fail
  refine (ps_no s HS.out _ (HT.out.below D0.out) (HE.out.below D0.out) HY.out).mono ?_
  rintro e w1 ⟨rfl, hb⟩
  have D1 := Aside0.mk (below_then D0.out D0.out.size hb)
  clear hb D0
  have XA := Aside0.mk (blk_new w1 (.cells #[.int .i64 0, .int .u64 0, .int .u64 0, .int .i64 0, .int .i64 0, .int .i64 0, .string ⟨#[]⟩] 24))
  have E1 := Aside0.mk (below_alloc D1.out (.cells #[.int .i64 0, .int .u64 0, .int .u64 0, .int .i64 0, .int .i64 0, .int .i64 0, .string ⟨#[]⟩] 24))
  obtain ⟨ba, hba⟩ : ∃ ba, ba = w1.heap.size := ⟨_, rfl⟩
  rw [← hba] at XA
  clear D1
  go_wp2_with fail
  rw [← hba]
  clear hba
  generalize w1.alloc (.cells #[.int .i64 0, .int .u64 0, .int .u64 0, .int .i64 0, .int .i64 0, .int .i64 0, .string ⟨#[]⟩] 24) = v1 at XA E1 ⊢
  refine (fixed_q _ (HT.out.below E1.out) (HE.out.below E1.out)).mono ?_
  rintro e w2 ⟨rfl, hb⟩
  replace XA := Aside0.mk ((hb.block _ (blk_lt XA.out)).trans XA.out)
  have D2 := Aside0.mk (below_then E1.out E1.out.size hb)
  clear hb E1
  go_wp2_with fail
  refine (fixed_q _ (HT.out.below D2.out) (HE.out.below D2.out)).mono ?_
  rintro e w3 ⟨rfl, hb⟩
  replace XA := Aside0.mk ((hb.block _ (blk_lt XA.out)).trans XA.out)
  have D3 := Aside0.mk (below_then D2.out D2.out.size hb)
  clear hb D2
  go_wp2
  go_ret
  exact ⟨rfl, D3.out⟩
set_option maxRecDepth 100000 in
set_option maxHeartbeats 8000000 in
theorem strict_low (a0 a1 a2 a3 a4 a5 : Int) (a6 : List UInt8) (s : ByteArray) (hs : s.size ≤ 281474976710000) (a : Int) (ha0 : -9223372036854775808 ≤ a) (ha1 : a ≤ 9223372036854775807) (c : UInt8) (w : World) (ht : Tens w) (he : Errs w)
    (hy : callP s.data.toList = some (⟨a0, a1, a2, a3, a4, a5, a6⟩ : Call7)) (hr : a < 0) :
    Calls Tryd.prog 6 #[.string s, .int .i64 a, .int .u8 (c.toNat : Int)] w fun e w' => e = .returned (.bool true) ∧ Below w.heap.size w w' := by
  have HT := Aside0.mk ht
  have HE := Aside0.mk he
  have HS := Aside0.mk (show s.size ≤ 281474976710656 by omega)
  have D0 := Aside0.mk (Below.refl w.heap.size w)
  have HY := Aside0.mk hy
  clear ht he hy
  go_enter Tryd.func6, Tryd.ntmps6
  go_wp2_with fail
  refine (ps_yes s HS.out a0 a1 a2 a3 a4 a5 a6 _ (HT.out.below D0.out) (HE.out.below D0.out) HY.out).mono ?_
  rintro e w1 ⟨rfl, hb⟩
  have D1 := Aside0.mk (below_then D0.out D0.out.size hb)
  clear hb D0
  have XA := Aside0.mk (blk_new w1 (.cells #[.int .i64 a0, .int .u64 a1, .int .u64 a2, .int .i64 a3, .int .i64 a4, .int .i64 a5, .string ⟨a6.toArray⟩] 24))
  have E1 := Aside0.mk (below_alloc D1.out (.cells #[.int .i64 a0, .int .u64 a1, .int .u64 a2, .int .i64 a3, .int .i64 a4, .int .i64 a5, .string ⟨a6.toArray⟩] 24))
  obtain ⟨ba, hba⟩ : ∃ ba, ba = w1.heap.size := ⟨_, rfl⟩
  rw [← hba] at XA
  clear D1
  go_wp2_with fail
  rw [← hba]
  clear hba
  generalize w1.alloc (.cells #[.int .i64 a0, .int .u64 a1, .int .u64 a2, .int .i64 a3, .int .i64 a4, .int .i64 a5, .string ⟨a6.toArray⟩] 24) = v1 at XA E1 ⊢
  refine (fixed_q _ (HT.out.below E1.out) (HE.out.below E1.out)).mono ?_
  rintro e w2 ⟨rfl, hb⟩
  replace XA := Aside0.mk ((hb.block _ (blk_lt XA.out)).trans XA.out)
  have D2 := Aside0.mk (below_then E1.out E1.out.size hb)
  clear hb E1
  go_wp2_with fail
  refine (fixed_q _ (HT.out.below D2.out) (HE.out.below D2.out)).mono ?_
  rintro e w3 ⟨rfl, hb⟩
  replace XA := Aside0.mk ((hb.block _ (blk_lt XA.out)).trans XA.out)
  have D3 := Aside0.mk (below_then D2.out D2.out.size hb)
  clear hb D2
  go_wp2
  go_ret
  exact ⟨rfl, D3.out⟩
set_option maxRecDepth 100000 in
set_option maxHeartbeats 8000000 in
theorem strict_high (a0 a1 a2 a3 a4 a5 : Int) (a6 : List UInt8) (s : ByteArray) (hs : s.size ≤ 281474976710000) (a : Int) (ha0 : -9223372036854775808 ≤ a) (ha1 : a ≤ 9223372036854775807) (c : UInt8) (w : World) (ht : Tens w) (he : Errs w)
    (hy : callP s.data.toList = some (⟨a0, a1, a2, a3, a4, a5, a6⟩ : Call7)) (hr : (s.size : Int) < a) :
    Calls Tryd.prog 6 #[.string s, .int .i64 a, .int .u8 (c.toNat : Int)] w fun e w' => e = .returned (.bool true) ∧ Below w.heap.size w w' := by
  have HT := Aside0.mk ht
  have HE := Aside0.mk he
  have HS := Aside0.mk (show s.size ≤ 281474976710656 by omega)
  have D0 := Aside0.mk (Below.refl w.heap.size w)
  have HY := Aside0.mk hy
  have hr0 : 0 ≤ a := by omega
  clear ht he hy
  go_enter Tryd.func6, Tryd.ntmps6
  go_wp2_with fail
  refine (ps_yes s HS.out a0 a1 a2 a3 a4 a5 a6 _ (HT.out.below D0.out) (HE.out.below D0.out) HY.out).mono ?_
  rintro e w1 ⟨rfl, hb⟩
  have D1 := Aside0.mk (below_then D0.out D0.out.size hb)
  clear hb D0
  have XA := Aside0.mk (blk_new w1 (.cells #[.int .i64 a0, .int .u64 a1, .int .u64 a2, .int .i64 a3, .int .i64 a4, .int .i64 a5, .string ⟨a6.toArray⟩] 24))
  have E1 := Aside0.mk (below_alloc D1.out (.cells #[.int .i64 a0, .int .u64 a1, .int .u64 a2, .int .i64 a3, .int .i64 a4, .int .i64 a5, .string ⟨a6.toArray⟩] 24))
  obtain ⟨ba, hba⟩ : ∃ ba, ba = w1.heap.size := ⟨_, rfl⟩
  rw [← hba] at XA
  clear D1
  go_wp2_with fail
  rw [← hba]
  clear hba
  generalize w1.alloc (.cells #[.int .i64 a0, .int .u64 a1, .int .u64 a2, .int .i64 a3, .int .i64 a4, .int .i64 a5, .string ⟨a6.toArray⟩] 24) = v1 at XA E1 ⊢
  refine (fixed_q _ (HT.out.below E1.out) (HE.out.below E1.out)).mono ?_
  rintro e w2 ⟨rfl, hb⟩
  replace XA := Aside0.mk ((hb.block _ (blk_lt XA.out)).trans XA.out)
  have D2 := Aside0.mk (below_then E1.out E1.out.size hb)
  clear hb E1
  go_wp2_with fail
  refine (fixed_q _ (HT.out.below D2.out) (HE.out.below D2.out)).mono ?_
  rintro e w3 ⟨rfl, hb⟩
  replace XA := Aside0.mk ((hb.block _ (blk_lt XA.out)).trans XA.out)
  have D3 := Aside0.mk (below_then D2.out D2.out.size hb)
  clear hb D2
  go_wp2
  go_ret
  exact ⟨rfl, D3.out⟩
set_option maxRecDepth 100000 in
set_option maxHeartbeats 8000000 in
theorem strict_ne (a0 a1 a2 a3 a4 a5 : Int) (a6 : List UInt8) (s : ByteArray) (hs : s.size ≤ 281474976710000) (a : Int) (ha0 : -9223372036854775808 ≤ a) (ha1 : a ≤ 9223372036854775807) (c : UInt8) (w : World) (ht : Tens w) (he : Errs w)
    (n : Nat) (hn : a = (n : Int)) (hle : n = s.size) (hy : callP s.data.toList = some (⟨a0, a1, a2, a3, a4, a5, a6⟩ : Call7)) (hx : callP (more s n c).data.toList = none) :
    Calls Tryd.prog 6 #[.string s, .int .i64 a, .int .u8 (c.toNat : Int)] w fun e w' => e = .returned (.bool true) ∧ Below w.heap.size w w' := by
  have HT := Aside0.mk ht
  have HE := Aside0.mk he
  have HS := Aside0.mk (show s.size ≤ 281474976710656 by omega)
  have D0 := Aside0.mk (Below.refl w.heap.size w)
  have hle2 : n ≤ s.size := by omega
  have HM := Aside0.mk (show (more s n c).size ≤ 281474976710656 by rw [more_size s n c hle2]; omega)
  have hsz : s.size ≤ 281474976710000 := hs
  subst hn
  have HY := Aside0.mk hy
  have HX := Aside0.mk hx
  have HLE := Aside0.mk hle
  clear hle
  clear ht he hy hx hs ha0 ha1
  go_enter Tryd.func6, Tryd.ntmps6
  go_wp2_with fail
  refine (ps_yes s HS.out a0 a1 a2 a3 a4 a5 a6 _ (HT.out.below D0.out) (HE.out.below D0.out) HY.out).mono ?_
  rintro e w1 ⟨rfl, hb⟩
  have D1 := Aside0.mk (below_then D0.out D0.out.size hb)
  clear hb D0
  have XA := Aside0.mk (blk_new w1 (.cells #[.int .i64 a0, .int .u64 a1, .int .u64 a2, .int .i64 a3, .int .i64 a4, .int .i64 a5, .string ⟨a6.toArray⟩] 24))
  have E1 := Aside0.mk (below_alloc D1.out (.cells #[.int .i64 a0, .int .u64 a1, .int .u64 a2, .int .i64 a3, .int .i64 a4, .int .i64 a5, .string ⟨a6.toArray⟩] 24))
  obtain ⟨ba, hba⟩ : ∃ ba, ba = w1.heap.size := ⟨_, rfl⟩
  rw [← hba] at XA
  clear D1
  go_wp2_with fail
  rw [← hba]
  clear hba
  generalize w1.alloc (.cells #[.int .i64 a0, .int .u64 a1, .int .u64 a2, .int .i64 a3, .int .i64 a4, .int .i64 a5, .string ⟨a6.toArray⟩] 24) = v1 at XA E1 ⊢
  refine (fixed_q _ (HT.out.below E1.out) (HE.out.below E1.out)).mono ?_
  rintro e w2 ⟨rfl, hb⟩
  replace XA := Aside0.mk ((hb.block _ (blk_lt XA.out)).trans XA.out)
  have D2 := Aside0.mk (below_then E1.out E1.out.size hb)
  clear hb E1
  go_wp2_with fail
  have XAd : w2.drew.heap[ba]? = some (.cells #[.int .i64 a0, .int .u64 a1, .int .u64 a2, .int .i64 a3, .int .i64 a4, .int .i64 a5, .string ⟨a6.toArray⟩] 24 (0, 0)) := XA.out
  have DDr := below_drew D2.out
  clear XA D2
  have z1 : (9223372036854775807 < n + 1) = False := eq_false (by omega)
  have z2 : (9223372036854775807 < n + 1 + (s.size - n)) = False := eq_false (by omega)
  refine start_ (n := 18) (S := fun w' => w'.heap[ba]? = some (.cells #[.int .i64 a0, .int .u64 a1, .int .u64 a2, .int .i64 a3, .int .i64 a4, .int .i64 a5, .string ⟨a6.toArray⟩] 24 (0, 0)) ∧ Below w.heap.size w w') (ds := []) #[false, false, false, false, false, false, false, false, false, false, false, false, false, false, false, false, false, false] (by kernel_rfl) rfl rfl ⟨XAd, DDr⟩ (fun hHeld => ?_)
  refine pure_ (i := 0) (N := some 36) (v := ?_) (a' := ?_) #[true, false, false, false, false, false, false, false, false, false, false, false, false, false, false, false, false, false] rfl rfl (by kernel_rfl) (fun _ _ _ h => h) (Or.inl ⟨by rfl, ?_⟩) ?_ ?_
  rotate_left
  · intro w'
    go_simp
    with_reducible rfl
  rotate_left
  · simp only [Act.put, List.setIfInBounds_toArray, List.set_cons_zero, List.set_cons_succ, i64_w, i32_w]
    rfl
  refine pure_ (i := 1) (N := some 37) (v := ?_) (a' := ?_) #[true, true, false, false, false, false, false, false, false, false, false, false, false, false, false, false, false, false] rfl rfl (by kernel_rfl) (fun _ _ _ h => h) (Or.inl ⟨by rfl, ?_⟩) ?_ ?_
  rotate_left
  · intro w'
    go_simp
    with_reducible rfl
  rotate_left
  · simp only [Act.put, List.setIfInBounds_toArray, List.set_cons_zero, List.set_cons_succ, i64_w, i32_w]
    rfl
  refine pure_ (i := 2) (N := some 38) (v := ?_) (a' := ?_) #[true, true, true, false, false, false, false, false, false, false, false, false, false, false, false, false, false, false] rfl rfl (by kernel_rfl) (fun _ _ _ h => h) (Or.inl ⟨by rfl, ?_⟩) ?_ ?_
  rotate_left
  · intro w'
    go_simp
    with_reducible rfl
  rotate_left
  · simp only [Act.put, List.setIfInBounds_toArray, List.set_cons_zero, List.set_cons_succ, i64_w, i32_w]
    rfl
  refine pure_ (i := 3) (N := some 39) (v := ?_) (a' := ?_) #[true, true, true, true, false, false, false, false, false, false, false, false, false, false, false, false, false, false] rfl rfl (by kernel_rfl) (fun _ _ _ h => h) (Or.inl ⟨by rfl, ?_⟩) ?_ ?_
  rotate_left
  · intro w'
    go_simp
    with_reducible rfl
  rotate_left
  · simp only [Act.put, List.setIfInBounds_toArray, List.set_cons_zero, List.set_cons_succ, i64_w, i32_w]
    rfl
  refine pure_ (i := 7) (N := some 43) (v := ?_) (a' := ?_) #[true, true, true, true, false, false, false, true, false, false, false, false, false, false, false, false, false, false] rfl rfl (by kernel_rfl) (fun _ _ _ h => h) (Or.inl ⟨by rfl, ?_⟩) ?_ ?_
  rotate_left
  · intro w'
    go_simp
    with_reducible rfl
  rotate_left
  · simp only [Act.put, List.setIfInBounds_toArray, List.set_cons_zero, List.set_cons_succ, i64_w, i32_w]
    rfl
  refine pure_ (i := 8) (N := some 44) (v := ?_) (a' := ?_) #[true, true, true, true, false, false, false, true, true, false, false, false, false, false, false, false, false, false] rfl rfl (by kernel_rfl) (fun _ _ _ h => h) (Or.inl ⟨by rfl, ?_⟩) ?_ ?_
  rotate_left
  · intro w'
    go_simp
    with_reducible rfl
  rotate_left
  · simp only [Act.put, List.setIfInBounds_toArray, List.set_cons_zero, List.set_cons_succ, i64_w, i32_w]
    rfl
  refine pure_ (i := 9) (N := some 45) (v := ?_) (a' := ?_) #[true, true, true, true, false, false, false, true, true, true, false, false, false, false, false, false, false, false] rfl rfl (by kernel_rfl) (fun _ _ _ h => h) (Or.inl ⟨by rfl, ?_⟩) ?_ ?_
  rotate_left
  · intro w'
    go_simp
    with_reducible rfl
  rotate_left
  · simp only [Act.put, List.setIfInBounds_toArray, List.set_cons_zero, List.set_cons_succ, i64_w, i32_w]
    rfl
  refine join_ (σ := Nat × Nat) 2 #[true, true, true, true, true, true, true, true, true, true, true, true, true, true, true, true, false, false] (fun sg_ => [(40, .slice (some ⟨sg_.1, 0, none⟩) 1 1), (41, .string ⟨#[c]⟩), (42, .string (s.extract 0 n ++ ⟨#[c]⟩)), (46, .string (s.extract 0 n ++ ⟨#[c]⟩ ++ s.extract n s.size)), (47, .tuple #[.agg #[.int .i64 0, .int .u64 0, .int .u64 0, .int .i64 0, .int .i64 0, .int .i64 0, .string ⟨#[]⟩], .int .i64 210]), (35, .tuple #[.agg #[.int .i64 0, .int .u64 0, .int .u64 0, .int .i64 0, .int .i64 0, .int .i64 0, .string ⟨#[]⟩], .int .i64 210]), (48, .agg #[.int .i64 0, .int .u64 0, .int .u64 0, .int .i64 0, .int .i64 0, .int .i64 0, .string ⟨#[]⟩]), (49, .int .i64 210), (9, .pointer (some ⟨sg_.2, 0, none⟩))]) (fun sg_ w' => w'.heap[sg_.2]? = some (.cells #[.int .i64 0, .int .u64 0, .int .u64 0, .int .i64 0, .int .i64 0, .int .i64 0, .string ⟨#[]⟩] 24 (0, 0)) ∧ ba ≠ sg_.2 ∧ w.heap.size ≤ sg_.2 ∧ w'.heap[ba]? = some (.cells #[.int .i64 a0, .int .u64 a1, .int .u64 a2, .int .i64 a3, .int .i64 a4, .int .i64 a5, .string ⟨a6.toArray⟩] 24 (0, 0)) ∧ Below w.heap.size w w') ?_ ?_
  rotate_left
  · intro hCont
    refine two_ (i := 4) (j := 15) (Ni := some 40) (Nj := some 9) #[true, true, true, true, true, false, false, true, true, true, false, false, false, false, false, false, false, false] #[true, true, true, true, false, false, false, true, true, true, false, false, false, false, false, true, false, false] rfl rfl rfl rfl (by kernel_rfl) (by decide) (by decide) (fun K hK => ?_) (fun K hK => ?_)
    · skip
      refine value_ (w1 := ?_) (v := ?_) (by rfl) rfl ?_ ?_
      rotate_left 2
      · go_simp
        constructor
        · rfl
        · rfl
      have UB := blk_new (w2.drew) (.cells #[.int .u8 (c.toNat : Int)] 5)
      try simp only [World.size_alloc] at UB
      replace UB := Aside0.mk UB
      refine hK.out _ _ ⟨blk_alloc (hHeld.1) (.cells #[.int .u8 (c.toNat : Int)] 5), below_alloc (hHeld.2) (.cells #[.int .u8 (c.toNat : Int)] 5)⟩ (fun hHeld => ?_)
      clear hK K
      refine norm_ (a' := ?_) ?_ ?_
      rotate_left
      · show Act.put _ (some 40) _ = _
        simp only [Act.put, List.setIfInBounds_toArray, List.set_cons_zero, List.set_cons_succ, i64_w, i32_w]
        rfl
      refine two_ (i := 5) (j := 15) (Ni := some 41) (Nj := some 9) #[true, true, true, true, true, true, false, true, true, true, false, false, false, false, false, false, false, false] #[true, true, true, true, true, false, false, true, true, true, false, false, false, false, false, true, false, false] rfl rfl rfl rfl (by kernel_rfl) (by decide) (by decide) (fun K hK => ?_) (fun K hK => ?_)
      · skip
        have hcv := conv_one (((w2).alloc (.cells #[.int .u8 (c.toNat : Int)] 5)).drew) (w2.heap.size) c ((blk_cell UB.out 0).trans rfl)
        refine value_ (w1 := ?_) (v := ?_) (by rfl) rfl ?_ ?_
        rotate_left 2
        · go_simp
          constructor
          · rfl
          · rfl
        clear hcv
        refine hK.out _ _ ⟨hHeld.1, hHeld.2⟩ (fun hHeld => ?_)
        clear hK K
        refine norm_ (a' := ?_) ?_ ?_
        rotate_left
        · show Act.put _ (some 41) _ = _
          simp only [Act.put, List.setIfInBounds_toArray, List.set_cons_zero, List.set_cons_succ, i64_w, i32_w]
          rfl
        refine pure_ (i := 6) (N := some 42) (v := ?_) (a' := ?_) #[true, true, true, true, true, true, true, true, true, true, false, false, false, false, false, false, false, false] rfl rfl (by kernel_rfl) (fun _ _ _ h => h) (Or.inl ⟨by rfl, ?_⟩) ?_ ?_
        rotate_left
        · intro w'
          go_simp
          with_reducible rfl
        rotate_left
        · simp only [Act.put, List.setIfInBounds_toArray, List.set_cons_zero, List.set_cons_succ, i64_w, i32_w]
          rfl
        refine pure_ (i := 10) (N := some 46) (v := ?_) (a' := ?_) #[true, true, true, true, true, true, true, true, true, true, true, false, false, false, false, false, false, false] rfl rfl (by kernel_rfl) (fun _ _ _ h => h) (Or.inl ⟨by rfl, ?_⟩) ?_ ?_
        rotate_left
        · intro w'
          go_simp
          with_reducible rfl
        rotate_left
        · simp only [Act.put, List.setIfInBounds_toArray, List.set_cons_zero, List.set_cons_succ, i64_w, i32_w]
          rfl
        refine two_ (i := 11) (j := 15) (Ni := some 47) (Nj := some 9) #[true, true, true, true, true, true, true, true, true, true, true, true, false, false, false, false, false, false] #[true, true, true, true, true, true, true, true, true, true, true, false, false, false, false, true, false, false] rfl rfl rfl rfl (by kernel_rfl) (by decide) (by decide) (fun K hK => ?_) (fun K hK => ?_)
        · skip
          refine goes_ Tryd.func8 (by kernel_rfl) rfl #[.string (s.extract 0 n ++ ⟨#[c]⟩ ++ s.extract n s.size)] (by rfl) rfl rfl (by simp only [List.map_toArray, List.map_cons, List.map_nil]; rfl) ?_
          with_reducible refine (ps_no (more s n c) HM.out _ (HT.out.below (hHeld.2)) (HE.out.below (hHeld.2)) HX.out).mono ?_
          rintro e w8 ⟨rfl, hb⟩
          refine ⟨_, rfl, ?_⟩
          refine hK.out _ _ ⟨(hb.block _ (blk_lt (hHeld.1))).trans (hHeld.1), below_then (hHeld.2) (hHeld.2).size hb⟩ (fun hHeld => ?_)
          clear hK K
          refine norm_ (a' := ?_) ?_ ?_
          rotate_left
          · show Act.put _ (some 47) _ = _
            simp only [Act.put, List.setIfInBounds_toArray, List.set_cons_zero, List.set_cons_succ, i64_w, i32_w]
            rfl
          refine pure_ (i := 12) (N := some 35) (v := ?_) (a' := ?_) #[true, true, true, true, true, true, true, true, true, true, true, true, true, false, false, false, false, false] rfl rfl (by kernel_rfl) (fun _ _ _ h => h) (Or.inl ⟨by rfl, ?_⟩) ?_ ?_
          rotate_left
          · intro w'
            go_simp
            with_reducible rfl
          rotate_left
          · simp only [Act.put, List.setIfInBounds_toArray, List.set_cons_zero, List.set_cons_succ, i64_w, i32_w]
            rfl
          refine pure_ (i := 13) (N := some 48) (v := ?_) (a' := ?_) #[true, true, true, true, true, true, true, true, true, true, true, true, true, true, false, false, false, false] rfl rfl (by kernel_rfl) (fun _ _ _ h => h) (Or.inl ⟨by rfl, ?_⟩) ?_ ?_
          rotate_left
          · intro w'
            go_simp
            with_reducible rfl
          rotate_left
          · simp only [Act.put, List.setIfInBounds_toArray, List.set_cons_zero, List.set_cons_succ, i64_w, i32_w]
            rfl
          refine pure_ (i := 14) (N := some 49) (v := ?_) (a' := ?_) #[true, true, true, true, true, true, true, true, true, true, true, true, true, true, true, false, false, false] rfl rfl (by kernel_rfl) (fun _ _ _ h => h) (Or.inl ⟨by rfl, ?_⟩) ?_ ?_
          rotate_left
          · intro w'
            go_simp
            with_reducible rfl
          rotate_left
          · simp only [Act.put, List.setIfInBounds_toArray, List.set_cons_zero, List.set_cons_succ, i64_w, i32_w]
            rfl
          refine one_ (i := 15) (N := some 9) #[true, true, true, true, true, true, true, true, true, true, true, true, true, true, true, true, false, false] rfl rfl (by kernel_rfl) (by decide) (fun K hK => ?_)
          refine value_ (w1 := ?_) (v := ?_) (by rfl) rfl ?_ ?_
          rotate_left 2
          · go_simp
            constructor
            · rfl
            · rfl
          have KB := blk_new (w8) (.cells #[.int .i64 0, .int .u64 0, .int .u64 0, .int .i64 0, .int .i64 0, .int .i64 0, .string ⟨#[]⟩] 24)
          try simp only [World.size_alloc] at KB
          replace KB := Aside0.mk KB
          have NE := Aside0.mk (show ba ≠ w8.heap.size from by have h := blk_lt (hHeld.1); (try simp at h); omega)
          have GE := Aside0.mk (show w.heap.size ≤ w8.heap.size from by have h := hHeld.2.size; (try simp at h); omega)
          refine hK.out _ _ ⟨blk_alloc (hHeld.1) (.cells #[.int .i64 0, .int .u64 0, .int .u64 0, .int .i64 0, .int .i64 0, .int .i64 0, .string ⟨#[]⟩] 24), below_alloc (hHeld.2) (.cells #[.int .i64 0, .int .u64 0, .int .u64 0, .int .i64 0, .int .i64 0, .int .i64 0, .string ⟨#[]⟩] 24)⟩ (fun hHeld => ?_)
          clear hK K
          refine norm_ (a' := ?_) ?_ ?_
          rotate_left
          · show Act.put _ (some 9) _ = _
            simp only [Act.put, List.setIfInBounds_toArray, List.set_cons_zero, List.set_cons_succ, i64_w, i32_w]
            rfl
          exact norm_ (by simp only [putAll, Act.put, List.setIfInBounds_toArray, List.set_cons_zero, List.set_cons_succ]) (hCont ((w2.heap.size, w8.heap.size)) _ ⟨KB.out, NE.out, GE.out, hHeld.1, hHeld.2⟩)
        · skip
          refine value_ (w1 := ?_) (v := ?_) (by rfl) rfl ?_ ?_
          rotate_left 2
          · go_simp
            constructor
            · rfl
            · rfl
          have KB := blk_new ((w2.drew).alloc (.cells #[.int .u8 (c.toNat : Int)] 5)) (.cells #[.int .i64 0, .int .u64 0, .int .u64 0, .int .i64 0, .int .i64 0, .int .i64 0, .string ⟨#[]⟩] 24)
          try simp only [World.size_alloc] at KB
          replace KB := Aside0.mk KB
          have NE := Aside0.mk (show ba ≠ w2.heap.size + 1 from by have h := blk_lt (hHeld.1); (try simp at h); omega)
          have GE := Aside0.mk (show w.heap.size ≤ w2.heap.size + 1 from by have h := hHeld.2.size; (try simp at h); omega)
          replace UB := Aside0.mk (blk_alloc UB.out (.cells #[.int .i64 0, .int .u64 0, .int .u64 0, .int .i64 0, .int .i64 0, .int .i64 0, .string ⟨#[]⟩] 24))
          refine hK.out _ _ ⟨blk_alloc (hHeld.1) (.cells #[.int .i64 0, .int .u64 0, .int .u64 0, .int .i64 0, .int .i64 0, .int .i64 0, .string ⟨#[]⟩] 24), below_alloc (hHeld.2) (.cells #[.int .i64 0, .int .u64 0, .int .u64 0, .int .i64 0, .int .i64 0, .int .i64 0, .string ⟨#[]⟩] 24)⟩ (fun hHeld => ?_)
          clear hK K
          refine norm_ (a' := ?_) ?_ ?_
          rotate_left
          · show Act.put _ (some 9) _ = _
            simp only [Act.put, List.setIfInBounds_toArray, List.set_cons_zero, List.set_cons_succ, i64_w, i32_w]
            rfl
          refine one_ (i := 11) (N := some 47) #[true, true, true, true, true, true, true, true, true, true, true, true, false, false, false, true, false, false] rfl rfl (by kernel_rfl) (by decide) (fun K hK => ?_)
          refine goes_ Tryd.func8 (by kernel_rfl) rfl #[.string (s.extract 0 n ++ ⟨#[c]⟩ ++ s.extract n s.size)] (by rfl) rfl rfl (by simp only [List.map_toArray, List.map_cons, List.map_nil]; rfl) ?_
          with_reducible refine (ps_no (more s n c) HM.out _ (HT.out.below (hHeld.2)) (HE.out.below (hHeld.2)) HX.out).mono ?_
          rintro e w8 ⟨rfl, hb⟩
          refine ⟨_, rfl, ?_⟩
          replace KB := Aside0.mk ((hb.block _ (blk_lt KB.out)).trans KB.out)
          refine hK.out _ _ ⟨(hb.block _ (blk_lt (hHeld.1))).trans (hHeld.1), below_then (hHeld.2) (hHeld.2).size hb⟩ (fun hHeld => ?_)
          clear hK K
          refine norm_ (a' := ?_) ?_ ?_
          rotate_left
          · show Act.put _ (some 47) _ = _
            simp only [Act.put, List.setIfInBounds_toArray, List.set_cons_zero, List.set_cons_succ, i64_w, i32_w]
            rfl
          refine pure_ (i := 12) (N := some 35) (v := ?_) (a' := ?_) #[true, true, true, true, true, true, true, true, true, true, true, true, true, false, false, true, false, false] rfl rfl (by kernel_rfl) (fun _ _ _ h => h) (Or.inl ⟨by rfl, ?_⟩) ?_ ?_
          rotate_left
          · intro w'
            go_simp
            with_reducible rfl
          rotate_left
          · simp only [Act.put, List.setIfInBounds_toArray, List.set_cons_zero, List.set_cons_succ, i64_w, i32_w]
            rfl
          refine pure_ (i := 13) (N := some 48) (v := ?_) (a' := ?_) #[true, true, true, true, true, true, true, true, true, true, true, true, true, true, false, true, false, false] rfl rfl (by kernel_rfl) (fun _ _ _ h => h) (Or.inl ⟨by rfl, ?_⟩) ?_ ?_
          rotate_left
          · intro w'
            go_simp
            with_reducible rfl
          rotate_left
          · simp only [Act.put, List.setIfInBounds_toArray, List.set_cons_zero, List.set_cons_succ, i64_w, i32_w]
            rfl
          refine pure_ (i := 14) (N := some 49) (v := ?_) (a' := ?_) #[true, true, true, true, true, true, true, true, true, true, true, true, true, true, true, true, false, false] rfl rfl (by kernel_rfl) (fun _ _ _ h => h) (Or.inl ⟨by rfl, ?_⟩) ?_ ?_
          rotate_left
          · intro w'
            go_simp
            with_reducible rfl
          rotate_left
          · simp only [Act.put, List.setIfInBounds_toArray, List.set_cons_zero, List.set_cons_succ, i64_w, i32_w]
            rfl
          exact norm_ (by simp only [putAll, Act.put, List.setIfInBounds_toArray, List.set_cons_zero, List.set_cons_succ]) (hCont ((w2.heap.size, w2.heap.size + 1)) _ ⟨KB.out, NE.out, GE.out, hHeld.1, hHeld.2⟩)
      · skip
        refine value_ (w1 := ?_) (v := ?_) (by rfl) rfl ?_ ?_
        rotate_left 2
        · go_simp
          constructor
          · rfl
          · rfl
        have KB := blk_new ((w2.drew).alloc (.cells #[.int .u8 (c.toNat : Int)] 5)) (.cells #[.int .i64 0, .int .u64 0, .int .u64 0, .int .i64 0, .int .i64 0, .int .i64 0, .string ⟨#[]⟩] 24)
        try simp only [World.size_alloc] at KB
        replace KB := Aside0.mk KB
        have NE := Aside0.mk (show ba ≠ w2.heap.size + 1 from by have h := blk_lt (hHeld.1); (try simp at h); omega)
        have GE := Aside0.mk (show w.heap.size ≤ w2.heap.size + 1 from by have h := hHeld.2.size; (try simp at h); omega)
        replace UB := Aside0.mk (blk_alloc UB.out (.cells #[.int .i64 0, .int .u64 0, .int .u64 0, .int .i64 0, .int .i64 0, .int .i64 0, .string ⟨#[]⟩] 24))
        refine hK.out _ _ ⟨blk_alloc (hHeld.1) (.cells #[.int .i64 0, .int .u64 0, .int .u64 0, .int .i64 0, .int .i64 0, .int .i64 0, .string ⟨#[]⟩] 24), below_alloc (hHeld.2) (.cells #[.int .i64 0, .int .u64 0, .int .u64 0, .int .i64 0, .int .i64 0, .int .i64 0, .string ⟨#[]⟩] 24)⟩ (fun hHeld => ?_)
        clear hK K
        refine norm_ (a' := ?_) ?_ ?_
        rotate_left
        · show Act.put _ (some 9) _ = _
          simp only [Act.put, List.setIfInBounds_toArray, List.set_cons_zero, List.set_cons_succ, i64_w, i32_w]
          rfl
        refine one_ (i := 5) (N := some 41) #[true, true, true, true, true, true, false, true, true, true, false, false, false, false, false, true, false, false] rfl rfl (by kernel_rfl) (by decide) (fun K hK => ?_)
        have hcv := conv_one ((((w2).alloc (.cells #[.int .u8 (c.toNat : Int)] 5)).alloc (.cells #[.int .i64 0, .int .u64 0, .int .u64 0, .int .i64 0, .int .i64 0, .int .i64 0, .string ⟨#[]⟩] 24)).drew) (w2.heap.size) c ((blk_cell UB.out 0).trans rfl)
        refine value_ (w1 := ?_) (v := ?_) (by rfl) rfl ?_ ?_
        rotate_left 2
        · go_simp
          constructor
          · rfl
          · rfl
        clear hcv
        refine hK.out _ _ ⟨hHeld.1, hHeld.2⟩ (fun hHeld => ?_)
        clear hK K
        refine norm_ (a' := ?_) ?_ ?_
        rotate_left
        · show Act.put _ (some 41) _ = _
          simp only [Act.put, List.setIfInBounds_toArray, List.set_cons_zero, List.set_cons_succ, i64_w, i32_w]
          rfl
        refine pure_ (i := 6) (N := some 42) (v := ?_) (a' := ?_) #[true, true, true, true, true, true, true, true, true, true, false, false, false, false, false, true, false, false] rfl rfl (by kernel_rfl) (fun _ _ _ h => h) (Or.inl ⟨by rfl, ?_⟩) ?_ ?_
        rotate_left
        · intro w'
          go_simp
          with_reducible rfl
        rotate_left
        · simp only [Act.put, List.setIfInBounds_toArray, List.set_cons_zero, List.set_cons_succ, i64_w, i32_w]
          rfl
        refine pure_ (i := 10) (N := some 46) (v := ?_) (a' := ?_) #[true, true, true, true, true, true, true, true, true, true, true, false, false, false, false, true, false, false] rfl rfl (by kernel_rfl) (fun _ _ _ h => h) (Or.inl ⟨by rfl, ?_⟩) ?_ ?_
        rotate_left
        · intro w'
          go_simp
          with_reducible rfl
        rotate_left
        · simp only [Act.put, List.setIfInBounds_toArray, List.set_cons_zero, List.set_cons_succ, i64_w, i32_w]
          rfl
        refine one_ (i := 11) (N := some 47) #[true, true, true, true, true, true, true, true, true, true, true, true, false, false, false, true, false, false] rfl rfl (by kernel_rfl) (by decide) (fun K hK => ?_)
        refine goes_ Tryd.func8 (by kernel_rfl) rfl #[.string (s.extract 0 n ++ ⟨#[c]⟩ ++ s.extract n s.size)] (by rfl) rfl rfl (by simp only [List.map_toArray, List.map_cons, List.map_nil]; rfl) ?_
        with_reducible refine (ps_no (more s n c) HM.out _ (HT.out.below (hHeld.2)) (HE.out.below (hHeld.2)) HX.out).mono ?_
        rintro e w8 ⟨rfl, hb⟩
        refine ⟨_, rfl, ?_⟩
        replace KB := Aside0.mk ((hb.block _ (blk_lt KB.out)).trans KB.out)
        refine hK.out _ _ ⟨(hb.block _ (blk_lt (hHeld.1))).trans (hHeld.1), below_then (hHeld.2) (hHeld.2).size hb⟩ (fun hHeld => ?_)
        clear hK K
        refine norm_ (a' := ?_) ?_ ?_
        rotate_left
        · show Act.put _ (some 47) _ = _
          simp only [Act.put, List.setIfInBounds_toArray, List.set_cons_zero, List.set_cons_succ, i64_w, i32_w]
          rfl
        refine pure_ (i := 12) (N := some 35) (v := ?_) (a' := ?_) #[true, true, true, true, true, true, true, true, true, true, true, true, true, false, false, true, false, false] rfl rfl (by kernel_rfl) (fun _ _ _ h => h) (Or.inl ⟨by rfl, ?_⟩) ?_ ?_
        rotate_left
        · intro w'
          go_simp
          with_reducible rfl
        rotate_left
        · simp only [Act.put, List.setIfInBounds_toArray, List.set_cons_zero, List.set_cons_succ, i64_w, i32_w]
          rfl
        refine pure_ (i := 13) (N := some 48) (v := ?_) (a' := ?_) #[true, true, true, true, true, true, true, true, true, true, true, true, true, true, false, true, false, false] rfl rfl (by kernel_rfl) (fun _ _ _ h => h) (Or.inl ⟨by rfl, ?_⟩) ?_ ?_
        rotate_left
        · intro w'
          go_simp
          with_reducible rfl
        rotate_left
        · simp only [Act.put, List.setIfInBounds_toArray, List.set_cons_zero, List.set_cons_succ, i64_w, i32_w]
          rfl
        refine pure_ (i := 14) (N := some 49) (v := ?_) (a' := ?_) #[true, true, true, true, true, true, true, true, true, true, true, true, true, true, true, true, false, false] rfl rfl (by kernel_rfl) (fun _ _ _ h => h) (Or.inl ⟨by rfl, ?_⟩) ?_ ?_
        rotate_left
        · intro w'
          go_simp
          with_reducible rfl
        rotate_left
        · simp only [Act.put, List.setIfInBounds_toArray, List.set_cons_zero, List.set_cons_succ, i64_w, i32_w]
          rfl
        exact norm_ (by simp only [putAll, Act.put, List.setIfInBounds_toArray, List.set_cons_zero, List.set_cons_succ]) (hCont ((w2.heap.size, w2.heap.size + 1)) _ ⟨KB.out, NE.out, GE.out, hHeld.1, hHeld.2⟩)
    · skip
      refine value_ (w1 := ?_) (v := ?_) (by rfl) rfl ?_ ?_
      rotate_left 2
      · go_simp
        constructor
        · rfl
        · rfl
      have KB := blk_new (w2.drew) (.cells #[.int .i64 0, .int .u64 0, .int .u64 0, .int .i64 0, .int .i64 0, .int .i64 0, .string ⟨#[]⟩] 24)
      try simp only [World.size_alloc] at KB
      replace KB := Aside0.mk KB
      have NE := Aside0.mk (show ba ≠ w2.heap.size from by have h := blk_lt (hHeld.1); (try simp at h); omega)
      have GE := Aside0.mk (show w.heap.size ≤ w2.heap.size from by have h := hHeld.2.size; (try simp at h); omega)
      refine hK.out _ _ ⟨blk_alloc (hHeld.1) (.cells #[.int .i64 0, .int .u64 0, .int .u64 0, .int .i64 0, .int .i64 0, .int .i64 0, .string ⟨#[]⟩] 24), below_alloc (hHeld.2) (.cells #[.int .i64 0, .int .u64 0, .int .u64 0, .int .i64 0, .int .i64 0, .int .i64 0, .string ⟨#[]⟩] 24)⟩ (fun hHeld => ?_)
      clear hK K
      refine norm_ (a' := ?_) ?_ ?_
      rotate_left
      · show Act.put _ (some 9) _ = _
        simp only [Act.put, List.setIfInBounds_toArray, List.set_cons_zero, List.set_cons_succ, i64_w, i32_w]
        rfl
      refine one_ (i := 4) (N := some 40) #[true, true, true, true, true, false, false, true, true, true, false, false, false, false, false, true, false, false] rfl rfl (by kernel_rfl) (by decide) (fun K hK => ?_)
      refine value_ (w1 := ?_) (v := ?_) (by rfl) rfl ?_ ?_
      rotate_left 2
      · go_simp
        constructor
        · rfl
        · rfl
      have UB := blk_new ((w2.drew).alloc (.cells #[.int .i64 0, .int .u64 0, .int .u64 0, .int .i64 0, .int .i64 0, .int .i64 0, .string ⟨#[]⟩] 24)) (.cells #[.int .u8 (c.toNat : Int)] 5)
      try simp only [World.size_alloc] at UB
      replace UB := Aside0.mk UB
      replace KB := Aside0.mk (blk_alloc KB.out (.cells #[.int .u8 (c.toNat : Int)] 5))
      refine hK.out _ _ ⟨blk_alloc (hHeld.1) (.cells #[.int .u8 (c.toNat : Int)] 5), below_alloc (hHeld.2) (.cells #[.int .u8 (c.toNat : Int)] 5)⟩ (fun hHeld => ?_)
      clear hK K
      refine norm_ (a' := ?_) ?_ ?_
      rotate_left
      · show Act.put _ (some 40) _ = _
        simp only [Act.put, List.setIfInBounds_toArray, List.set_cons_zero, List.set_cons_succ, i64_w, i32_w]
        rfl
      refine one_ (i := 5) (N := some 41) #[true, true, true, true, true, true, false, true, true, true, false, false, false, false, false, true, false, false] rfl rfl (by kernel_rfl) (by decide) (fun K hK => ?_)
      have hcv := conv_one ((((w2).alloc (.cells #[.int .i64 0, .int .u64 0, .int .u64 0, .int .i64 0, .int .i64 0, .int .i64 0, .string ⟨#[]⟩] 24)).alloc (.cells #[.int .u8 (c.toNat : Int)] 5)).drew) (w2.heap.size + 1) c ((blk_cell UB.out 0).trans rfl)
      refine value_ (w1 := ?_) (v := ?_) (by rfl) rfl ?_ ?_
      rotate_left 2
      · go_simp
        constructor
        · rfl
        · rfl
      clear hcv
      refine hK.out _ _ ⟨hHeld.1, hHeld.2⟩ (fun hHeld => ?_)
      clear hK K
      refine norm_ (a' := ?_) ?_ ?_
      rotate_left
      · show Act.put _ (some 41) _ = _
        simp only [Act.put, List.setIfInBounds_toArray, List.set_cons_zero, List.set_cons_succ, i64_w, i32_w]
        rfl
      refine pure_ (i := 6) (N := some 42) (v := ?_) (a' := ?_) #[true, true, true, true, true, true, true, true, true, true, false, false, false, false, false, true, false, false] rfl rfl (by kernel_rfl) (fun _ _ _ h => h) (Or.inl ⟨by rfl, ?_⟩) ?_ ?_
      rotate_left
      · intro w'
        go_simp
        with_reducible rfl
      rotate_left
      · simp only [Act.put, List.setIfInBounds_toArray, List.set_cons_zero, List.set_cons_succ, i64_w, i32_w]
        rfl
      refine pure_ (i := 10) (N := some 46) (v := ?_) (a' := ?_) #[true, true, true, true, true, true, true, true, true, true, true, false, false, false, false, true, false, false] rfl rfl (by kernel_rfl) (fun _ _ _ h => h) (Or.inl ⟨by rfl, ?_⟩) ?_ ?_
      rotate_left
      · intro w'
        go_simp
        with_reducible rfl
      rotate_left
      · simp only [Act.put, List.setIfInBounds_toArray, List.set_cons_zero, List.set_cons_succ, i64_w, i32_w]
        rfl
      refine one_ (i := 11) (N := some 47) #[true, true, true, true, true, true, true, true, true, true, true, true, false, false, false, true, false, false] rfl rfl (by kernel_rfl) (by decide) (fun K hK => ?_)
      refine goes_ Tryd.func8 (by kernel_rfl) rfl #[.string (s.extract 0 n ++ ⟨#[c]⟩ ++ s.extract n s.size)] (by rfl) rfl rfl (by simp only [List.map_toArray, List.map_cons, List.map_nil]; rfl) ?_
      with_reducible refine (ps_no (more s n c) HM.out _ (HT.out.below (hHeld.2)) (HE.out.below (hHeld.2)) HX.out).mono ?_
      rintro e w8 ⟨rfl, hb⟩
      refine ⟨_, rfl, ?_⟩
      replace KB := Aside0.mk ((hb.block _ (blk_lt KB.out)).trans KB.out)
      refine hK.out _ _ ⟨(hb.block _ (blk_lt (hHeld.1))).trans (hHeld.1), below_then (hHeld.2) (hHeld.2).size hb⟩ (fun hHeld => ?_)
      clear hK K
      refine norm_ (a' := ?_) ?_ ?_
      rotate_left
      · show Act.put _ (some 47) _ = _
        simp only [Act.put, List.setIfInBounds_toArray, List.set_cons_zero, List.set_cons_succ, i64_w, i32_w]
        rfl
      refine pure_ (i := 12) (N := some 35) (v := ?_) (a' := ?_) #[true, true, true, true, true, true, true, true, true, true, true, true, true, false, false, true, false, false] rfl rfl (by kernel_rfl) (fun _ _ _ h => h) (Or.inl ⟨by rfl, ?_⟩) ?_ ?_
      rotate_left
      · intro w'
        go_simp
        with_reducible rfl
      rotate_left
      · simp only [Act.put, List.setIfInBounds_toArray, List.set_cons_zero, List.set_cons_succ, i64_w, i32_w]
        rfl
      refine pure_ (i := 13) (N := some 48) (v := ?_) (a' := ?_) #[true, true, true, true, true, true, true, true, true, true, true, true, true, true, false, true, false, false] rfl rfl (by kernel_rfl) (fun _ _ _ h => h) (Or.inl ⟨by rfl, ?_⟩) ?_ ?_
      rotate_left
      · intro w'
        go_simp
        with_reducible rfl
      rotate_left
      · simp only [Act.put, List.setIfInBounds_toArray, List.set_cons_zero, List.set_cons_succ, i64_w, i32_w]
        rfl
      refine pure_ (i := 14) (N := some 49) (v := ?_) (a' := ?_) #[true, true, true, true, true, true, true, true, true, true, true, true, true, true, true, true, false, false] rfl rfl (by kernel_rfl) (fun _ _ _ h => h) (Or.inl ⟨by rfl, ?_⟩) ?_ ?_
      rotate_left
      · intro w'
        go_simp
        with_reducible rfl
      rotate_left
      · simp only [Act.put, List.setIfInBounds_toArray, List.set_cons_zero, List.set_cons_succ, i64_w, i32_w]
        rfl
      exact norm_ (by simp only [putAll, Act.put, List.setIfInBounds_toArray, List.set_cons_zero, List.set_cons_succ]) (hCont ((w2.heap.size + 1, w2.heap.size)) _ ⟨KB.out, NE.out, GE.out, hHeld.1, hHeld.2⟩)
  rintro sg_ w9 ⟨hk, hne, hge, h1, h2⟩
  have hHeld : w9.heap[ba]? = some (.cells #[.int .i64 a0, .int .u64 a1, .int .u64 a2, .int .i64 a3, .int .i64 a4, .int .i64 a5, .string ⟨a6.toArray⟩] 24 (0, 0)) ∧ Below w.heap.size w w9 := ⟨h1, h2⟩
  have KB := Aside0.mk hk
  have NE := Aside0.mk hne
  have GE := Aside0.mk hge
  clear hk h1 h2 hne hge
  refine norm_ (a' := ?_) ?_ ?_
  rotate_left
  · simp only [putAll, Act.put, List.setIfInBounds_toArray, List.set_cons_zero, List.set_cons_succ]
    rfl
  refine one_ (i := 16) (N := none) #[true, true, true, true, true, true, true, true, true, true, true, true, true, true, true, true, true, false] rfl rfl (by kernel_rfl) (by decide) (fun K hK => ?_)
  have k0 := (blk_cell KB.out 0).trans (show _ = some (.int .i64 0) from rfl)
  have k1 := (blk_cell KB.out 1).trans (show _ = some (.int .u64 0) from rfl)
  have k2 := (blk_cell KB.out 2).trans (show _ = some (.int .u64 0) from rfl)
  have k3 := (blk_cell KB.out 3).trans (show _ = some (.int .i64 0) from rfl)
  have k4 := (blk_cell KB.out 4).trans (show _ = some (.int .i64 0) from rfl)
  have k5 := (blk_cell KB.out 5).trans (show _ = some (.int .i64 0) from rfl)
  have k6 := (blk_cell KB.out 6).trans (show _ = some (.string ⟨#[]⟩) from rfl)
  have f0 := blk_frozen KB.out 0
  have f1 := blk_frozen KB.out 1
  have f2 := blk_frozen KB.out 2
  have f3 := blk_frozen KB.out 3
  have f4 := blk_frozen KB.out 4
  have f5 := blk_frozen KB.out 5
  have f6 := blk_frozen KB.out 6
  refine skip_ (w1 := ?_) (by rfl) rfl ?_ ?_
  rotate_left
  · go_simp
    rfl
  have XB : ((((((((w9).setCell ⟨sg_.2, 0, none⟩ (.int .i64 0)).setCell ⟨sg_.2, 1, none⟩ (.int .u64 0)).setCell ⟨sg_.2, 2, none⟩ (.int .u64 0)).setCell ⟨sg_.2, 3, none⟩ (.int .i64 0)).setCell ⟨sg_.2, 4, none⟩ (.int .i64 0)).setCell ⟨sg_.2, 5, none⟩ (.int .i64 0)).setCell ⟨sg_.2, 6, none⟩ (.string ⟨#[]⟩)).heap[sg_.2]? = some (.cells #[.int .i64 0, .int .u64 0, .int .u64 0, .int .i64 0, .int .i64 0, .int .i64 0, .string ⟨#[]⟩] 24 (0, 0)) := blk_set (blk_set (blk_set (blk_set (blk_set (blk_set (blk_set (KB.out) 0 _) 1 _) 2 _) 3 _) 4 _) 5 _) 6 _
  clear k0 f0 k1 f1 k2 f2 k3 f3 k4 f4 k5 f5 k6 f6
  refine hK.out _ _ ⟨blk_far (blk_far (blk_far (blk_far (blk_far (blk_far (blk_far (hHeld.1) NE.out _) NE.out _) NE.out _) NE.out _) NE.out _) NE.out _) NE.out _, (((((((hHeld.2).setCell (p := ⟨sg_.2, 0, none⟩) GE.out _).setCell (p := ⟨sg_.2, 1, none⟩) GE.out _).setCell (p := ⟨sg_.2, 2, none⟩) GE.out _).setCell (p := ⟨sg_.2, 3, none⟩) GE.out _).setCell (p := ⟨sg_.2, 4, none⟩) GE.out _).setCell (p := ⟨sg_.2, 5, none⟩) GE.out _).setCell (p := ⟨sg_.2, 6, none⟩) GE.out _⟩ (fun hHeld => ?_)
  clear hK K
  refine pure_ (i := 17) (N := some 10) (v := ?_) (a' := ?_) #[true, true, true, true, true, true, true, true, true, true, true, true, true, true, true, true, true, true] rfl rfl (by kernel_rfl) (fun _ _ _ h => h) (Or.inl ⟨by rfl, ?_⟩) ?_ ?_
  rotate_left
  · intro w'
    go_simp
    with_reducible rfl
  rotate_left
  · simp only [Act.put, List.setIfInBounds_toArray, List.set_cons_zero, List.set_cons_succ, i64_w, i32_w]
    rfl
  refine done_ (by kernel_rfl) ?_
  clear z1 z2
  clear KB NE GE
  generalize (((((((w9).setCell ⟨sg_.2, 0, none⟩ (.int .i64 0)).setCell ⟨sg_.2, 1, none⟩ (.int .u64 0)).setCell ⟨sg_.2, 2, none⟩ (.int .u64 0)).setCell ⟨sg_.2, 3, none⟩ (.int .i64 0)).setCell ⟨sg_.2, 4, none⟩ (.int .i64 0)).setCell ⟨sg_.2, 5, none⟩ (.int .i64 0)).setCell ⟨sg_.2, 6, none⟩ (.string ⟨#[]⟩) = w10 at hHeld XB ⊢
  generalize hsg : sg_.2 = bb at *
  clear hsg
  have XA := Aside0.mk hHeld.1
  replace XB := Aside0.mk XB
  have D_w10 := Aside0.mk hHeld.2
  clear hHeld
  have q1 : ((n : Int) == (s.size : Int)) = true := by rw [HLE.out]; exact beq_self_eq_true _
  have q2 : (n == s.size) = true := by rw [HLE.out]; exact beq_self_eq_true _
  go_wp2
  go_ret
  exact ⟨rfl, D_w10.out⟩
set_option maxRecDepth 100000 in
set_option maxHeartbeats 8000000 in
theorem strict_te (a0 a1 a2 a3 a4 a5 b0 b1 b2 b3 b4 b5 : Int) (a6 b6 : List UInt8) (s : ByteArray) (hs : s.size ≤ 281474976710000) (a : Int) (ha0 : -9223372036854775808 ≤ a) (ha1 : a ≤ 9223372036854775807) (c : UInt8) (w : World) (ht : Tens w) (he : Errs w)
    (n : Nat) (hn : a = (n : Int)) (hle : n = s.size) (hy : callP s.data.toList = some (⟨a0, a1, a2, a3, a4, a5, a6⟩ : Call7)) (hx : callP (more s n c).data.toList = some (⟨b0, b1, b2, b3, b4, b5, b6⟩ : Call7)) (hxb : (b0 == a0 && (b1 == a1 && (b2 == a2 && (b3 == a3 && (b4 == a4 && (b5 == a5 && b6 == a6)))))) = false) :
    Calls Tryd.prog 6 #[.string s, .int .i64 a, .int .u8 (c.toNat : Int)] w fun e w' => e = .returned (.bool true) ∧ Below w.heap.size w w' := by
  have HT := Aside0.mk ht
  have HE := Aside0.mk he
  have HS := Aside0.mk (show s.size ≤ 281474976710656 by omega)
  have D0 := Aside0.mk (Below.refl w.heap.size w)
  have hle2 : n ≤ s.size := by omega
  have HM := Aside0.mk (show (more s n c).size ≤ 281474976710656 by rw [more_size s n c hle2]; omega)
  have hsz : s.size ≤ 281474976710000 := hs
  subst hn
  have HY := Aside0.mk hy
  have HX := Aside0.mk hx
  have HXB := Aside0.mk hxb
  clear hxb
  have HLE := Aside0.mk hle
  clear hle
  clear ht he hy hx hs ha0 ha1
  go_enter Tryd.func6, Tryd.ntmps6
  go_wp2_with fail
  refine (ps_yes s HS.out a0 a1 a2 a3 a4 a5 a6 _ (HT.out.below D0.out) (HE.out.below D0.out) HY.out).mono ?_
  rintro e w1 ⟨rfl, hb⟩
  have D1 := Aside0.mk (below_then D0.out D0.out.size hb)
  clear hb D0
  have XA := Aside0.mk (blk_new w1 (.cells #[.int .i64 a0, .int .u64 a1, .int .u64 a2, .int .i64 a3, .int .i64 a4, .int .i64 a5, .string ⟨a6.toArray⟩] 24))
  have E1 := Aside0.mk (below_alloc D1.out (.cells #[.int .i64 a0, .int .u64 a1, .int .u64 a2, .int .i64 a3, .int .i64 a4, .int .i64 a5, .string ⟨a6.toArray⟩] 24))
  obtain ⟨ba, hba⟩ : ∃ ba, ba = w1.heap.size := ⟨_, rfl⟩
  rw [← hba] at XA
  clear D1
  go_wp2_with fail
  rw [← hba]
  clear hba
  generalize w1.alloc (.cells #[.int .i64 a0, .int .u64 a1, .int .u64 a2, .int .i64 a3, .int .i64 a4, .int .i64 a5, .string ⟨a6.toArray⟩] 24) = v1 at XA E1 ⊢
  refine (fixed_q _ (HT.out.below E1.out) (HE.out.below E1.out)).mono ?_
  rintro e w2 ⟨rfl, hb⟩
  replace XA := Aside0.mk ((hb.block _ (blk_lt XA.out)).trans XA.out)
  have D2 := Aside0.mk (below_then E1.out E1.out.size hb)
  clear hb E1
  go_wp2_with fail
  have XAd : w2.drew.heap[ba]? = some (.cells #[.int .i64 a0, .int .u64 a1, .int .u64 a2, .int .i64 a3, .int .i64 a4, .int .i64 a5, .string ⟨a6.toArray⟩] 24 (0, 0)) := XA.out
  have DDr := below_drew D2.out
  clear XA D2
  have z1 : (9223372036854775807 < n + 1) = False := eq_false (by omega)
  have z2 : (9223372036854775807 < n + 1 + (s.size - n)) = False := eq_false (by omega)
  refine start_ (n := 18) (S := fun w' => w'.heap[ba]? = some (.cells #[.int .i64 a0, .int .u64 a1, .int .u64 a2, .int .i64 a3, .int .i64 a4, .int .i64 a5, .string ⟨a6.toArray⟩] 24 (0, 0)) ∧ Below w.heap.size w w') (ds := []) #[false, false, false, false, false, false, false, false, false, false, false, false, false, false, false, false, false, false] (by kernel_rfl) rfl rfl ⟨XAd, DDr⟩ (fun hHeld => ?_)
  refine pure_ (i := 0) (N := some 36) (v := ?_) (a' := ?_) #[true, false, false, false, false, false, false, false, false, false, false, false, false, false, false, false, false, false] rfl rfl (by kernel_rfl) (fun _ _ _ h => h) (Or.inl ⟨by rfl, ?_⟩) ?_ ?_
  rotate_left
  · intro w'
    go_simp
    with_reducible rfl
  rotate_left
  · simp only [Act.put, List.setIfInBounds_toArray, List.set_cons_zero, List.set_cons_succ, i64_w, i32_w]
    rfl
  refine pure_ (i := 1) (N := some 37) (v := ?_) (a' := ?_) #[true, true, false, false, false, false, false, false, false, false, false, false, false, false, false, false, false, false] rfl rfl (by kernel_rfl) (fun _ _ _ h => h) (Or.inl ⟨by rfl, ?_⟩) ?_ ?_
  rotate_left
  · intro w'
    go_simp
    with_reducible rfl
  rotate_left
  · simp only [Act.put, List.setIfInBounds_toArray, List.set_cons_zero, List.set_cons_succ, i64_w, i32_w]
    rfl
  refine pure_ (i := 2) (N := some 38) (v := ?_) (a' := ?_) #[true, true, true, false, false, false, false, false, false, false, false, false, false, false, false, false, false, false] rfl rfl (by kernel_rfl) (fun _ _ _ h => h) (Or.inl ⟨by rfl, ?_⟩) ?_ ?_
  rotate_left
  · intro w'
    go_simp
    with_reducible rfl
  rotate_left
  · simp only [Act.put, List.setIfInBounds_toArray, List.set_cons_zero, List.set_cons_succ, i64_w, i32_w]
    rfl
  refine pure_ (i := 3) (N := some 39) (v := ?_) (a' := ?_) #[true, true, true, true, false, false, false, false, false, false, false, false, false, false, false, false, false, false] rfl rfl (by kernel_rfl) (fun _ _ _ h => h) (Or.inl ⟨by rfl, ?_⟩) ?_ ?_
  rotate_left
  · intro w'
    go_simp
    with_reducible rfl
  rotate_left
  · simp only [Act.put, List.setIfInBounds_toArray, List.set_cons_zero, List.set_cons_succ, i64_w, i32_w]
    rfl
  refine pure_ (i := 7) (N := some 43) (v := ?_) (a' := ?_) #[true, true, true, true, false, false, false, true, false, false, false, false, false, false, false, false, false, false] rfl rfl (by kernel_rfl) (fun _ _ _ h => h) (Or.inl ⟨by rfl, ?_⟩) ?_ ?_
  rotate_left
  · intro w'
    go_simp
    with_reducible rfl
  rotate_left
  · simp only [Act.put, List.setIfInBounds_toArray, List.set_cons_zero, List.set_cons_succ, i64_w, i32_w]
    rfl
  refine pure_ (i := 8) (N := some 44) (v := ?_) (a' := ?_) #[true, true, true, true, false, false, false, true, true, false, false, false, false, false, false, false, false, false] rfl rfl (by kernel_rfl) (fun _ _ _ h => h) (Or.inl ⟨by rfl, ?_⟩) ?_ ?_
  rotate_left
  · intro w'
    go_simp
    with_reducible rfl
  rotate_left
  · simp only [Act.put, List.setIfInBounds_toArray, List.set_cons_zero, List.set_cons_succ, i64_w, i32_w]
    rfl
  refine pure_ (i := 9) (N := some 45) (v := ?_) (a' := ?_) #[true, true, true, true, false, false, false, true, true, true, false, false, false, false, false, false, false, false] rfl rfl (by kernel_rfl) (fun _ _ _ h => h) (Or.inl ⟨by rfl, ?_⟩) ?_ ?_
  rotate_left
  · intro w'
    go_simp
    with_reducible rfl
  rotate_left
  · simp only [Act.put, List.setIfInBounds_toArray, List.set_cons_zero, List.set_cons_succ, i64_w, i32_w]
    rfl
  refine join_ (σ := Nat × Nat) 2 #[true, true, true, true, true, true, true, true, true, true, true, true, true, true, true, true, false, false] (fun sg_ => [(40, .slice (some ⟨sg_.1, 0, none⟩) 1 1), (41, .string ⟨#[c]⟩), (42, .string (s.extract 0 n ++ ⟨#[c]⟩)), (46, .string (s.extract 0 n ++ ⟨#[c]⟩ ++ s.extract n s.size)), (47, .tuple #[.agg #[.int .i64 b0, .int .u64 b1, .int .u64 b2, .int .i64 b3, .int .i64 b4, .int .i64 b5, .string ⟨b6.toArray⟩], .int .i64 0]), (35, .tuple #[.agg #[.int .i64 b0, .int .u64 b1, .int .u64 b2, .int .i64 b3, .int .i64 b4, .int .i64 b5, .string ⟨b6.toArray⟩], .int .i64 0]), (48, .agg #[.int .i64 b0, .int .u64 b1, .int .u64 b2, .int .i64 b3, .int .i64 b4, .int .i64 b5, .string ⟨b6.toArray⟩]), (49, .int .i64 0), (9, .pointer (some ⟨sg_.2, 0, none⟩))]) (fun sg_ w' => w'.heap[sg_.2]? = some (.cells #[.int .i64 0, .int .u64 0, .int .u64 0, .int .i64 0, .int .i64 0, .int .i64 0, .string ⟨#[]⟩] 24 (0, 0)) ∧ ba ≠ sg_.2 ∧ w.heap.size ≤ sg_.2 ∧ w'.heap[ba]? = some (.cells #[.int .i64 a0, .int .u64 a1, .int .u64 a2, .int .i64 a3, .int .i64 a4, .int .i64 a5, .string ⟨a6.toArray⟩] 24 (0, 0)) ∧ Below w.heap.size w w') ?_ ?_
  rotate_left
  · intro hCont
    refine two_ (i := 4) (j := 15) (Ni := some 40) (Nj := some 9) #[true, true, true, true, true, false, false, true, true, true, false, false, false, false, false, false, false, false] #[true, true, true, true, false, false, false, true, true, true, false, false, false, false, false, true, false, false] rfl rfl rfl rfl (by kernel_rfl) (by decide) (by decide) (fun K hK => ?_) (fun K hK => ?_)
    · skip
      refine value_ (w1 := ?_) (v := ?_) (by rfl) rfl ?_ ?_
      rotate_left 2
      · go_simp
        constructor
        · rfl
        · rfl
      have UB := blk_new (w2.drew) (.cells #[.int .u8 (c.toNat : Int)] 5)
      try simp only [World.size_alloc] at UB
      replace UB := Aside0.mk UB
      refine hK.out _ _ ⟨blk_alloc (hHeld.1) (.cells #[.int .u8 (c.toNat : Int)] 5), below_alloc (hHeld.2) (.cells #[.int .u8 (c.toNat : Int)] 5)⟩ (fun hHeld => ?_)
      clear hK K
      refine norm_ (a' := ?_) ?_ ?_
      rotate_left
      · show Act.put _ (some 40) _ = _
        simp only [Act.put, List.setIfInBounds_toArray, List.set_cons_zero, List.set_cons_succ, i64_w, i32_w]
        rfl
      refine two_ (i := 5) (j := 15) (Ni := some 41) (Nj := some 9) #[true, true, true, true, true, true, false, true, true, true, false, false, false, false, false, false, false, false] #[true, true, true, true, true, false, false, true, true, true, false, false, false, false, false, true, false, false] rfl rfl rfl rfl (by kernel_rfl) (by decide) (by decide) (fun K hK => ?_) (fun K hK => ?_)
      · skip
        have hcv := conv_one (((w2).alloc (.cells #[.int .u8 (c.toNat : Int)] 5)).drew) (w2.heap.size) c ((blk_cell UB.out 0).trans rfl)
        refine value_ (w1 := ?_) (v := ?_) (by rfl) rfl ?_ ?_
        rotate_left 2
        · go_simp
          constructor
          · rfl
          · rfl
        clear hcv
        refine hK.out _ _ ⟨hHeld.1, hHeld.2⟩ (fun hHeld => ?_)
        clear hK K
        refine norm_ (a' := ?_) ?_ ?_
        rotate_left
        · show Act.put _ (some 41) _ = _
          simp only [Act.put, List.setIfInBounds_toArray, List.set_cons_zero, List.set_cons_succ, i64_w, i32_w]
          rfl
        refine pure_ (i := 6) (N := some 42) (v := ?_) (a' := ?_) #[true, true, true, true, true, true, true, true, true, true, false, false, false, false, false, false, false, false] rfl rfl (by kernel_rfl) (fun _ _ _ h => h) (Or.inl ⟨by rfl, ?_⟩) ?_ ?_
        rotate_left
        · intro w'
          go_simp
          with_reducible rfl
        rotate_left
        · simp only [Act.put, List.setIfInBounds_toArray, List.set_cons_zero, List.set_cons_succ, i64_w, i32_w]
          rfl
        refine pure_ (i := 10) (N := some 46) (v := ?_) (a' := ?_) #[true, true, true, true, true, true, true, true, true, true, true, false, false, false, false, false, false, false] rfl rfl (by kernel_rfl) (fun _ _ _ h => h) (Or.inl ⟨by rfl, ?_⟩) ?_ ?_
        rotate_left
        · intro w'
          go_simp
          with_reducible rfl
        rotate_left
        · simp only [Act.put, List.setIfInBounds_toArray, List.set_cons_zero, List.set_cons_succ, i64_w, i32_w]
          rfl
        refine two_ (i := 11) (j := 15) (Ni := some 47) (Nj := some 9) #[true, true, true, true, true, true, true, true, true, true, true, true, false, false, false, false, false, false] #[true, true, true, true, true, true, true, true, true, true, true, false, false, false, false, true, false, false] rfl rfl rfl rfl (by kernel_rfl) (by decide) (by decide) (fun K hK => ?_) (fun K hK => ?_)
        · skip
          refine goes_ Tryd.func8 (by kernel_rfl) rfl #[.string (s.extract 0 n ++ ⟨#[c]⟩ ++ s.extract n s.size)] (by rfl) rfl rfl (by simp only [List.map_toArray, List.map_cons, List.map_nil]; rfl) ?_
          with_reducible refine (ps_yes (more s n c) HM.out b0 b1 b2 b3 b4 b5 b6 _ (HT.out.below (hHeld.2)) (HE.out.below (hHeld.2)) HX.out).mono ?_
          rintro e w8 ⟨rfl, hb⟩
          refine ⟨_, rfl, ?_⟩
          refine hK.out _ _ ⟨(hb.block _ (blk_lt (hHeld.1))).trans (hHeld.1), below_then (hHeld.2) (hHeld.2).size hb⟩ (fun hHeld => ?_)
          clear hK K
          refine norm_ (a' := ?_) ?_ ?_
          rotate_left
          · show Act.put _ (some 47) _ = _
            simp only [Act.put, List.setIfInBounds_toArray, List.set_cons_zero, List.set_cons_succ, i64_w, i32_w]
            rfl
          refine pure_ (i := 12) (N := some 35) (v := ?_) (a' := ?_) #[true, true, true, true, true, true, true, true, true, true, true, true, true, false, false, false, false, false] rfl rfl (by kernel_rfl) (fun _ _ _ h => h) (Or.inl ⟨by rfl, ?_⟩) ?_ ?_
          rotate_left
          · intro w'
            go_simp
            with_reducible rfl
          rotate_left
          · simp only [Act.put, List.setIfInBounds_toArray, List.set_cons_zero, List.set_cons_succ, i64_w, i32_w]
            rfl
          refine pure_ (i := 13) (N := some 48) (v := ?_) (a' := ?_) #[true, true, true, true, true, true, true, true, true, true, true, true, true, true, false, false, false, false] rfl rfl (by kernel_rfl) (fun _ _ _ h => h) (Or.inl ⟨by rfl, ?_⟩) ?_ ?_
          rotate_left
          · intro w'
            go_simp
            with_reducible rfl
          rotate_left
          · simp only [Act.put, List.setIfInBounds_toArray, List.set_cons_zero, List.set_cons_succ, i64_w, i32_w]
            rfl
          refine pure_ (i := 14) (N := some 49) (v := ?_) (a' := ?_) #[true, true, true, true, true, true, true, true, true, true, true, true, true, true, true, false, false, false] rfl rfl (by kernel_rfl) (fun _ _ _ h => h) (Or.inl ⟨by rfl, ?_⟩) ?_ ?_
          rotate_left
          · intro w'
            go_simp
            with_reducible rfl
          rotate_left
          · simp only [Act.put, List.setIfInBounds_toArray, List.set_cons_zero, List.set_cons_succ, i64_w, i32_w]
            rfl
          refine one_ (i := 15) (N := some 9) #[true, true, true, true, true, true, true, true, true, true, true, true, true, true, true, true, false, false] rfl rfl (by kernel_rfl) (by decide) (fun K hK => ?_)
          refine value_ (w1 := ?_) (v := ?_) (by rfl) rfl ?_ ?_
          rotate_left 2
          · go_simp
            constructor
            · rfl
            · rfl
          have KB := blk_new (w8) (.cells #[.int .i64 0, .int .u64 0, .int .u64 0, .int .i64 0, .int .i64 0, .int .i64 0, .string ⟨#[]⟩] 24)
          try simp only [World.size_alloc] at KB
          replace KB := Aside0.mk KB
          have NE := Aside0.mk (show ba ≠ w8.heap.size from by have h := blk_lt (hHeld.1); (try simp at h); omega)
          have GE := Aside0.mk (show w.heap.size ≤ w8.heap.size from by have h := hHeld.2.size; (try simp at h); omega)
          refine hK.out _ _ ⟨blk_alloc (hHeld.1) (.cells #[.int .i64 0, .int .u64 0, .int .u64 0, .int .i64 0, .int .i64 0, .int .i64 0, .string ⟨#[]⟩] 24), below_alloc (hHeld.2) (.cells #[.int .i64 0, .int .u64 0, .int .u64 0, .int .i64 0, .int .i64 0, .int .i64 0, .string ⟨#[]⟩] 24)⟩ (fun hHeld => ?_)
          clear hK K
          refine norm_ (a' := ?_) ?_ ?_
          rotate_left
          · show Act.put _ (some 9) _ = _
            simp only [Act.put, List.setIfInBounds_toArray, List.set_cons_zero, List.set_cons_succ, i64_w, i32_w]
            rfl
          exact norm_ (by simp only [putAll, Act.put, List.setIfInBounds_toArray, List.set_cons_zero, List.set_cons_succ]) (hCont ((w2.heap.size, w8.heap.size)) _ ⟨KB.out, NE.out, GE.out, hHeld.1, hHeld.2⟩)
        · skip
          refine value_ (w1 := ?_) (v := ?_) (by rfl) rfl ?_ ?_
          rotate_left 2
          · go_simp
            constructor
            · rfl
            · rfl
          have KB := blk_new ((w2.drew).alloc (.cells #[.int .u8 (c.toNat : Int)] 5)) (.cells #[.int .i64 0, .int .u64 0, .int .u64 0, .int .i64 0, .int .i64 0, .int .i64 0, .string ⟨#[]⟩] 24)
          try simp only [World.size_alloc] at KB
          replace KB := Aside0.mk KB
          have NE := Aside0.mk (show ba ≠ w2.heap.size + 1 from by have h := blk_lt (hHeld.1); (try simp at h); omega)
          have GE := Aside0.mk (show w.heap.size ≤ w2.heap.size + 1 from by have h := hHeld.2.size; (try simp at h); omega)
          replace UB := Aside0.mk (blk_alloc UB.out (.cells #[.int .i64 0, .int .u64 0, .int .u64 0, .int .i64 0, .int .i64 0, .int .i64 0, .string ⟨#[]⟩] 24))
          refine hK.out _ _ ⟨blk_alloc (hHeld.1) (.cells #[.int .i64 0, .int .u64 0, .int .u64 0, .int .i64 0, .int .i64 0, .int .i64 0, .string ⟨#[]⟩] 24), below_alloc (hHeld.2) (.cells #[.int .i64 0, .int .u64 0, .int .u64 0, .int .i64 0, .int .i64 0, .int .i64 0, .string ⟨#[]⟩] 24)⟩ (fun hHeld => ?_)
          clear hK K
          refine norm_ (a' := ?_) ?_ ?_
          rotate_left
          · show Act.put _ (some 9) _ = _
            simp only [Act.put, List.setIfInBounds_toArray, List.set_cons_zero, List.set_cons_succ, i64_w, i32_w]
            rfl
          refine one_ (i := 11) (N := some 47) #[true, true, true, true, true, true, true, true, true, true, true, true, false, false, false, true, false, false] rfl rfl (by kernel_rfl) (by decide) (fun K hK => ?_)
          refine goes_ Tryd.func8 (by kernel_rfl) rfl #[.string (s.extract 0 n ++ ⟨#[c]⟩ ++ s.extract n s.size)] (by rfl) rfl rfl (by simp only [List.map_toArray, List.map_cons, List.map_nil]; rfl) ?_
          with_reducible refine (ps_yes (more s n c) HM.out b0 b1 b2 b3 b4 b5 b6 _ (HT.out.below (hHeld.2)) (HE.out.below (hHeld.2)) HX.out).mono ?_
          rintro e w8 ⟨rfl, hb⟩
          refine ⟨_, rfl, ?_⟩
          replace KB := Aside0.mk ((hb.block _ (blk_lt KB.out)).trans KB.out)
          refine hK.out _ _ ⟨(hb.block _ (blk_lt (hHeld.1))).trans (hHeld.1), below_then (hHeld.2) (hHeld.2).size hb⟩ (fun hHeld => ?_)
          clear hK K
          refine norm_ (a' := ?_) ?_ ?_
          rotate_left
          · show Act.put _ (some 47) _ = _
            simp only [Act.put, List.setIfInBounds_toArray, List.set_cons_zero, List.set_cons_succ, i64_w, i32_w]
            rfl
          refine pure_ (i := 12) (N := some 35) (v := ?_) (a' := ?_) #[true, true, true, true, true, true, true, true, true, true, true, true, true, false, false, true, false, false] rfl rfl (by kernel_rfl) (fun _ _ _ h => h) (Or.inl ⟨by rfl, ?_⟩) ?_ ?_
          rotate_left
          · intro w'
            go_simp
            with_reducible rfl
          rotate_left
          · simp only [Act.put, List.setIfInBounds_toArray, List.set_cons_zero, List.set_cons_succ, i64_w, i32_w]
            rfl
          refine pure_ (i := 13) (N := some 48) (v := ?_) (a' := ?_) #[true, true, true, true, true, true, true, true, true, true, true, true, true, true, false, true, false, false] rfl rfl (by kernel_rfl) (fun _ _ _ h => h) (Or.inl ⟨by rfl, ?_⟩) ?_ ?_
          rotate_left
          · intro w'
            go_simp
            with_reducible rfl
          rotate_left
          · simp only [Act.put, List.setIfInBounds_toArray, List.set_cons_zero, List.set_cons_succ, i64_w, i32_w]
            rfl
          refine pure_ (i := 14) (N := some 49) (v := ?_) (a' := ?_) #[true, true, true, true, true, true, true, true, true, true, true, true, true, true, true, true, false, false] rfl rfl (by kernel_rfl) (fun _ _ _ h => h) (Or.inl ⟨by rfl, ?_⟩) ?_ ?_
          rotate_left
          · intro w'
            go_simp
            with_reducible rfl
          rotate_left
          · simp only [Act.put, List.setIfInBounds_toArray, List.set_cons_zero, List.set_cons_succ, i64_w, i32_w]
            rfl
          exact norm_ (by simp only [putAll, Act.put, List.setIfInBounds_toArray, List.set_cons_zero, List.set_cons_succ]) (hCont ((w2.heap.size, w2.heap.size + 1)) _ ⟨KB.out, NE.out, GE.out, hHeld.1, hHeld.2⟩)
      · skip
        refine value_ (w1 := ?_) (v := ?_) (by rfl) rfl ?_ ?_
        rotate_left 2
        · go_simp
          constructor
          · rfl
          · rfl
        have KB := blk_new ((w2.drew).alloc (.cells #[.int .u8 (c.toNat : Int)] 5)) (.cells #[.int .i64 0, .int .u64 0, .int .u64 0, .int .i64 0, .int .i64 0, .int .i64 0, .string ⟨#[]⟩] 24)
        try simp only [World.size_alloc] at KB
        replace KB := Aside0.mk KB
        have NE := Aside0.mk (show ba ≠ w2.heap.size + 1 from by have h := blk_lt (hHeld.1); (try simp at h); omega)
        have GE := Aside0.mk (show w.heap.size ≤ w2.heap.size + 1 from by have h := hHeld.2.size; (try simp at h); omega)
        replace UB := Aside0.mk (blk_alloc UB.out (.cells #[.int .i64 0, .int .u64 0, .int .u64 0, .int .i64 0, .int .i64 0, .int .i64 0, .string ⟨#[]⟩] 24))
        refine hK.out _ _ ⟨blk_alloc (hHeld.1) (.cells #[.int .i64 0, .int .u64 0, .int .u64 0, .int .i64 0, .int .i64 0, .int .i64 0, .string ⟨#[]⟩] 24), below_alloc (hHeld.2) (.cells #[.int .i64 0, .int .u64 0, .int .u64 0, .int .i64 0, .int .i64 0, .int .i64 0, .string ⟨#[]⟩] 24)⟩ (fun hHeld => ?_)
        clear hK K
        refine norm_ (a' := ?_) ?_ ?_
        rotate_left
        · show Act.put _ (some 9) _ = _
          simp only [Act.put, List.setIfInBounds_toArray, List.set_cons_zero, List.set_cons_succ, i64_w, i32_w]
          rfl
        refine one_ (i := 5) (N := some 41) #[true, true, true, true, true, true, false, true, true, true, false, false, false, false, false, true, false, false] rfl rfl (by kernel_rfl) (by decide) (fun K hK => ?_)
        have hcv := conv_one ((((w2).alloc (.cells #[.int .u8 (c.toNat : Int)] 5)).alloc (.cells #[.int .i64 0, .int .u64 0, .int .u64 0, .int .i64 0, .int .i64 0, .int .i64 0, .string ⟨#[]⟩] 24)).drew) (w2.heap.size) c ((blk_cell UB.out 0).trans rfl)
        refine value_ (w1 := ?_) (v := ?_) (by rfl) rfl ?_ ?_
        rotate_left 2
        · go_simp
          constructor
          · rfl
          · rfl
        clear hcv
        refine hK.out _ _ ⟨hHeld.1, hHeld.2⟩ (fun hHeld => ?_)
        clear hK K
        refine norm_ (a' := ?_) ?_ ?_
        rotate_left
        · show Act.put _ (some 41) _ = _
          simp only [Act.put, List.setIfInBounds_toArray, List.set_cons_zero, List.set_cons_succ, i64_w, i32_w]
          rfl
        refine pure_ (i := 6) (N := some 42) (v := ?_) (a' := ?_) #[true, true, true, true, true, true, true, true, true, true, false, false, false, false, false, true, false, false] rfl rfl (by kernel_rfl) (fun _ _ _ h => h) (Or.inl ⟨by rfl, ?_⟩) ?_ ?_
        rotate_left
        · intro w'
          go_simp
          with_reducible rfl
        rotate_left
        · simp only [Act.put, List.setIfInBounds_toArray, List.set_cons_zero, List.set_cons_succ, i64_w, i32_w]
          rfl
        refine pure_ (i := 10) (N := some 46) (v := ?_) (a' := ?_) #[true, true, true, true, true, true, true, true, true, true, true, false, false, false, false, true, false, false] rfl rfl (by kernel_rfl) (fun _ _ _ h => h) (Or.inl ⟨by rfl, ?_⟩) ?_ ?_
        rotate_left
        · intro w'
          go_simp
          with_reducible rfl
        rotate_left
        · simp only [Act.put, List.setIfInBounds_toArray, List.set_cons_zero, List.set_cons_succ, i64_w, i32_w]
          rfl
        refine one_ (i := 11) (N := some 47) #[true, true, true, true, true, true, true, true, true, true, true, true, false, false, false, true, false, false] rfl rfl (by kernel_rfl) (by decide) (fun K hK => ?_)
        refine goes_ Tryd.func8 (by kernel_rfl) rfl #[.string (s.extract 0 n ++ ⟨#[c]⟩ ++ s.extract n s.size)] (by rfl) rfl rfl (by simp only [List.map_toArray, List.map_cons, List.map_nil]; rfl) ?_
        with_reducible refine (ps_yes (more s n c) HM.out b0 b1 b2 b3 b4 b5 b6 _ (HT.out.below (hHeld.2)) (HE.out.below (hHeld.2)) HX.out).mono ?_
        rintro e w8 ⟨rfl, hb⟩
        refine ⟨_, rfl, ?_⟩
        replace KB := Aside0.mk ((hb.block _ (blk_lt KB.out)).trans KB.out)
        refine hK.out _ _ ⟨(hb.block _ (blk_lt (hHeld.1))).trans (hHeld.1), below_then (hHeld.2) (hHeld.2).size hb⟩ (fun hHeld => ?_)
        clear hK K
        refine norm_ (a' := ?_) ?_ ?_
        rotate_left
        · show Act.put _ (some 47) _ = _
          simp only [Act.put, List.setIfInBounds_toArray, List.set_cons_zero, List.set_cons_succ, i64_w, i32_w]
          rfl
        refine pure_ (i := 12) (N := some 35) (v := ?_) (a' := ?_) #[true, true, true, true, true, true, true, true, true, true, true, true, true, false, false, true, false, false] rfl rfl (by kernel_rfl) (fun _ _ _ h => h) (Or.inl ⟨by rfl, ?_⟩) ?_ ?_
        rotate_left
        · intro w'
          go_simp
          with_reducible rfl
        rotate_left
        · simp only [Act.put, List.setIfInBounds_toArray, List.set_cons_zero, List.set_cons_succ, i64_w, i32_w]
          rfl
        refine pure_ (i := 13) (N := some 48) (v := ?_) (a' := ?_) #[true, true, true, true, true, true, true, true, true, true, true, true, true, true, false, true, false, false] rfl rfl (by kernel_rfl) (fun _ _ _ h => h) (Or.inl ⟨by rfl, ?_⟩) ?_ ?_
        rotate_left
        · intro w'
          go_simp
          with_reducible rfl
        rotate_left
        · simp only [Act.put, List.setIfInBounds_toArray, List.set_cons_zero, List.set_cons_succ, i64_w, i32_w]
          rfl
        refine pure_ (i := 14) (N := some 49) (v := ?_) (a' := ?_) #[true, true, true, true, true, true, true, true, true, true, true, true, true, true, true, true, false, false] rfl rfl (by kernel_rfl) (fun _ _ _ h => h) (Or.inl ⟨by rfl, ?_⟩) ?_ ?_
        rotate_left
        · intro w'
          go_simp
          with_reducible rfl
        rotate_left
        · simp only [Act.put, List.setIfInBounds_toArray, List.set_cons_zero, List.set_cons_succ, i64_w, i32_w]
          rfl
        exact norm_ (by simp only [putAll, Act.put, List.setIfInBounds_toArray, List.set_cons_zero, List.set_cons_succ]) (hCont ((w2.heap.size, w2.heap.size + 1)) _ ⟨KB.out, NE.out, GE.out, hHeld.1, hHeld.2⟩)
    · skip
      refine value_ (w1 := ?_) (v := ?_) (by rfl) rfl ?_ ?_
      rotate_left 2
      · go_simp
        constructor
        · rfl
        · rfl
      have KB := blk_new (w2.drew) (.cells #[.int .i64 0, .int .u64 0, .int .u64 0, .int .i64 0, .int .i64 0, .int .i64 0, .string ⟨#[]⟩] 24)
      try simp only [World.size_alloc] at KB
      replace KB := Aside0.mk KB
      have NE := Aside0.mk (show ba ≠ w2.heap.size from by have h := blk_lt (hHeld.1); (try simp at h); omega)
      have GE := Aside0.mk (show w.heap.size ≤ w2.heap.size from by have h := hHeld.2.size; (try simp at h); omega)
      refine hK.out _ _ ⟨blk_alloc (hHeld.1) (.cells #[.int .i64 0, .int .u64 0, .int .u64 0, .int .i64 0, .int .i64 0, .int .i64 0, .string ⟨#[]⟩] 24), below_alloc (hHeld.2) (.cells #[.int .i64 0, .int .u64 0, .int .u64 0, .int .i64 0, .int .i64 0, .int .i64 0, .string ⟨#[]⟩] 24)⟩ (fun hHeld => ?_)
      clear hK K
      refine norm_ (a' := ?_) ?_ ?_
      rotate_left
      · show Act.put _ (some 9) _ = _
        simp only [Act.put, List.setIfInBounds_toArray, List.set_cons_zero, List.set_cons_succ, i64_w, i32_w]
        rfl
      refine one_ (i := 4) (N := some 40) #[true, true, true, true, true, false, false, true, true, true, false, false, false, false, false, true, false, false] rfl rfl (by kernel_rfl) (by decide) (fun K hK => ?_)
      refine value_ (w1 := ?_) (v := ?_) (by rfl) rfl ?_ ?_
      rotate_left 2
      · go_simp
        constructor
        · rfl
        · rfl
      have UB := blk_new ((w2.drew).alloc (.cells #[.int .i64 0, .int .u64 0, .int .u64 0, .int .i64 0, .int .i64 0, .int .i64 0, .string ⟨#[]⟩] 24)) (.cells #[.int .u8 (c.toNat : Int)] 5)
      try simp only [World.size_alloc] at UB
      replace UB := Aside0.mk UB
      replace KB := Aside0.mk (blk_alloc KB.out (.cells #[.int .u8 (c.toNat : Int)] 5))
      refine hK.out _ _ ⟨blk_alloc (hHeld.1) (.cells #[.int .u8 (c.toNat : Int)] 5), below_alloc (hHeld.2) (.cells #[.int .u8 (c.toNat : Int)] 5)⟩ (fun hHeld => ?_)
      clear hK K
      refine norm_ (a' := ?_) ?_ ?_
      rotate_left
      · show Act.put _ (some 40) _ = _
        simp only [Act.put, List.setIfInBounds_toArray, List.set_cons_zero, List.set_cons_succ, i64_w, i32_w]
        rfl
      refine one_ (i := 5) (N := some 41) #[true, true, true, true, true, true, false, true, true, true, false, false, false, false, false, true, false, false] rfl rfl (by kernel_rfl) (by decide) (fun K hK => ?_)
      have hcv := conv_one ((((w2).alloc (.cells #[.int .i64 0, .int .u64 0, .int .u64 0, .int .i64 0, .int .i64 0, .int .i64 0, .string ⟨#[]⟩] 24)).alloc (.cells #[.int .u8 (c.toNat : Int)] 5)).drew) (w2.heap.size + 1) c ((blk_cell UB.out 0).trans rfl)
      refine value_ (w1 := ?_) (v := ?_) (by rfl) rfl ?_ ?_
      rotate_left 2
      · go_simp
        constructor
        · rfl
        · rfl
      clear hcv
      refine hK.out _ _ ⟨hHeld.1, hHeld.2⟩ (fun hHeld => ?_)
      clear hK K
      refine norm_ (a' := ?_) ?_ ?_
      rotate_left
      · show Act.put _ (some 41) _ = _
        simp only [Act.put, List.setIfInBounds_toArray, List.set_cons_zero, List.set_cons_succ, i64_w, i32_w]
        rfl
      refine pure_ (i := 6) (N := some 42) (v := ?_) (a' := ?_) #[true, true, true, true, true, true, true, true, true, true, false, false, false, false, false, true, false, false] rfl rfl (by kernel_rfl) (fun _ _ _ h => h) (Or.inl ⟨by rfl, ?_⟩) ?_ ?_
      rotate_left
      · intro w'
        go_simp
        with_reducible rfl
      rotate_left
      · simp only [Act.put, List.setIfInBounds_toArray, List.set_cons_zero, List.set_cons_succ, i64_w, i32_w]
        rfl
      refine pure_ (i := 10) (N := some 46) (v := ?_) (a' := ?_) #[true, true, true, true, true, true, true, true, true, true, true, false, false, false, false, true, false, false] rfl rfl (by kernel_rfl) (fun _ _ _ h => h) (Or.inl ⟨by rfl, ?_⟩) ?_ ?_
      rotate_left
      · intro w'
        go_simp
        with_reducible rfl
      rotate_left
      · simp only [Act.put, List.setIfInBounds_toArray, List.set_cons_zero, List.set_cons_succ, i64_w, i32_w]
        rfl
      refine one_ (i := 11) (N := some 47) #[true, true, true, true, true, true, true, true, true, true, true, true, false, false, false, true, false, false] rfl rfl (by kernel_rfl) (by decide) (fun K hK => ?_)
      refine goes_ Tryd.func8 (by kernel_rfl) rfl #[.string (s.extract 0 n ++ ⟨#[c]⟩ ++ s.extract n s.size)] (by rfl) rfl rfl (by simp only [List.map_toArray, List.map_cons, List.map_nil]; rfl) ?_
      with_reducible refine (ps_yes (more s n c) HM.out b0 b1 b2 b3 b4 b5 b6 _ (HT.out.below (hHeld.2)) (HE.out.below (hHeld.2)) HX.out).mono ?_
      rintro e w8 ⟨rfl, hb⟩
      refine ⟨_, rfl, ?_⟩
      replace KB := Aside0.mk ((hb.block _ (blk_lt KB.out)).trans KB.out)
      refine hK.out _ _ ⟨(hb.block _ (blk_lt (hHeld.1))).trans (hHeld.1), below_then (hHeld.2) (hHeld.2).size hb⟩ (fun hHeld => ?_)
      clear hK K
      refine norm_ (a' := ?_) ?_ ?_
      rotate_left
      · show Act.put _ (some 47) _ = _
        simp only [Act.put, List.setIfInBounds_toArray, List.set_cons_zero, List.set_cons_succ, i64_w, i32_w]
        rfl
      refine pure_ (i := 12) (N := some 35) (v := ?_) (a' := ?_) #[true, true, true, true, true, true, true, true, true, true, true, true, true, false, false, true, false, false] rfl rfl (by kernel_rfl) (fun _ _ _ h => h) (Or.inl ⟨by rfl, ?_⟩) ?_ ?_
      rotate_left
      · intro w'
        go_simp
        with_reducible rfl
      rotate_left
      · simp only [Act.put, List.setIfInBounds_toArray, List.set_cons_zero, List.set_cons_succ, i64_w, i32_w]
        rfl
      refine pure_ (i := 13) (N := some 48) (v := ?_) (a' := ?_) #[true, true, true, true, true, true, true, true, true, true, true, true, true, true, false, true, false, false] rfl rfl (by kernel_rfl) (fun _ _ _ h => h) (Or.inl ⟨by rfl, ?_⟩) ?_ ?_
      rotate_left
      · intro w'
        go_simp
        with_reducible rfl
      rotate_left
      · simp only [Act.put, List.setIfInBounds_toArray, List.set_cons_zero, List.set_cons_succ, i64_w, i32_w]
        rfl
      refine pure_ (i := 14) (N := some 49) (v := ?_) (a' := ?_) #[true, true, true, true, true, true, true, true, true, true, true, true, true, true, true, true, false, false] rfl rfl (by kernel_rfl) (fun _ _ _ h => h) (Or.inl ⟨by rfl, ?_⟩) ?_ ?_
      rotate_left
      · intro w'
        go_simp
        with_reducible rfl
      rotate_left
      · simp only [Act.put, List.setIfInBounds_toArray, List.set_cons_zero, List.set_cons_succ, i64_w, i32_w]
        rfl
      exact norm_ (by simp only [putAll, Act.put, List.setIfInBounds_toArray, List.set_cons_zero, List.set_cons_succ]) (hCont ((w2.heap.size + 1, w2.heap.size)) _ ⟨KB.out, NE.out, GE.out, hHeld.1, hHeld.2⟩)
  rintro sg_ w9 ⟨hk, hne, hge, h1, h2⟩
  have hHeld : w9.heap[ba]? = some (.cells #[.int .i64 a0, .int .u64 a1, .int .u64 a2, .int .i64 a3, .int .i64 a4, .int .i64 a5, .string ⟨a6.toArray⟩] 24 (0, 0)) ∧ Below w.heap.size w w9 := ⟨h1, h2⟩
  have KB := Aside0.mk hk
  have NE := Aside0.mk hne
  have GE := Aside0.mk hge
  clear hk h1 h2 hne hge
  refine norm_ (a' := ?_) ?_ ?_
  rotate_left
  · simp only [putAll, Act.put, List.setIfInBounds_toArray, List.set_cons_zero, List.set_cons_succ]
    rfl
  refine one_ (i := 16) (N := none) #[true, true, true, true, true, true, true, true, true, true, true, true, true, true, true, true, true, false] rfl rfl (by kernel_rfl) (by decide) (fun K hK => ?_)
  have k0 := (blk_cell KB.out 0).trans (show _ = some (.int .i64 0) from rfl)
  have k1 := (blk_cell KB.out 1).trans (show _ = some (.int .u64 0) from rfl)
  have k2 := (blk_cell KB.out 2).trans (show _ = some (.int .u64 0) from rfl)
  have k3 := (blk_cell KB.out 3).trans (show _ = some (.int .i64 0) from rfl)
  have k4 := (blk_cell KB.out 4).trans (show _ = some (.int .i64 0) from rfl)
  have k5 := (blk_cell KB.out 5).trans (show _ = some (.int .i64 0) from rfl)
  have k6 := (blk_cell KB.out 6).trans (show _ = some (.string ⟨#[]⟩) from rfl)
  have f0 := blk_frozen KB.out 0
  have f1 := blk_frozen KB.out 1
  have f2 := blk_frozen KB.out 2
  have f3 := blk_frozen KB.out 3
  have f4 := blk_frozen KB.out 4
  have f5 := blk_frozen KB.out 5
  have f6 := blk_frozen KB.out 6
  refine skip_ (w1 := ?_) (by rfl) rfl ?_ ?_
  rotate_left
  · go_simp
    rfl
  have XB : ((((((((w9).setCell ⟨sg_.2, 0, none⟩ (.int .i64 b0)).setCell ⟨sg_.2, 1, none⟩ (.int .u64 b1)).setCell ⟨sg_.2, 2, none⟩ (.int .u64 b2)).setCell ⟨sg_.2, 3, none⟩ (.int .i64 b3)).setCell ⟨sg_.2, 4, none⟩ (.int .i64 b4)).setCell ⟨sg_.2, 5, none⟩ (.int .i64 b5)).setCell ⟨sg_.2, 6, none⟩ (.string ⟨b6.toArray⟩)).heap[sg_.2]? = some (.cells #[.int .i64 b0, .int .u64 b1, .int .u64 b2, .int .i64 b3, .int .i64 b4, .int .i64 b5, .string ⟨b6.toArray⟩] 24 (0, 0)) := blk_set (blk_set (blk_set (blk_set (blk_set (blk_set (blk_set (KB.out) 0 _) 1 _) 2 _) 3 _) 4 _) 5 _) 6 _
  clear k0 f0 k1 f1 k2 f2 k3 f3 k4 f4 k5 f5 k6 f6
  refine hK.out _ _ ⟨blk_far (blk_far (blk_far (blk_far (blk_far (blk_far (blk_far (hHeld.1) NE.out _) NE.out _) NE.out _) NE.out _) NE.out _) NE.out _) NE.out _, (((((((hHeld.2).setCell (p := ⟨sg_.2, 0, none⟩) GE.out _).setCell (p := ⟨sg_.2, 1, none⟩) GE.out _).setCell (p := ⟨sg_.2, 2, none⟩) GE.out _).setCell (p := ⟨sg_.2, 3, none⟩) GE.out _).setCell (p := ⟨sg_.2, 4, none⟩) GE.out _).setCell (p := ⟨sg_.2, 5, none⟩) GE.out _).setCell (p := ⟨sg_.2, 6, none⟩) GE.out _⟩ (fun hHeld => ?_)
  clear hK K
  refine pure_ (i := 17) (N := some 10) (v := ?_) (a' := ?_) #[true, true, true, true, true, true, true, true, true, true, true, true, true, true, true, true, true, true] rfl rfl (by kernel_rfl) (fun _ _ _ h => h) (Or.inl ⟨by rfl, ?_⟩) ?_ ?_
  rotate_left
  · intro w'
    go_simp
    with_reducible rfl
  rotate_left
  · simp only [Act.put, List.setIfInBounds_toArray, List.set_cons_zero, List.set_cons_succ, i64_w, i32_w]
    rfl
  refine done_ (by kernel_rfl) ?_
  clear z1 z2
  clear KB NE GE
  generalize (((((((w9).setCell ⟨sg_.2, 0, none⟩ (.int .i64 b0)).setCell ⟨sg_.2, 1, none⟩ (.int .u64 b1)).setCell ⟨sg_.2, 2, none⟩ (.int .u64 b2)).setCell ⟨sg_.2, 3, none⟩ (.int .i64 b3)).setCell ⟨sg_.2, 4, none⟩ (.int .i64 b4)).setCell ⟨sg_.2, 5, none⟩ (.int .i64 b5)).setCell ⟨sg_.2, 6, none⟩ (.string ⟨b6.toArray⟩) = w10 at hHeld XB ⊢
  generalize hsg : sg_.2 = bb at *
  clear hsg
  have XA := Aside0.mk hHeld.1
  replace XB := Aside0.mk XB
  have D_w10 := Aside0.mk hHeld.2
  clear hHeld
  have hxb := HXB.out
  have x0 := (blk_cell XA.out 0).trans (show _ = some (.int .i64 a0) from rfl)
  have x1 := (blk_cell XA.out 1).trans (show _ = some (.int .u64 a1) from rfl)
  have x2 := (blk_cell XA.out 2).trans (show _ = some (.int .u64 a2) from rfl)
  have x3 := (blk_cell XA.out 3).trans (show _ = some (.int .i64 a3) from rfl)
  have x4 := (blk_cell XA.out 4).trans (show _ = some (.int .i64 a4) from rfl)
  have x5 := (blk_cell XA.out 5).trans (show _ = some (.int .i64 a5) from rfl)
  have x6 := (blk_cell XA.out 6).trans (show _ = some (.string ⟨a6.toArray⟩) from rfl)
  have y0 := (blk_cell XB.out 0).trans (show _ = some (.int .i64 b0) from rfl)
  have y1 := (blk_cell XB.out 1).trans (show _ = some (.int .u64 b1) from rfl)
  have y2 := (blk_cell XB.out 2).trans (show _ = some (.int .u64 b2) from rfl)
  have y3 := (blk_cell XB.out 3).trans (show _ = some (.int .i64 b3) from rfl)
  have y4 := (blk_cell XB.out 4).trans (show _ = some (.int .i64 b4) from rfl)
  have y5 := (blk_cell XB.out 5).trans (show _ = some (.int .i64 b5) from rfl)
  have y6 := (blk_cell XB.out 6).trans (show _ = some (.string ⟨b6.toArray⟩) from rfl)
  have q1 : ((n : Int) == (s.size : Int)) = true := by rw [HLE.out]; exact beq_self_eq_true _
  have q2 : (n == s.size) = true := by rw [HLE.out]; exact beq_self_eq_true _
  go_wp2
  go_ret
  exact ⟨rfl, D_w10.out⟩
set_option maxRecDepth 100000 in
set_option maxHeartbeats 8000000 in
theorem strict_nn (a0 a1 a2 a3 a4 a5 : Int) (a6 : List UInt8) (s : ByteArray) (hs : s.size ≤ 281474976710000) (a : Int) (ha0 : -9223372036854775808 ≤ a) (ha1 : a ≤ 9223372036854775807) (c : UInt8) (w : World) (ht : Tens w) (he : Errs w)
    (n : Nat) (hn : a = (n : Int)) (hle : n < s.size) (hy : callP s.data.toList = some (⟨a0, a1, a2, a3, a4, a5, a6⟩ : Call7)) (hx : callP (more s n c).data.toList = none) (hz : callP (fewer s n).data.toList = none) :
    Calls Tryd.prog 6 #[.string s, .int .i64 a, .int .u8 (c.toNat : Int)] w fun e w' => e = .returned (.bool true) ∧ Below w.heap.size w w' := by
  have HT := Aside0.mk ht
  have HE := Aside0.mk he
  have HS := Aside0.mk (show s.size ≤ 281474976710656 by omega)
  have D0 := Aside0.mk (Below.refl w.heap.size w)
  have hle2 : n ≤ s.size := by omega
  have HM := Aside0.mk (show (more s n c).size ≤ 281474976710656 by rw [more_size s n c hle2]; omega)
  have HFW := Aside0.mk (show (fewer s n).size ≤ 281474976710656 by have := fewer_size s n hle; omega)
  have hsz : s.size ≤ 281474976710000 := hs
  subst hn
  have HY := Aside0.mk hy
  have HX := Aside0.mk hx
  have HZ := Aside0.mk hz
  clear hz
  clear ht he hy hx hs ha0 ha1
  go_enter Tryd.func6, Tryd.ntmps6
  go_wp2_with fail
  refine (ps_yes s HS.out a0 a1 a2 a3 a4 a5 a6 _ (HT.out.below D0.out) (HE.out.below D0.out) HY.out).mono ?_
  rintro e w1 ⟨rfl, hb⟩
  have D1 := Aside0.mk (below_then D0.out D0.out.size hb)
  clear hb D0
  have XA := Aside0.mk (blk_new w1 (.cells #[.int .i64 a0, .int .u64 a1, .int .u64 a2, .int .i64 a3, .int .i64 a4, .int .i64 a5, .string ⟨a6.toArray⟩] 24))
  have E1 := Aside0.mk (below_alloc D1.out (.cells #[.int .i64 a0, .int .u64 a1, .int .u64 a2, .int .i64 a3, .int .i64 a4, .int .i64 a5, .string ⟨a6.toArray⟩] 24))
  obtain ⟨ba, hba⟩ : ∃ ba, ba = w1.heap.size := ⟨_, rfl⟩
  rw [← hba] at XA
  clear D1
  go_wp2_with fail
  rw [← hba]
  clear hba
  generalize w1.alloc (.cells #[.int .i64 a0, .int .u64 a1, .int .u64 a2, .int .i64 a3, .int .i64 a4, .int .i64 a5, .string ⟨a6.toArray⟩] 24) = v1 at XA E1 ⊢
  refine (fixed_q _ (HT.out.below E1.out) (HE.out.below E1.out)).mono ?_
  rintro e w2 ⟨rfl, hb⟩
  replace XA := Aside0.mk ((hb.block _ (blk_lt XA.out)).trans XA.out)
  have D2 := Aside0.mk (below_then E1.out E1.out.size hb)
  clear hb E1
  go_wp2_with fail
  have XAd : w2.drew.heap[ba]? = some (.cells #[.int .i64 a0, .int .u64 a1, .int .u64 a2, .int .i64 a3, .int .i64 a4, .int .i64 a5, .string ⟨a6.toArray⟩] 24 (0, 0)) := XA.out
  have DDr := below_drew D2.out
  clear XA D2
  have z1 : (9223372036854775807 < n + 1) = False := eq_false (by omega)
  have z2 : (9223372036854775807 < n + 1 + (s.size - n)) = False := eq_false (by omega)
  refine start_ (n := 18) (S := fun w' => w'.heap[ba]? = some (.cells #[.int .i64 a0, .int .u64 a1, .int .u64 a2, .int .i64 a3, .int .i64 a4, .int .i64 a5, .string ⟨a6.toArray⟩] 24 (0, 0)) ∧ Below w.heap.size w w') (ds := []) #[false, false, false, false, false, false, false, false, false, false, false, false, false, false, false, false, false, false] (by kernel_rfl) rfl rfl ⟨XAd, DDr⟩ (fun hHeld => ?_)
  refine pure_ (i := 0) (N := some 36) (v := ?_) (a' := ?_) #[true, false, false, false, false, false, false, false, false, false, false, false, false, false, false, false, false, false] rfl rfl (by kernel_rfl) (fun _ _ _ h => h) (Or.inl ⟨by rfl, ?_⟩) ?_ ?_
  rotate_left
  · intro w'
    go_simp
    with_reducible rfl
  rotate_left
  · simp only [Act.put, List.setIfInBounds_toArray, List.set_cons_zero, List.set_cons_succ, i64_w, i32_w]
    rfl
  refine pure_ (i := 1) (N := some 37) (v := ?_) (a' := ?_) #[true, true, false, false, false, false, false, false, false, false, false, false, false, false, false, false, false, false] rfl rfl (by kernel_rfl) (fun _ _ _ h => h) (Or.inl ⟨by rfl, ?_⟩) ?_ ?_
  rotate_left
  · intro w'
    go_simp
    with_reducible rfl
  rotate_left
  · simp only [Act.put, List.setIfInBounds_toArray, List.set_cons_zero, List.set_cons_succ, i64_w, i32_w]
    rfl
  refine pure_ (i := 2) (N := some 38) (v := ?_) (a' := ?_) #[true, true, true, false, false, false, false, false, false, false, false, false, false, false, false, false, false, false] rfl rfl (by kernel_rfl) (fun _ _ _ h => h) (Or.inl ⟨by rfl, ?_⟩) ?_ ?_
  rotate_left
  · intro w'
    go_simp
    with_reducible rfl
  rotate_left
  · simp only [Act.put, List.setIfInBounds_toArray, List.set_cons_zero, List.set_cons_succ, i64_w, i32_w]
    rfl
  refine pure_ (i := 3) (N := some 39) (v := ?_) (a' := ?_) #[true, true, true, true, false, false, false, false, false, false, false, false, false, false, false, false, false, false] rfl rfl (by kernel_rfl) (fun _ _ _ h => h) (Or.inl ⟨by rfl, ?_⟩) ?_ ?_
  rotate_left
  · intro w'
    go_simp
    with_reducible rfl
  rotate_left
  · simp only [Act.put, List.setIfInBounds_toArray, List.set_cons_zero, List.set_cons_succ, i64_w, i32_w]
    rfl
  refine pure_ (i := 7) (N := some 43) (v := ?_) (a' := ?_) #[true, true, true, true, false, false, false, true, false, false, false, false, false, false, false, false, false, false] rfl rfl (by kernel_rfl) (fun _ _ _ h => h) (Or.inl ⟨by rfl, ?_⟩) ?_ ?_
  rotate_left
  · intro w'
    go_simp
    with_reducible rfl
  rotate_left
  · simp only [Act.put, List.setIfInBounds_toArray, List.set_cons_zero, List.set_cons_succ, i64_w, i32_w]
    rfl
  refine pure_ (i := 8) (N := some 44) (v := ?_) (a' := ?_) #[true, true, true, true, false, false, false, true, true, false, false, false, false, false, false, false, false, false] rfl rfl (by kernel_rfl) (fun _ _ _ h => h) (Or.inl ⟨by rfl, ?_⟩) ?_ ?_
  rotate_left
  · intro w'
    go_simp
    with_reducible rfl
  rotate_left
  · simp only [Act.put, List.setIfInBounds_toArray, List.set_cons_zero, List.set_cons_succ, i64_w, i32_w]
    rfl
  refine pure_ (i := 9) (N := some 45) (v := ?_) (a' := ?_) #[true, true, true, true, false, false, false, true, true, true, false, false, false, false, false, false, false, false] rfl rfl (by kernel_rfl) (fun _ _ _ h => h) (Or.inl ⟨by rfl, ?_⟩) ?_ ?_
  rotate_left
  · intro w'
    go_simp
    with_reducible rfl
  rotate_left
  · simp only [Act.put, List.setIfInBounds_toArray, List.set_cons_zero, List.set_cons_succ, i64_w, i32_w]
    rfl
  refine join_ (σ := Nat × Nat) 2 #[true, true, true, true, true, true, true, true, true, true, true, true, true, true, true, true, false, false] (fun sg_ => [(40, .slice (some ⟨sg_.1, 0, none⟩) 1 1), (41, .string ⟨#[c]⟩), (42, .string (s.extract 0 n ++ ⟨#[c]⟩)), (46, .string (s.extract 0 n ++ ⟨#[c]⟩ ++ s.extract n s.size)), (47, .tuple #[.agg #[.int .i64 0, .int .u64 0, .int .u64 0, .int .i64 0, .int .i64 0, .int .i64 0, .string ⟨#[]⟩], .int .i64 210]), (35, .tuple #[.agg #[.int .i64 0, .int .u64 0, .int .u64 0, .int .i64 0, .int .i64 0, .int .i64 0, .string ⟨#[]⟩], .int .i64 210]), (48, .agg #[.int .i64 0, .int .u64 0, .int .u64 0, .int .i64 0, .int .i64 0, .int .i64 0, .string ⟨#[]⟩]), (49, .int .i64 210), (9, .pointer (some ⟨sg_.2, 0, none⟩))]) (fun sg_ w' => w'.heap[sg_.2]? = some (.cells #[.int .i64 0, .int .u64 0, .int .u64 0, .int .i64 0, .int .i64 0, .int .i64 0, .string ⟨#[]⟩] 24 (0, 0)) ∧ ba ≠ sg_.2 ∧ w.heap.size ≤ sg_.2 ∧ w'.heap[ba]? = some (.cells #[.int .i64 a0, .int .u64 a1, .int .u64 a2, .int .i64 a3, .int .i64 a4, .int .i64 a5, .string ⟨a6.toArray⟩] 24 (0, 0)) ∧ Below w.heap.size w w') ?_ ?_
  rotate_left
  · intro hCont
    refine two_ (i := 4) (j := 15) (Ni := some 40) (Nj := some 9) #[true, true, true, true, true, false, false, true, true, true, false, false, false, false, false, false, false, false] #[true, true, true, true, false, false, false, true, true, true, false, false, false, false, false, true, false, false] rfl rfl rfl rfl (by kernel_rfl) (by decide) (by decide) (fun K hK => ?_) (fun K hK => ?_)
    · skip
      refine value_ (w1 := ?_) (v := ?_) (by rfl) rfl ?_ ?_
      rotate_left 2
      · go_simp
        constructor
        · rfl
        · rfl
      have UB := blk_new (w2.drew) (.cells #[.int .u8 (c.toNat : Int)] 5)
      try simp only [World.size_alloc] at UB
      replace UB := Aside0.mk UB
      refine hK.out _ _ ⟨blk_alloc (hHeld.1) (.cells #[.int .u8 (c.toNat : Int)] 5), below_alloc (hHeld.2) (.cells #[.int .u8 (c.toNat : Int)] 5)⟩ (fun hHeld => ?_)
      clear hK K
      refine norm_ (a' := ?_) ?_ ?_
      rotate_left
      · show Act.put _ (some 40) _ = _
        simp only [Act.put, List.setIfInBounds_toArray, List.set_cons_zero, List.set_cons_succ, i64_w, i32_w]
        rfl
      refine two_ (i := 5) (j := 15) (Ni := some 41) (Nj := some 9) #[true, true, true, true, true, true, false, true, true, true, false, false, false, false, false, false, false, false] #[true, true, true, true, true, false, false, true, true, true, false, false, false, false, false, true, false, false] rfl rfl rfl rfl (by kernel_rfl) (by decide) (by decide) (fun K hK => ?_) (fun K hK => ?_)
      · skip
        have hcv := conv_one (((w2).alloc (.cells #[.int .u8 (c.toNat : Int)] 5)).drew) (w2.heap.size) c ((blk_cell UB.out 0).trans rfl)
        refine value_ (w1 := ?_) (v := ?_) (by rfl) rfl ?_ ?_
        rotate_left 2
        · go_simp
          constructor
          · rfl
          · rfl
        clear hcv
        refine hK.out _ _ ⟨hHeld.1, hHeld.2⟩ (fun hHeld => ?_)
        clear hK K
        refine norm_ (a' := ?_) ?_ ?_
        rotate_left
        · show Act.put _ (some 41) _ = _
          simp only [Act.put, List.setIfInBounds_toArray, List.set_cons_zero, List.set_cons_succ, i64_w, i32_w]
          rfl
        refine pure_ (i := 6) (N := some 42) (v := ?_) (a' := ?_) #[true, true, true, true, true, true, true, true, true, true, false, false, false, false, false, false, false, false] rfl rfl (by kernel_rfl) (fun _ _ _ h => h) (Or.inl ⟨by rfl, ?_⟩) ?_ ?_
        rotate_left
        · intro w'
          go_simp
          with_reducible rfl
        rotate_left
        · simp only [Act.put, List.setIfInBounds_toArray, List.set_cons_zero, List.set_cons_succ, i64_w, i32_w]
          rfl
        refine pure_ (i := 10) (N := some 46) (v := ?_) (a' := ?_) #[true, true, true, true, true, true, true, true, true, true, true, false, false, false, false, false, false, false] rfl rfl (by kernel_rfl) (fun _ _ _ h => h) (Or.inl ⟨by rfl, ?_⟩) ?_ ?_
        rotate_left
        · intro w'
          go_simp
          with_reducible rfl
        rotate_left
        · simp only [Act.put, List.setIfInBounds_toArray, List.set_cons_zero, List.set_cons_succ, i64_w, i32_w]
          rfl
        refine two_ (i := 11) (j := 15) (Ni := some 47) (Nj := some 9) #[true, true, true, true, true, true, true, true, true, true, true, true, false, false, false, false, false, false] #[true, true, true, true, true, true, true, true, true, true, true, false, false, false, false, true, false, false] rfl rfl rfl rfl (by kernel_rfl) (by decide) (by decide) (fun K hK => ?_) (fun K hK => ?_)
        · skip
          refine goes_ Tryd.func8 (by kernel_rfl) rfl #[.string (s.extract 0 n ++ ⟨#[c]⟩ ++ s.extract n s.size)] (by rfl) rfl rfl (by simp only [List.map_toArray, List.map_cons, List.map_nil]; rfl) ?_
          with_reducible refine (ps_no (more s n c) HM.out _ (HT.out.below (hHeld.2)) (HE.out.below (hHeld.2)) HX.out).mono ?_
          rintro e w8 ⟨rfl, hb⟩
          refine ⟨_, rfl, ?_⟩
          refine hK.out _ _ ⟨(hb.block _ (blk_lt (hHeld.1))).trans (hHeld.1), below_then (hHeld.2) (hHeld.2).size hb⟩ (fun hHeld => ?_)
          clear hK K
          refine norm_ (a' := ?_) ?_ ?_
          rotate_left
          · show Act.put _ (some 47) _ = _
            simp only [Act.put, List.setIfInBounds_toArray, List.set_cons_zero, List.set_cons_succ, i64_w, i32_w]
            rfl
          refine pure_ (i := 12) (N := some 35) (v := ?_) (a' := ?_) #[true, true, true, true, true, true, true, true, true, true, true, true, true, false, false, false, false, false] rfl rfl (by kernel_rfl) (fun _ _ _ h => h) (Or.inl ⟨by rfl, ?_⟩) ?_ ?_
          rotate_left
          · intro w'
            go_simp
            with_reducible rfl
          rotate_left
          · simp only [Act.put, List.setIfInBounds_toArray, List.set_cons_zero, List.set_cons_succ, i64_w, i32_w]
            rfl
          refine pure_ (i := 13) (N := some 48) (v := ?_) (a' := ?_) #[true, true, true, true, true, true, true, true, true, true, true, true, true, true, false, false, false, false] rfl rfl (by kernel_rfl) (fun _ _ _ h => h) (Or.inl ⟨by rfl, ?_⟩) ?_ ?_
          rotate_left
          · intro w'
            go_simp
            with_reducible rfl
          rotate_left
          · simp only [Act.put, List.setIfInBounds_toArray, List.set_cons_zero, List.set_cons_succ, i64_w, i32_w]
            rfl
          refine pure_ (i := 14) (N := some 49) (v := ?_) (a' := ?_) #[true, true, true, true, true, true, true, true, true, true, true, true, true, true, true, false, false, false] rfl rfl (by kernel_rfl) (fun _ _ _ h => h) (Or.inl ⟨by rfl, ?_⟩) ?_ ?_
          rotate_left
          · intro w'
            go_simp
            with_reducible rfl
          rotate_left
          · simp only [Act.put, List.setIfInBounds_toArray, List.set_cons_zero, List.set_cons_succ, i64_w, i32_w]
            rfl
          refine one_ (i := 15) (N := some 9) #[true, true, true, true, true, true, true, true, true, true, true, true, true, true, true, true, false, false] rfl rfl (by kernel_rfl) (by decide) (fun K hK => ?_)
          refine value_ (w1 := ?_) (v := ?_) (by rfl) rfl ?_ ?_
          rotate_left 2
          · go_simp
            constructor
            · rfl
            · rfl
          have KB := blk_new (w8) (.cells #[.int .i64 0, .int .u64 0, .int .u64 0, .int .i64 0, .int .i64 0, .int .i64 0, .string ⟨#[]⟩] 24)
          try simp only [World.size_alloc] at KB
          replace KB := Aside0.mk KB
          have NE := Aside0.mk (show ba ≠ w8.heap.size from by have h := blk_lt (hHeld.1); (try simp at h); omega)
          have GE := Aside0.mk (show w.heap.size ≤ w8.heap.size from by have h := hHeld.2.size; (try simp at h); omega)
          refine hK.out _ _ ⟨blk_alloc (hHeld.1) (.cells #[.int .i64 0, .int .u64 0, .int .u64 0, .int .i64 0, .int .i64 0, .int .i64 0, .string ⟨#[]⟩] 24), below_alloc (hHeld.2) (.cells #[.int .i64 0, .int .u64 0, .int .u64 0, .int .i64 0, .int .i64 0, .int .i64 0, .string ⟨#[]⟩] 24)⟩ (fun hHeld => ?_)
          clear hK K
          refine norm_ (a' := ?_) ?_ ?_
          rotate_left
          · show Act.put _ (some 9) _ = _
            simp only [Act.put, List.setIfInBounds_toArray, List.set_cons_zero, List.set_cons_succ, i64_w, i32_w]
            rfl
          exact norm_ (by simp only [putAll, Act.put, List.setIfInBounds_toArray, List.set_cons_zero, List.set_cons_succ]) (hCont ((w2.heap.size, w8.heap.size)) _ ⟨KB.out, NE.out, GE.out, hHeld.1, hHeld.2⟩)
        · skip
          refine value_ (w1 := ?_) (v := ?_) (by rfl) rfl ?_ ?_
          rotate_left 2
          · go_simp
            constructor
            · rfl
            · rfl
          have KB := blk_new ((w2.drew).alloc (.cells #[.int .u8 (c.toNat : Int)] 5)) (.cells #[.int .i64 0, .int .u64 0, .int .u64 0, .int .i64 0, .int .i64 0, .int .i64 0, .string ⟨#[]⟩] 24)
          try simp only [World.size_alloc] at KB
          replace KB := Aside0.mk KB
          have NE := Aside0.mk (show ba ≠ w2.heap.size + 1 from by have h := blk_lt (hHeld.1); (try simp at h); omega)
          have GE := Aside0.mk (show w.heap.size ≤ w2.heap.size + 1 from by have h := hHeld.2.size; (try simp at h); omega)
          replace UB := Aside0.mk (blk_alloc UB.out (.cells #[.int .i64 0, .int .u64 0, .int .u64 0, .int .i64 0, .int .i64 0, .int .i64 0, .string ⟨#[]⟩] 24))
          refine hK.out _ _ ⟨blk_alloc (hHeld.1) (.cells #[.int .i64 0, .int .u64 0, .int .u64 0, .int .i64 0, .int .i64 0, .int .i64 0, .string ⟨#[]⟩] 24), below_alloc (hHeld.2) (.cells #[.int .i64 0, .int .u64 0, .int .u64 0, .int .i64 0, .int .i64 0, .int .i64 0, .string ⟨#[]⟩] 24)⟩ (fun hHeld => ?_)
          clear hK K
          refine norm_ (a' := ?_) ?_ ?_
          rotate_left
          · show Act.put _ (some 9) _ = _
            simp only [Act.put, List.setIfInBounds_toArray, List.set_cons_zero, List.set_cons_succ, i64_w, i32_w]
            rfl
          refine one_ (i := 11) (N := some 47) #[true, true, true, true, true, true, true, true, true, true, true, true, false, false, false, true, false, false] rfl rfl (by kernel_rfl) (by decide) (fun K hK => ?_)
          refine goes_ Tryd.func8 (by kernel_rfl) rfl #[.string (s.extract 0 n ++ ⟨#[c]⟩ ++ s.extract n s.size)] (by rfl) rfl rfl (by simp only [List.map_toArray, List.map_cons, List.map_nil]; rfl) ?_
          with_reducible refine (ps_no (more s n c) HM.out _ (HT.out.below (hHeld.2)) (HE.out.below (hHeld.2)) HX.out).mono ?_
          rintro e w8 ⟨rfl, hb⟩
          refine ⟨_, rfl, ?_⟩
          replace KB := Aside0.mk ((hb.block _ (blk_lt KB.out)).trans KB.out)
          refine hK.out _ _ ⟨(hb.block _ (blk_lt (hHeld.1))).trans (hHeld.1), below_then (hHeld.2) (hHeld.2).size hb⟩ (fun hHeld => ?_)
          clear hK K
          refine norm_ (a' := ?_) ?_ ?_
          rotate_left
          · show Act.put _ (some 47) _ = _
            simp only [Act.put, List.setIfInBounds_toArray, List.set_cons_zero, List.set_cons_succ, i64_w, i32_w]
            rfl
          refine pure_ (i := 12) (N := some 35) (v := ?_) (a' := ?_) #[true, true, true, true, true, true, true, true, true, true, true, true, true, false, false, true, false, false] rfl rfl (by kernel_rfl) (fun _ _ _ h => h) (Or.inl ⟨by rfl, ?_⟩) ?_ ?_
          rotate_left
          · intro w'
            go_simp
            with_reducible rfl
          rotate_left
          · simp only [Act.put, List.setIfInBounds_toArray, List.set_cons_zero, List.set_cons_succ, i64_w, i32_w]
            rfl
          refine pure_ (i := 13) (N := some 48) (v := ?_) (a' := ?_) #[true, true, true, true, true, true, true, true, true, true, true, true, true, true, false, true, false, false] rfl rfl (by kernel_rfl) (fun _ _ _ h => h) (Or.inl ⟨by rfl, ?_⟩) ?_ ?_
          rotate_left
          · intro w'
            go_simp
            with_reducible rfl
          rotate_left
          · simp only [Act.put, List.setIfInBounds_toArray, List.set_cons_zero, List.set_cons_succ, i64_w, i32_w]
            rfl
          refine pure_ (i := 14) (N := some 49) (v := ?_) (a' := ?_) #[true, true, true, true, true, true, true, true, true, true, true, true, true, true, true, true, false, false] rfl rfl (by kernel_rfl) (fun _ _ _ h => h) (Or.inl ⟨by rfl, ?_⟩) ?_ ?_
          rotate_left
          · intro w'
            go_simp
            with_reducible rfl
          rotate_left
          · simp only [Act.put, List.setIfInBounds_toArray, List.set_cons_zero, List.set_cons_succ, i64_w, i32_w]
            rfl
          exact norm_ (by simp only [putAll, Act.put, List.setIfInBounds_toArray, List.set_cons_zero, List.set_cons_succ]) (hCont ((w2.heap.size, w2.heap.size + 1)) _ ⟨KB.out, NE.out, GE.out, hHeld.1, hHeld.2⟩)
      · skip
        refine value_ (w1 := ?_) (v := ?_) (by rfl) rfl ?_ ?_
        rotate_left 2
        · go_simp
          constructor
          · rfl
          · rfl
        have KB := blk_new ((w2.drew).alloc (.cells #[.int .u8 (c.toNat : Int)] 5)) (.cells #[.int .i64 0, .int .u64 0, .int .u64 0, .int .i64 0, .int .i64 0, .int .i64 0, .string ⟨#[]⟩] 24)
        try simp only [World.size_alloc] at KB
        replace KB := Aside0.mk KB
        have NE := Aside0.mk (show ba ≠ w2.heap.size + 1 from by have h := blk_lt (hHeld.1); (try simp at h); omega)
        have GE := Aside0.mk (show w.heap.size ≤ w2.heap.size + 1 from by have h := hHeld.2.size; (try simp at h); omega)
        replace UB := Aside0.mk (blk_alloc UB.out (.cells #[.int .i64 0, .int .u64 0, .int .u64 0, .int .i64 0, .int .i64 0, .int .i64 0, .string ⟨#[]⟩] 24))
        refine hK.out _ _ ⟨blk_alloc (hHeld.1) (.cells #[.int .i64 0, .int .u64 0, .int .u64 0, .int .i64 0, .int .i64 0, .int .i64 0, .string ⟨#[]⟩] 24), below_alloc (hHeld.2) (.cells #[.int .i64 0, .int .u64 0, .int .u64 0, .int .i64 0, .int .i64 0, .int .i64 0, .string ⟨#[]⟩] 24)⟩ (fun hHeld => ?_)
        clear hK K
        refine norm_ (a' := ?_) ?_ ?_
        rotate_left
        · show Act.put _ (some 9) _ = _
          simp only [Act.put, List.setIfInBounds_toArray, List.set_cons_zero, List.set_cons_succ, i64_w, i32_w]
          rfl
        refine one_ (i := 5) (N := some 41) #[true, true, true, true, true, true, false, true, true, true, false, false, false, false, false, true, false, false] rfl rfl (by kernel_rfl) (by decide) (fun K hK => ?_)
        have hcv := conv_one ((((w2).alloc (.cells #[.int .u8 (c.toNat : Int)] 5)).alloc (.cells #[.int .i64 0, .int .u64 0, .int .u64 0, .int .i64 0, .int .i64 0, .int .i64 0, .string ⟨#[]⟩] 24)).drew) (w2.heap.size) c ((blk_cell UB.out 0).trans rfl)
        refine value_ (w1 := ?_) (v := ?_) (by rfl) rfl ?_ ?_
        rotate_left 2
        · go_simp
          constructor
          · rfl
          · rfl
        clear hcv
        refine hK.out _ _ ⟨hHeld.1, hHeld.2⟩ (fun hHeld => ?_)
        clear hK K
        refine norm_ (a' := ?_) ?_ ?_
        rotate_left
        · show Act.put _ (some 41) _ = _
          simp only [Act.put, List.setIfInBounds_toArray, List.set_cons_zero, List.set_cons_succ, i64_w, i32_w]
          rfl
        refine pure_ (i := 6) (N := some 42) (v := ?_) (a' := ?_) #[true, true, true, true, true, true, true, true, true, true, false, false, false, false, false, true, false, false] rfl rfl (by kernel_rfl) (fun _ _ _ h => h) (Or.inl ⟨by rfl, ?_⟩) ?_ ?_
        rotate_left
        · intro w'
          go_simp
          with_reducible rfl
        rotate_left
        · simp only [Act.put, List.setIfInBounds_toArray, List.set_cons_zero, List.set_cons_succ, i64_w, i32_w]
          rfl
        refine pure_ (i := 10) (N := some 46) (v := ?_) (a' := ?_) #[true, true, true, true, true, true, true, true, true, true, true, false, false, false, false, true, false, false] rfl rfl (by kernel_rfl) (fun _ _ _ h => h) (Or.inl ⟨by rfl, ?_⟩) ?_ ?_
        rotate_left
        · intro w'
          go_simp
          with_reducible rfl
        rotate_left
        · simp only [Act.put, List.setIfInBounds_toArray, List.set_cons_zero, List.set_cons_succ, i64_w, i32_w]
          rfl
        refine one_ (i := 11) (N := some 47) #[true, true, true, true, true, true, true, true, true, true, true, true, false, false, false, true, false, false] rfl rfl (by kernel_rfl) (by decide) (fun K hK => ?_)
        refine goes_ Tryd.func8 (by kernel_rfl) rfl #[.string (s.extract 0 n ++ ⟨#[c]⟩ ++ s.extract n s.size)] (by rfl) rfl rfl (by simp only [List.map_toArray, List.map_cons, List.map_nil]; rfl) ?_
        with_reducible refine (ps_no (more s n c) HM.out _ (HT.out.below (hHeld.2)) (HE.out.below (hHeld.2)) HX.out).mono ?_
        rintro e w8 ⟨rfl, hb⟩
        refine ⟨_, rfl, ?_⟩
        replace KB := Aside0.mk ((hb.block _ (blk_lt KB.out)).trans KB.out)
        refine hK.out _ _ ⟨(hb.block _ (blk_lt (hHeld.1))).trans (hHeld.1), below_then (hHeld.2) (hHeld.2).size hb⟩ (fun hHeld => ?_)
        clear hK K
        refine norm_ (a' := ?_) ?_ ?_
        rotate_left
        · show Act.put _ (some 47) _ = _
          simp only [Act.put, List.setIfInBounds_toArray, List.set_cons_zero, List.set_cons_succ, i64_w, i32_w]
          rfl
        refine pure_ (i := 12) (N := some 35) (v := ?_) (a' := ?_) #[true, true, true, true, true, true, true, true, true, true, true, true, true, false, false, true, false, false] rfl rfl (by kernel_rfl) (fun _ _ _ h => h) (Or.inl ⟨by rfl, ?_⟩) ?_ ?_
        rotate_left
        · intro w'
          go_simp
          with_reducible rfl
        rotate_left
        · simp only [Act.put, List.setIfInBounds_toArray, List.set_cons_zero, List.set_cons_succ, i64_w, i32_w]
          rfl
        refine pure_ (i := 13) (N := some 48) (v := ?_) (a' := ?_) #[true, true, true, true, true, true, true, true, true, true, true, true, true, true, false, true, false, false] rfl rfl (by kernel_rfl) (fun _ _ _ h => h) (Or.inl ⟨by rfl, ?_⟩) ?_ ?_
        rotate_left
        · intro w'
          go_simp
          with_reducible rfl
        rotate_left
        · simp only [Act.put, List.setIfInBounds_toArray, List.set_cons_zero, List.set_cons_succ, i64_w, i32_w]
          rfl
        refine pure_ (i := 14) (N := some 49) (v := ?_) (a' := ?_) #[true, true, true, true, true, true, true, true, true, true, true, true, true, true, true, true, false, false] rfl rfl (by kernel_rfl) (fun _ _ _ h => h) (Or.inl ⟨by rfl, ?_⟩) ?_ ?_
        rotate_left
        · intro w'
          go_simp
          with_reducible rfl
        rotate_left
        · simp only [Act.put, List.setIfInBounds_toArray, List.set_cons_zero, List.set_cons_succ, i64_w, i32_w]
          rfl
        exact norm_ (by simp only [putAll, Act.put, List.setIfInBounds_toArray, List.set_cons_zero, List.set_cons_succ]) (hCont ((w2.heap.size, w2.heap.size + 1)) _ ⟨KB.out, NE.out, GE.out, hHeld.1, hHeld.2⟩)
    · skip
      refine value_ (w1 := ?_) (v := ?_) (by rfl) rfl ?_ ?_
      rotate_left 2
      · go_simp
        constructor
        · rfl
        · rfl
      have KB := blk_new (w2.drew) (.cells #[.int .i64 0, .int .u64 0, .int .u64 0, .int .i64 0, .int .i64 0, .int .i64 0, .string ⟨#[]⟩] 24)
      try simp only [World.size_alloc] at KB
      replace KB := Aside0.mk KB
      have NE := Aside0.mk (show ba ≠ w2.heap.size from by have h := blk_lt (hHeld.1); (try simp at h); omega)
      have GE := Aside0.mk (show w.heap.size ≤ w2.heap.size from by have h := hHeld.2.size; (try simp at h); omega)
      refine hK.out _ _ ⟨blk_alloc (hHeld.1) (.cells #[.int .i64 0, .int .u64 0, .int .u64 0, .int .i64 0, .int .i64 0, .int .i64 0, .string ⟨#[]⟩] 24), below_alloc (hHeld.2) (.cells #[.int .i64 0, .int .u64 0, .int .u64 0, .int .i64 0, .int .i64 0, .int .i64 0, .string ⟨#[]⟩] 24)⟩ (fun hHeld => ?_)
      clear hK K
      refine norm_ (a' := ?_) ?_ ?_
      rotate_left
      · show Act.put _ (some 9) _ = _
        simp only [Act.put, List.setIfInBounds_toArray, List.set_cons_zero, List.set_cons_succ, i64_w, i32_w]
        rfl
      refine one_ (i := 4) (N := some 40) #[true, true, true, true, true, false, false, true, true, true, false, false, false, false, false, true, false, false] rfl rfl (by kernel_rfl) (by decide) (fun K hK => ?_)
      refine value_ (w1 := ?_) (v := ?_) (by rfl) rfl ?_ ?_
      rotate_left 2
      · go_simp
        constructor
        · rfl
        · rfl
      have UB := blk_new ((w2.drew).alloc (.cells #[.int .i64 0, .int .u64 0, .int .u64 0, .int .i64 0, .int .i64 0, .int .i64 0, .string ⟨#[]⟩] 24)) (.cells #[.int .u8 (c.toNat : Int)] 5)
      try simp only [World.size_alloc] at UB
      replace UB := Aside0.mk UB
      replace KB := Aside0.mk (blk_alloc KB.out (.cells #[.int .u8 (c.toNat : Int)] 5))
      refine hK.out _ _ ⟨blk_alloc (hHeld.1) (.cells #[.int .u8 (c.toNat : Int)] 5), below_alloc (hHeld.2) (.cells #[.int .u8 (c.toNat : Int)] 5)⟩ (fun hHeld => ?_)
      clear hK K
      refine norm_ (a' := ?_) ?_ ?_
      rotate_left
      · show Act.put _ (some 40) _ = _
        simp only [Act.put, List.setIfInBounds_toArray, List.set_cons_zero, List.set_cons_succ, i64_w, i32_w]
        rfl
      refine one_ (i := 5) (N := some 41) #[true, true, true, true, true, true, false, true, true, true, false, false, false, false, false, true, false, false] rfl rfl (by kernel_rfl) (by decide) (fun K hK => ?_)
      have hcv := conv_one ((((w2).alloc (.cells #[.int .i64 0, .int .u64 0, .int .u64 0, .int .i64 0, .int .i64 0, .int .i64 0, .string ⟨#[]⟩] 24)).alloc (.cells #[.int .u8 (c.toNat : Int)] 5)).drew) (w2.heap.size + 1) c ((blk_cell UB.out 0).trans rfl)
      refine value_ (w1 := ?_) (v := ?_) (by rfl) rfl ?_ ?_
      rotate_left 2
      · go_simp
        constructor
        · rfl
        · rfl
      clear hcv
      refine hK.out _ _ ⟨hHeld.1, hHeld.2⟩ (fun hHeld => ?_)
      clear hK K
      refine norm_ (a' := ?_) ?_ ?_
      rotate_left
      · show Act.put _ (some 41) _ = _
        simp only [Act.put, List.setIfInBounds_toArray, List.set_cons_zero, List.set_cons_succ, i64_w, i32_w]
        rfl
      refine pure_ (i := 6) (N := some 42) (v := ?_) (a' := ?_) #[true, true, true, true, true, true, true, true, true, true, false, false, false, false, false, true, false, false] rfl rfl (by kernel_rfl) (fun _ _ _ h => h) (Or.inl ⟨by rfl, ?_⟩) ?_ ?_
      rotate_left
      · intro w'
        go_simp
        with_reducible rfl
      rotate_left
      · simp only [Act.put, List.setIfInBounds_toArray, List.set_cons_zero, List.set_cons_succ, i64_w, i32_w]
        rfl
      refine pure_ (i := 10) (N := some 46) (v := ?_) (a' := ?_) #[true, true, true, true, true, true, true, true, true, true, true, false, false, false, false, true, false, false] rfl rfl (by kernel_rfl) (fun _ _ _ h => h) (Or.inl ⟨by rfl, ?_⟩) ?_ ?_
      rotate_left
      · intro w'
        go_simp
        with_reducible rfl
      rotate_left
      · simp only [Act.put, List.setIfInBounds_toArray, List.set_cons_zero, List.set_cons_succ, i64_w, i32_w]
        rfl
      refine one_ (i := 11) (N := some 47) #[true, true, true, true, true, true, true, true, true, true, true, true, false, false, false, true, false, false] rfl rfl (by kernel_rfl) (by decide) (fun K hK => ?_)
      refine goes_ Tryd.func8 (by kernel_rfl) rfl #[.string (s.extract 0 n ++ ⟨#[c]⟩ ++ s.extract n s.size)] (by rfl) rfl rfl (by simp only [List.map_toArray, List.map_cons, List.map_nil]; rfl) ?_
      with_reducible refine (ps_no (more s n c) HM.out _ (HT.out.below (hHeld.2)) (HE.out.below (hHeld.2)) HX.out).mono ?_
      rintro e w8 ⟨rfl, hb⟩
      refine ⟨_, rfl, ?_⟩
      replace KB := Aside0.mk ((hb.block _ (blk_lt KB.out)).trans KB.out)
      refine hK.out _ _ ⟨(hb.block _ (blk_lt (hHeld.1))).trans (hHeld.1), below_then (hHeld.2) (hHeld.2).size hb⟩ (fun hHeld => ?_)
      clear hK K
      refine norm_ (a' := ?_) ?_ ?_
      rotate_left
      · show Act.put _ (some 47) _ = _
        simp only [Act.put, List.setIfInBounds_toArray, List.set_cons_zero, List.set_cons_succ, i64_w, i32_w]
        rfl
      refine pure_ (i := 12) (N := some 35) (v := ?_) (a' := ?_) #[true, true, true, true, true, true, true, true, true, true, true, true, true, false, false, true, false, false] rfl rfl (by kernel_rfl) (fun _ _ _ h => h) (Or.inl ⟨by rfl, ?_⟩) ?_ ?_
      rotate_left
      · intro w'
        go_simp
        with_reducible rfl
      rotate_left
      · simp only [Act.put, List.setIfInBounds_toArray, List.set_cons_zero, List.set_cons_succ, i64_w, i32_w]
        rfl
      refine pure_ (i := 13) (N := some 48) (v := ?_) (a' := ?_) #[true, true, true, true, true, true, true, true, true, true, true, true, true, true, false, true, false, false] rfl rfl (by kernel_rfl) (fun _ _ _ h => h) (Or.inl ⟨by rfl, ?_⟩) ?_ ?_
      rotate_left
      · intro w'
        go_simp
        with_reducible rfl
      rotate_left
      · simp only [Act.put, List.setIfInBounds_toArray, List.set_cons_zero, List.set_cons_succ, i64_w, i32_w]
        rfl
      refine pure_ (i := 14) (N := some 49) (v := ?_) (a' := ?_) #[true, true, true, true, true, true, true, true, true, true, true, true, true, true, true, true, false, false] rfl rfl (by kernel_rfl) (fun _ _ _ h => h) (Or.inl ⟨by rfl, ?_⟩) ?_ ?_
      rotate_left
      · intro w'
        go_simp
        with_reducible rfl
      rotate_left
      · simp only [Act.put, List.setIfInBounds_toArray, List.set_cons_zero, List.set_cons_succ, i64_w, i32_w]
        rfl
      exact norm_ (by simp only [putAll, Act.put, List.setIfInBounds_toArray, List.set_cons_zero, List.set_cons_succ]) (hCont ((w2.heap.size + 1, w2.heap.size)) _ ⟨KB.out, NE.out, GE.out, hHeld.1, hHeld.2⟩)
  rintro sg_ w9 ⟨hk, hne, hge, h1, h2⟩
  have hHeld : w9.heap[ba]? = some (.cells #[.int .i64 a0, .int .u64 a1, .int .u64 a2, .int .i64 a3, .int .i64 a4, .int .i64 a5, .string ⟨a6.toArray⟩] 24 (0, 0)) ∧ Below w.heap.size w w9 := ⟨h1, h2⟩
  have KB := Aside0.mk hk
  have NE := Aside0.mk hne
  have GE := Aside0.mk hge
  clear hk h1 h2 hne hge
  refine norm_ (a' := ?_) ?_ ?_
  rotate_left
  · simp only [putAll, Act.put, List.setIfInBounds_toArray, List.set_cons_zero, List.set_cons_succ]
    rfl
  refine one_ (i := 16) (N := none) #[true, true, true, true, true, true, true, true, true, true, true, true, true, true, true, true, true, false] rfl rfl (by kernel_rfl) (by decide) (fun K hK => ?_)
  have k0 := (blk_cell KB.out 0).trans (show _ = some (.int .i64 0) from rfl)
  have k1 := (blk_cell KB.out 1).trans (show _ = some (.int .u64 0) from rfl)
  have k2 := (blk_cell KB.out 2).trans (show _ = some (.int .u64 0) from rfl)
  have k3 := (blk_cell KB.out 3).trans (show _ = some (.int .i64 0) from rfl)
  have k4 := (blk_cell KB.out 4).trans (show _ = some (.int .i64 0) from rfl)
  have k5 := (blk_cell KB.out 5).trans (show _ = some (.int .i64 0) from rfl)
  have k6 := (blk_cell KB.out 6).trans (show _ = some (.string ⟨#[]⟩) from rfl)
  have f0 := blk_frozen KB.out 0
  have f1 := blk_frozen KB.out 1
  have f2 := blk_frozen KB.out 2
  have f3 := blk_frozen KB.out 3
  have f4 := blk_frozen KB.out 4
  have f5 := blk_frozen KB.out 5
  have f6 := blk_frozen KB.out 6
  refine skip_ (w1 := ?_) (by rfl) rfl ?_ ?_
  rotate_left
  · go_simp
    rfl
  have XB : ((((((((w9).setCell ⟨sg_.2, 0, none⟩ (.int .i64 0)).setCell ⟨sg_.2, 1, none⟩ (.int .u64 0)).setCell ⟨sg_.2, 2, none⟩ (.int .u64 0)).setCell ⟨sg_.2, 3, none⟩ (.int .i64 0)).setCell ⟨sg_.2, 4, none⟩ (.int .i64 0)).setCell ⟨sg_.2, 5, none⟩ (.int .i64 0)).setCell ⟨sg_.2, 6, none⟩ (.string ⟨#[]⟩)).heap[sg_.2]? = some (.cells #[.int .i64 0, .int .u64 0, .int .u64 0, .int .i64 0, .int .i64 0, .int .i64 0, .string ⟨#[]⟩] 24 (0, 0)) := blk_set (blk_set (blk_set (blk_set (blk_set (blk_set (blk_set (KB.out) 0 _) 1 _) 2 _) 3 _) 4 _) 5 _) 6 _
  clear k0 f0 k1 f1 k2 f2 k3 f3 k4 f4 k5 f5 k6 f6
  refine hK.out _ _ ⟨blk_far (blk_far (blk_far (blk_far (blk_far (blk_far (blk_far (hHeld.1) NE.out _) NE.out _) NE.out _) NE.out _) NE.out _) NE.out _) NE.out _, (((((((hHeld.2).setCell (p := ⟨sg_.2, 0, none⟩) GE.out _).setCell (p := ⟨sg_.2, 1, none⟩) GE.out _).setCell (p := ⟨sg_.2, 2, none⟩) GE.out _).setCell (p := ⟨sg_.2, 3, none⟩) GE.out _).setCell (p := ⟨sg_.2, 4, none⟩) GE.out _).setCell (p := ⟨sg_.2, 5, none⟩) GE.out _).setCell (p := ⟨sg_.2, 6, none⟩) GE.out _⟩ (fun hHeld => ?_)
  clear hK K
  refine pure_ (i := 17) (N := some 10) (v := ?_) (a' := ?_) #[true, true, true, true, true, true, true, true, true, true, true, true, true, true, true, true, true, true] rfl rfl (by kernel_rfl) (fun _ _ _ h => h) (Or.inl ⟨by rfl, ?_⟩) ?_ ?_
  rotate_left
  · intro w'
    go_simp
    with_reducible rfl
  rotate_left
  · simp only [Act.put, List.setIfInBounds_toArray, List.set_cons_zero, List.set_cons_succ, i64_w, i32_w]
    rfl
  refine done_ (by kernel_rfl) ?_
  clear z1 z2
  clear KB NE GE
  generalize (((((((w9).setCell ⟨sg_.2, 0, none⟩ (.int .i64 0)).setCell ⟨sg_.2, 1, none⟩ (.int .u64 0)).setCell ⟨sg_.2, 2, none⟩ (.int .u64 0)).setCell ⟨sg_.2, 3, none⟩ (.int .i64 0)).setCell ⟨sg_.2, 4, none⟩ (.int .i64 0)).setCell ⟨sg_.2, 5, none⟩ (.int .i64 0)).setCell ⟨sg_.2, 6, none⟩ (.string ⟨#[]⟩) = w10 at hHeld XB ⊢
  generalize hsg : sg_.2 = bb at *
  clear hsg
  have XA := Aside0.mk hHeld.1
  replace XB := Aside0.mk XB
  have D_w10 := Aside0.mk hHeld.2
  clear hHeld
  have q1 : ((n : Int) == (s.size : Int)) = false := beq_eq_false_iff_ne.2 (by omega)
  have q2 : (n == s.size) = false := beq_eq_false_iff_ne.2 (by omega)
  go_wp2_with fail
  clear q1 q2
  have XAd : w10.drew.heap[ba]? = some (.cells #[.int .i64 a0, .int .u64 a1, .int .u64 a2, .int .i64 a3, .int .i64 a4, .int .i64 a5, .string ⟨a6.toArray⟩] 24 (0, 0)) := XA.out
  have DDr := below_drew D_w10.out
  clear XA XB D_w10
  have z1 : (9223372036854775807 < n + (s.size - (n + 1))) = False := eq_false (by omega)
  have z3 : IntKind.i64.wrap ((n : Int) + 1) = (n : Int) + 1 := IntWalk.i64_in _ (by omega)
  have z4 : (0 ≤ (n : Int) + 1) = True := eq_true (by omega)
  have z5 : ((n : Int) + 1 ≤ (s.size : Int)) = True := eq_true (by omega)
  refine start_ (n := 15) (S := fun w' => w'.heap[ba]? = some (.cells #[.int .i64 a0, .int .u64 a1, .int .u64 a2, .int .i64 a3, .int .i64 a4, .int .i64 a5, .string ⟨a6.toArray⟩] 24 (0, 0)) ∧ Below w.heap.size w w') (ds := []) #[false, false, false, false, false, false, false, false, false, false, false, false, false, false, false] (by kernel_rfl) rfl rfl ⟨XAd, DDr⟩ (fun hHeld => ?_)
  refine pure_ (i := 0) (N := some 62) (v := ?_) (a' := ?_) #[true, false, false, false, false, false, false, false, false, false, false, false, false, false, false] rfl rfl (by kernel_rfl) (fun _ _ _ h => h) (Or.inl ⟨by rfl, ?_⟩) ?_ ?_
  rotate_left
  · intro w'
    go_simp
    with_reducible rfl
  rotate_left
  · simp only [Act.put, List.setIfInBounds_toArray, List.set_cons_zero, List.set_cons_succ, i64_w, i32_w]
    rfl
  refine pure_ (i := 1) (N := some 63) (v := ?_) (a' := ?_) #[true, true, false, false, false, false, false, false, false, false, false, false, false, false, false] rfl rfl (by kernel_rfl) (fun _ _ _ h => h) (Or.inl ⟨by rfl, ?_⟩) ?_ ?_
  rotate_left
  · intro w'
    go_simp
    with_reducible rfl
  rotate_left
  · simp only [Act.put, List.setIfInBounds_toArray, List.set_cons_zero, List.set_cons_succ, i64_w, i32_w]
    rfl
  refine pure_ (i := 2) (N := some 64) (v := ?_) (a' := ?_) #[true, true, true, false, false, false, false, false, false, false, false, false, false, false, false] rfl rfl (by kernel_rfl) (fun _ _ _ h => h) (Or.inl ⟨by rfl, ?_⟩) ?_ ?_
  rotate_left
  · intro w'
    go_simp
    with_reducible rfl
  rotate_left
  · simp only [Act.put, List.setIfInBounds_toArray, List.set_cons_zero, List.set_cons_succ, i64_w, i32_w]
    rfl
  refine pure_ (i := 3) (N := some 65) (v := ?_) (a' := ?_) #[true, true, true, true, false, false, false, false, false, false, false, false, false, false, false] rfl rfl (by kernel_rfl) (fun _ _ _ h => h) (Or.inl ⟨by rfl, ?_⟩) ?_ ?_
  rotate_left
  · intro w'
    go_simp
    with_reducible rfl
  rotate_left
  · simp only [Act.put, List.setIfInBounds_toArray, List.set_cons_zero, List.set_cons_succ, i64_w, i32_w]
    rfl
  refine pure_ (i := 4) (N := some 66) (v := ?_) (a' := ?_) #[true, true, true, true, true, false, false, false, false, false, false, false, false, false, false] rfl rfl (by kernel_rfl) (fun _ _ _ h => h) (Or.inl ⟨by rfl, ?_⟩) ?_ ?_
  rotate_left
  · intro w'
    go_simp
    with_reducible rfl
  rotate_left
  · simp only [Act.put, List.setIfInBounds_toArray, List.set_cons_zero, List.set_cons_succ, i64_w, i32_w]
    rfl
  refine pure_ (i := 5) (N := some 67) (v := ?_) (a' := ?_) #[true, true, true, true, true, true, false, false, false, false, false, false, false, false, false] rfl rfl (by kernel_rfl) (fun _ _ _ h => h) (Or.inl ⟨by rfl, ?_⟩) ?_ ?_
  rotate_left
  · intro w'
    go_simp
    with_reducible rfl
  rotate_left
  · simp only [Act.put, List.setIfInBounds_toArray, List.set_cons_zero, List.set_cons_succ, i64_w, i32_w]
    rfl
  refine pure_ (i := 6) (N := some 68) (v := ?_) (a' := ?_) #[true, true, true, true, true, true, true, false, false, false, false, false, false, false, false] rfl rfl (by kernel_rfl) (fun _ _ _ h => h) (Or.inl ⟨by rfl, ?_⟩) ?_ ?_
  rotate_left
  · intro w'
    go_simp
    with_reducible rfl
  rotate_left
  · simp only [Act.put, List.setIfInBounds_toArray, List.set_cons_zero, List.set_cons_succ, i64_w, i32_w]
    rfl
  refine pure_ (i := 7) (N := some 69) (v := ?_) (a' := ?_) #[true, true, true, true, true, true, true, true, false, false, false, false, false, false, false] rfl rfl (by kernel_rfl) (fun _ _ _ h => h) (Or.inl ⟨by rfl, ?_⟩) ?_ ?_
  rotate_left
  · intro w'
    go_simp
    with_reducible rfl
  rotate_left
  · simp only [Act.put, List.setIfInBounds_toArray, List.set_cons_zero, List.set_cons_succ, i64_w, i32_w]
    rfl
  refine join_ (σ := Nat) 2 #[true, true, true, true, true, true, true, true, true, true, true, true, true, false, false] (fun sg_ => [(70, .tuple #[.agg #[.int .i64 0, .int .u64 0, .int .u64 0, .int .i64 0, .int .i64 0, .int .i64 0, .string ⟨#[]⟩], .int .i64 210]), (61, .tuple #[.agg #[.int .i64 0, .int .u64 0, .int .u64 0, .int .i64 0, .int .i64 0, .int .i64 0, .string ⟨#[]⟩], .int .i64 210]), (71, .agg #[.int .i64 0, .int .u64 0, .int .u64 0, .int .i64 0, .int .i64 0, .int .i64 0, .string ⟨#[]⟩]), (72, .int .i64 210), (11, .pointer (some ⟨sg_, 0, none⟩))]) (fun sg_ w' => w'.heap[sg_]? = some (.cells #[.int .i64 0, .int .u64 0, .int .u64 0, .int .i64 0, .int .i64 0, .int .i64 0, .string ⟨#[]⟩] 24 (0, 0)) ∧ ba ≠ sg_ ∧ w.heap.size ≤ sg_ ∧ w'.heap[ba]? = some (.cells #[.int .i64 a0, .int .u64 a1, .int .u64 a2, .int .i64 a3, .int .i64 a4, .int .i64 a5, .string ⟨a6.toArray⟩] 24 (0, 0)) ∧ Below w.heap.size w w') ?_ ?_
  rotate_left
  · intro hCont
    refine two_ (i := 8) (j := 12) (Ni := some 70) (Nj := some 11) #[true, true, true, true, true, true, true, true, true, false, false, false, false, false, false] #[true, true, true, true, true, true, true, true, false, false, false, false, true, false, false] rfl rfl rfl rfl (by kernel_rfl) (by decide) (by decide) (fun K hK => ?_) (fun K hK => ?_)
    · skip
      refine goes_ Tryd.func8 (by kernel_rfl) rfl #[.string (s.extract 0 n ++ s.extract (n + 1) s.size)] (by rfl) rfl rfl (by simp only [List.map_toArray, List.map_cons, List.map_nil]; rfl) ?_
      with_reducible refine (ps_no (fewer s n) HFW.out _ (HT.out.below (hHeld.2)) (HE.out.below (hHeld.2)) HZ.out).mono ?_
      rintro e w8 ⟨rfl, hb⟩
      refine ⟨_, rfl, ?_⟩
      refine hK.out _ _ ⟨(hb.block _ (blk_lt (hHeld.1))).trans (hHeld.1), below_then (hHeld.2) (hHeld.2).size hb⟩ (fun hHeld => ?_)
      clear hK K
      refine norm_ (a' := ?_) ?_ ?_
      rotate_left
      · show Act.put _ (some 70) _ = _
        simp only [Act.put, List.setIfInBounds_toArray, List.set_cons_zero, List.set_cons_succ, i64_w, i32_w]
        rfl
      refine pure_ (i := 9) (N := some 61) (v := ?_) (a' := ?_) #[true, true, true, true, true, true, true, true, true, true, false, false, false, false, false] rfl rfl (by kernel_rfl) (fun _ _ _ h => h) (Or.inl ⟨by rfl, ?_⟩) ?_ ?_
      rotate_left
      · intro w'
        go_simp
        with_reducible rfl
      rotate_left
      · simp only [Act.put, List.setIfInBounds_toArray, List.set_cons_zero, List.set_cons_succ, i64_w, i32_w]
        rfl
      refine pure_ (i := 10) (N := some 71) (v := ?_) (a' := ?_) #[true, true, true, true, true, true, true, true, true, true, true, false, false, false, false] rfl rfl (by kernel_rfl) (fun _ _ _ h => h) (Or.inl ⟨by rfl, ?_⟩) ?_ ?_
      rotate_left
      · intro w'
        go_simp
        with_reducible rfl
      rotate_left
      · simp only [Act.put, List.setIfInBounds_toArray, List.set_cons_zero, List.set_cons_succ, i64_w, i32_w]
        rfl
      refine pure_ (i := 11) (N := some 72) (v := ?_) (a' := ?_) #[true, true, true, true, true, true, true, true, true, true, true, true, false, false, false] rfl rfl (by kernel_rfl) (fun _ _ _ h => h) (Or.inl ⟨by rfl, ?_⟩) ?_ ?_
      rotate_left
      · intro w'
        go_simp
        with_reducible rfl
      rotate_left
      · simp only [Act.put, List.setIfInBounds_toArray, List.set_cons_zero, List.set_cons_succ, i64_w, i32_w]
        rfl
      refine one_ (i := 12) (N := some 11) #[true, true, true, true, true, true, true, true, true, true, true, true, true, false, false] rfl rfl (by kernel_rfl) (by decide) (fun K hK => ?_)
      refine value_ (w1 := ?_) (v := ?_) (by rfl) rfl ?_ ?_
      rotate_left 2
      · go_simp
        constructor
        · rfl
        · rfl
      have KB := blk_new (w8) (.cells #[.int .i64 0, .int .u64 0, .int .u64 0, .int .i64 0, .int .i64 0, .int .i64 0, .string ⟨#[]⟩] 24)
      try simp only [World.size_alloc] at KB
      replace KB := Aside0.mk KB
      have NE := Aside0.mk (show ba ≠ w8.heap.size from by have h := blk_lt (hHeld.1); (try simp at h); omega)
      have GE := Aside0.mk (show w.heap.size ≤ w8.heap.size from by have h := hHeld.2.size; (try simp at h); omega)
      refine hK.out _ _ ⟨blk_alloc (hHeld.1) (.cells #[.int .i64 0, .int .u64 0, .int .u64 0, .int .i64 0, .int .i64 0, .int .i64 0, .string ⟨#[]⟩] 24), below_alloc (hHeld.2) (.cells #[.int .i64 0, .int .u64 0, .int .u64 0, .int .i64 0, .int .i64 0, .int .i64 0, .string ⟨#[]⟩] 24)⟩ (fun hHeld => ?_)
      clear hK K
      refine norm_ (a' := ?_) ?_ ?_
      rotate_left
      · show Act.put _ (some 11) _ = _
        simp only [Act.put, List.setIfInBounds_toArray, List.set_cons_zero, List.set_cons_succ, i64_w, i32_w]
        rfl
      exact norm_ (by simp only [putAll, Act.put, List.setIfInBounds_toArray, List.set_cons_zero, List.set_cons_succ]) (hCont (w8.heap.size) _ ⟨KB.out, NE.out, GE.out, hHeld.1, hHeld.2⟩)
    · skip
      refine value_ (w1 := ?_) (v := ?_) (by rfl) rfl ?_ ?_
      rotate_left 2
      · go_simp
        constructor
        · rfl
        · rfl
      have KB := blk_new (w10.drew) (.cells #[.int .i64 0, .int .u64 0, .int .u64 0, .int .i64 0, .int .i64 0, .int .i64 0, .string ⟨#[]⟩] 24)
      try simp only [World.size_alloc] at KB
      replace KB := Aside0.mk KB
      have NE := Aside0.mk (show ba ≠ w10.heap.size from by have h := blk_lt (hHeld.1); (try simp at h); omega)
      have GE := Aside0.mk (show w.heap.size ≤ w10.heap.size from by have h := hHeld.2.size; (try simp at h); omega)
      refine hK.out _ _ ⟨blk_alloc (hHeld.1) (.cells #[.int .i64 0, .int .u64 0, .int .u64 0, .int .i64 0, .int .i64 0, .int .i64 0, .string ⟨#[]⟩] 24), below_alloc (hHeld.2) (.cells #[.int .i64 0, .int .u64 0, .int .u64 0, .int .i64 0, .int .i64 0, .int .i64 0, .string ⟨#[]⟩] 24)⟩ (fun hHeld => ?_)
      clear hK K
      refine norm_ (a' := ?_) ?_ ?_
      rotate_left
      · show Act.put _ (some 11) _ = _
        simp only [Act.put, List.setIfInBounds_toArray, List.set_cons_zero, List.set_cons_succ, i64_w, i32_w]
        rfl
      refine one_ (i := 8) (N := some 70) #[true, true, true, true, true, true, true, true, true, false, false, false, true, false, false] rfl rfl (by kernel_rfl) (by decide) (fun K hK => ?_)
      refine goes_ Tryd.func8 (by kernel_rfl) rfl #[.string (s.extract 0 n ++ s.extract (n + 1) s.size)] (by rfl) rfl rfl (by simp only [List.map_toArray, List.map_cons, List.map_nil]; rfl) ?_
      with_reducible refine (ps_no (fewer s n) HFW.out _ (HT.out.below (hHeld.2)) (HE.out.below (hHeld.2)) HZ.out).mono ?_
      rintro e w8 ⟨rfl, hb⟩
      refine ⟨_, rfl, ?_⟩
      replace KB := Aside0.mk ((hb.block _ (blk_lt KB.out)).trans KB.out)
      refine hK.out _ _ ⟨(hb.block _ (blk_lt (hHeld.1))).trans (hHeld.1), below_then (hHeld.2) (hHeld.2).size hb⟩ (fun hHeld => ?_)
      clear hK K
      refine norm_ (a' := ?_) ?_ ?_
      rotate_left
      · show Act.put _ (some 70) _ = _
        simp only [Act.put, List.setIfInBounds_toArray, List.set_cons_zero, List.set_cons_succ, i64_w, i32_w]
        rfl
      refine pure_ (i := 9) (N := some 61) (v := ?_) (a' := ?_) #[true, true, true, true, true, true, true, true, true, true, false, false, true, false, false] rfl rfl (by kernel_rfl) (fun _ _ _ h => h) (Or.inl ⟨by rfl, ?_⟩) ?_ ?_
      rotate_left
      · intro w'
        go_simp
        with_reducible rfl
      rotate_left
      · simp only [Act.put, List.setIfInBounds_toArray, List.set_cons_zero, List.set_cons_succ, i64_w, i32_w]
        rfl
      refine pure_ (i := 10) (N := some 71) (v := ?_) (a' := ?_) #[true, true, true, true, true, true, true, true, true, true, true, false, true, false, false] rfl rfl (by kernel_rfl) (fun _ _ _ h => h) (Or.inl ⟨by rfl, ?_⟩) ?_ ?_
      rotate_left
      · intro w'
        go_simp
        with_reducible rfl
      rotate_left
      · simp only [Act.put, List.setIfInBounds_toArray, List.set_cons_zero, List.set_cons_succ, i64_w, i32_w]
        rfl
      refine pure_ (i := 11) (N := some 72) (v := ?_) (a' := ?_) #[true, true, true, true, true, true, true, true, true, true, true, true, true, false, false] rfl rfl (by kernel_rfl) (fun _ _ _ h => h) (Or.inl ⟨by rfl, ?_⟩) ?_ ?_
      rotate_left
      · intro w'
        go_simp
        with_reducible rfl
      rotate_left
      · simp only [Act.put, List.setIfInBounds_toArray, List.set_cons_zero, List.set_cons_succ, i64_w, i32_w]
        rfl
      exact norm_ (by simp only [putAll, Act.put, List.setIfInBounds_toArray, List.set_cons_zero, List.set_cons_succ]) (hCont (w10.heap.size) _ ⟨KB.out, NE.out, GE.out, hHeld.1, hHeld.2⟩)
  rintro sg_ w9 ⟨hk, hne, hge, h1, h2⟩
  have hHeld : w9.heap[ba]? = some (.cells #[.int .i64 a0, .int .u64 a1, .int .u64 a2, .int .i64 a3, .int .i64 a4, .int .i64 a5, .string ⟨a6.toArray⟩] 24 (0, 0)) ∧ Below w.heap.size w w9 := ⟨h1, h2⟩
  have KB := Aside0.mk hk
  have NE := Aside0.mk hne
  have GE := Aside0.mk hge
  clear hk h1 h2 hne hge
  refine norm_ (a' := ?_) ?_ ?_
  rotate_left
  · simp only [putAll, Act.put, List.setIfInBounds_toArray, List.set_cons_zero, List.set_cons_succ]
    rfl
  refine one_ (i := 13) (N := none) #[true, true, true, true, true, true, true, true, true, true, true, true, true, true, false] rfl rfl (by kernel_rfl) (by decide) (fun K hK => ?_)
  have k0 := (blk_cell KB.out 0).trans (show _ = some (.int .i64 0) from rfl)
  have k1 := (blk_cell KB.out 1).trans (show _ = some (.int .u64 0) from rfl)
  have k2 := (blk_cell KB.out 2).trans (show _ = some (.int .u64 0) from rfl)
  have k3 := (blk_cell KB.out 3).trans (show _ = some (.int .i64 0) from rfl)
  have k4 := (blk_cell KB.out 4).trans (show _ = some (.int .i64 0) from rfl)
  have k5 := (blk_cell KB.out 5).trans (show _ = some (.int .i64 0) from rfl)
  have k6 := (blk_cell KB.out 6).trans (show _ = some (.string ⟨#[]⟩) from rfl)
  have f0 := blk_frozen KB.out 0
  have f1 := blk_frozen KB.out 1
  have f2 := blk_frozen KB.out 2
  have f3 := blk_frozen KB.out 3
  have f4 := blk_frozen KB.out 4
  have f5 := blk_frozen KB.out 5
  have f6 := blk_frozen KB.out 6
  refine skip_ (w1 := ?_) (by rfl) rfl ?_ ?_
  rotate_left
  · go_simp
    rfl
  have XD : ((((((((w9).setCell ⟨sg_, 0, none⟩ (.int .i64 0)).setCell ⟨sg_, 1, none⟩ (.int .u64 0)).setCell ⟨sg_, 2, none⟩ (.int .u64 0)).setCell ⟨sg_, 3, none⟩ (.int .i64 0)).setCell ⟨sg_, 4, none⟩ (.int .i64 0)).setCell ⟨sg_, 5, none⟩ (.int .i64 0)).setCell ⟨sg_, 6, none⟩ (.string ⟨#[]⟩)).heap[sg_]? = some (.cells #[.int .i64 0, .int .u64 0, .int .u64 0, .int .i64 0, .int .i64 0, .int .i64 0, .string ⟨#[]⟩] 24 (0, 0)) := blk_set (blk_set (blk_set (blk_set (blk_set (blk_set (blk_set (KB.out) 0 _) 1 _) 2 _) 3 _) 4 _) 5 _) 6 _
  clear k0 f0 k1 f1 k2 f2 k3 f3 k4 f4 k5 f5 k6 f6
  refine hK.out _ _ ⟨blk_far (blk_far (blk_far (blk_far (blk_far (blk_far (blk_far (hHeld.1) NE.out _) NE.out _) NE.out _) NE.out _) NE.out _) NE.out _) NE.out _, (((((((hHeld.2).setCell (p := ⟨sg_, 0, none⟩) GE.out _).setCell (p := ⟨sg_, 1, none⟩) GE.out _).setCell (p := ⟨sg_, 2, none⟩) GE.out _).setCell (p := ⟨sg_, 3, none⟩) GE.out _).setCell (p := ⟨sg_, 4, none⟩) GE.out _).setCell (p := ⟨sg_, 5, none⟩) GE.out _).setCell (p := ⟨sg_, 6, none⟩) GE.out _⟩ (fun hHeld => ?_)
  clear hK K
  refine pure_ (i := 14) (N := some 12) (v := ?_) (a' := ?_) #[true, true, true, true, true, true, true, true, true, true, true, true, true, true, true] rfl rfl (by kernel_rfl) (fun _ _ _ h => h) (Or.inl ⟨by rfl, ?_⟩) ?_ ?_
  rotate_left
  · intro w'
    go_simp
    with_reducible rfl
  rotate_left
  · simp only [Act.put, List.setIfInBounds_toArray, List.set_cons_zero, List.set_cons_succ, i64_w, i32_w]
    rfl
  refine done_ (by kernel_rfl) ?_
  clear z1 z3 z4 z5
  clear KB NE GE
  generalize (((((((w9).setCell ⟨sg_, 0, none⟩ (.int .i64 0)).setCell ⟨sg_, 1, none⟩ (.int .u64 0)).setCell ⟨sg_, 2, none⟩ (.int .u64 0)).setCell ⟨sg_, 3, none⟩ (.int .i64 0)).setCell ⟨sg_, 4, none⟩ (.int .i64 0)).setCell ⟨sg_, 5, none⟩ (.int .i64 0)).setCell ⟨sg_, 6, none⟩ (.string ⟨#[]⟩) = w11 at hHeld XD ⊢
  generalize hsg : sg_ = bd at *
  clear hsg
  have XA := Aside0.mk hHeld.1
  replace XD := Aside0.mk XD
  have D_w11 := Aside0.mk hHeld.2
  clear hHeld
  go_wp2
  go_ret
  exact ⟨rfl, D_w11.out⟩
set_option maxRecDepth 100000 in
set_option maxHeartbeats 8000000 in
theorem strict_nt (a0 a1 a2 a3 a4 a5 d0 d1 d2 d3 d4 d5 : Int) (a6 d6 : List UInt8) (s : ByteArray) (hs : s.size ≤ 281474976710000) (a : Int) (ha0 : -9223372036854775808 ≤ a) (ha1 : a ≤ 9223372036854775807) (c : UInt8) (w : World) (ht : Tens w) (he : Errs w)
    (n : Nat) (hn : a = (n : Int)) (hle : n < s.size) (hy : callP s.data.toList = some (⟨a0, a1, a2, a3, a4, a5, a6⟩ : Call7)) (hx : callP (more s n c).data.toList = none) (hz : callP (fewer s n).data.toList = some (⟨d0, d1, d2, d3, d4, d5, d6⟩ : Call7)) (hzd : (d0 == a0 && (d1 == a1 && (d2 == a2 && (d3 == a3 && (d4 == a4 && (d5 == a5 && d6 == a6)))))) = false) :
    Calls Tryd.prog 6 #[.string s, .int .i64 a, .int .u8 (c.toNat : Int)] w fun e w' => e = .returned (.bool true) ∧ Below w.heap.size w w' := by
  have HT := Aside0.mk ht
  have HE := Aside0.mk he
  have HS := Aside0.mk (show s.size ≤ 281474976710656 by omega)
  have D0 := Aside0.mk (Below.refl w.heap.size w)
  have hle2 : n ≤ s.size := by omega
  have HM := Aside0.mk (show (more s n c).size ≤ 281474976710656 by rw [more_size s n c hle2]; omega)
  have HFW := Aside0.mk (show (fewer s n).size ≤ 281474976710656 by have := fewer_size s n hle; omega)
  have hsz : s.size ≤ 281474976710000 := hs
  subst hn
  have HY := Aside0.mk hy
  have HX := Aside0.mk hx
  have HZ := Aside0.mk hz
  clear hz
  have HZD := Aside0.mk hzd
  clear hzd
  clear ht he hy hx hs ha0 ha1
  go_enter Tryd.func6, Tryd.ntmps6
  go_wp2_with fail
  refine (ps_yes s HS.out a0 a1 a2 a3 a4 a5 a6 _ (HT.out.below D0.out) (HE.out.below D0.out) HY.out).mono ?_
  rintro e w1 ⟨rfl, hb⟩
  have D1 := Aside0.mk (below_then D0.out D0.out.size hb)
  clear hb D0
  have XA := Aside0.mk (blk_new w1 (.cells #[.int .i64 a0, .int .u64 a1, .int .u64 a2, .int .i64 a3, .int .i64 a4, .int .i64 a5, .string ⟨a6.toArray⟩] 24))
  have E1 := Aside0.mk (below_alloc D1.out (.cells #[.int .i64 a0, .int .u64 a1, .int .u64 a2, .int .i64 a3, .int .i64 a4, .int .i64 a5, .string ⟨a6.toArray⟩] 24))
  obtain ⟨ba, hba⟩ : ∃ ba, ba = w1.heap.size := ⟨_, rfl⟩
  rw [← hba] at XA
  clear D1
  go_wp2_with fail
  rw [← hba]
  clear hba
  generalize w1.alloc (.cells #[.int .i64 a0, .int .u64 a1, .int .u64 a2, .int .i64 a3, .int .i64 a4, .int .i64 a5, .string ⟨a6.toArray⟩] 24) = v1 at XA E1 ⊢
  refine (fixed_q _ (HT.out.below E1.out) (HE.out.below E1.out)).mono ?_
  rintro e w2 ⟨rfl, hb⟩
  replace XA := Aside0.mk ((hb.block _ (blk_lt XA.out)).trans XA.out)
  have D2 := Aside0.mk (below_then E1.out E1.out.size hb)
  clear hb E1
  go_wp2_with fail
  have XAd : w2.drew.heap[ba]? = some (.cells #[.int .i64 a0, .int .u64 a1, .int .u64 a2, .int .i64 a3, .int .i64 a4, .int .i64 a5, .string ⟨a6.toArray⟩] 24 (0, 0)) := XA.out
  have DDr := below_drew D2.out
  clear XA D2
  have z1 : (9223372036854775807 < n + 1) = False := eq_false (by omega)
  have z2 : (9223372036854775807 < n + 1 + (s.size - n)) = False := eq_false (by omega)
  refine start_ (n := 18) (S := fun w' => w'.heap[ba]? = some (.cells #[.int .i64 a0, .int .u64 a1, .int .u64 a2, .int .i64 a3, .int .i64 a4, .int .i64 a5, .string ⟨a6.toArray⟩] 24 (0, 0)) ∧ Below w.heap.size w w') (ds := []) #[false, false, false, false, false, false, false, false, false, false, false, false, false, false, false, false, false, false] (by kernel_rfl) rfl rfl ⟨XAd, DDr⟩ (fun hHeld => ?_)
  refine pure_ (i := 0) (N := some 36) (v := ?_) (a' := ?_) #[true, false, false, false, false, false, false, false, false, false, false, false, false, false, false, false, false, false] rfl rfl (by kernel_rfl) (fun _ _ _ h => h) (Or.inl ⟨by rfl, ?_⟩) ?_ ?_
  rotate_left
  · intro w'
    go_simp
    with_reducible rfl
  rotate_left
  · simp only [Act.put, List.setIfInBounds_toArray, List.set_cons_zero, List.set_cons_succ, i64_w, i32_w]
    rfl
  refine pure_ (i := 1) (N := some 37) (v := ?_) (a' := ?_) #[true, true, false, false, false, false, false, false, false, false, false, false, false, false, false, false, false, false] rfl rfl (by kernel_rfl) (fun _ _ _ h => h) (Or.inl ⟨by rfl, ?_⟩) ?_ ?_
  rotate_left
  · intro w'
    go_simp
    with_reducible rfl
  rotate_left
  · simp only [Act.put, List.setIfInBounds_toArray, List.set_cons_zero, List.set_cons_succ, i64_w, i32_w]
    rfl
  refine pure_ (i := 2) (N := some 38) (v := ?_) (a' := ?_) #[true, true, true, false, false, false, false, false, false, false, false, false, false, false, false, false, false, false] rfl rfl (by kernel_rfl) (fun _ _ _ h => h) (Or.inl ⟨by rfl, ?_⟩) ?_ ?_
  rotate_left
  · intro w'
    go_simp
    with_reducible rfl
  rotate_left
  · simp only [Act.put, List.setIfInBounds_toArray, List.set_cons_zero, List.set_cons_succ, i64_w, i32_w]
    rfl
  refine pure_ (i := 3) (N := some 39) (v := ?_) (a' := ?_) #[true, true, true, true, false, false, false, false, false, false, false, false, false, false, false, false, false, false] rfl rfl (by kernel_rfl) (fun _ _ _ h => h) (Or.inl ⟨by rfl, ?_⟩) ?_ ?_
  rotate_left
  · intro w'
    go_simp
    with_reducible rfl
  rotate_left
  · simp only [Act.put, List.setIfInBounds_toArray, List.set_cons_zero, List.set_cons_succ, i64_w, i32_w]
    rfl
  refine pure_ (i := 7) (N := some 43) (v := ?_) (a' := ?_) #[true, true, true, true, false, false, false, true, false, false, false, false, false, false, false, false, false, false] rfl rfl (by kernel_rfl) (fun _ _ _ h => h) (Or.inl ⟨by rfl, ?_⟩) ?_ ?_
  rotate_left
  · intro w'
    go_simp
    with_reducible rfl
  rotate_left
  · simp only [Act.put, List.setIfInBounds_toArray, List.set_cons_zero, List.set_cons_succ, i64_w, i32_w]
    rfl
  refine pure_ (i := 8) (N := some 44) (v := ?_) (a' := ?_) #[true, true, true, true, false, false, false, true, true, false, false, false, false, false, false, false, false, false] rfl rfl (by kernel_rfl) (fun _ _ _ h => h) (Or.inl ⟨by rfl, ?_⟩) ?_ ?_
  rotate_left
  · intro w'
    go_simp
    with_reducible rfl
  rotate_left
  · simp only [Act.put, List.setIfInBounds_toArray, List.set_cons_zero, List.set_cons_succ, i64_w, i32_w]
    rfl
  refine pure_ (i := 9) (N := some 45) (v := ?_) (a' := ?_) #[true, true, true, true, false, false, false, true, true, true, false, false, false, false, false, false, false, false] rfl rfl (by kernel_rfl) (fun _ _ _ h => h) (Or.inl ⟨by rfl, ?_⟩) ?_ ?_
  rotate_left
  · intro w'
    go_simp
    with_reducible rfl
  rotate_left
  · simp only [Act.put, List.setIfInBounds_toArray, List.set_cons_zero, List.set_cons_succ, i64_w, i32_w]
    rfl
  refine join_ (σ := Nat × Nat) 2 #[true, true, true, true, true, true, true, true, true, true, true, true, true, true, true, true, false, false] (fun sg_ => [(40, .slice (some ⟨sg_.1, 0, none⟩) 1 1), (41, .string ⟨#[c]⟩), (42, .string (s.extract 0 n ++ ⟨#[c]⟩)), (46, .string (s.extract 0 n ++ ⟨#[c]⟩ ++ s.extract n s.size)), (47, .tuple #[.agg #[.int .i64 0, .int .u64 0, .int .u64 0, .int .i64 0, .int .i64 0, .int .i64 0, .string ⟨#[]⟩], .int .i64 210]), (35, .tuple #[.agg #[.int .i64 0, .int .u64 0, .int .u64 0, .int .i64 0, .int .i64 0, .int .i64 0, .string ⟨#[]⟩], .int .i64 210]), (48, .agg #[.int .i64 0, .int .u64 0, .int .u64 0, .int .i64 0, .int .i64 0, .int .i64 0, .string ⟨#[]⟩]), (49, .int .i64 210), (9, .pointer (some ⟨sg_.2, 0, none⟩))]) (fun sg_ w' => w'.heap[sg_.2]? = some (.cells #[.int .i64 0, .int .u64 0, .int .u64 0, .int .i64 0, .int .i64 0, .int .i64 0, .string ⟨#[]⟩] 24 (0, 0)) ∧ ba ≠ sg_.2 ∧ w.heap.size ≤ sg_.2 ∧ w'.heap[ba]? = some (.cells #[.int .i64 a0, .int .u64 a1, .int .u64 a2, .int .i64 a3, .int .i64 a4, .int .i64 a5, .string ⟨a6.toArray⟩] 24 (0, 0)) ∧ Below w.heap.size w w') ?_ ?_
  rotate_left
  · intro hCont
    refine two_ (i := 4) (j := 15) (Ni := some 40) (Nj := some 9) #[true, true, true, true, true, false, false, true, true, true, false, false, false, false, false, false, false, false] #[true, true, true, true, false, false, false, true, true, true, false, false, false, false, false, true, false, false] rfl rfl rfl rfl (by kernel_rfl) (by decide) (by decide) (fun K hK => ?_) (fun K hK => ?_)
    · skip
      refine value_ (w1 := ?_) (v := ?_) (by rfl) rfl ?_ ?_
      rotate_left 2
      · go_simp
        constructor
        · rfl
        · rfl
      have UB := blk_new (w2.drew) (.cells #[.int .u8 (c.toNat : Int)] 5)
      try simp only [World.size_alloc] at UB
      replace UB := Aside0.mk UB
      refine hK.out _ _ ⟨blk_alloc (hHeld.1) (.cells #[.int .u8 (c.toNat : Int)] 5), below_alloc (hHeld.2) (.cells #[.int .u8 (c.toNat : Int)] 5)⟩ (fun hHeld => ?_)
      clear hK K
      refine norm_ (a' := ?_) ?_ ?_
      rotate_left
      · show Act.put _ (some 40) _ = _
        simp only [Act.put, List.setIfInBounds_toArray, List.set_cons_zero, List.set_cons_succ, i64_w, i32_w]
        rfl
      refine two_ (i := 5) (j := 15) (Ni := some 41) (Nj := some 9) #[true, true, true, true, true, true, false, true, true, true, false, false, false, false, false, false, false, false] #[true, true, true, true, true, false, false, true, true, true, false, false, false, false, false, true, false, false] rfl rfl rfl rfl (by kernel_rfl) (by decide) (by decide) (fun K hK => ?_) (fun K hK => ?_)
      · skip
        have hcv := conv_one (((w2).alloc (.cells #[.int .u8 (c.toNat : Int)] 5)).drew) (w2.heap.size) c ((blk_cell UB.out 0).trans rfl)
        refine value_ (w1 := ?_) (v := ?_) (by rfl) rfl ?_ ?_
        rotate_left 2
        · go_simp
          constructor
          · rfl
          · rfl
        clear hcv
        refine hK.out _ _ ⟨hHeld.1, hHeld.2⟩ (fun hHeld => ?_)
        clear hK K
        refine norm_ (a' := ?_) ?_ ?_
        rotate_left
        · show Act.put _ (some 41) _ = _
          simp only [Act.put, List.setIfInBounds_toArray, List.set_cons_zero, List.set_cons_succ, i64_w, i32_w]
          rfl
        refine pure_ (i := 6) (N := some 42) (v := ?_) (a' := ?_) #[true, true, true, true, true, true, true, true, true, true, false, false, false, false, false, false, false, false] rfl rfl (by kernel_rfl) (fun _ _ _ h => h) (Or.inl ⟨by rfl, ?_⟩) ?_ ?_
        rotate_left
        · intro w'
          go_simp
          with_reducible rfl
        rotate_left
        · simp only [Act.put, List.setIfInBounds_toArray, List.set_cons_zero, List.set_cons_succ, i64_w, i32_w]
          rfl
        refine pure_ (i := 10) (N := some 46) (v := ?_) (a' := ?_) #[true, true, true, true, true, true, true, true, true, true, true, false, false, false, false, false, false, false] rfl rfl (by kernel_rfl) (fun _ _ _ h => h) (Or.inl ⟨by rfl, ?_⟩) ?_ ?_
        rotate_left
        · intro w'
          go_simp
          with_reducible rfl
        rotate_left
        · simp only [Act.put, List.setIfInBounds_toArray, List.set_cons_zero, List.set_cons_succ, i64_w, i32_w]
          rfl
        refine two_ (i := 11) (j := 15) (Ni := some 47) (Nj := some 9) #[true, true, true, true, true, true, true, true, true, true, true, true, false, false, false, false, false, false] #[true, true, true, true, true, true, true, true, true, true, true, false, false, false, false, true, false, false] rfl rfl rfl rfl (by kernel_rfl) (by decide) (by decide) (fun K hK => ?_) (fun K hK => ?_)
        · skip
          refine goes_ Tryd.func8 (by kernel_rfl) rfl #[.string (s.extract 0 n ++ ⟨#[c]⟩ ++ s.extract n s.size)] (by rfl) rfl rfl (by simp only [List.map_toArray, List.map_cons, List.map_nil]; rfl) ?_
          with_reducible refine (ps_no (more s n c) HM.out _ (HT.out.below (hHeld.2)) (HE.out.below (hHeld.2)) HX.out).mono ?_
          rintro e w8 ⟨rfl, hb⟩
          refine ⟨_, rfl, ?_⟩
          refine hK.out _ _ ⟨(hb.block _ (blk_lt (hHeld.1))).trans (hHeld.1), below_then (hHeld.2) (hHeld.2).size hb⟩ (fun hHeld => ?_)
          clear hK K
          refine norm_ (a' := ?_) ?_ ?_
          rotate_left
          · show Act.put _ (some 47) _ = _
            simp only [Act.put, List.setIfInBounds_toArray, List.set_cons_zero, List.set_cons_succ, i64_w, i32_w]
            rfl
          refine pure_ (i := 12) (N := some 35) (v := ?_) (a' := ?_) #[true, true, true, true, true, true, true, true, true, true, true, true, true, false, false, false, false, false] rfl rfl (by kernel_rfl) (fun _ _ _ h => h) (Or.inl ⟨by rfl, ?_⟩) ?_ ?_
          rotate_left
          · intro w'
            go_simp
            with_reducible rfl
          rotate_left
          · simp only [Act.put, List.setIfInBounds_toArray, List.set_cons_zero, List.set_cons_succ, i64_w, i32_w]
            rfl
          refine pure_ (i := 13) (N := some 48) (v := ?_) (a' := ?_) #[true, true, true, true, true, true, true, true, true, true, true, true, true, true, false, false, false, false] rfl rfl (by kernel_rfl) (fun _ _ _ h => h) (Or.inl ⟨by rfl, ?_⟩) ?_ ?_
          rotate_left
          · intro w'
            go_simp
            with_reducible rfl
          rotate_left
          · simp only [Act.put, List.setIfInBounds_toArray, List.set_cons_zero, List.set_cons_succ, i64_w, i32_w]
            rfl
          refine pure_ (i := 14) (N := some 49) (v := ?_) (a' := ?_) #[true, true, true, true, true, true, true, true, true, true, true, true, true, true, true, false, false, false] rfl rfl (by kernel_rfl) (fun _ _ _ h => h) (Or.inl ⟨by rfl, ?_⟩) ?_ ?_
          rotate_left
          · intro w'
            go_simp
            with_reducible rfl
          rotate_left
          · simp only [Act.put, List.setIfInBounds_toArray, List.set_cons_zero, List.set_cons_succ, i64_w, i32_w]
            rfl
          refine one_ (i := 15) (N := some 9) #[true, true, true, true, true, true, true, true, true, true, true, true, true, true, true, true, false, false] rfl rfl (by kernel_rfl) (by decide) (fun K hK => ?_)
          refine value_ (w1 := ?_) (v := ?_) (by rfl) rfl ?_ ?_
          rotate_left 2
          · go_simp
            constructor
            · rfl
            · rfl
          have KB := blk_new (w8) (.cells #[.int .i64 0, .int .u64 0, .int .u64 0, .int .i64 0, .int .i64 0, .int .i64 0, .string ⟨#[]⟩] 24)
          try simp only [World.size_alloc] at KB
          replace KB := Aside0.mk KB
          have NE := Aside0.mk (show ba ≠ w8.heap.size from by have h := blk_lt (hHeld.1); (try simp at h); omega)
          have GE := Aside0.mk (show w.heap.size ≤ w8.heap.size from by have h := hHeld.2.size; (try simp at h); omega)
          refine hK.out _ _ ⟨blk_alloc (hHeld.1) (.cells #[.int .i64 0, .int .u64 0, .int .u64 0, .int .i64 0, .int .i64 0, .int .i64 0, .string ⟨#[]⟩] 24), below_alloc (hHeld.2) (.cells #[.int .i64 0, .int .u64 0, .int .u64 0, .int .i64 0, .int .i64 0, .int .i64 0, .string ⟨#[]⟩] 24)⟩ (fun hHeld => ?_)
          clear hK K
          refine norm_ (a' := ?_) ?_ ?_
          rotate_left
          · show Act.put _ (some 9) _ = _
            simp only [Act.put, List.setIfInBounds_toArray, List.set_cons_zero, List.set_cons_succ, i64_w, i32_w]
            rfl
          exact norm_ (by simp only [putAll, Act.put, List.setIfInBounds_toArray, List.set_cons_zero, List.set_cons_succ]) (hCont ((w2.heap.size, w8.heap.size)) _ ⟨KB.out, NE.out, GE.out, hHeld.1, hHeld.2⟩)
        · skip
          refine value_ (w1 := ?_) (v := ?_) (by rfl) rfl ?_ ?_
          rotate_left 2
          · go_simp
            constructor
            · rfl
            · rfl
          have KB := blk_new ((w2.drew).alloc (.cells #[.int .u8 (c.toNat : Int)] 5)) (.cells #[.int .i64 0, .int .u64 0, .int .u64 0, .int .i64 0, .int .i64 0, .int .i64 0, .string ⟨#[]⟩] 24)
          try simp only [World.size_alloc] at KB
          replace KB := Aside0.mk KB
          have NE := Aside0.mk (show ba ≠ w2.heap.size + 1 from by have h := blk_lt (hHeld.1); (try simp at h); omega)
          have GE := Aside0.mk (show w.heap.size ≤ w2.heap.size + 1 from by have h := hHeld.2.size; (try simp at h); omega)
          replace UB := Aside0.mk (blk_alloc UB.out (.cells #[.int .i64 0, .int .u64 0, .int .u64 0, .int .i64 0, .int .i64 0, .int .i64 0, .string ⟨#[]⟩] 24))
          refine hK.out _ _ ⟨blk_alloc (hHeld.1) (.cells #[.int .i64 0, .int .u64 0, .int .u64 0, .int .i64 0, .int .i64 0, .int .i64 0, .string ⟨#[]⟩] 24), below_alloc (hHeld.2) (.cells #[.int .i64 0, .int .u64 0, .int .u64 0, .int .i64 0, .int .i64 0, .int .i64 0, .string ⟨#[]⟩] 24)⟩ (fun hHeld => ?_)
          clear hK K
          refine norm_ (a' := ?_) ?_ ?_
          rotate_left
          · show Act.put _ (some 9) _ = _
            simp only [Act.put, List.setIfInBounds_toArray, List.set_cons_zero, List.set_cons_succ, i64_w, i32_w]
            rfl
          refine one_ (i := 11) (N := some 47) #[true, true, true, true, true, true, true, true, true, true, true, true, false, false, false, true, false, false] rfl rfl (by kernel_rfl) (by decide) (fun K hK => ?_)
          refine goes_ Tryd.func8 (by kernel_rfl) rfl #[.string (s.extract 0 n ++ ⟨#[c]⟩ ++ s.extract n s.size)] (by rfl) rfl rfl (by simp only [List.map_toArray, List.map_cons, List.map_nil]; rfl) ?_
          with_reducible refine (ps_no (more s n c) HM.out _ (HT.out.below (hHeld.2)) (HE.out.below (hHeld.2)) HX.out).mono ?_
          rintro e w8 ⟨rfl, hb⟩
          refine ⟨_, rfl, ?_⟩
          replace KB := Aside0.mk ((hb.block _ (blk_lt KB.out)).trans KB.out)
          refine hK.out _ _ ⟨(hb.block _ (blk_lt (hHeld.1))).trans (hHeld.1), below_then (hHeld.2) (hHeld.2).size hb⟩ (fun hHeld => ?_)
          clear hK K
          refine norm_ (a' := ?_) ?_ ?_
          rotate_left
          · show Act.put _ (some 47) _ = _
            simp only [Act.put, List.setIfInBounds_toArray, List.set_cons_zero, List.set_cons_succ, i64_w, i32_w]
            rfl
          refine pure_ (i := 12) (N := some 35) (v := ?_) (a' := ?_) #[true, true, true, true, true, true, true, true, true, true, true, true, true, false, false, true, false, false] rfl rfl (by kernel_rfl) (fun _ _ _ h => h) (Or.inl ⟨by rfl, ?_⟩) ?_ ?_
          rotate_left
          · intro w'
            go_simp
            with_reducible rfl
          rotate_left
          · simp only [Act.put, List.setIfInBounds_toArray, List.set_cons_zero, List.set_cons_succ, i64_w, i32_w]
            rfl
          refine pure_ (i := 13) (N := some 48) (v := ?_) (a' := ?_) #[true, true, true, true, true, true, true, true, true, true, true, true, true, true, false, true, false, false] rfl rfl (by kernel_rfl) (fun _ _ _ h => h) (Or.inl ⟨by rfl, ?_⟩) ?_ ?_
          rotate_left
          · intro w'
            go_simp
            with_reducible rfl
          rotate_left
          · simp only [Act.put, List.setIfInBounds_toArray, List.set_cons_zero, List.set_cons_succ, i64_w, i32_w]
            rfl
          refine pure_ (i := 14) (N := some 49) (v := ?_) (a' := ?_) #[true, true, true, true, true, true, true, true, true, true, true, true, true, true, true, true, false, false] rfl rfl (by kernel_rfl) (fun _ _ _ h => h) (Or.inl ⟨by rfl, ?_⟩) ?_ ?_
          rotate_left
          · intro w'
            go_simp
            with_reducible rfl
          rotate_left
          · simp only [Act.put, List.setIfInBounds_toArray, List.set_cons_zero, List.set_cons_succ, i64_w, i32_w]
            rfl
          exact norm_ (by simp only [putAll, Act.put, List.setIfInBounds_toArray, List.set_cons_zero, List.set_cons_succ]) (hCont ((w2.heap.size, w2.heap.size + 1)) _ ⟨KB.out, NE.out, GE.out, hHeld.1, hHeld.2⟩)
      · skip
        refine value_ (w1 := ?_) (v := ?_) (by rfl) rfl ?_ ?_
        rotate_left 2
        · go_simp
          constructor
          · rfl
          · rfl
        have KB := blk_new ((w2.drew).alloc (.cells #[.int .u8 (c.toNat : Int)] 5)) (.cells #[.int .i64 0, .int .u64 0, .int .u64 0, .int .i64 0, .int .i64 0, .int .i64 0, .string ⟨#[]⟩] 24)
        try simp only [World.size_alloc] at KB
        replace KB := Aside0.mk KB
        have NE := Aside0.mk (show ba ≠ w2.heap.size + 1 from by have h := blk_lt (hHeld.1); (try simp at h); omega)
        have GE := Aside0.mk (show w.heap.size ≤ w2.heap.size + 1 from by have h := hHeld.2.size; (try simp at h); omega)
        replace UB := Aside0.mk (blk_alloc UB.out (.cells #[.int .i64 0, .int .u64 0, .int .u64 0, .int .i64 0, .int .i64 0, .int .i64 0, .string ⟨#[]⟩] 24))
        refine hK.out _ _ ⟨blk_alloc (hHeld.1) (.cells #[.int .i64 0, .int .u64 0, .int .u64 0, .int .i64 0, .int .i64 0, .int .i64 0, .string ⟨#[]⟩] 24), below_alloc (hHeld.2) (.cells #[.int .i64 0, .int .u64 0, .int .u64 0, .int .i64 0, .int .i64 0, .int .i64 0, .string ⟨#[]⟩] 24)⟩ (fun hHeld => ?_)
        clear hK K
        refine norm_ (a' := ?_) ?_ ?_
        rotate_left
        · show Act.put _ (some 9) _ = _
          simp only [Act.put, List.setIfInBounds_toArray, List.set_cons_zero, List.set_cons_succ, i64_w, i32_w]
          rfl
        refine one_ (i := 5) (N := some 41) #[true, true, true, true, true, true, false, true, true, true, false, false, false, false, false, true, false, false] rfl rfl (by kernel_rfl) (by decide) (fun K hK => ?_)
        have hcv := conv_one ((((w2).alloc (.cells #[.int .u8 (c.toNat : Int)] 5)).alloc (.cells #[.int .i64 0, .int .u64 0, .int .u64 0, .int .i64 0, .int .i64 0, .int .i64 0, .string ⟨#[]⟩] 24)).drew) (w2.heap.size) c ((blk_cell UB.out 0).trans rfl)
        refine value_ (w1 := ?_) (v := ?_) (by rfl) rfl ?_ ?_
        rotate_left 2
        · go_simp
          constructor
          · rfl
          · rfl
        clear hcv
        refine hK.out _ _ ⟨hHeld.1, hHeld.2⟩ (fun hHeld => ?_)
        clear hK K
        refine norm_ (a' := ?_) ?_ ?_
        rotate_left
        · show Act.put _ (some 41) _ = _
          simp only [Act.put, List.setIfInBounds_toArray, List.set_cons_zero, List.set_cons_succ, i64_w, i32_w]
          rfl
        refine pure_ (i := 6) (N := some 42) (v := ?_) (a' := ?_) #[true, true, true, true, true, true, true, true, true, true, false, false, false, false, false, true, false, false] rfl rfl (by kernel_rfl) (fun _ _ _ h => h) (Or.inl ⟨by rfl, ?_⟩) ?_ ?_
        rotate_left
        · intro w'
          go_simp
          with_reducible rfl
        rotate_left
        · simp only [Act.put, List.setIfInBounds_toArray, List.set_cons_zero, List.set_cons_succ, i64_w, i32_w]
          rfl
        refine pure_ (i := 10) (N := some 46) (v := ?_) (a' := ?_) #[true, true, true, true, true, true, true, true, true, true, true, false, false, false, false, true, false, false] rfl rfl (by kernel_rfl) (fun _ _ _ h => h) (Or.inl ⟨by rfl, ?_⟩) ?_ ?_
        rotate_left
        · intro w'
          go_simp
          with_reducible rfl
        rotate_left
        · simp only [Act.put, List.setIfInBounds_toArray, List.set_cons_zero, List.set_cons_succ, i64_w, i32_w]
          rfl
        refine one_ (i := 11) (N := some 47) #[true, true, true, true, true, true, true, true, true, true, true, true, false, false, false, true, false, false] rfl rfl (by kernel_rfl) (by decide) (fun K hK => ?_)
        refine goes_ Tryd.func8 (by kernel_rfl) rfl #[.string (s.extract 0 n ++ ⟨#[c]⟩ ++ s.extract n s.size)] (by rfl) rfl rfl (by simp only [List.map_toArray, List.map_cons, List.map_nil]; rfl) ?_
        with_reducible refine (ps_no (more s n c) HM.out _ (HT.out.below (hHeld.2)) (HE.out.below (hHeld.2)) HX.out).mono ?_
        rintro e w8 ⟨rfl, hb⟩
        refine ⟨_, rfl, ?_⟩
        replace KB := Aside0.mk ((hb.block _ (blk_lt KB.out)).trans KB.out)
        refine hK.out _ _ ⟨(hb.block _ (blk_lt (hHeld.1))).trans (hHeld.1), below_then (hHeld.2) (hHeld.2).size hb⟩ (fun hHeld => ?_)
        clear hK K
        refine norm_ (a' := ?_) ?_ ?_
        rotate_left
        · show Act.put _ (some 47) _ = _
          simp only [Act.put, List.setIfInBounds_toArray, List.set_cons_zero, List.set_cons_succ, i64_w, i32_w]
          rfl
        refine pure_ (i := 12) (N := some 35) (v := ?_) (a' := ?_) #[true, true, true, true, true, true, true, true, true, true, true, true, true, false, false, true, false, false] rfl rfl (by kernel_rfl) (fun _ _ _ h => h) (Or.inl ⟨by rfl, ?_⟩) ?_ ?_
        rotate_left
        · intro w'
          go_simp
          with_reducible rfl
        rotate_left
        · simp only [Act.put, List.setIfInBounds_toArray, List.set_cons_zero, List.set_cons_succ, i64_w, i32_w]
          rfl
        refine pure_ (i := 13) (N := some 48) (v := ?_) (a' := ?_) #[true, true, true, true, true, true, true, true, true, true, true, true, true, true, false, true, false, false] rfl rfl (by kernel_rfl) (fun _ _ _ h => h) (Or.inl ⟨by rfl, ?_⟩) ?_ ?_
        rotate_left
        · intro w'
          go_simp
          with_reducible rfl
        rotate_left
        · simp only [Act.put, List.setIfInBounds_toArray, List.set_cons_zero, List.set_cons_succ, i64_w, i32_w]
          rfl
        refine pure_ (i := 14) (N := some 49) (v := ?_) (a' := ?_) #[true, true, true, true, true, true, true, true, true, true, true, true, true, true, true, true, false, false] rfl rfl (by kernel_rfl) (fun _ _ _ h => h) (Or.inl ⟨by rfl, ?_⟩) ?_ ?_
        rotate_left
        · intro w'
          go_simp
          with_reducible rfl
        rotate_left
        · simp only [Act.put, List.setIfInBounds_toArray, List.set_cons_zero, List.set_cons_succ, i64_w, i32_w]
          rfl
        exact norm_ (by simp only [putAll, Act.put, List.setIfInBounds_toArray, List.set_cons_zero, List.set_cons_succ]) (hCont ((w2.heap.size, w2.heap.size + 1)) _ ⟨KB.out, NE.out, GE.out, hHeld.1, hHeld.2⟩)
    · skip
      refine value_ (w1 := ?_) (v := ?_) (by rfl) rfl ?_ ?_
      rotate_left 2
      · go_simp
        constructor
        · rfl
        · rfl
      have KB := blk_new (w2.drew) (.cells #[.int .i64 0, .int .u64 0, .int .u64 0, .int .i64 0, .int .i64 0, .int .i64 0, .string ⟨#[]⟩] 24)
      try simp only [World.size_alloc] at KB
      replace KB := Aside0.mk KB
      have NE := Aside0.mk (show ba ≠ w2.heap.size from by have h := blk_lt (hHeld.1); (try simp at h); omega)
      have GE := Aside0.mk (show w.heap.size ≤ w2.heap.size from by have h := hHeld.2.size; (try simp at h); omega)
      refine hK.out _ _ ⟨blk_alloc (hHeld.1) (.cells #[.int .i64 0, .int .u64 0, .int .u64 0, .int .i64 0, .int .i64 0, .int .i64 0, .string ⟨#[]⟩] 24), below_alloc (hHeld.2) (.cells #[.int .i64 0, .int .u64 0, .int .u64 0, .int .i64 0, .int .i64 0, .int .i64 0, .string ⟨#[]⟩] 24)⟩ (fun hHeld => ?_)
      clear hK K
      refine norm_ (a' := ?_) ?_ ?_
      rotate_left
      · show Act.put _ (some 9) _ = _
        simp only [Act.put, List.setIfInBounds_toArray, List.set_cons_zero, List.set_cons_succ, i64_w, i32_w]
        rfl
      refine one_ (i := 4) (N := some 40) #[true, true, true, true, true, false, false, true, true, true, false, false, false, false, false, true, false, false] rfl rfl (by kernel_rfl) (by decide) (fun K hK => ?_)
      refine value_ (w1 := ?_) (v := ?_) (by rfl) rfl ?_ ?_
      rotate_left 2
      · go_simp
        constructor
        · rfl
        · rfl
      have UB := blk_new ((w2.drew).alloc (.cells #[.int .i64 0, .int .u64 0, .int .u64 0, .int .i64 0, .int .i64 0, .int .i64 0, .string ⟨#[]⟩] 24)) (.cells #[.int .u8 (c.toNat : Int)] 5)
      try simp only [World.size_alloc] at UB
      replace UB := Aside0.mk UB
      replace KB := Aside0.mk (blk_alloc KB.out (.cells #[.int .u8 (c.toNat : Int)] 5))
      refine hK.out _ _ ⟨blk_alloc (hHeld.1) (.cells #[.int .u8 (c.toNat : Int)] 5), below_alloc (hHeld.2) (.cells #[.int .u8 (c.toNat : Int)] 5)⟩ (fun hHeld => ?_)
      clear hK K
      refine norm_ (a' := ?_) ?_ ?_
      rotate_left
      · show Act.put _ (some 40) _ = _
        simp only [Act.put, List.setIfInBounds_toArray, List.set_cons_zero, List.set_cons_succ, i64_w, i32_w]
        rfl
      refine one_ (i := 5) (N := some 41) #[true, true, true, true, true, true, false, true, true, true, false, false, false, false, false, true, false, false] rfl rfl (by kernel_rfl) (by decide) (fun K hK => ?_)
      have hcv := conv_one ((((w2).alloc (.cells #[.int .i64 0, .int .u64 0, .int .u64 0, .int .i64 0, .int .i64 0, .int .i64 0, .string ⟨#[]⟩] 24)).alloc (.cells #[.int .u8 (c.toNat : Int)] 5)).drew) (w2.heap.size + 1) c ((blk_cell UB.out 0).trans rfl)
      refine value_ (w1 := ?_) (v := ?_) (by rfl) rfl ?_ ?_
      rotate_left 2
      · go_simp
        constructor
        · rfl
        · rfl
      clear hcv
      refine hK.out _ _ ⟨hHeld.1, hHeld.2⟩ (fun hHeld => ?_)
      clear hK K
      refine norm_ (a' := ?_) ?_ ?_
      rotate_left
      · show Act.put _ (some 41) _ = _
        simp only [Act.put, List.setIfInBounds_toArray, List.set_cons_zero, List.set_cons_succ, i64_w, i32_w]
        rfl
      refine pure_ (i := 6) (N := some 42) (v := ?_) (a' := ?_) #[true, true, true, true, true, true, true, true, true, true, false, false, false, false, false, true, false, false] rfl rfl (by kernel_rfl) (fun _ _ _ h => h) (Or.inl ⟨by rfl, ?_⟩) ?_ ?_
      rotate_left
      · intro w'
        go_simp
        with_reducible rfl
      rotate_left
      · simp only [Act.put, List.setIfInBounds_toArray, List.set_cons_zero, List.set_cons_succ, i64_w, i32_w]
        rfl
      refine pure_ (i := 10) (N := some 46) (v := ?_) (a' := ?_) #[true, true, true, true, true, true, true, true, true, true, true, false, false, false, false, true, false, false] rfl rfl (by kernel_rfl) (fun _ _ _ h => h) (Or.inl ⟨by rfl, ?_⟩) ?_ ?_
      rotate_left
      · intro w'
        go_simp
        with_reducible rfl
      rotate_left
      · simp only [Act.put, List.setIfInBounds_toArray, List.set_cons_zero, List.set_cons_succ, i64_w, i32_w]
        rfl
      refine one_ (i := 11) (N := some 47) #[true, true, true, true, true, true, true, true, true, true, true, true, false, false, false, true, false, false] rfl rfl (by kernel_rfl) (by decide) (fun K hK => ?_)
      refine goes_ Tryd.func8 (by kernel_rfl) rfl #[.string (s.extract 0 n ++ ⟨#[c]⟩ ++ s.extract n s.size)] (by rfl) rfl rfl (by simp only [List.map_toArray, List.map_cons, List.map_nil]; rfl) ?_
      with_reducible refine (ps_no (more s n c) HM.out _ (HT.out.below (hHeld.2)) (HE.out.below (hHeld.2)) HX.out).mono ?_
      rintro e w8 ⟨rfl, hb⟩
      refine ⟨_, rfl, ?_⟩
      replace KB := Aside0.mk ((hb.block _ (blk_lt KB.out)).trans KB.out)
      refine hK.out _ _ ⟨(hb.block _ (blk_lt (hHeld.1))).trans (hHeld.1), below_then (hHeld.2) (hHeld.2).size hb⟩ (fun hHeld => ?_)
      clear hK K
      refine norm_ (a' := ?_) ?_ ?_
      rotate_left
      · show Act.put _ (some 47) _ = _
        simp only [Act.put, List.setIfInBounds_toArray, List.set_cons_zero, List.set_cons_succ, i64_w, i32_w]
        rfl
      refine pure_ (i := 12) (N := some 35) (v := ?_) (a' := ?_) #[true, true, true, true, true, true, true, true, true, true, true, true, true, false, false, true, false, false] rfl rfl (by kernel_rfl) (fun _ _ _ h => h) (Or.inl ⟨by rfl, ?_⟩) ?_ ?_
      rotate_left
      · intro w'
        go_simp
        with_reducible rfl
      rotate_left
      · simp only [Act.put, List.setIfInBounds_toArray, List.set_cons_zero, List.set_cons_succ, i64_w, i32_w]
        rfl
      refine pure_ (i := 13) (N := some 48) (v := ?_) (a' := ?_) #[true, true, true, true, true, true, true, true, true, true, true, true, true, true, false, true, false, false] rfl rfl (by kernel_rfl) (fun _ _ _ h => h) (Or.inl ⟨by rfl, ?_⟩) ?_ ?_
      rotate_left
      · intro w'
        go_simp
        with_reducible rfl
      rotate_left
      · simp only [Act.put, List.setIfInBounds_toArray, List.set_cons_zero, List.set_cons_succ, i64_w, i32_w]
        rfl
      refine pure_ (i := 14) (N := some 49) (v := ?_) (a' := ?_) #[true, true, true, true, true, true, true, true, true, true, true, true, true, true, true, true, false, false] rfl rfl (by kernel_rfl) (fun _ _ _ h => h) (Or.inl ⟨by rfl, ?_⟩) ?_ ?_
      rotate_left
      · intro w'
        go_simp
        with_reducible rfl
      rotate_left
      · simp only [Act.put, List.setIfInBounds_toArray, List.set_cons_zero, List.set_cons_succ, i64_w, i32_w]
        rfl
      exact norm_ (by simp only [putAll, Act.put, List.setIfInBounds_toArray, List.set_cons_zero, List.set_cons_succ]) (hCont ((w2.heap.size + 1, w2.heap.size)) _ ⟨KB.out, NE.out, GE.out, hHeld.1, hHeld.2⟩)
  rintro sg_ w9 ⟨hk, hne, hge, h1, h2⟩
  have hHeld : w9.heap[ba]? = some (.cells #[.int .i64 a0, .int .u64 a1, .int .u64 a2, .int .i64 a3, .int .i64 a4, .int .i64 a5, .string ⟨a6.toArray⟩] 24 (0, 0)) ∧ Below w.heap.size w w9 := ⟨h1, h2⟩
  have KB := Aside0.mk hk
  have NE := Aside0.mk hne
  have GE := Aside0.mk hge
  clear hk h1 h2 hne hge
  refine norm_ (a' := ?_) ?_ ?_
  rotate_left
  · simp only [putAll, Act.put, List.setIfInBounds_toArray, List.set_cons_zero, List.set_cons_succ]
    rfl
  refine one_ (i := 16) (N := none) #[true, true, true, true, true, true, true, true, true, true, true, true, true, true, true, true, true, false] rfl rfl (by kernel_rfl) (by decide) (fun K hK => ?_)
  have k0 := (blk_cell KB.out 0).trans (show _ = some (.int .i64 0) from rfl)
  have k1 := (blk_cell KB.out 1).trans (show _ = some (.int .u64 0) from rfl)
  have k2 := (blk_cell KB.out 2).trans (show _ = some (.int .u64 0) from rfl)
  have k3 := (blk_cell KB.out 3).trans (show _ = some (.int .i64 0) from rfl)
  have k4 := (blk_cell KB.out 4).trans (show _ = some (.int .i64 0) from rfl)
  have k5 := (blk_cell KB.out 5).trans (show _ = some (.int .i64 0) from rfl)
  have k6 := (blk_cell KB.out 6).trans (show _ = some (.string ⟨#[]⟩) from rfl)
  have f0 := blk_frozen KB.out 0
  have f1 := blk_frozen KB.out 1
  have f2 := blk_frozen KB.out 2
  have f3 := blk_frozen KB.out 3
  have f4 := blk_frozen KB.out 4
  have f5 := blk_frozen KB.out 5
  have f6 := blk_frozen KB.out 6
  refine skip_ (w1 := ?_) (by rfl) rfl ?_ ?_
  rotate_left
  · go_simp
    rfl
  have XB : ((((((((w9).setCell ⟨sg_.2, 0, none⟩ (.int .i64 0)).setCell ⟨sg_.2, 1, none⟩ (.int .u64 0)).setCell ⟨sg_.2, 2, none⟩ (.int .u64 0)).setCell ⟨sg_.2, 3, none⟩ (.int .i64 0)).setCell ⟨sg_.2, 4, none⟩ (.int .i64 0)).setCell ⟨sg_.2, 5, none⟩ (.int .i64 0)).setCell ⟨sg_.2, 6, none⟩ (.string ⟨#[]⟩)).heap[sg_.2]? = some (.cells #[.int .i64 0, .int .u64 0, .int .u64 0, .int .i64 0, .int .i64 0, .int .i64 0, .string ⟨#[]⟩] 24 (0, 0)) := blk_set (blk_set (blk_set (blk_set (blk_set (blk_set (blk_set (KB.out) 0 _) 1 _) 2 _) 3 _) 4 _) 5 _) 6 _
  clear k0 f0 k1 f1 k2 f2 k3 f3 k4 f4 k5 f5 k6 f6
  refine hK.out _ _ ⟨blk_far (blk_far (blk_far (blk_far (blk_far (blk_far (blk_far (hHeld.1) NE.out _) NE.out _) NE.out _) NE.out _) NE.out _) NE.out _) NE.out _, (((((((hHeld.2).setCell (p := ⟨sg_.2, 0, none⟩) GE.out _).setCell (p := ⟨sg_.2, 1, none⟩) GE.out _).setCell (p := ⟨sg_.2, 2, none⟩) GE.out _).setCell (p := ⟨sg_.2, 3, none⟩) GE.out _).setCell (p := ⟨sg_.2, 4, none⟩) GE.out _).setCell (p := ⟨sg_.2, 5, none⟩) GE.out _).setCell (p := ⟨sg_.2, 6, none⟩) GE.out _⟩ (fun hHeld => ?_)
  clear hK K
  refine pure_ (i := 17) (N := some 10) (v := ?_) (a' := ?_) #[true, true, true, true, true, true, true, true, true, true, true, true, true, true, true, true, true, true] rfl rfl (by kernel_rfl) (fun _ _ _ h => h) (Or.inl ⟨by rfl, ?_⟩) ?_ ?_
  rotate_left
  · intro w'
    go_simp
    with_reducible rfl
  rotate_left
  · simp only [Act.put, List.setIfInBounds_toArray, List.set_cons_zero, List.set_cons_succ, i64_w, i32_w]
    rfl
  refine done_ (by kernel_rfl) ?_
  clear z1 z2
  clear KB NE GE
  generalize (((((((w9).setCell ⟨sg_.2, 0, none⟩ (.int .i64 0)).setCell ⟨sg_.2, 1, none⟩ (.int .u64 0)).setCell ⟨sg_.2, 2, none⟩ (.int .u64 0)).setCell ⟨sg_.2, 3, none⟩ (.int .i64 0)).setCell ⟨sg_.2, 4, none⟩ (.int .i64 0)).setCell ⟨sg_.2, 5, none⟩ (.int .i64 0)).setCell ⟨sg_.2, 6, none⟩ (.string ⟨#[]⟩) = w10 at hHeld XB ⊢
  generalize hsg : sg_.2 = bb at *
  clear hsg
  have XA := Aside0.mk hHeld.1
  replace XB := Aside0.mk XB
  have D_w10 := Aside0.mk hHeld.2
  clear hHeld
  have q1 : ((n : Int) == (s.size : Int)) = false := beq_eq_false_iff_ne.2 (by omega)
  have q2 : (n == s.size) = false := beq_eq_false_iff_ne.2 (by omega)
  go_wp2_with fail
  clear q1 q2
  have XAd : w10.drew.heap[ba]? = some (.cells #[.int .i64 a0, .int .u64 a1, .int .u64 a2, .int .i64 a3, .int .i64 a4, .int .i64 a5, .string ⟨a6.toArray⟩] 24 (0, 0)) := XA.out
  have DDr := below_drew D_w10.out
  clear XA XB D_w10
  have z1 : (9223372036854775807 < n + (s.size - (n + 1))) = False := eq_false (by omega)
  have z3 : IntKind.i64.wrap ((n : Int) + 1) = (n : Int) + 1 := IntWalk.i64_in _ (by omega)
  have z4 : (0 ≤ (n : Int) + 1) = True := eq_true (by omega)
  have z5 : ((n : Int) + 1 ≤ (s.size : Int)) = True := eq_true (by omega)
  refine start_ (n := 15) (S := fun w' => w'.heap[ba]? = some (.cells #[.int .i64 a0, .int .u64 a1, .int .u64 a2, .int .i64 a3, .int .i64 a4, .int .i64 a5, .string ⟨a6.toArray⟩] 24 (0, 0)) ∧ Below w.heap.size w w') (ds := []) #[false, false, false, false, false, false, false, false, false, false, false, false, false, false, false] (by kernel_rfl) rfl rfl ⟨XAd, DDr⟩ (fun hHeld => ?_)
  refine pure_ (i := 0) (N := some 62) (v := ?_) (a' := ?_) #[true, false, false, false, false, false, false, false, false, false, false, false, false, false, false] rfl rfl (by kernel_rfl) (fun _ _ _ h => h) (Or.inl ⟨by rfl, ?_⟩) ?_ ?_
  rotate_left
  · intro w'
    go_simp
    with_reducible rfl
  rotate_left
  · simp only [Act.put, List.setIfInBounds_toArray, List.set_cons_zero, List.set_cons_succ, i64_w, i32_w]
    rfl
  refine pure_ (i := 1) (N := some 63) (v := ?_) (a' := ?_) #[true, true, false, false, false, false, false, false, false, false, false, false, false, false, false] rfl rfl (by kernel_rfl) (fun _ _ _ h => h) (Or.inl ⟨by rfl, ?_⟩) ?_ ?_
  rotate_left
  · intro w'
    go_simp
    with_reducible rfl
  rotate_left
  · simp only [Act.put, List.setIfInBounds_toArray, List.set_cons_zero, List.set_cons_succ, i64_w, i32_w]
    rfl
  refine pure_ (i := 2) (N := some 64) (v := ?_) (a' := ?_) #[true, true, true, false, false, false, false, false, false, false, false, false, false, false, false] rfl rfl (by kernel_rfl) (fun _ _ _ h => h) (Or.inl ⟨by rfl, ?_⟩) ?_ ?_
  rotate_left
  · intro w'
    go_simp
    with_reducible rfl
  rotate_left
  · simp only [Act.put, List.setIfInBounds_toArray, List.set_cons_zero, List.set_cons_succ, i64_w, i32_w]
    rfl
  refine pure_ (i := 3) (N := some 65) (v := ?_) (a' := ?_) #[true, true, true, true, false, false, false, false, false, false, false, false, false, false, false] rfl rfl (by kernel_rfl) (fun _ _ _ h => h) (Or.inl ⟨by rfl, ?_⟩) ?_ ?_
  rotate_left
  · intro w'
    go_simp
    with_reducible rfl
  rotate_left
  · simp only [Act.put, List.setIfInBounds_toArray, List.set_cons_zero, List.set_cons_succ, i64_w, i32_w]
    rfl
  refine pure_ (i := 4) (N := some 66) (v := ?_) (a' := ?_) #[true, true, true, true, true, false, false, false, false, false, false, false, false, false, false] rfl rfl (by kernel_rfl) (fun _ _ _ h => h) (Or.inl ⟨by rfl, ?_⟩) ?_ ?_
  rotate_left
  · intro w'
    go_simp
    with_reducible rfl
  rotate_left
  · simp only [Act.put, List.setIfInBounds_toArray, List.set_cons_zero, List.set_cons_succ, i64_w, i32_w]
    rfl
  refine pure_ (i := 5) (N := some 67) (v := ?_) (a' := ?_) #[true, true, true, true, true, true, false, false, false, false, false, false, false, false, false] rfl rfl (by kernel_rfl) (fun _ _ _ h => h) (Or.inl ⟨by rfl, ?_⟩) ?_ ?_
  rotate_left
  · intro w'
    go_simp
    with_reducible rfl
  rotate_left
  · simp only [Act.put, List.setIfInBounds_toArray, List.set_cons_zero, List.set_cons_succ, i64_w, i32_w]
    rfl
  refine pure_ (i := 6) (N := some 68) (v := ?_) (a' := ?_) #[true, true, true, true, true, true, true, false, false, false, false, false, false, false, false] rfl rfl (by kernel_rfl) (fun _ _ _ h => h) (Or.inl ⟨by rfl, ?_⟩) ?_ ?_
  rotate_left
  · intro w'
    go_simp
    with_reducible rfl
  rotate_left
  · simp only [Act.put, List.setIfInBounds_toArray, List.set_cons_zero, List.set_cons_succ, i64_w, i32_w]
    rfl
  refine pure_ (i := 7) (N := some 69) (v := ?_) (a' := ?_) #[true, true, true, true, true, true, true, true, false, false, false, false, false, false, false] rfl rfl (by kernel_rfl) (fun _ _ _ h => h) (Or.inl ⟨by rfl, ?_⟩) ?_ ?_
  rotate_left
  · intro w'
    go_simp
    with_reducible rfl
  rotate_left
  · simp only [Act.put, List.setIfInBounds_toArray, List.set_cons_zero, List.set_cons_succ, i64_w, i32_w]
    rfl
  refine join_ (σ := Nat) 2 #[true, true, true, true, true, true, true, true, true, true, true, true, true, false, false] (fun sg_ => [(70, .tuple #[.agg #[.int .i64 d0, .int .u64 d1, .int .u64 d2, .int .i64 d3, .int .i64 d4, .int .i64 d5, .string ⟨d6.toArray⟩], .int .i64 0]), (61, .tuple #[.agg #[.int .i64 d0, .int .u64 d1, .int .u64 d2, .int .i64 d3, .int .i64 d4, .int .i64 d5, .string ⟨d6.toArray⟩], .int .i64 0]), (71, .agg #[.int .i64 d0, .int .u64 d1, .int .u64 d2, .int .i64 d3, .int .i64 d4, .int .i64 d5, .string ⟨d6.toArray⟩]), (72, .int .i64 0), (11, .pointer (some ⟨sg_, 0, none⟩))]) (fun sg_ w' => w'.heap[sg_]? = some (.cells #[.int .i64 0, .int .u64 0, .int .u64 0, .int .i64 0, .int .i64 0, .int .i64 0, .string ⟨#[]⟩] 24 (0, 0)) ∧ ba ≠ sg_ ∧ w.heap.size ≤ sg_ ∧ w'.heap[ba]? = some (.cells #[.int .i64 a0, .int .u64 a1, .int .u64 a2, .int .i64 a3, .int .i64 a4, .int .i64 a5, .string ⟨a6.toArray⟩] 24 (0, 0)) ∧ Below w.heap.size w w') ?_ ?_
  rotate_left
  · intro hCont
    refine two_ (i := 8) (j := 12) (Ni := some 70) (Nj := some 11) #[true, true, true, true, true, true, true, true, true, false, false, false, false, false, false] #[true, true, true, true, true, true, true, true, false, false, false, false, true, false, false] rfl rfl rfl rfl (by kernel_rfl) (by decide) (by decide) (fun K hK => ?_) (fun K hK => ?_)
    · skip
      refine goes_ Tryd.func8 (by kernel_rfl) rfl #[.string (s.extract 0 n ++ s.extract (n + 1) s.size)] (by rfl) rfl rfl (by simp only [List.map_toArray, List.map_cons, List.map_nil]; rfl) ?_
      with_reducible refine (ps_yes (fewer s n) HFW.out d0 d1 d2 d3 d4 d5 d6 _ (HT.out.below (hHeld.2)) (HE.out.below (hHeld.2)) HZ.out).mono ?_
      rintro e w8 ⟨rfl, hb⟩
      refine ⟨_, rfl, ?_⟩
      refine hK.out _ _ ⟨(hb.block _ (blk_lt (hHeld.1))).trans (hHeld.1), below_then (hHeld.2) (hHeld.2).size hb⟩ (fun hHeld => ?_)
      clear hK K
      refine norm_ (a' := ?_) ?_ ?_
      rotate_left
      · show Act.put _ (some 70) _ = _
        simp only [Act.put, List.setIfInBounds_toArray, List.set_cons_zero, List.set_cons_succ, i64_w, i32_w]
        rfl
      refine pure_ (i := 9) (N := some 61) (v := ?_) (a' := ?_) #[true, true, true, true, true, true, true, true, true, true, false, false, false, false, false] rfl rfl (by kernel_rfl) (fun _ _ _ h => h) (Or.inl ⟨by rfl, ?_⟩) ?_ ?_
      rotate_left
      · intro w'
        go_simp
        with_reducible rfl
      rotate_left
      · simp only [Act.put, List.setIfInBounds_toArray, List.set_cons_zero, List.set_cons_succ, i64_w, i32_w]
        rfl
      refine pure_ (i := 10) (N := some 71) (v := ?_) (a' := ?_) #[true, true, true, true, true, true, true, true, true, true, true, false, false, false, false] rfl rfl (by kernel_rfl) (fun _ _ _ h => h) (Or.inl ⟨by rfl, ?_⟩) ?_ ?_
      rotate_left
      · intro w'
        go_simp
        with_reducible rfl
      rotate_left
      · simp only [Act.put, List.setIfInBounds_toArray, List.set_cons_zero, List.set_cons_succ, i64_w, i32_w]
        rfl
      refine pure_ (i := 11) (N := some 72) (v := ?_) (a' := ?_) #[true, true, true, true, true, true, true, true, true, true, true, true, false, false, false] rfl rfl (by kernel_rfl) (fun _ _ _ h => h) (Or.inl ⟨by rfl, ?_⟩) ?_ ?_
      rotate_left
      · intro w'
        go_simp
        with_reducible rfl
      rotate_left
      · simp only [Act.put, List.setIfInBounds_toArray, List.set_cons_zero, List.set_cons_succ, i64_w, i32_w]
        rfl
      refine one_ (i := 12) (N := some 11) #[true, true, true, true, true, true, true, true, true, true, true, true, true, false, false] rfl rfl (by kernel_rfl) (by decide) (fun K hK => ?_)
      refine value_ (w1 := ?_) (v := ?_) (by rfl) rfl ?_ ?_
      rotate_left 2
      · go_simp
        constructor
        · rfl
        · rfl
      have KB := blk_new (w8) (.cells #[.int .i64 0, .int .u64 0, .int .u64 0, .int .i64 0, .int .i64 0, .int .i64 0, .string ⟨#[]⟩] 24)
      try simp only [World.size_alloc] at KB
      replace KB := Aside0.mk KB
      have NE := Aside0.mk (show ba ≠ w8.heap.size from by have h := blk_lt (hHeld.1); (try simp at h); omega)
      have GE := Aside0.mk (show w.heap.size ≤ w8.heap.size from by have h := hHeld.2.size; (try simp at h); omega)
      refine hK.out _ _ ⟨blk_alloc (hHeld.1) (.cells #[.int .i64 0, .int .u64 0, .int .u64 0, .int .i64 0, .int .i64 0, .int .i64 0, .string ⟨#[]⟩] 24), below_alloc (hHeld.2) (.cells #[.int .i64 0, .int .u64 0, .int .u64 0, .int .i64 0, .int .i64 0, .int .i64 0, .string ⟨#[]⟩] 24)⟩ (fun hHeld => ?_)
      clear hK K
      refine norm_ (a' := ?_) ?_ ?_
      rotate_left
      · show Act.put _ (some 11) _ = _
        simp only [Act.put, List.setIfInBounds_toArray, List.set_cons_zero, List.set_cons_succ, i64_w, i32_w]
        rfl
      exact norm_ (by simp only [putAll, Act.put, List.setIfInBounds_toArray, List.set_cons_zero, List.set_cons_succ]) (hCont (w8.heap.size) _ ⟨KB.out, NE.out, GE.out, hHeld.1, hHeld.2⟩)
    · skip
      refine value_ (w1 := ?_) (v := ?_) (by rfl) rfl ?_ ?_
      rotate_left 2
      · go_simp
        constructor
        · rfl
        · rfl
      have KB := blk_new (w10.drew) (.cells #[.int .i64 0, .int .u64 0, .int .u64 0, .int .i64 0, .int .i64 0, .int .i64 0, .string ⟨#[]⟩] 24)
      try simp only [World.size_alloc] at KB
      replace KB := Aside0.mk KB
      have NE := Aside0.mk (show ba ≠ w10.heap.size from by have h := blk_lt (hHeld.1); (try simp at h); omega)
      have GE := Aside0.mk (show w.heap.size ≤ w10.heap.size from by have h := hHeld.2.size; (try simp at h); omega)
      refine hK.out _ _ ⟨blk_alloc (hHeld.1) (.cells #[.int .i64 0, .int .u64 0, .int .u64 0, .int .i64 0, .int .i64 0, .int .i64 0, .string ⟨#[]⟩] 24), below_alloc (hHeld.2) (.cells #[.int .i64 0, .int .u64 0, .int .u64 0, .int .i64 0, .int .i64 0, .int .i64 0, .string ⟨#[]⟩] 24)⟩ (fun hHeld => ?_)
      clear hK K
      refine norm_ (a' := ?_) ?_ ?_
      rotate_left
      · show Act.put _ (some 11) _ = _
        simp only [Act.put, List.setIfInBounds_toArray, List.set_cons_zero, List.set_cons_succ, i64_w, i32_w]
        rfl
      refine one_ (i := 8) (N := some 70) #[true, true, true, true, true, true, true, true, true, false, false, false, true, false, false] rfl rfl (by kernel_rfl) (by decide) (fun K hK => ?_)
      refine goes_ Tryd.func8 (by kernel_rfl) rfl #[.string (s.extract 0 n ++ s.extract (n + 1) s.size)] (by rfl) rfl rfl (by simp only [List.map_toArray, List.map_cons, List.map_nil]; rfl) ?_
      with_reducible refine (ps_yes (fewer s n) HFW.out d0 d1 d2 d3 d4 d5 d6 _ (HT.out.below (hHeld.2)) (HE.out.below (hHeld.2)) HZ.out).mono ?_
      rintro e w8 ⟨rfl, hb⟩
      refine ⟨_, rfl, ?_⟩
      replace KB := Aside0.mk ((hb.block _ (blk_lt KB.out)).trans KB.out)
      refine hK.out _ _ ⟨(hb.block _ (blk_lt (hHeld.1))).trans (hHeld.1), below_then (hHeld.2) (hHeld.2).size hb⟩ (fun hHeld => ?_)
      clear hK K
      refine norm_ (a' := ?_) ?_ ?_
      rotate_left
      · show Act.put _ (some 70) _ = _
        simp only [Act.put, List.setIfInBounds_toArray, List.set_cons_zero, List.set_cons_succ, i64_w, i32_w]
        rfl
      refine pure_ (i := 9) (N := some 61) (v := ?_) (a' := ?_) #[true, true, true, true, true, true, true, true, true, true, false, false, true, false, false] rfl rfl (by kernel_rfl) (fun _ _ _ h => h) (Or.inl ⟨by rfl, ?_⟩) ?_ ?_
      rotate_left
      · intro w'
        go_simp
        with_reducible rfl
      rotate_left
      · simp only [Act.put, List.setIfInBounds_toArray, List.set_cons_zero, List.set_cons_succ, i64_w, i32_w]
        rfl
      refine pure_ (i := 10) (N := some 71) (v := ?_) (a' := ?_) #[true, true, true, true, true, true, true, true, true, true, true, false, true, false, false] rfl rfl (by kernel_rfl) (fun _ _ _ h => h) (Or.inl ⟨by rfl, ?_⟩) ?_ ?_
      rotate_left
      · intro w'
        go_simp
        with_reducible rfl
      rotate_left
      · simp only [Act.put, List.setIfInBounds_toArray, List.set_cons_zero, List.set_cons_succ, i64_w, i32_w]
        rfl
      refine pure_ (i := 11) (N := some 72) (v := ?_) (a' := ?_) #[true, true, true, true, true, true, true, true, true, true, true, true, true, false, false] rfl rfl (by kernel_rfl) (fun _ _ _ h => h) (Or.inl ⟨by rfl, ?_⟩) ?_ ?_
      rotate_left
      · intro w'
        go_simp
        with_reducible rfl
      rotate_left
      · simp only [Act.put, List.setIfInBounds_toArray, List.set_cons_zero, List.set_cons_succ, i64_w, i32_w]
        rfl
      exact norm_ (by simp only [putAll, Act.put, List.setIfInBounds_toArray, List.set_cons_zero, List.set_cons_succ]) (hCont (w10.heap.size) _ ⟨KB.out, NE.out, GE.out, hHeld.1, hHeld.2⟩)
  rintro sg_ w9 ⟨hk, hne, hge, h1, h2⟩
  have hHeld : w9.heap[ba]? = some (.cells #[.int .i64 a0, .int .u64 a1, .int .u64 a2, .int .i64 a3, .int .i64 a4, .int .i64 a5, .string ⟨a6.toArray⟩] 24 (0, 0)) ∧ Below w.heap.size w w9 := ⟨h1, h2⟩
  have KB := Aside0.mk hk
  have NE := Aside0.mk hne
  have GE := Aside0.mk hge
  clear hk h1 h2 hne hge
  refine norm_ (a' := ?_) ?_ ?_
  rotate_left
  · simp only [putAll, Act.put, List.setIfInBounds_toArray, List.set_cons_zero, List.set_cons_succ]
    rfl
  refine one_ (i := 13) (N := none) #[true, true, true, true, true, true, true, true, true, true, true, true, true, true, false] rfl rfl (by kernel_rfl) (by decide) (fun K hK => ?_)
  have k0 := (blk_cell KB.out 0).trans (show _ = some (.int .i64 0) from rfl)
  have k1 := (blk_cell KB.out 1).trans (show _ = some (.int .u64 0) from rfl)
  have k2 := (blk_cell KB.out 2).trans (show _ = some (.int .u64 0) from rfl)
  have k3 := (blk_cell KB.out 3).trans (show _ = some (.int .i64 0) from rfl)
  have k4 := (blk_cell KB.out 4).trans (show _ = some (.int .i64 0) from rfl)
  have k5 := (blk_cell KB.out 5).trans (show _ = some (.int .i64 0) from rfl)
  have k6 := (blk_cell KB.out 6).trans (show _ = some (.string ⟨#[]⟩) from rfl)
  have f0 := blk_frozen KB.out 0
  have f1 := blk_frozen KB.out 1
  have f2 := blk_frozen KB.out 2
  have f3 := blk_frozen KB.out 3
  have f4 := blk_frozen KB.out 4
  have f5 := blk_frozen KB.out 5
  have f6 := blk_frozen KB.out 6
  refine skip_ (w1 := ?_) (by rfl) rfl ?_ ?_
  rotate_left
  · go_simp
    rfl
  have XD : ((((((((w9).setCell ⟨sg_, 0, none⟩ (.int .i64 d0)).setCell ⟨sg_, 1, none⟩ (.int .u64 d1)).setCell ⟨sg_, 2, none⟩ (.int .u64 d2)).setCell ⟨sg_, 3, none⟩ (.int .i64 d3)).setCell ⟨sg_, 4, none⟩ (.int .i64 d4)).setCell ⟨sg_, 5, none⟩ (.int .i64 d5)).setCell ⟨sg_, 6, none⟩ (.string ⟨d6.toArray⟩)).heap[sg_]? = some (.cells #[.int .i64 d0, .int .u64 d1, .int .u64 d2, .int .i64 d3, .int .i64 d4, .int .i64 d5, .string ⟨d6.toArray⟩] 24 (0, 0)) := blk_set (blk_set (blk_set (blk_set (blk_set (blk_set (blk_set (KB.out) 0 _) 1 _) 2 _) 3 _) 4 _) 5 _) 6 _
  clear k0 f0 k1 f1 k2 f2 k3 f3 k4 f4 k5 f5 k6 f6
  refine hK.out _ _ ⟨blk_far (blk_far (blk_far (blk_far (blk_far (blk_far (blk_far (hHeld.1) NE.out _) NE.out _) NE.out _) NE.out _) NE.out _) NE.out _) NE.out _, (((((((hHeld.2).setCell (p := ⟨sg_, 0, none⟩) GE.out _).setCell (p := ⟨sg_, 1, none⟩) GE.out _).setCell (p := ⟨sg_, 2, none⟩) GE.out _).setCell (p := ⟨sg_, 3, none⟩) GE.out _).setCell (p := ⟨sg_, 4, none⟩) GE.out _).setCell (p := ⟨sg_, 5, none⟩) GE.out _).setCell (p := ⟨sg_, 6, none⟩) GE.out _⟩ (fun hHeld => ?_)
  clear hK K
  refine pure_ (i := 14) (N := some 12) (v := ?_) (a' := ?_) #[true, true, true, true, true, true, true, true, true, true, true, true, true, true, true] rfl rfl (by kernel_rfl) (fun _ _ _ h => h) (Or.inl ⟨by rfl, ?_⟩) ?_ ?_
  rotate_left
  · intro w'
    go_simp
    with_reducible rfl
  rotate_left
  · simp only [Act.put, List.setIfInBounds_toArray, List.set_cons_zero, List.set_cons_succ, i64_w, i32_w]
    rfl
  refine done_ (by kernel_rfl) ?_
  clear z1 z3 z4 z5
  clear KB NE GE
  generalize (((((((w9).setCell ⟨sg_, 0, none⟩ (.int .i64 d0)).setCell ⟨sg_, 1, none⟩ (.int .u64 d1)).setCell ⟨sg_, 2, none⟩ (.int .u64 d2)).setCell ⟨sg_, 3, none⟩ (.int .i64 d3)).setCell ⟨sg_, 4, none⟩ (.int .i64 d4)).setCell ⟨sg_, 5, none⟩ (.int .i64 d5)).setCell ⟨sg_, 6, none⟩ (.string ⟨d6.toArray⟩) = w11 at hHeld XD ⊢
  generalize hsg : sg_ = bd at *
  clear hsg
  have XA := Aside0.mk hHeld.1
  replace XD := Aside0.mk XD
  have D_w11 := Aside0.mk hHeld.2
  clear hHeld
  have hzd := HZD.out
  have x0 := (blk_cell XA.out 0).trans (show _ = some (.int .i64 a0) from rfl)
  have x1 := (blk_cell XA.out 1).trans (show _ = some (.int .u64 a1) from rfl)
  have x2 := (blk_cell XA.out 2).trans (show _ = some (.int .u64 a2) from rfl)
  have x3 := (blk_cell XA.out 3).trans (show _ = some (.int .i64 a3) from rfl)
  have x4 := (blk_cell XA.out 4).trans (show _ = some (.int .i64 a4) from rfl)
  have x5 := (blk_cell XA.out 5).trans (show _ = some (.int .i64 a5) from rfl)
  have x6 := (blk_cell XA.out 6).trans (show _ = some (.string ⟨a6.toArray⟩) from rfl)
  have y0 := (blk_cell XD.out 0).trans (show _ = some (.int .i64 d0) from rfl)
  have y1 := (blk_cell XD.out 1).trans (show _ = some (.int .u64 d1) from rfl)
  have y2 := (blk_cell XD.out 2).trans (show _ = some (.int .u64 d2) from rfl)
  have y3 := (blk_cell XD.out 3).trans (show _ = some (.int .i64 d3) from rfl)
  have y4 := (blk_cell XD.out 4).trans (show _ = some (.int .i64 d4) from rfl)
  have y5 := (blk_cell XD.out 5).trans (show _ = some (.int .i64 d5) from rfl)
  have y6 := (blk_cell XD.out 6).trans (show _ = some (.string ⟨d6.toArray⟩) from rfl)
  go_wp2
  go_ret
  exact ⟨rfl, D_w11.out⟩
end Go.Proofs.YtljgmbpfeajmhaaDoor
