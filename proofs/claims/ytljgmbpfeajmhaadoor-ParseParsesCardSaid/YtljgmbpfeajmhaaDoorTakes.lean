/- The parser's methods that take a handle, a small number, a service, a text. -/
import Derived.Test.YtljgmbpfeajmhaaDoorParser
import Derived.Test.YtljgmbpfeajmhaaDoorWLast
set_option linter.unusedVariables false
set_option linter.unusedSimpArgs false
namespace Go.Proofs.YtljgmbpfeajmhaaDoor
open Go.Proofs Go.Shelf Go.RowKit Go.Proofs.YtljgmbpfeajmhaaDoorW.PrintWords Go.Proofs.YtljgmbpfeajmhaaDoorW.PrintLast

def handP (r : List UInt8) (en : Bool) : Option (Nat × List UInt8 × Bool) := numP 0 18446744073709551615 r en
theorem handle_q (B : Nat) (r : List UInt8) (en : Bool) (w0 w : World) (h : PAt w B r en) (hs : r.length ≤ 281474976710656) (hE : PEnv w0 w B) :
    Calls Tryd.prog 27 #[.pointer (some ⟨B, 0, none⟩)] w fun e w' => PStep w B encU (handP r en) e w' := by
  have N0 := Aside0.mk (number_q B r en 0 18446744073709551615 w0 w h hs hE (by decide) (by decide))
  clear h hs hE
  have N1 := N0.out
  rw [show numP 0 18446744073709551615 r en = handP r en from rfl] at N1
  generalize handP r en = o at N1
  clear N0
  cases o with
  | none =>
    go_enter Tryd.func27, Tryd.ntmps27
    go_wp2_with (go_at_call 36; refine N1.mono ?_; rintro e w' ⟨rfl, hg⟩)
    exact ⟨rfl, rfl, hg⟩
  | some x =>
    obtain ⟨x, rest, en2⟩ := x
    go_enter Tryd.func27, Tryd.ntmps27
    go_wp2_with (go_at_call 36; refine N1.mono ?_; rintro e w' ⟨⟨rfl, hb⟩, hg⟩; have B1 := Aside0.mk hb; have G1 := Aside0.mk hg; clear hb hg)
    go_ret
    exact ⟨⟨rfl, B1.out⟩, G1.out⟩
abbrev encI (n : Nat) : Value := .int .i64 (n : Int)
theorem small_q (B : Nat) (r : List UInt8) (en : Bool) (least most : Nat) (w0 w : World) (h : PAt w B r en) (hs : r.length ≤ 281474976710656) (hE : PEnv w0 w B) (h1 : least < 1000) (h2 : most < 1000) :
    Calls Tryd.prog 28 #[.pointer (some ⟨B, 0, none⟩), .int .i64 (least : Int), .int .i64 (most : Int)] w fun e w' => PStep w B encI (numP least most r en) e w' := by
  have N0 := Aside0.mk (number_q B r en least most w0 w h hs hE (by omega) (by omega))
  have hb : ∀ x, numP least most r en = some x → x.1 ≤ most := by
    intro x hx
    unfold numP at hx
    obtain ⟨y, hy, hx⟩ := Option.bind_eq_some_iff.1 hx
    obtain ⟨n, hn, hx⟩ := Option.bind_eq_some_iff.1 hx
    split at hx
    · rename_i hc; cases hx; exact hc.2
    · cases hx
  have hw1 : IntKind.u64.wrap (least : Int) = least := by rw [IntKind.wrap_u64]; omega
  have hw2 : IntKind.u64.wrap (most : Int) = most := by rw [IntKind.wrap_u64]; omega
  clear h hs hE
  have N1 := N0.out
  generalize numP least most r en = o at N1 hb
  clear N0
  cases o with
  | none =>
    clear hb
    go_enter Tryd.func28, Tryd.ntmps28
    go_wp2_with (go_at_call 36; refine N1.mono ?_; rintro e w' ⟨rfl, hg⟩)
    exact ⟨rfl, rfl, hg⟩
  | some x =>
    obtain ⟨x, rest, en2⟩ := x
    have hx : x ≤ most := hb _ rfl
    have hw3 : IntKind.i64.wrap (x : Int) = x := IntWalk.i64_in _ (by omega)
    clear hb
    go_enter Tryd.func28, Tryd.ntmps28
    go_wp2_with (go_at_call 36; refine N1.mono ?_; rintro e w' ⟨⟨rfl, hb⟩, hg⟩; have B1 := Aside0.mk hb; have G1 := Aside0.mk hg; clear hb hg)
    go_ret
    exact ⟨⟨rfl, B1.out⟩, G1.out⟩
def svcW : Value := .agg #[.string ⟨#[102, 105, 102, 111]⟩, .string ⟨#[99, 97, 117, 115, 97, 108]⟩, .string ⟨#[97, 103, 114, 101, 101, 100]⟩, .string ⟨#[115, 97, 102, 101]⟩]
theorem services_q (w : World) : Calls Tryd.prog 34 #[] w fun e w' => e = .returned svcW ∧ Below w.heap.size w w' := by
  go_enter Tryd.func34, Tryd.ntmps34
  go_wp2
  exact bodyPost_ret (v := svcW) (by simp [results, Tryd.results34, go_sem, svcW]) rfl ⟨rfl, (Below.refl _ _).alloc (Nat.le_refl _) _⟩
def svcL : List (List UInt8) := [[102, 105, 102, 111], [99, 97, 117, 115, 97, 108], [97, 103, 114, 101, 101, 100], [115, 97, 102, 101]]
def svcAt (l : List UInt8) : Option Nat := if l = [102, 105, 102, 111] then some 0 else if l = [99, 97, 117, 115, 97, 108] then some 1 else if l = [97, 103, 114, 101, 101, 100] then some 2 else if l = [115, 97, 102, 101] then some 3 else none
def svcP (r : List UInt8) (en : Bool) : Option (Nat × List UInt8 × Bool) := (wordP r en).bind fun x => (svcAt x.1).bind fun n => some (n, x.2)
def svcI (l : List UInt8) : Int := match svcAt l with | some n => n | none => -1
theorem arr_eq {a b : List UInt8} : ((⟨a.toArray⟩ : ByteArray) = ⟨b.toArray⟩) = (a = b) := propext ⟨fun h => arr_inj h, fun h => by rw [h]⟩
theorem svc_idx (l : List UInt8) : Lib.idxOfS ([⟨#[102, 105, 102, 111]⟩, ⟨#[99, 97, 117, 115, 97, 108]⟩, ⟨#[97, 103, 114, 101, 101, 100]⟩, ⟨#[115, 97, 102, 101]⟩].take 4) ⟨l.toArray⟩ = svcI l := by
  unfold svcI svcAt
  by_cases h0 : l = [102, 105, 102, 111]
  · rw [if_pos h0, h0]; rfl
  · by_cases h1 : l = [99, 97, 117, 115, 97, 108]
    · rw [if_neg h0, if_pos h1, h1]; rfl
    · by_cases h2 : l = [97, 103, 114, 101, 101, 100]
      · rw [if_neg h0, if_neg h1, if_pos h2, h2]; rfl
      · by_cases h3 : l = [115, 97, 102, 101]
        · rw [if_neg h0, if_neg h1, if_neg h2, if_pos h3, h3]; rfl
        · rw [if_neg h0, if_neg h1, if_neg h2, if_neg h3]
          refine Lib.idxFromS_miss _ _ _ (fun j hj => ?_)
          have hj4 : j < 4 := hj
          match j, hj4 with
          | 0, _ => exact fun e => h0 (arr_inj (a := [102, 105, 102, 111]) e).symm
          | 1, _ => exact fun e => h1 (arr_inj (a := [99, 97, 117, 115, 97, 108]) e).symm
          | 2, _ => exact fun e => h2 (arr_inj (a := [97, 103, 114, 101, 101, 100]) e).symm
          | 3, _ => exact fun e => h3 (arr_inj (a := [115, 97, 102, 101]) e).symm
theorem PAt.drew {w : World} {B : Nat} {r : List UInt8} {e : Bool} (h : PAt w B r e) : PAt w.drew B r e := h
theorem svc_index (b : Nat) (l : List UInt8) (w : World) (h : w.heap[b]? = some (.cells #[.string ⟨#[102, 105, 102, 111]⟩, .string ⟨#[99, 97, 117, 115, 97, 108]⟩, .string ⟨#[97, 103, 114, 101, 101, 100]⟩, .string ⟨#[115, 97, 102, 101]⟩] 59 (0, 0))) :
    Calls Tryd.prog 37 #[.slice (some ⟨b, 0, none⟩) 4 4, .string ⟨l.toArray⟩] w fun e w' => e = .returned (.int .i64 (svcI l)) ∧ w' = w := by
  refine (Tryd.slices_Index_string b 0 4 4 [⟨#[102, 105, 102, 111]⟩, ⟨#[99, 97, 117, 115, 97, 108]⟩, ⟨#[97, 103, 114, 101, 101, 100]⟩, ⟨#[115, 97, 102, 101]⟩] ⟨l.toArray⟩ w (by decide) (by decide) (fun j hj => ?_)).mono ?_
  · have hj4 : j < 4 := hj
    rw [blk_cell h, Nat.zero_add]
    match j, hj4 with
    | 0, _ => rfl
    | 1, _ => rfl
    | 2, _ => rfl
    | 3, _ => rfl
  · rintro e w' ⟨rfl, rfl⟩
    refine ⟨?_, rfl⟩
    congr 2
    exact svc_idx l
section
variable {P : Program} {ops : Array Oper} {Q : Exit → Act → World → Prop}
/-- A call of a Go function that may panic, by its contract. -/
theorem goesP_ {oi : Oper} {N : Option Tmp} {a : Act} {w : World} {K : Act → World → Prop} {f : FuncId} {fn : Func} {aas : Array Operand} {ts : Array TypeId} (hf : P.funcs[f]? = some fn) (hname : (fn.name == "runtime.NumGoroutine") = false) (hb : fn.body.isSome = true) (args : Array Value)
    (hw : Region.wanted oi (yielded ops a.tmps) = true) (hN : oi.dst = N) (hop : oi.op = .call { callee := .value (.func f), args := aas, argTypes := ts }) (hargs : aas.map a.eval = args)
    (h : Calls P f args w fun e w' => (∃ v, e = .returned v ∧ K (a.put N v) w') ∨ ∃ c, e = .panicked c ∧ Q (.panic c) a w') : if Region.wanted oi (yielded ops a.tmps) = true then Oper.wp P oi a w K Q else K (a.put N undef) w := by
  rw [if_pos hw]
  subst hN
  have he := enters_ hf hname hb args w
  have hrun : (execOp a.eval oi).run P w = .ok (.enter f args) w := by
    unfold execOp
    simp [hop, resolve, Deferred.ofValue, invoke, Act.eval, hargs, he]
  unfold Oper.wp
  rw [hrun, Oper.upon_enter]
  refine h.mono fun e w'' hh => ?_
  rcases hh with ⟨v, rfl, hk⟩ | ⟨c, rfl, hk⟩
  · exact hk
  · exact hk
end
set_option maxRecDepth 100000 in
set_option maxHeartbeats 1000000 in
theorem service_q (B : Nat) (r : List UInt8) (en : Bool) (w0 w : World) (h : PAt w B r en) (hs : r.length ≤ 281474976710656) (hE : PEnv w0 w B) :
    Calls Tryd.prog 29 #[.pointer (some ⟨B, 0, none⟩)] w fun e w' => PStep w B encI (svcP r en) e w' := by
  have HP := Aside0.mk h
  have HS := Aside0.mk (show r.length ≤ 9223372036854775807 by omega)
  clear h hs
  cases hw : wordP r en with
  | none =>
    have HW := Aside0.mk hw
    have HQ := Aside0.mk (show svcP r en = none from by unfold svcP; rw [hw]; rfl)
    clear hw
    go_enter Tryd.func29, Tryd.ntmps29
    go_wp2_with (go_at_call 34; refine (services_q _).mono ?_; rintro e w1 ⟨rfl, hb⟩; unfold svcW; have G1 := Aside0.mk hb; have P1 := Aside0.mk (HP.out.below hb); clear hb)
    have P2 := Aside0.mk (P1.out.below (below_alloc (Below.refl _ _) (Obj.cells #[.string ⟨#[102, 105, 102, 111]⟩, .string ⟨#[99, 97, 117, 115, 97, 108]⟩, .string ⟨#[97, 103, 114, 101, 101, 100]⟩, .string ⟨#[115, 97, 102, 101]⟩] 59)))
    have G2 := Aside0.mk (below_then G1.out G1.out.size (below_alloc (Below.refl _ _) (Obj.cells #[.string ⟨#[102, 105, 102, 111]⟩, .string ⟨#[99, 97, 117, 115, 97, 108]⟩, .string ⟨#[97, 103, 114, 101, 101, 100]⟩, .string ⟨#[115, 97, 102, 101]⟩] 59)))
    clear P1 G1
    generalize w1.heap.size = b5 at *
    generalize w1.alloc (Obj.cells #[.string ⟨#[102, 105, 102, 111]⟩, .string ⟨#[99, 97, 117, 115, 97, 108]⟩, .string ⟨#[97, 103, 114, 101, 101, 100]⟩, .string ⟨#[115, 97, 102, 101]⟩] 59) = w2 at *
    refine start_ (n := 5) (S := fun w' => PAt w' B r en ∧ Below w.heap.size w w') (ds := []) #[false, false, false, false, false] (by kernel_rfl) rfl rfl ⟨P2.out.drewN 1, below_drew G2.out⟩ (fun hHeld => ?_)
    refine pure_ (i := 0) (N := some 6) (v := ?_) (a' := ?_) #[true, false, false, false, false] rfl rfl (by kernel_rfl) (fun _ _ _ h => h) (Or.inl ⟨by rfl, ?_⟩) ?_ ?_
    rotate_left
    · intro w'
      go_simp
      with_reducible rfl
    rotate_left
    · simp only [Act.put, List.setIfInBounds_toArray, List.set_cons_zero, List.set_cons_succ, i64_w, i32_w]
      rfl
    refine pure_ (i := 1) (N := some 7) (v := ?_) (a' := ?_) #[true, true, false, false, false] rfl rfl (by kernel_rfl) (fun _ _ _ h => h) (Or.inl ⟨by rfl, ?_⟩) ?_ ?_
    rotate_left
    · intro w'
      go_simp
      with_reducible rfl
    rotate_left
    · simp only [Act.put, List.setIfInBounds_toArray, List.set_cons_zero, List.set_cons_succ, i64_w, i32_w]
      rfl
    refine one_ (i := 2) (N := some 8) #[true, true, true, false, false] rfl rfl (by kernel_rfl) (by decide) (fun K hK => ?_)
    refine goesP_ Tryd.func26 (by kernel_rfl) rfl #[.pointer (some ⟨B, 0, none⟩)] (by rfl) rfl rfl (by simp only [List.map_toArray, List.map_cons, List.map_nil]; rfl) ?_
    with_reducible refine (word_q B r en _ hHeld.1 HS.out).mono ?_
    rintro e w3 hst
    unfold PStep at hst
    rw [HW.out] at hst
    obtain ⟨rfl, hg⟩ := hst
    refine Or.inr ⟨_, rfl, rfl, ?_, g_trans (grown_of_below hHeld.2 _) hg⟩
    rw [HQ.out]
  | some x =>
    obtain ⟨x, rest, en2⟩ := x
    have HW := Aside0.mk hw
    have HQ := Aside0.mk (show svcP r en = (svcAt x).bind fun n => some (n, rest, en2) from by unfold svcP; rw [hw]; rfl)
    clear hw
    go_enter Tryd.func29, Tryd.ntmps29
    go_wp2_with (go_at_call 34; refine (services_q _).mono ?_; rintro e w1 ⟨rfl, hb⟩; unfold svcW; have G1 := Aside0.mk hb; have P1 := Aside0.mk (HP.out.below hb); clear hb)
    have P2 := Aside0.mk (P1.out.below (below_alloc (Below.refl _ _) (Obj.cells #[.string ⟨#[102, 105, 102, 111]⟩, .string ⟨#[99, 97, 117, 115, 97, 108]⟩, .string ⟨#[97, 103, 114, 101, 101, 100]⟩, .string ⟨#[115, 97, 102, 101]⟩] 59)))
    have G2 := Aside0.mk (below_then G1.out G1.out.size (below_alloc (Below.refl _ _) (Obj.cells #[.string ⟨#[102, 105, 102, 111]⟩, .string ⟨#[99, 97, 117, 115, 97, 108]⟩, .string ⟨#[97, 103, 114, 101, 101, 100]⟩, .string ⟨#[115, 97, 102, 101]⟩] 59)))
    have X2 := Aside0.mk (blk_new w1 (Obj.cells #[.string ⟨#[102, 105, 102, 111]⟩, .string ⟨#[99, 97, 117, 115, 97, 108]⟩, .string ⟨#[97, 103, 114, 101, 101, 100]⟩, .string ⟨#[115, 97, 102, 101]⟩] 59))
    have NE := Aside0.mk (show some w1.heap.size ≠ some B from fun e => by have := blk_lt P1.out; injection e with e; omega)
    clear P1 G1
    generalize w1.heap.size = b5 at *
    generalize w1.alloc (Obj.cells #[.string ⟨#[102, 105, 102, 111]⟩, .string ⟨#[99, 97, 117, 115, 97, 108]⟩, .string ⟨#[97, 103, 114, 101, 101, 100]⟩, .string ⟨#[115, 97, 102, 101]⟩] 59) = w2 at *
    refine start_ (n := 5) (S := fun w' => w'.heap[b5]? = some (.cells #[.string ⟨#[102, 105, 102, 111]⟩, .string ⟨#[99, 97, 117, 115, 97, 108]⟩, .string ⟨#[97, 103, 114, 101, 101, 100]⟩, .string ⟨#[115, 97, 102, 101]⟩] 59 (0, 0))) (ds := []) #[false, false, false, false, false] (by kernel_rfl) rfl rfl (X2.out) (fun hHeld => ?_)
    refine pure_ (i := 0) (N := some 6) (v := ?_) (a' := ?_) #[true, false, false, false, false] rfl rfl (by kernel_rfl) (fun _ _ _ h => h) (Or.inl ⟨by rfl, ?_⟩) ?_ ?_
    rotate_left
    · intro w'
      go_simp
      with_reducible rfl
    rotate_left
    · simp only [Act.put, List.setIfInBounds_toArray, List.set_cons_zero, List.set_cons_succ, i64_w, i32_w]
      rfl
    refine pure_ (i := 1) (N := some 7) (v := ?_) (a' := ?_) #[true, true, false, false, false] rfl rfl (by kernel_rfl) (fun _ _ _ h => h) (Or.inl ⟨by rfl, ?_⟩) ?_ ?_
    rotate_left
    · intro w'
      go_simp
      with_reducible rfl
    rotate_left
    · simp only [Act.put, List.setIfInBounds_toArray, List.set_cons_zero, List.set_cons_succ, i64_w, i32_w]
      rfl
    refine one_ (i := 2) (N := some 8) #[true, true, true, false, false] rfl rfl (by kernel_rfl) (by decide) (fun K hK => ?_)
    refine goesP_ Tryd.func26 (by kernel_rfl) rfl #[.pointer (some ⟨B, 0, none⟩)] (by rfl) rfl rfl (by simp only [List.map_toArray, List.map_cons, List.map_nil]; rfl) ?_
    with_reducible refine (word_q B r en w2.drew (PAt.drew P2.out) HS.out).mono ?_
    rintro e w3 hst
    unfold PStep at hst
    rw [HW.out] at hst
    obtain ⟨⟨rfl, hb⟩, hg⟩ := hst
    have B3 := Aside0.mk hb
    have G3 := Aside0.mk (g_trans (grown_of_below (below_drew G2.out) _) hg)
    clear hb
    refine Or.inl ⟨_, rfl, ?_⟩
    refine hK.out _ _ ((hg.block _ (blk_lt (hHeld)) NE.out).trans hHeld) (fun hHeld => ?_)
    clear hK K
    refine norm_ (a' := ?_) ?_ ?_
    rotate_left
    · show Act.put _ (some 8) _ = _
      simp only [Act.put, List.setIfInBounds_toArray, List.set_cons_zero, List.set_cons_succ, i64_w, i32_w]
      rfl
    refine one_ (i := 3) (N := some 9) #[true, true, true, true, false] rfl rfl (by kernel_rfl) (by decide) (fun K hK => ?_)
    refine goes_ Tryd.func37 (by kernel_rfl) rfl #[.slice (some ⟨b5, 0, none⟩) 4 4, encS x] (by rfl) rfl rfl (by simp only [List.map_toArray, List.map_cons, List.map_nil]; rfl) ?_
    with_reducible refine (svc_index b5 x _ hHeld).mono ?_
    rintro e w4 ⟨rfl, rfl⟩
    refine ⟨_, rfl, ?_⟩
    refine hK.out _ _ (hHeld) (fun hHeld => ?_)
    clear hK K
    refine norm_ (a' := ?_) ?_ ?_
    rotate_left
    · show Act.put _ (some 9) _ = _
      simp only [Act.put, List.setIfInBounds_toArray, List.set_cons_zero, List.set_cons_succ, i64_w, i32_w]
      rfl
    refine pure_ (i := 4) (N := some 4) (v := ?_) (a' := ?_) #[true, true, true, true, true] rfl rfl (by kernel_rfl) (fun _ _ _ h => h) (Or.inl ⟨by rfl, ?_⟩) ?_ ?_
    rotate_left
    · intro w'
      go_simp
      with_reducible rfl
    rotate_left
    · simp only [Act.put, List.setIfInBounds_toArray, List.set_cons_zero, List.set_cons_succ, i64_w, i32_w]
      rfl
    refine done_ (by kernel_rfl) ?_
    cases hv : svcAt x with
    | none =>
      have hI : svcI x = -1 := by unfold svcI; rw [hv]
      rw [hI]
      rw [hv] at HQ
      clear hv hI
      go_wp2_with (go_at_call 31; refine (need_false _).mono ?_; rintro e w3 ⟨rfl, rfl⟩)
      refine ⟨rfl, ?_, G3.out⟩
      rw [HQ.out]
      rfl
    | some n =>
      have hI : svcI x = (n : Int) := by unfold svcI; rw [hv]
      rw [hI]
      rw [hv] at HQ
      clear hv hI
      go_wp2_with (go_at_call 31; refine (need_true _).mono ?_; rintro e w3 ⟨rfl, rfl⟩)
      go_ret
      refine ⟨?_, G3.out⟩
      rw [HQ.out]
      exact ⟨rfl, B3.out⟩
def textP (r : List UInt8) (en : Bool) : Option (List UInt8 × List UInt8 × Bool) :=
  if en = true then none else match r with | 61 :: l => if l.length ≤ 16 then some (l, r, true) else none | _ => none
def eqHead (r : List UInt8) : Bool := match r with | [] => false | b :: _ => b == 61
theorem cutPrefix_q (r : List UInt8) (w : World) : Calls Tryd.prog 38 #[.string ⟨r.toArray⟩, .string ⟨#[61]⟩] w fun e w' => e = .returned (.tuple #[.string ⟨(if eqHead r then r.tail else r).toArray⟩, .bool (eqHead r)]) ∧ w' = w := by
  refine (Tryd.strings_CutPrefix _ _ w).mono ?_
  rintro e w' ⟨rfl, rfl⟩
  refine ⟨?_, rfl⟩
  have h1 : Lib.hasPrefix r [61] = eqHead r := by
    cases r with
    | nil => rfl
    | cons b l =>
      show ((61 : UInt8) == b && List.isPrefixOf [] l) = (b == 61)
      rw [show List.isPrefixOf ([] : List UInt8) l = true from by cases l <;> rfl, Bool.and_true, Bool.eq_iff_iff, beq_iff_eq, beq_iff_eq]
      exact eq_comm
  have h2 : Lib.trimPrefix r [61] = if eqHead r then r.tail else r := by
    unfold Lib.trimPrefix
    rw [h1]
    cases r with
    | nil => rfl
    | cons b l => simp
  show Ending.returned (.tuple #[.string ⟨(Lib.trimPrefix r [61]).toArray⟩, .bool (Lib.hasPrefix r [61])]) = _
  rw [h1, h2]
set_option maxHeartbeats 1000000 in
theorem text_q (B : Nat) (r : List UInt8) (en : Bool) (w : World) (h : PAt w B r en) (hs : r.length ≤ 281474976710656) :
    Calls Tryd.prog 30 #[.pointer (some ⟨B, 0, none⟩)] w fun e w' => PStep w B encS (textP r en) e w' := by
  have c0 := h.c0
  have c1 := h.c1
  have f1 := h.f 1
  have H := Aside0.mk h
  clear h
  cases en
  · cases hq : eqHead r with
    | false =>
      have CP := cutPrefix_q r w
      rw [hq] at CP
      have HQ := Aside0.mk (show textP r false = none from by
        unfold textP eqHead at *
        cases r with
        | nil => rfl
        | cons b l => simp at hq; simp [hq])
      clear hq
      go_enter Tryd.func30, Tryd.ntmps30
      go_wp2_with (first
        | (go_at_call 38; refine CP.mono ?_; rintro e w' ⟨rfl, rfl⟩)
        | (go_at_call 31; first | ((with_reducible refine (need_true _).mono ?_); rintro e w' ⟨rfl, rfl⟩) | ((with_reducible refine (need_false _).mono ?_); rintro e w' ⟨rfl, rfl⟩)))
      refine ⟨rfl, ?_, g_refl _ _⟩
      rw [HQ.out]
    | true =>
      cases r with
      | nil => cases hq
      | cons b l =>
        have hb : b = 61 := by simpa [eqHead] using hq
        subst hb
        have CP := cutPrefix_q (61 :: l) w
        rw [hq, if_pos rfl, List.tail_cons] at CP
        clear hq
        by_cases hl : l.length ≤ 16
        · have HQ := Aside0.mk (show textP (61 :: l) false = some (l, 61 :: l, true) from by unfold textP; simp [hl])
          have HL2 := Aside0.mk (show decide ((l.length : Int) ≤ 16) = true from decide_eq_true (by omega))
          clear hl
          go_enter Tryd.func30, Tryd.ntmps30
          go_wp2_with fail
          refine (need_true _).mono ?_
          rintro e w' ⟨rfl, rfl⟩
          go_wp2_with fail
          refine CP.mono ?_
          rintro e w' ⟨rfl, rfl⟩
          go_wp2_with fail
          rw [HL2.out]
          refine (need_true _).mono ?_
          rintro e w' ⟨rfl, rfl⟩
          go_wp2_with fail
          go_ret
          have B2 : PAt (w'.setCell ⟨B, 1, none⟩ (.bool true)) B (61 :: l) true := blk_set H.out 1 _
          refine ⟨?_, g_set (g_refl _ _) 1 _⟩
          rw [HQ.out]
          exact ⟨rfl, B2⟩
        · have HQ := Aside0.mk (show textP (61 :: l) false = none from by unfold textP; simp [hl])
          have hl2 : decide ((l.length : Int) ≤ 16) = false := decide_eq_false (by omega)
          go_enter Tryd.func30, Tryd.ntmps30
          go_wp2_with (first
            | (go_at_call 38; refine CP.mono ?_; rintro e w' ⟨rfl, rfl⟩)
            | (go_at_call 31; first | ((with_reducible refine (need_true _).mono ?_); rintro e w' ⟨rfl, rfl⟩) | ((with_reducible refine (need_false _).mono ?_); rintro e w' ⟨rfl, rfl⟩)))
          refine ⟨rfl, ?_, g_refl _ _⟩
          rw [HQ.out]
  · have HQ := Aside0.mk (show textP r true = none from rfl)
    go_enter Tryd.func30, Tryd.ntmps30
    go_wp2_with (go_at_call 31; refine (need_false _).mono ?_; rintro e w' ⟨rfl, rfl⟩)
    refine ⟨rfl, ?_, g_refl _ _⟩
    rw [HQ.out]
end Go.Proofs.YtljgmbpfeajmhaaDoor
