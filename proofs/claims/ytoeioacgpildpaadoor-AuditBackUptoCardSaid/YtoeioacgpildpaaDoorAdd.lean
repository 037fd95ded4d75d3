/- A list of records with one more: what the program's Add and the document's make, for every list. -/
import Derived.Test.YtoeioacgpildpaaDoorText
import Derived.Lib.LazyBuf
set_option linter.unusedVariables false
set_option linter.unusedSimpArgs false
namespace Go.Proofs.YtoeioacgpildpaaDoor
open Go.Proofs Go.Shelf Go.RowKit Go.Sort Go.Proofs.YtoeioacgpildpaaDoorW.PrintWords Go.Proofs.YtoeioacgpildpaaDoorW.PrintLast Go.Proofs.YtoeioacgpildpaaDoorW.PrintMore
open Go.Proofs.YtoeioacgpildpaaDoor.P (S27 k27 z27 rd_T27 at_T27 info27 k27_mkM k27_openM)
attribute [local go_sem] max2_int min2_int max_two min_two max_three min_three max_four min_four

set_option maxHeartbeats 3200000 in
set_option maxRecDepth 100000 in
theorem clone_q (A : Option Addr) (n c : Nat) (l : List S27) (w : World) (hC : Kd.C k27 w A n l) (hl : n < 3518437208883) :
    Calls Tryd.prog 24 #[.slice A n c] w fun e w' => ∃ v, e = .returned v ∧ Kd.R k27 27 w' w.heap.size (fun _ => True) v l ∧ Below w.heap.size w w' := by
  have HC := Aside0.mk hC
  have HB := Aside0.mk (Below.refl w.heap.size w)
  have LM := Aside0.mk hl
  have hnil : ∀ W (a : Option Addr) (m c' : Nat), (binOp .eql 22 (.slice a m c') (.slice none 0 0)).run Tryd.prog W = .ok (.bool a.isNone) W := fun W a m c' => Go.run_eql_slice_nil W 22 27 a m c' Tryd.underlying22
  cases A with
  | none =>
    have h0 : n = 0 := by
      rcases Nat.eq_zero_or_pos n with h | h
      · exact h
      · obtain ⟨ad, e, _⟩ := hC.2.2 h
        cases e
    have hl0 : l = [] := List.eq_nil_of_length_eq_zero (by rw [Kd.C_len hC, h0])
    subst hl0
    clear hC hl
    go_enter Tryd.func24, Tryd.ntmps24
    go_wp2
    first | go_ret | go_ret2
    exact ⟨_, rfl, Kd.R_nil _ _ _ _ _, HB.out⟩
  | some ad =>
    obtain ⟨y0, hy0⟩ : ∃ y : List S27, y = ([] : List S27) := ⟨_, rfl⟩
    have N0 := Aside0.mk hy0
    have LZ := Aside0.mk (show y0.length = 0 from by rw [hy0]; rfl)
    clear hC hl hy0
    go_enter Tryd.func24, Tryd.ntmps24
    go_wp2_with (first
      | ((with_reducible refine gate_dst (N := 5) rfl ?_); refine Kd.R_lit k27 _ 27 ?hg (N := 5) ?hd (xs := ([] : List S27)) (inner := []) (ok := fun _ => True) (okp := fun _ => True) ?hr ?hp (fun _ hk => hk) trivial (Below.refl _ _) (Nat.le_refl _) (by simp) ?_; (case hd => rfl); (case hg => rfl); (case hr => first | (go_simp; done) | (go_simp; rfl)); (case hp => exact Reps.none _ _); intro v1 w2 ho hb hg_ hnew; rw [← N0.out] at ho; have HO := Aside0.mk (Kd.R_lower ho HB.out.size); have HB2 := Aside0.mk (below_step HB.out hb); clear HB ho hb hg_ hnew)
      | ((with_reducible refine gate_builtin (b := .append) (xs := #[.tmp 5, .tmp 6]) rfl ?_); at_builtin; refine Kd.R_append_rows k27 (w0 := w) w.heap.size rfl (.tmp 5) (.tmp 6) 22 27 (.agg #[(.int .u64 0), (.int .u32 0), (.string ⟨#[]⟩), (.int .i64 0)]) 40 rfl Tryd.underlying22 info27 rfl (by decide) (by omega) v1 y0 l _ _ _ (fun _ => True) (fun _ => False) rfl rfl ?aO ?aR (fun _ _ h => h) (fun _ h => h.elim) ?aF ?aB ?aS ?aL ?_; (case aR => exact Kd.C_below HC.out HB2.out); (case aB => exact HB2.out); (case aF => exact fun _ _ => trivial); (case aO => exact HO.out); (case aS => exact HB2.out.size); (case aL => have := LM.out; have := LZ.out; omega); intro v2 w3 ho hb hg hat; rw [N0.out, List.nil_append] at ho; have HO3 := Aside0.mk ho; have HB3 := Aside0.mk hb; clear HO HB2 ho hb hg hat))
    first | go_ret2 | go_ret
    exact ⟨_, rfl, HO3.out, HB3.out⟩
def tickL (l : List S27) (t : Int) : Int := if 0 < l.length then (if t < (l.getD (l.length - 1) z27).f1 then (l.getD (l.length - 1) z27).f1 else t) else t
def addL (l : List S27) (t : Int) (s : ByteArray) (k : Int) : List S27 := l ++ [⟨IntKind.u64.wrap ((l.length : Int) + 1), tickL l t, s, k⟩]
set_option maxHeartbeats 6400000 in
set_option maxRecDepth 100000 in
theorem add_q (A : Option Addr) (n c : Nat) (l : List S27) (t : Int) (s : ByteArray) (k : Int) (w : World) (hC : Kd.C k27 w A n l) (hl : n < 3518437208883) (ht0 : 0 ≤ t) (ht1 : t < 4294967296) :
    Calls Tryd.prog 8 #[.slice A n c, .int .u32 t, .string s, .int .i64 k] w fun e w' => ∃ v, e = .returned v ∧ Kd.R k27 27 w' w.heap.size (fun _ => True) v (addL l t s k) ∧ Below w.heap.size w w' := by
  have HC := Aside0.mk hC
  have LM := Aside0.mk hl
  have hlen := Kd.C_len hC
  have HL := Aside0.mk hlen
  have HB := Aside0.mk (Below.refl w.heap.size w)
  have hw1 : IntKind.u64.wrap (n : Int) = (n : Int) := by rw [IntKind.wrap_u64]; omega
  have hw2 : IntKind.u64.wrap ((n : Int) + 1) = (n : Int) + 1 := by rw [IntKind.wrap_u64]; omega
  have hw3 : IntKind.i64.wrap ((n : Int) - 1) = (n : Int) - 1 := IntWalk.i64_in _ (by omega)
  by_cases h0 : 0 < n
  · obtain ⟨ad, hA, y0, y1, y2, y3⟩ := rd_at27 hC (n - 1) (by omega)
    subst hA
    have htn : ((n : Int) - 1).toNat = n - 1 := by omega
    have hp1 : (0 ≤ (n : Int) - 1) = True := eq_true (by omega)
    have hp2 : ((n : Int) - 1 < (n : Int)) = True := eq_true (by omega)
    obtain ⟨z, hz⟩ : ∃ z, (l.getD (n - 1) z27).f1 = z := ⟨_, rfl⟩
    rw [hz] at y1
    by_cases hzt : t < z
    · have hzt2 : ¬ z ≤ t := by omega
      have EQ := Aside0.mk (show addL l t s k = l ++ [⟨(n : Int) + 1, z, s, k⟩] from by
        unfold addL tickL
        rw [hlen, if_pos h0, hw2, hz, if_pos hzt])
      clear hC hl hz hlen
      go_enter Tryd.func8, Tryd.ntmps8
      go_wp2_with (first
        | (go_at_call 24; refine (clone_q _ n c l _ HC.out LM.out).mono ?_; rintro e w' ⟨v1, rfl, hr, hb⟩; have HO := Aside0.mk hr; have HB2 := Aside0.mk hb; clear hr hb)
        | ((with_reducible refine gate_builtin (b := .append) (xs := #[.tmp 23, .tmp 32]) rfl ?_); at_builtin; refine Kd.R_append k27 (w0 := w) w.heap.size rfl (.tmp 23) (.tmp 32) 22 27 (.agg #[(.int .u64 0), (.int .u32 0), (.string ⟨#[]⟩), (.int .i64 0)]) 40 rfl Tryd.underlying22 info27 rfl (by decide) (by omega) v1 l (⟨(n : Int) + 1, z, s, k⟩ : S27) [.int .u64 ((n : Int) + 1), .int .u32 (z), .string s, .int .i64 k] (fun _ => True) (fun _ => False) rfl rfl ?aP (fun _ hk => hk.elim) ?aF ?aO ?aB ?aS ?aL ?_; (case aP => exact k27_mkM _ _ _ (⟨(n : Int) + 1, z, s, k⟩ : S27)); (case aB => exact HB2.out); (case aF => exact fun _ _ => trivial); (case aO => exact HO.out); (case aS => exact HB2.out.size); (case aL => have := LM.out; have := HL.out; omega); intro v2 w3 ho hb hg hat; rw [← EQ.out] at ho; have HO3 := Aside0.mk ho; have HB3 := Aside0.mk hb; clear HO HB2 ho hb hg hat))
      first | go_ret | go_ret2
      exact ⟨_, rfl, HO3.out, HB3.out⟩
    · have hzt2 : z ≤ t := by omega
      have EQ := Aside0.mk (show addL l t s k = l ++ [⟨(n : Int) + 1, t, s, k⟩] from by
        unfold addL tickL
        rw [hlen, if_pos h0, hw2, hz, if_neg hzt])
      clear hC hl hz hlen
      go_enter Tryd.func8, Tryd.ntmps8
      go_wp2_with (first
        | (go_at_call 24; refine (clone_q _ n c l _ HC.out LM.out).mono ?_; rintro e w' ⟨v1, rfl, hr, hb⟩; have HO := Aside0.mk hr; have HB2 := Aside0.mk hb; clear hr hb)
        | ((with_reducible refine gate_builtin (b := .append) (xs := #[.tmp 23, .tmp 32]) rfl ?_); at_builtin; refine Kd.R_append k27 (w0 := w) w.heap.size rfl (.tmp 23) (.tmp 32) 22 27 (.agg #[(.int .u64 0), (.int .u32 0), (.string ⟨#[]⟩), (.int .i64 0)]) 40 rfl Tryd.underlying22 info27 rfl (by decide) (by omega) v1 l (⟨(n : Int) + 1, t, s, k⟩ : S27) [.int .u64 ((n : Int) + 1), .int .u32 (t), .string s, .int .i64 k] (fun _ => True) (fun _ => False) rfl rfl ?aP (fun _ hk => hk.elim) ?aF ?aO ?aB ?aS ?aL ?_; (case aP => exact k27_mkM _ _ _ (⟨(n : Int) + 1, t, s, k⟩ : S27)); (case aB => exact HB2.out); (case aF => exact fun _ _ => trivial); (case aO => exact HO.out); (case aS => exact HB2.out.size); (case aL => have := LM.out; have := HL.out; omega); intro v2 w3 ho hb hg hat; rw [← EQ.out] at ho; have HO3 := Aside0.mk ho; have HB3 := Aside0.mk hb; clear HO HB2 ho hb hg hat))
      first | go_ret | go_ret2
      exact ⟨_, rfl, HO3.out, HB3.out⟩
  · obtain rfl : n = 0 := by omega
    clear h0 hw1 hw2 hw3
    have EQ := Aside0.mk (show addL l t s k = l ++ [⟨1, t, s, k⟩] from by
      unfold addL tickL
      rw [hlen, if_neg (Nat.lt_irrefl 0)]
      rfl)
    clear hC hl hlen
    go_enter Tryd.func8, Tryd.ntmps8
    go_wp2_with (first
      | (go_at_call 24; refine (clone_q _ 0 c l _ HC.out LM.out).mono ?_; rintro e w' ⟨v1, rfl, hr, hb⟩; have HO := Aside0.mk hr; have HB2 := Aside0.mk hb; clear hr hb)
      | ((with_reducible refine gate_builtin (b := .append) (xs := #[.tmp 23, .tmp 32]) rfl ?_); at_builtin; refine Kd.R_append k27 (w0 := w) w.heap.size rfl (.tmp 23) (.tmp 32) 22 27 (.agg #[(.int .u64 0), (.int .u32 0), (.string ⟨#[]⟩), (.int .i64 0)]) 40 rfl Tryd.underlying22 info27 rfl (by decide) (by omega) v1 l (⟨1, t, s, k⟩ : S27) [.int .u64 1, .int .u32 (t), .string s, .int .i64 k] (fun _ => True) (fun _ => False) rfl rfl ?aP (fun _ hk => hk.elim) ?aF ?aO ?aB ?aS ?aL ?_; (case aP => exact k27_mkM _ _ _ (⟨1, t, s, k⟩ : S27)); (case aB => exact HB2.out); (case aF => exact fun _ _ => trivial); (case aO => exact HO.out); (case aS => exact HB2.out.size); (case aL => have := LM.out; have := HL.out; omega); intro v2 w3 ho hb hg hat; rw [← EQ.out] at ho; have HO3 := Aside0.mk ho; have HB3 := Aside0.mk hb; clear HO HB2 ho hb hg hat))
    first | go_ret | go_ret2
    exact ⟨_, rfl, HO3.out, HB3.out⟩
end Go.Proofs.YtoeioacgpildpaaDoor
