/- The document's Number, Digit and At, in plain words. -/
import Derived.Test.YtljgmbpfeajmhaaDoorPrints
import Derived.Test.YtljgmbpfeajmhaaDoorDigits
import Derived.Test.YtljgmbpfeajmhaaDoorP3
set_option linter.unusedVariables false
set_option linter.unusedSimpArgs false
namespace Go.Proofs.YtljgmbpfeajmhaaDoor
open Go.Proofs Go.Shelf Go.RowKit Go.Proofs.YtljgmbpfeajmhaaDoorW.PrintWords

def isD (b : UInt8) : Prop := 48 ≤ b.toNat ∧ b.toNat ≤ 57
instance (b : UInt8) : Decidable (isD b) := by unfold isD; infer_instance
def wr64 (x : Nat) : Nat := x % 18446744073709551616
theorem wr64_lt (x : Nat) : wr64 x < 18446744073709551616 := by unfold wr64; exact Nat.mod_lt _ (by decide)
theorem wr64_of {x : Nat} (h : x < 18446744073709551616) : wr64 x = x := by unfold wr64; exact Nat.mod_eq_of_lt h
attribute [irreducible] wr64
def valW (acc : Nat) (l : List UInt8) : Nat := l.foldl (fun a b => wr64 (10 * a + (b.toNat - 48))) acc
theorem valW_nil (acc : Nat) : valW acc [] = acc := rfl
theorem valW_cons (acc : Nat) (b : UInt8) (l : List UInt8) : valW acc (b :: l) = valW (wr64 (10 * acc + (b.toNat - 48))) l := by
  unfold valW; rw [List.foldl_cons]
theorem valW_step {acc d : Nat} (r : List UInt8) (h : d < 10) (hu : 10 * acc + d < 18446744073709551616) : valW acc (UInt8.ofNat (48 + d) :: r) = valW (10 * acc + d) r := by
  have e : (UInt8.ofNat (48 + d)).toNat - 48 = d := by rw [digit_nat h]; omega
  rw [valW_cons, e, wr64_of hu]
theorem valW_lt : ∀ (l : List UInt8) (acc : Nat), acc < 18446744073709551616 → valW acc l < 18446744073709551616
  | [], acc, h => h
  | b :: l, acc, h => by rw [valW_cons]; exact valW_lt l _ (wr64_lt _)
theorem bsA_toList (l : List UInt8) : (bsA l).toList = l := by rw [Lib.toList_data]; rfl
theorem bsA_data (l : List UInt8) : (bsA l).data.toList = l := rfl
theorem number_l0 (l : List UInt8) (hl : l.length ≤ 20) : ∀ (n i acc : Nat), i + n = l.length → acc < 18446744073709551616 →
    P.congressref21_Number.l0 (n + 21) (bsA l) (acc : Int) (i : Int) = some (if ∀ b ∈ l.drop i, isD b then (((valW acc (l.drop i) : Nat) : Int), (Lib.decDigits (valW acc (l.drop i)) == l)) else (0, false))
  | 0, i, acc, hi, ha => by
    rw [P.congressref21_Number.l0, bsA_size, if_neg (by omega), digits_f acc ha, Option.bind_some, List.drop_eq_nil_of_le (by omega), if_pos (by simp), bsA_toList, bsA_toList]
    rfl
  | n + 1, i, acc, hi, ha => by
    have hd : l.drop i = l.getD i 0 :: l.drop (i + 1) := by
      rw [List.drop_eq_getElem_cons (by omega), List.getD_eq_getElem?_getD, List.getElem?_eq_getElem (by omega)]; rfl
    obtain ⟨b, hb⟩ : ∃ b, l.getD i 0 = b := ⟨_, rfl⟩
    have hw : wrap64 ((i : Int) + 1) = ((i + 1 : Nat) : Int) := by unfold wrap64; omega
    rw [show n + 1 + 21 = (n + 21) + 1 by omega, P.congressref21_Number.l0, bsA_size, if_pos (by omega), if_pos (by omega), bt_nat (bsA l) i (by rw [bsA_size]; omega), bsA_data, hw, hd, hb]
    by_cases h1 : (b.toNat : Int) < 48
    · rw [if_pos h1, if_neg (by intro h; have := (h b (by simp)).1; omega)]
    · rw [if_neg h1]
      by_cases h2 : (b.toNat : Int) > 57
      · rw [if_pos h2, if_neg (by intro h; have := (h b (by simp)).2; omega)]
      · rw [if_neg h2]
        have hv : IntKind.u64.wrap (IntKind.u64.wrap (10 * (acc : Int)) + (((b.toNat : Int) - 48) % 256)) = ((wr64 (10 * acc + (b.toNat - 48)) : Nat) : Int) := by
          rw [IntKind.wrap_u64, IntKind.wrap_u64]; unfold wr64; omega
        rw [hv, number_l0 l hl n (i + 1) _ (by omega) (wr64_lt _)]
        congr 1
        have hb2 : isD b := ⟨by omega, by omega⟩
        by_cases hall : ∀ x ∈ l.drop (i + 1), isD x
        · rw [if_pos hall, if_pos (by intro x hx; rcases List.mem_cons.1 hx with rfl | hx; exact hb2; exact hall x hx)]
          rfl
        · rw [if_neg hall, if_neg (by intro h; exact hall (fun x hx => h x (List.mem_cons_of_mem _ hx)))]
/-- A number's digits spell it. -/
theorem valW_dec : ∀ (u : Nat) (r : List UInt8), u < 18446744073709551616 → valW 0 (Lib.decDigits u ++ r) = valW u r := by
  intro u
  induction u using Nat.strongRecOn with
  | ind u ih =>
    intro r hu
    by_cases h : u < 10
    · rw [Lib.decDigits_one h, List.singleton_append, valW_step r h (by omega), Nat.mul_zero, Nat.zero_add]
    · rw [Lib.decDigits, dif_neg h, List.append_assoc, ih (u / 10) (by omega) _ (by omega), List.singleton_append, valW_step r (by omega) (by omega), show 10 * (u / 10) + u % 10 = u by omega]
theorem dec_len20 (u : Nat) (h : u < 18446744073709551616) : 1 ≤ (Lib.decDigits u).length ∧ (Lib.decDigits u).length ≤ 20 := by
  have h1 := dec_ne u
  have h2 := Lib.nDigits_le20 u h
  rw [Lib.decDigits_length] at *
  refine ⟨?_, h2⟩
  rcases Nat.eq_zero_or_pos (Lib.nDigits u) with h0 | h0
  · exfalso
    apply h1
    apply List.eq_nil_of_length_eq_zero
    rw [Lib.decDigits_length, h0]
  · exact h0
/-- Number tells a number and that it is one; or that it is none. -/
theorem number_f (l : List UInt8) : ∃ m : Nat, P.congressref21_Number.f (l.length + 22) (bsA l) = some (match numL l with | some n => ((n : Int), true) | none => ((m : Int), false)) ∧ m < 18446744073709551616 := by
  by_cases hlen : 1 ≤ l.length ∧ l.length ≤ 20
  · have h0 := number_l0 l hlen.2 l.length 0 0 (Nat.zero_add _) (by decide)
    rw [List.drop_zero] at h0
    have hf : P.congressref21_Number.f (l.length + 22) (bsA l) = P.congressref21_Number.l0 (l.length + 21) (bsA l) 0 0 := by
      unfold P.congressref21_Number.f
      rw [bsA_size, if_neg (by omega), decide_eq_false (by omega), show l.length + 22 = (l.length + 21) + 1 by omega, P.congressref21_Number.j0, if_neg (by decide)]
    have h0' : P.congressref21_Number.l0 (l.length + 21) (bsA l) 0 0 = _ := h0
    rw [hf, h0']
    cases hn : numL l with
    | some n =>
      refine ⟨0, ?_, by decide⟩
      have hd := numL_dec hn
      have hlt : n < 18446744073709551616 := by
        unfold numL at hn
        obtain ⟨m, hm, hn⟩ := Option.bind_eq_some_iff.1 hn
        split at hn
        · cases hn; exact puL_lt hm
        · cases hn
      have hv : valW 0 l = n := by
        have := valW_dec n [] hlt
        rw [List.append_nil, hd] at this
        exact this
      rw [if_pos (by intro b hb; rw [← hd] at hb; exact dec_digit n b hb), hv, hd]
      simp
    | none =>
      by_cases hall : ∀ b ∈ l, isD b
      · refine ⟨valW 0 l, ?_, valW_lt l 0 (by decide)⟩
        rw [if_pos hall]
        have hne : ¬ Lib.decDigits (valW 0 l) = l := by
          intro e
          have := numL_of (valW 0 l) (valW_lt l 0 (by decide))
          rw [e, hn] at this
          cases this
        simp [hne]
      · refine ⟨0, ?_, by decide⟩
        rw [if_neg hall]
        rfl
  · have hn : numL l = none := by
      cases hn : numL l with
      | none => rfl
      | some n =>
        exfalso
        have hd := numL_dec hn
        have hlt : n < 18446744073709551616 := by
          unfold numL at hn
          obtain ⟨m, hm, hn⟩ := Option.bind_eq_some_iff.1 hn
          split at hn
          · cases hn; exact puL_lt hm
          · cases hn
        have := dec_len20 n hlt
        rw [hd] at this
        exact hlen this
    refine ⟨0, ?_, by decide⟩
    rw [hn]
    unfold P.congressref21_Number.f
    rw [bsA_size]
    by_cases h1 : (l.length : Int) < 1
    · rw [if_pos h1, show l.length + 22 = (l.length + 21) + 1 by omega, P.congressref21_Number.j0, if_pos rfl]
      rfl
    · rw [if_neg h1, decide_eq_true (by omega), show l.length + 22 = (l.length + 21) + 1 by omega, P.congressref21_Number.j0, if_pos rfl]
      rfl
end Go.Proofs.YtljgmbpfeajmhaaDoor
