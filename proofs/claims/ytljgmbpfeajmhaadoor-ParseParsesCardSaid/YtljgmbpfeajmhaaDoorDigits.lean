/- The document's Digits and Signed are the library's decimal texts. -/
import Derived.Test.YtljgmbpfeajmhaaDoorWords
import Derived.Test.YtljgmbpfeajmhaaDoorP7
set_option linter.unusedVariables false
set_option linter.unusedSimpArgs false
namespace Go.Proofs.YtljgmbpfeajmhaaDoor
open Go.Proofs Go.Shelf Go.RowKit Go.Proofs.YtljgmbpfeajmhaaDoorW.PrintWords Go.Proofs.YtljgmbpfeajmhaaDoorW.PrintLast Go.Proofs.YtljgmbpfeajmhaaDoorW.PrintMore

theorem digit_piece : ∀ d : Nat, d < 10 → (⟨#[48, 49, 50, 51, 52, 53, 54, 55, 56, 57]⟩ : ByteArray).extract d (d + 1) = ⟨#[UInt8.ofNat (48 + d)]⟩ := by decide
theorem tmod_nat (u : Nat) : Int.tmod (u : Int) 10 = ((u % 10 : Nat) : Int) := by
  rw [Int.tmod_eq_emod_of_nonneg (by omega)]; omega
theorem tdiv_nat (u : Nat) : Int.tdiv (u : Int) 10 = ((u / 10 : Nat) : Int) := by
  rw [Int.tdiv_eq_ediv_of_nonneg (by omega)]; omega
theorem app_bs (c : UInt8) (x : List UInt8) : (⟨#[c]⟩ : ByteArray) ++ bsA x = bsA (c :: x) := by
  unfold bsA
  apply ByteArray.ext
  simp [ByteArray.data_append]
theorem bsA_size (l : List UInt8) : (bsA l).size = l.length := by unfold bsA; simp [ByteArray.size]
theorem one_size (c : UInt8) : (⟨#[c]⟩ : ByteArray).size = 1 := rfl
theorem digits_l0 : ∀ (k u : Nat) (x : List UInt8), u < 10 ^ (k + 1) → u < 18446744073709551616 → x.length + k ≤ 1000 → P.congressref20_Digits.l0 (k + 1) (u : Int) (bsA x) = some (bsA (Lib.decDigits u ++ x))
  | k, u, x, hk, hu, hx => by
    rw [P.congressref20_Digits.l0, tmod_nat, tdiv_nat]
    have hw1 : IntKind.u64.wrap (((u % 10 : Nat) : Int) + 1) = ((u % 10 + 1 : Nat) : Int) := by rw [IntKind.wrap_u64]; omega
    have hw2 : IntKind.u64.wrap ((u / 10 : Nat) : Int) = ((u / 10 : Nat) : Int) := by rw [IntKind.wrap_u64]; omega
    by_cases h : u < 10
    · have hw3 : IntKind.u64.wrap ((u : Int) + 1) = ((u + 1 : Nat) : Int) := by rw [IntKind.wrap_u64]; omega
      rw [if_neg (by omega), hw3, if_pos (by omega), if_pos (by omega), if_pos (by omega), Int.toNat_natCast, Int.toNat_natCast, digit_piece u h, one_size, bsA_size, if_pos (by omega), app_bs, Lib.decDigits_one h]
      rfl
    · rw [if_pos (by omega), hw1, hw2, if_pos (by omega), if_pos (by omega), if_pos (by omega), Int.toNat_natCast, Int.toNat_natCast, digit_piece (u % 10) (by omega), one_size, bsA_size, if_pos (by omega), app_bs]
      match k, hk, hx with
      | 0, hk, hx => omega
      | k + 1, hk, hx =>
        rw [digits_l0 k (u / 10) (UInt8.ofNat (48 + u % 10) :: x) (by rw [Nat.pow_succ] at hk; omega) (by omega) (by rw [List.length_cons]; omega)]
        conv => rhs; rw [Lib.decDigits, dif_neg h]
        simp
theorem digits_f (u : Nat) (hu : u < 18446744073709551616) : P.congressref20_Digits.f 20 (u : Int) = some (bsA (Lib.decDigits u)) := by
  unfold P.congressref20_Digits.f
  have := digits_l0 19 u [] (by omega) hu (by decide)
  rw [List.append_nil] at this
  exact this
theorem signed_f (u : Nat) (hu : u < 9223372036854775808) : P.congressref20_Signed.f 20 (u : Int) = some (bsA (Lib.decDigits u)) := by
  unfold P.congressref20_Signed.f
  have hw : IntKind.u64.wrap (u : Int) = (u : Int) := by rw [IntKind.wrap_u64]; omega
  rw [if_neg (by omega), hw, digits_f u (by omega), Option.bind_some]
theorem drawn0_ex {w w' : World} (h : Drawn0 w w') : ∃ m, w' = w.drewN m := by
  obtain ⟨m, hm⟩ := h
  exact ⟨m, by first | exact hm | exact hm.symm⟩
theorem below_of_drawn {w w' : World} (h : Drawn0 w w') : Below w.heap.size w w' := by
  obtain ⟨m, rfl⟩ := drawn0_ex h
  exact pw_below_drewN (Below.refl _ _) m
theorem digits_q (u : Nat) (hu : u < 18446744073709551616) (w : World) : Calls Tryd.prog 24 #[.int .u64 (u : Int)] w fun e w' => e = .returned (.string ⟨(Lib.decDigits u).toArray⟩) ∧ Below w.heap.size w w' :=
  (P.congressref20_Digits.calls 20 u _ w (digits_f u hu)).mono fun e w' ⟨he, hd⟩ => ⟨he, below_of_drawn hd⟩
theorem signed_q (u : Nat) (hu : u < 9223372036854775808) (w : World) : Calls Tryd.prog 25 #[.int .i64 (u : Int)] w fun e w' => e = .returned (.string ⟨(Lib.decDigits u).toArray⟩) ∧ Below w.heap.size w w' :=
  (P.congressref20_Signed.calls 20 u _ w (signed_f u hu)).mono fun e w' ⟨he, hd⟩ => ⟨he, below_of_drawn hd⟩
end Go.Proofs.YtljgmbpfeajmhaaDoor
