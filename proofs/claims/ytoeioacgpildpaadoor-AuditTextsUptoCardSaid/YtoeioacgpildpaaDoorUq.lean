/- What the document's and the program's readers tell of a line's parts, in plain words. -/
import Derived.Test.YtoeioacgpildpaaDoorText
import Derived.Test.YtoeioacgpildpaaDoorP5
import Derived.Test.YtoeioacgpildpaaDoorP6
import Derived.Test.YtoeioacgpildpaaDoorShelf2
set_option linter.unusedVariables false
set_option linter.unusedSimpArgs false
namespace Go.Proofs.YtoeioacgpildpaaDoor
open Go.Proofs Go.Shelf Go.RowKit Go.Proofs.YtoeioacgpildpaaDoorW.PrintWords Go.Proofs.YtoeioacgpildpaaDoorW.PrintLast Go.Proofs.YtoeioacgpildpaaDoorW.PrintMore
open Go.Proofs.YtoeioacgpildpaaDoor.P (S27 k27 z27)

/-- A text up to its first byte of a kind, and what is behind it. -/
def cut1 (c : UInt8) : List UInt8 → List UInt8 × List UInt8 × Bool
  | [] => ([], [], false)
  | b :: l => if b = c then ([], l, true) else (b :: (cut1 c l).1, (cut1 c l).2)
theorem cut1_true {c : UInt8} : ∀ {l : List UInt8}, (cut1 c l).2.2 = true → l = (cut1 c l).1 ++ c :: (cut1 c l).2.1 ∧ c ∉ (cut1 c l).1
  | [], h => by simp [cut1] at h
  | b :: l, h => by
    unfold cut1 at h ⊢
    split
    · rename_i e; subst e; simp
    · rename_i e
      rw [if_neg e] at h
      have ih := cut1_true (c := c) (l := l) h
      refine ⟨?_, ?_⟩
      · simp only [List.cons_append]
        rw [← ih.1]
      · intro hm
        rcases List.mem_cons.1 hm with h1 | h1
        · exact e h1.symm
        · exact ih.2 h1
theorem cut1_false {c : UInt8} : ∀ {l : List UInt8}, (cut1 c l).2.2 = false → c ∉ l ∧ (cut1 c l).1 = l ∧ (cut1 c l).2.1 = []
  | [], h => by simp [cut1]
  | b :: l, h => by
    unfold cut1 at h ⊢
    split
    · rename_i e; rw [if_pos e] at h; simp at h
    · rename_i e
      rw [if_neg e] at h
      have ih := cut1_false (c := c) (l := l) h
      refine ⟨fun hm => ?_, by simp only [ih.2.1], ih.2.2⟩
      rcases List.mem_cons.1 hm with h1 | h1
      · exact e h1.symm
      · exact ih.1 h1
theorem extract_str {s : ByteArray} {l : List UInt8} {a b : Nat} (h : (s.data.toList.drop a).take (b - a) = l) : s.extract a b = ⟨l.toArray⟩ := by
  apply ByteArray.ext
  apply Array.ext'
  rw [Lib.extract_data, h]

def puL (l : List UInt8) : Option Nat := match Lib.parseUintB 64 l with | .ok n => some n | _ => none

theorem puL_lt {l : List UInt8} {n : Nat} (h : puL l = some n) : n < 18446744073709551616 := by
  unfold puL at h
  split at h
  · rename_i m hm
    cases h
    have := Lib.parseUintB_le hm
    omega
  · cases h

/-- The text of a number below 2^64 that has no needless naught. -/
def numL (l : List UInt8) : Option Nat := (puL l).bind fun n => if Lib.decDigits n = l then some n else none

theorem digit_nat {d : Nat} (h : d < 10) : (UInt8.ofNat (48 + d)).toNat = 48 + d := by
  rw [UInt8.toNat_ofNat']; omega
theorem parseM_step {M acc d : Nat} (r : List UInt8) (h : d < 10) (hM : M ≤ 18446744073709551615) (hu : acc * 10 + d ≤ M) : Lib.parseUintM M acc (UInt8.ofNat (48 + d) :: r) = Lib.parseUintM M (acc * 10 + d) r := by
  rw [Lib.parseUintM, digit_nat h, if_pos (by omega), if_neg (by omega), show 48 + d - 48 = d by omega, if_neg (by omega)]
theorem parse_dec (M : Nat) (hM : M ≤ 18446744073709551615) : ∀ (u : Nat) (r : List UInt8), u ≤ M → Lib.parseUintM M 0 (Lib.decDigits u ++ r) = Lib.parseUintM M u r := by
  intro u
  induction u using Nat.strongRecOn with
  | ind u ih =>
    intro r hu
    by_cases h : u < 10
    · rw [Lib.decDigits_one h, List.singleton_append, parseM_step r h hM (by omega), Nat.zero_mul, Nat.zero_add]
    · rw [Lib.decDigits, dif_neg h, List.append_assoc, ih (u / 10) (by omega) _ (by omega), List.singleton_append, parseM_step r (by omega) hM (by omega), show u / 10 * 10 + u % 10 = u by omega]
theorem dec_ne (u : Nat) : Lib.decDigits u ≠ [] := by
  rw [Lib.decDigits]
  split <;> simp
theorem puL_dec (u : Nat) (h : u < 18446744073709551616) : puL (Lib.decDigits u) = some u := by
  unfold puL Lib.parseUintB
  rw [if_neg (dec_ne u)]
  have := parse_dec (2 ^ 64 - 1) (by decide) u [] (by omega)
  rw [List.append_nil] at this
  rw [this]
  rfl
theorem numL_of (u : Nat) (h : u < 18446744073709551616) : numL (Lib.decDigits u) = some u := by
  unfold numL
  rw [puL_dec u h, Option.bind_some, if_pos rfl]
theorem dec_digit (u : Nat) : ∀ b ∈ Lib.decDigits u, 48 ≤ b.toNat ∧ b.toNat ≤ 57 := by
  induction u using Nat.strongRecOn with
  | ind u ih =>
    rw [Lib.decDigits]
    split
    · rename_i h
      intro b hb
      rw [List.mem_singleton] at hb
      rw [hb, digit_nat h]
      omega
    · intro b hb
      rcases List.mem_append.1 hb with hb | hb
      · exact ih (u / 10) (by omega) b hb
      · rw [List.mem_singleton] at hb
        rw [hb, digit_nat (by omega)]
        omega
theorem dec_noblank (u : Nat) : (32 : UInt8) ∉ Lib.decDigits u := fun h => by
  have := (dec_digit u 32 h).1
  revert this
  decide

theorem cut1_at {c : UInt8} : ∀ {x y : List UInt8}, c ∉ x → cut1 c (x ++ c :: y) = (x, y, true)
  | [], y, _ => by simp [cut1]
  | b :: x, y, h => by
    have hb : ¬ b = c := fun e => h (by simp [e])
    have ih := cut1_at (y := y) (fun hm => h (List.mem_cons_of_mem _ hm))
    rw [List.cons_append, cut1, if_neg hb, ih]
theorem cut1_no {c : UInt8} : ∀ {x : List UInt8}, c ∉ x → cut1 c x = (x, [], false)
  | [], _ => rfl
  | b :: x, h => by
    have hb : ¬ b = c := fun e => h (by simp [e])
    have ih := cut1_no (fun hm => h (List.mem_cons_of_mem _ hm))
    rw [cut1, if_neg hb, ih]

theorem bt_nat (s : ByteArray) (i : Nat) (h : i < s.size) : bt s (i : Int) = ((s.data.toList.getD i 0).toNat : Int) := by
  unfold bt
  rw [Int.toNat_natCast, dif_pos h]
  congr 2
  have : i < s.data.toList.length := by rw [Array.length_toList]; exact h
  rw [List.getD_eq_getElem?_getD, List.getElem?_eq_getElem this]
  rfl
def bsA (l : List UInt8) : ByteArray := ⟨l.toArray⟩
theorem extract_bs (s : ByteArray) (a b : Nat) : s.extract a b = bsA ((s.data.toList.drop a).take (b - a)) := extract_str rfl

theorem digit_piece : ∀ d : Nat, d < 10 → (⟨#[48, 49, 50, 51, 52, 53, 54, 55, 56, 57]⟩ : ByteArray).extract d (d + 1) = ⟨#[UInt8.ofNat (48 + d)]⟩ := by decide
theorem tmod_nat (u : Nat) : Int.tmod (u : Int) 10 = ((u % 10 : Nat) : Int) := by
  rw [Int.tmod_eq_emod_of_nonneg (by omega)]; omega
theorem tdiv_nat (u : Nat) : Int.tdiv (u : Int) 10 = ((u / 10 : Nat) : Int) := by
  rw [Int.tdiv_eq_ediv_of_nonneg (by omega)]; omega
theorem app_bs (c : UInt8) (x : List UInt8) : (⟨#[c]⟩ : ByteArray) ++ bsA x = bsA (c :: x) := by
  unfold bsA
  apply ByteArray.ext
  simp [ByteArray.data_append]
theorem bsA_size (l : List UInt8) : (bsA l).size = l.length := by unfold bsA; simp [ByteArray.size]
theorem one_size (c : UInt8) : (⟨#[c]⟩ : ByteArray).size = 1 := rfl
theorem digits_l0 : ∀ (k u : Nat) (x : List UInt8), u < 10 ^ (k + 1) → u < 18446744073709551616 → x.length + k ≤ 1000 → P.congressref20_Digits.l0 (k + 1) (u : Int) (bsA x) = some (bsA (Lib.decDigits u ++ x))
  | k, u, x, hk, hu, hx => by
    rw [P.congressref20_Digits.l0, tmod_nat, tdiv_nat]
    have hw1 : IntKind.u64.wrap (((u % 10 : Nat) : Int) + 1) = ((u % 10 + 1 : Nat) : Int) := by rw [IntKind.wrap_u64]; omega
    have hw2 : IntKind.u64.wrap ((u / 10 : Nat) : Int) = ((u / 10 : Nat) : Int) := by rw [IntKind.wrap_u64]; omega
    by_cases h : u < 10
    · have hw3 : IntKind.u64.wrap ((u : Int) + 1) = ((u + 1 : Nat) : Int) := by rw [IntKind.wrap_u64]; omega
      rw [if_neg (by omega), hw3, if_pos (by omega), if_pos (by omega), if_pos (by omega), Int.toNat_natCast, Int.toNat_natCast, digit_piece u h, one_size, bsA_size, if_pos (by omega), app_bs, Lib.decDigits_one h]
      rfl
    · rw [if_pos (by omega), hw1, hw2, if_pos (by omega), if_pos (by omega), if_pos (by omega), Int.toNat_natCast, Int.toNat_natCast, digit_piece (u % 10) (by omega), one_size, bsA_size, if_pos (by omega), app_bs]
      match k, hk, hx with
      | 0, hk, hx => omega
      | k + 1, hk, hx =>
        rw [digits_l0 k (u / 10) (UInt8.ofNat (48 + u % 10) :: x) (by rw [Nat.pow_succ] at hk; omega) (by omega) (by rw [List.length_cons]; omega)]
        conv => rhs; rw [Lib.decDigits, dif_neg h]
        simp
theorem digits_f (u : Nat) (hu : u < 18446744073709551616) : P.congressref20_Digits.f 20 (u : Int) = some (bsA (Lib.decDigits u)) := by
  unfold P.congressref20_Digits.f
  have := digits_l0 19 u [] (by omega) hu (by decide)
  rw [List.append_nil] at this
  exact this
theorem signed_f0 (u : Nat) (hu : u < 9223372036854775808) : P.congressref20_Signed.f 20 (u : Int) = some (bsA (Lib.decDigits u)) := by
  unfold P.congressref20_Signed.f
  have hw : IntKind.u64.wrap (u : Int) = (u : Int) := by rw [IntKind.wrap_u64]; omega
  rw [if_neg (by omega), hw, digits_f u (by omega), Option.bind_some]

theorem numL_dec {l : List UInt8} {n : Nat} (h : numL l = some n) : Lib.decDigits n = l := by
  unfold numL at h
  obtain ⟨m, hm, h⟩ := Option.bind_eq_some_iff.1 h
  split at h
  · cases h; assumption
  · cases h
def isD (b : UInt8) : Prop := 48 ≤ b.toNat ∧ b.toNat ≤ 57
instance (b : UInt8) : Decidable (isD b) := by unfold isD; infer_instance
def wr64 (x : Nat) : Nat := x % 18446744073709551616
theorem wr64_lt (x : Nat) : wr64 x < 18446744073709551616 := by unfold wr64; exact Nat.mod_lt _ (by decide)
theorem wr64_of {x : Nat} (h : x < 18446744073709551616) : wr64 x = x := by unfold wr64; exact Nat.mod_eq_of_lt h
attribute [irreducible] wr64
def valW (acc : Nat) (l : List UInt8) : Nat := l.foldl (fun a b => wr64 (10 * a + (b.toNat - 48))) acc
theorem valW_nil (acc : Nat) : valW acc [] = acc := rfl
theorem valW_cons (acc : Nat) (b : UInt8) (l : List UInt8) : valW acc (b :: l) = valW (wr64 (10 * acc + (b.toNat - 48))) l := by
  unfold valW; rw [List.foldl_cons]
theorem valW_step {acc d : Nat} (r : List UInt8) (h : d < 10) (hu : 10 * acc + d < 18446744073709551616) : valW acc (UInt8.ofNat (48 + d) :: r) = valW (10 * acc + d) r := by
  have e : (UInt8.ofNat (48 + d)).toNat - 48 = d := by rw [digit_nat h]; omega
  rw [valW_cons, e, wr64_of hu]
theorem valW_lt : ∀ (l : List UInt8) (acc : Nat), acc < 18446744073709551616 → valW acc l < 18446744073709551616
  | [], acc, h => h
  | b :: l, acc, h => by rw [valW_cons]; exact valW_lt l _ (wr64_lt _)
theorem bsA_toList (l : List UInt8) : (bsA l).toList = l := by rw [Lib.toList_data]; rfl
theorem bsA_data (l : List UInt8) : (bsA l).data.toList = l := rfl
theorem number_l0 (l : List UInt8) (hl : l.length ≤ 20) : ∀ (n i acc : Nat), i + n = l.length → acc < 18446744073709551616 →
    P.congressref20_number.l0 (n + 21) (bsA l) (acc : Int) (i : Int) = some (if ∀ b ∈ l.drop i, isD b then (((valW acc (l.drop i) : Nat) : Int), (Lib.decDigits (valW acc (l.drop i)) == l)) else (0, false))
  | 0, i, acc, hi, ha => by
    rw [P.congressref20_number.l0, bsA_size, if_neg (by omega), digits_f acc ha, Option.bind_some, List.drop_eq_nil_of_le (by omega), if_pos (by simp), bsA_toList, bsA_toList]
    rfl
  | n + 1, i, acc, hi, ha => by
    have hd : l.drop i = l.getD i 0 :: l.drop (i + 1) := by
      rw [List.drop_eq_getElem_cons (by omega), List.getD_eq_getElem?_getD, List.getElem?_eq_getElem (by omega)]; rfl
    obtain ⟨b, hb⟩ : ∃ b, l.getD i 0 = b := ⟨_, rfl⟩
    have hw : wrap64 ((i : Int) + 1) = ((i + 1 : Nat) : Int) := by unfold wrap64; omega
    rw [show n + 1 + 21 = (n + 21) + 1 by omega, P.congressref20_number.l0, bsA_size, if_pos (by omega), if_pos (by omega), bt_nat (bsA l) i (by rw [bsA_size]; omega), bsA_data, hw, hd, hb]
    by_cases h1 : (b.toNat : Int) < 48
    · rw [if_pos h1, if_neg (by intro h; have := (h b (by simp)).1; omega)]
    · rw [if_neg h1]
      by_cases h2 : (b.toNat : Int) > 57
      · rw [if_pos h2, if_neg (by intro h; have := (h b (by simp)).2; omega)]
      · rw [if_neg h2]
        have hv : IntKind.u64.wrap (IntKind.u64.wrap (10 * (acc : Int)) + (((b.toNat : Int) - 48) % 256)) = ((wr64 (10 * acc + (b.toNat - 48)) : Nat) : Int) := by
          rw [IntKind.wrap_u64, IntKind.wrap_u64]; unfold wr64; omega
        rw [hv, number_l0 l hl n (i + 1) _ (by omega) (wr64_lt _)]
        congr 1
        have hb2 : isD b := ⟨by omega, by omega⟩
        by_cases hall : ∀ x ∈ l.drop (i + 1), isD x
        · rw [if_pos hall, if_pos (by intro x hx; rcases List.mem_cons.1 hx with rfl | hx; exact hb2; exact hall x hx)]
          rfl
        · rw [if_neg hall, if_neg (by intro h; exact hall (fun x hx => h x (List.mem_cons_of_mem _ hx)))]
/-- A number's digits spell it. -/
theorem valW_dec : ∀ (u : Nat) (r : List UInt8), u < 18446744073709551616 → valW 0 (Lib.decDigits u ++ r) = valW u r := by
  intro u
  induction u using Nat.strongRecOn with
  | ind u ih =>
    intro r hu
    by_cases h : u < 10
    · rw [Lib.decDigits_one h, List.singleton_append, valW_step r h (by omega), Nat.mul_zero, Nat.zero_add]
    · rw [Lib.decDigits, dif_neg h, List.append_assoc, ih (u / 10) (by omega) _ (by omega), List.singleton_append, valW_step r (by omega) (by omega), show 10 * (u / 10) + u % 10 = u by omega]
theorem dec_len20 (u : Nat) (h : u < 18446744073709551616) : 1 ≤ (Lib.decDigits u).length ∧ (Lib.decDigits u).length ≤ 20 := by
  have h1 := dec_ne u
  have h2 := Lib.nDigits_le20 u h
  rw [Lib.decDigits_length] at *
  refine ⟨?_, h2⟩
  rcases Nat.eq_zero_or_pos (Lib.nDigits u) with h0 | h0
  · exfalso
    apply h1
    apply List.eq_nil_of_length_eq_zero
    rw [Lib.decDigits_length, h0]
  · exact h0

/-- Number tells a number and that it is one; or that it is none. -/
theorem number_f (l : List UInt8) : ∃ m : Nat, P.congressref20_number.f (l.length + 22) (bsA l) = some (match numL l with | some n => ((n : Int), true) | none => ((m : Int), false)) ∧ m < 18446744073709551616 := by
  by_cases hlen : 1 ≤ l.length ∧ l.length ≤ 20
  · have h0 := number_l0 l hlen.2 l.length 0 0 (Nat.zero_add _) (by decide)
    rw [List.drop_zero] at h0
    have hf : P.congressref20_number.f (l.length + 22) (bsA l) = P.congressref20_number.l0 (l.length + 21) (bsA l) 0 0 := by
      unfold P.congressref20_number.f
      rw [bsA_size, if_neg (by omega), decide_eq_false (by omega), show l.length + 22 = (l.length + 21) + 1 by omega, P.congressref20_number.j0, if_neg (by decide)]
    have h0' : P.congressref20_number.l0 (l.length + 21) (bsA l) 0 0 = _ := h0
    rw [hf, h0']
    cases hn : numL l with
    | some n =>
      refine ⟨0, ?_, by decide⟩
      have hd := numL_dec hn
      have hlt : n < 18446744073709551616 := by
        unfold numL at hn
        obtain ⟨m, hm, hn⟩ := Option.bind_eq_some_iff.1 hn
        split at hn
        · cases hn; exact puL_lt hm
        · cases hn
      have hv : valW 0 l = n := by
        have := valW_dec n [] hlt
        rw [List.append_nil, hd] at this
        exact this
      rw [if_pos (by intro b hb; rw [← hd] at hb; exact dec_digit n b hb), hv, hd]
      simp
    | none =>
      by_cases hall : ∀ b ∈ l, isD b
      · refine ⟨valW 0 l, ?_, valW_lt l 0 (by decide)⟩
        rw [if_pos hall]
        have hne : ¬ Lib.decDigits (valW 0 l) = l := by
          intro e
          have := numL_of (valW 0 l) (valW_lt l 0 (by decide))
          rw [e, hn] at this
          cases this
        simp [hne]
      · refine ⟨0, ?_, by decide⟩
        rw [if_neg hall]
        rfl
  · have hn : numL l = none := by
      cases hn : numL l with
      | none => rfl
      | some n =>
        exfalso
        have hd := numL_dec hn
        have hlt : n < 18446744073709551616 := by
          unfold numL at hn
          obtain ⟨m, hm, hn⟩ := Option.bind_eq_some_iff.1 hn
          split at hn
          · cases hn; exact puL_lt hm
          · cases hn
        have := dec_len20 n hlt
        rw [hd] at this
        exact hlen this
    refine ⟨0, ?_, by decide⟩
    rw [hn]
    unfold P.congressref20_number.f
    rw [bsA_size]
    by_cases h1 : (l.length : Int) < 1
    · rw [if_pos h1, show l.length + 22 = (l.length + 21) + 1 by omega, P.congressref20_number.j0, if_pos rfl]
      rfl
    · rw [if_neg h1, decide_eq_true (by omega), show l.length + 22 = (l.length + 21) + 1 by omega, P.congressref20_number.j0, if_pos rfl]
      rfl

end Go.Proofs.YtoeioacgpildpaaDoor
namespace Go.Proofs.YtoeioacgpildpaaDoor
open Go.Proofs Go.Shelf Go.RowKit Go.Proofs.YtoeioacgpildpaaDoorW.PrintWords Go.Proofs.YtoeioacgpildpaaDoorW.PrintLast Go.Proofs.YtoeioacgpildpaaDoorW.PrintMore
open Go.Proofs.YtoeioacgpildpaaDoor.P (S27 k27 z27)

/-! ### Digits, Signed, Line: from some number of rounds on -/
theorem digits_ev (u : Nat) (hu : u < 18446744073709551616) : Ev (fun k => P.congressref20_Digits.f k (u : Int)) (bsA (Lib.decDigits u)) :=
  Ev.of (fun k => P.congressref20_Digits.mono _ k) (digits_f u hu)
theorem dec_len (u : Nat) (hu : u < 18446744073709551616) : (Lib.decDigits u).length ≤ 20 := by
  rw [Lib.decDigits_length]; exact Lib.nDigits_le20 u hu
theorem signed_ev (x : Int) (h0 : -9223372036854775808 ≤ x) (h1 : x ≤ 9223372036854775807) : Ev (fun k => P.congressref20_Signed.f k x) (bsA (Lib.itoa x)) := by
  refine Ev.of (fun k => P.congressref20_Signed.mono _ k) (k := 20) ?_
  unfold P.congressref20_Signed.f Lib.itoa
  by_cases h : x < 0
  · have e : IntKind.u64.wrap ((IntKind.u64.wrap (wrap64 (-(wrap64 (x + 1))))) + 1) = ((x.natAbs : Nat) : Int) := by
      rw [IntKind.wrap_u64, IntKind.wrap_u64]; unfold wrap64; omega
    have hl := dec_len x.natAbs (by omega)
    rw [if_pos h, if_pos h, e, digits_f _ (by omega), Option.bind_some, bsA_size, if_pos (by omega), app_bs]
  · have e : IntKind.u64.wrap x = ((x.toNat : Nat) : Int) := by rw [IntKind.wrap_u64]; omega
    rw [if_neg h, if_neg h, e, digits_f _ (by omega), Option.bind_some]
theorem bsA_app (x y : List UInt8) : bsA x ++ bsA y = bsA (x ++ y) := by
  unfold bsA
  apply ByteArray.ext
  simp [ByteArray.data_append]
theorem lit1 (c : UInt8) : (⟨#[c]⟩ : ByteArray) = bsA [c] := rfl
theorem lit2 (c d : UInt8) : (⟨#[c, d]⟩ : ByteArray) = bsA [c, d] := rfl
theorem line_len (n t : Nat) (x : Int) (c : ByteArray) (hn : n < 18446744073709551616) (ht : t < 4294967296) (h0 : -9223372036854775808 ≤ x) (h1 : x ≤ 9223372036854775807) : (lineB n t x c.data.toList).length ≤ 202 + 3 * c.size := by
  have z1 := dec_len n hn
  have z2 := dec_len t (by omega)
  have z3 := itoa_small x h0 h1
  rw [size_arr] at z3
  have q := quoted_len c.data.toList
  have e : c.data.toList.length = c.size := Array.length_toList
  unfold lineB headB
  simp only [List.length_append, List.length_cons, List.length_nil]
  omega
theorem line_ev (n t : Nat) (x : Int) (c : ByteArray) (hn : n < 18446744073709551616) (ht : t < 4294967296) (h0 : -9223372036854775808 ≤ x) (h1 : x ≤ 9223372036854775807) (hc : c.size ≤ 35184372088832) :
    Ev (fun k => P.congressref20_Line.f k (n : Int) (t : Int) c x) (bsA (lineB n t x c.data.toList)) := by
  have z1 := dec_len n hn
  have z2 := dec_len t (by omega)
  have z3 := itoa_small x h0 h1
  rw [size_arr] at z3
  have q := quoted_len c.data.toList
  have e : c.data.toList.length = c.size := Array.length_toList
  have hw : IntKind.u64.wrap (t : Int) = (t : Int) := by rw [IntKind.wrap_u64]; omega
  obtain ⟨K1, e1⟩ := digits_ev n hn
  obtain ⟨K2, e2⟩ := digits_ev t (by omega)
  obtain ⟨K3, e3⟩ := signed_ev x h0 h1
  refine ⟨max K1 (max K2 K3), fun k hk => ?_⟩
  have f1 := e1 k (by omega)
  have f2 := e2 k (by omega)
  have f3 := e3 k (by omega)
  have f4 : P.congressref20_Quoted.f k c = some (bsA (quoted c.data.toList)) := by
    unfold P.congressref20_Quoted.f; rw [if_pos (by omega)]; rfl
  unfold P.congressref20_Line.f
  simp only [hw, f1, f2, f3, f4, Option.bind_some, lit1, lit2, bsA_app, bsA_size, List.length_append, List.length_cons, List.length_nil]
  repeat rw [if_pos (by omega)]
  congr 2
  unfold lineB headB
  simp
/-! ### word, number, code -/
theorem word_l0 (s : ByteArray) (hs : s.size ≤ 281474976710656) : ∀ (n i : Nat), i + n = s.size → (∀ j, j < i → s.data.toList.getD j 0 ≠ 32) →
    P.congressref20_word.l0 (n + 1) s (i : Int) = some (if (cut1 32 s.data.toList).2.2 = true then (bsA (cut1 32 s.data.toList).1, bsA (cut1 32 s.data.toList).2.1, true) else (⟨#[]⟩, ⟨#[]⟩, false))
  | n, i, hi, hno => by
    have hsl : s.data.toList.length = s.size := by rw [Array.length_toList]; rfl
    match n, hi with
    | 0, hi =>
      have hn : (32 : UInt8) ∉ s.data.toList := by
        intro hm
        obtain ⟨j, hj, hv⟩ := List.getElem_of_mem hm
        apply hno j (by omega)
        rw [List.getD_eq_getElem?_getD, List.getElem?_eq_getElem hj, hv]
        rfl
      rw [P.congressref20_word.l0, if_neg (by omega), cut1_no hn]
      rfl
    | n + 1, hi =>
      have hw : wrap64 ((i : Int) + 1) = ((i + 1 : Nat) : Int) := by unfold wrap64; omega
      rw [P.congressref20_word.l0, if_pos (by omega), if_pos (by omega), bt_nat s i (by omega), hw]
      by_cases hb : s.data.toList.getD i 0 = 32
      · have hb2 : ((s.data.toList.getD i 0).toNat : Int) = 32 := by rw [hb]; rfl
        rw [if_pos hb2, if_pos (by omega), if_pos (by omega), if_pos (by omega)]
        have hsplit : s.data.toList = s.data.toList.take i ++ 32 :: s.data.toList.drop (i + 1) := by
          have h1 : s.data.toList.drop i = 32 :: s.data.toList.drop (i + 1) := by
            rw [List.drop_eq_getElem_cons (by rw [hsl]; omega)]
            congr 1
            rw [List.getD_eq_getElem?_getD, List.getElem?_eq_getElem (by rw [hsl]; omega)] at hb
            exact hb
          rw [← h1, List.take_append_drop]
        have hnm : (32 : UInt8) ∉ s.data.toList.take i := by
          intro hmem
          obtain ⟨j, hj, hv⟩ := List.getElem_of_mem hmem
          rw [List.length_take, hsl] at hj
          rw [List.getElem_take] at hv
          apply hno j (by omega)
          rw [List.getD_eq_getElem?_getD, List.getElem?_eq_getElem (by rw [hsl]; omega), hv]
          rfl
        have hcut : cut1 32 s.data.toList = (s.data.toList.take i, s.data.toList.drop (i + 1), true) := by
          conv => lhs; rw [hsplit]
          exact cut1_at hnm
        rw [hcut, if_pos rfl, Int.toNat_natCast, Int.toNat_natCast, extract_bs, extract_bs, List.drop_zero, Nat.sub_zero, List.take_of_length_le (l := s.data.toList.drop (i + 1)) (by rw [List.length_drop, hsl]; exact Nat.le_refl _)]
      · have hb2 : ¬ ((s.data.toList.getD i 0).toNat : Int) = 32 := by
          intro h
          apply hb
          have : (s.data.toList.getD i 0).toNat = 32 := by omega
          exact UInt8.toNat_inj.1 this
        rw [if_neg hb2]
        exact word_l0 s hs n (i + 1) (by omega) (fun j hj => by
          by_cases hji : j = i
          · subst hji; exact hb
          · exact hno j (by omega))
theorem word_ev (s : ByteArray) (hs : s.size ≤ 281474976710656) : Ev (fun k => P.congressref20_word.f k s) (if (cut1 32 s.data.toList).2.2 = true then (bsA (cut1 32 s.data.toList).1, bsA (cut1 32 s.data.toList).2.1, true) else (⟨#[]⟩, ⟨#[]⟩, false)) :=
  Ev.of (fun k => P.congressref20_word.mono _ k) (word_l0 s hs s.size 0 (Nat.zero_add _) (fun j h => absurd h (Nat.not_lt_zero _)))
theorem number_ev (l : List UInt8) : ∃ m : Nat, m < 18446744073709551616 ∧ Ev (fun k => P.congressref20_number.f k (bsA l)) (match numL l with | some n => ((n : Int), true) | none => ((m : Int), false)) := by
  obtain ⟨m, h, hm⟩ := number_f l
  exact ⟨m, hm, Ev.of (fun k => P.congressref20_number.mono _ k) h⟩
def codeL (l : List UInt8) : Option Int := match l with
  | [] => none
  | c :: r => if c = 45 then (numL r).bind fun n => if 0 < n ∧ n ≤ 9223372036854775808 then some (-(n : Int)) else none else (numL (c :: r)).bind fun n => if n ≤ 9223372036854775807 then some (n : Int) else none
theorem codeL_cons (c : UInt8) (r : List UInt8) : codeL (c :: r) = if c = 45 then (numL r).bind fun n => if 0 < n ∧ n ≤ 9223372036854775808 then some (-(n : Int)) else none else (numL (c :: r)).bind fun n => if n ≤ 9223372036854775807 then some (n : Int) else none := rfl
theorem numL_lt {l : List UInt8} {n : Nat} (h : numL l = some n) : n < 18446744073709551616 := by
  unfold numL at h
  obtain ⟨m, hm, h⟩ := Option.bind_eq_some_iff.1 h
  split at h
  · cases h; exact puL_lt hm
  · cases h
theorem code_ev (l : List UInt8) : ∃ m : Int, Ev (fun k => P.congressref20_code.f k (bsA l)) (match codeL l with | some n => (n, true) | none => (m, false)) := by
  match l with
  | [] =>
    obtain ⟨m, hm, K, hK⟩ := number_ev []
    refine ⟨wrap64 (m : Int), K + 1, fun k hk => ?_⟩
    obtain ⟨j, rfl⟩ : ∃ j, k = j + 1 := ⟨k - 1, by omega⟩
    have h : P.congressref20_number.f j (bsA []) = _ := hK j (by omega)
    have hn : numL [] = none := rfl
    rw [hn] at h
    show P.congressref20_code.f (j + 1) (bsA []) = _
    unfold P.congressref20_code.f
    rw [if_neg (by rw [bsA_size]; simp), P.congressref20_code.j0, if_neg (by decide)]
    simp only [h, Option.bind_some]
    rfl
  | c :: r =>
    have hsz : ((bsA (c :: r)).size : Int) > 0 := by rw [bsA_size, List.length_cons]; omega
    have hb : bt (bsA (c :: r)) 0 = (c.toNat : Int) := bt_nat _ 0 (by rw [bsA_size]; simp)
    by_cases hc : c = 45
    · subst hc
      obtain ⟨m, hm, K, hK⟩ := number_ev r
      have hx : (bsA (45 :: r)).extract 1 (bsA (45 :: r)).size = bsA r := by
        rw [extract_bs]
        show bsA ((List.drop 1 (45 :: r)).take _) = _
        rw [bsA_size, List.length_cons, List.drop_succ_cons, List.drop_zero, List.take_of_length_le (by omega)]
      refine ⟨match numL r with | some n => wrap64 (IntKind.u64.wrap (-(n : Int))) | none => wrap64 (IntKind.u64.wrap (-(m : Int))), K + 1, fun k hk => ?_⟩
      obtain ⟨j, rfl⟩ : ∃ j, k = j + 1 := ⟨k - 1, by omega⟩
      have h : P.congressref20_number.f j (bsA r) = _ := hK j (by omega)
      have hj : ∀ b, P.congressref20_code.f (j + 1) (bsA (45 :: r)) = P.congressref20_code.j0 (j + 1) (bsA (45 :: r)) b → b = true → P.congressref20_code.f (j + 1) (bsA (45 :: r)) = (P.congressref20_number.f j (bsA r)).bind fun bt187 => (if bt187.2 = true then (if bt187.1 > 0 then (some (wrap64 (IntKind.u64.wrap (-bt187.1)), decide (bt187.1 ≤ 9223372036854775808))) else (some (wrap64 (IntKind.u64.wrap (-bt187.1)), false))) else (some (wrap64 (IntKind.u64.wrap (-bt187.1)), false))) := by
        intro b hb1 hb2
        rw [hb1, P.congressref20_code.j0, if_pos hb2, if_pos (by omega), hx]
      have hf := hj true (by unfold P.congressref20_code.f; rw [if_pos hsz, if_pos (by omega), hb]; rfl) rfl
      show P.congressref20_code.f (j + 1) (bsA (45 :: r)) = _
      rw [hf, h, Option.bind_some]
      rw [codeL_cons, if_pos rfl]
      cases hn : numL r with
      | none => simp
      | some n =>
        have hlt := numL_lt hn
        simp only [Option.bind_some]
        by_cases h0 : 0 < n
        · rw [if_pos trivial, if_pos (by omega)]
          by_cases h1 : n ≤ 9223372036854775808
          · rw [if_pos ⟨h0, h1⟩]
            simp only
            congr 2
            · rw [IntKind.wrap_u64]; unfold wrap64; omega
            · exact decide_eq_true (by omega)
          · rw [if_neg (fun h => h1 h.2)]
            simp only
            congr 2
            exact decide_eq_false (by omega)
        · rw [if_pos trivial, if_neg (by omega), if_neg (fun h => h0 h.1)]
    · obtain ⟨m, hm, K, hK⟩ := number_ev (c :: r)
      refine ⟨match numL (c :: r) with | some n => wrap64 (n : Int) | none => wrap64 (m : Int), K + 1, fun k hk => ?_⟩
      obtain ⟨j, rfl⟩ : ∃ j, k = j + 1 := ⟨k - 1, by omega⟩
      have h : P.congressref20_number.f j (bsA (c :: r)) = _ := hK j (by omega)
      have hcn : ¬ (c.toNat : Int) = 45 := fun e => hc (UInt8.toNat_inj.1 (by show c.toNat = 45; omega))
      have hf : P.congressref20_code.f (j + 1) (bsA (c :: r)) = (P.congressref20_number.f j (bsA (c :: r))).bind fun bt189 => (if bt189.2 = true then (some (wrap64 (bt189.1), decide (bt189.1 ≤ 9223372036854775807))) else (some (wrap64 (bt189.1), false))) := by
        unfold P.congressref20_code.f
        rw [if_pos hsz, if_pos (by omega), hb, P.congressref20_code.j0, if_neg (by rw [beq_iff_eq]; exact hcn)]
      show P.congressref20_code.f (j + 1) (bsA (c :: r)) = _
      rw [hf, h, Option.bind_some]
      rw [codeL_cons, if_neg hc]
      cases hn : numL (c :: r) with
      | none => simp
      | some n =>
        have hlt := numL_lt hn
        simp only [Option.bind_some]
        rw [if_pos trivial]
        by_cases h1 : n ≤ 9223372036854775807
        · rw [if_pos h1]
          simp only
          congr 2
          · unfold wrap64; omega
          · exact decide_eq_true (by omega)
        · rw [if_neg h1]
          simp only
          congr 2
          exact decide_eq_false (by omega)
theorem codeL_itoa (x : Int) (h0 : -9223372036854775808 ≤ x) (h1 : x ≤ 9223372036854775807) : codeL (Lib.itoa x) = some x := by
  unfold Lib.itoa
  by_cases h : x < 0
  · rw [if_pos h]
    rw [codeL_cons, if_pos rfl, numL_of _ (by omega), Option.bind_some, if_pos (by omega)]
    congr 1
    omega
  · rw [if_neg h]
    have hd := numL_of x.toNat (by omega)
    cases hq : Lib.decDigits x.toNat with
    | nil => exact absurd hq (dec_ne _)
    | cons c r =>
      have hc : ¬ c = 45 := by
        intro e
        have := dec_digit x.toNat c (by rw [hq]; simp)
        subst e
        revert this
        decide
      rw [hq] at hd
      rw [codeL_cons, if_neg hc, hd, Option.bind_some, if_pos (by omega)]
      congr 1
      omega
/-! ### ParseUint of 32 bits, ParseInt -/
def pu32 (l : List UInt8) : Option Nat := match Lib.parseUintB 32 l with | .ok n => some n | _ => none
def pi64 (l : List UInt8) : Option Int := match Lib.parseIntB 64 l with | .ok n => some n | _ => none
theorem pu32_dec (u : Nat) (h : u < 4294967296) : pu32 (Lib.decDigits u) = some u := by
  unfold pu32 Lib.parseUintB
  rw [if_neg (dec_ne u)]
  have := parse_dec (2 ^ 32 - 1) (by decide) u [] (by omega)
  rw [List.append_nil] at this
  rw [this]
  rfl
theorem pub_dec (u : Nat) (h : u < 18446744073709551616) : Lib.parseUintB 64 (Lib.decDigits u) = .ok u := by
  unfold Lib.parseUintB
  rw [if_neg (dec_ne u)]
  have := parse_dec (2 ^ 64 - 1) (by decide) u [] (by omega)
  rw [List.append_nil] at this
  rw [this]
  rfl
theorem pi64_itoa (x : Int) (h0 : -9223372036854775808 ≤ x) (h1 : x ≤ 9223372036854775807) : pi64 (Lib.itoa x) = some x := by
  unfold pi64 Lib.itoa
  have p63 : (2 : Nat) ^ (64 - 1) = 9223372036854775808 := by decide
  by_cases h : x < 0
  · rw [if_pos h]
    unfold Lib.parseIntB
    have e : (45 : UInt8).toNat = 45 := rfl
    simp only [e, or_true, if_true, pub_dec x.natAbs (by omega), not_true, false_and, if_false, true_and, p63]
    rw [if_neg (by omega)]
    simp only
    congr 1
    omega
  · rw [if_neg h]
    have hd := pub_dec x.toNat (by omega)
    cases hq : Lib.decDigits x.toNat with
    | nil => exact absurd hq (dec_ne _)
    | cons c r =>
      have hc := dec_digit x.toNat c (by rw [hq]; simp)
      rw [hq] at hd
      unfold Lib.parseIntB
      have c1 : ¬ c.toNat = 43 := by omega
      have c2 : ¬ c.toNat = 45 := by omega
      simp only [c1, c2, or_self, if_false, hd, not_false_eq_true, true_and, false_and, if_false, p63]
      rw [if_neg (by omega)]
      simp only
      congr 1
      omega
end Go.Proofs.YtoeioacgpildpaaDoor
