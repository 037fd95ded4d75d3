/- The document's Words, At, Digit and Number, in plain words. -/
import Derived.Test.YtljgmbpfeajmhaaDoorParser
import Derived.Test.YtljgmbpfeajmhaaDoorP2
set_option linter.unusedVariables false
set_option linter.unusedSimpArgs false
namespace Go.Proofs.YtljgmbpfeajmhaaDoor
open Go.Proofs Go.Shelf Go.RowKit Go.Proofs.YtljgmbpfeajmhaaDoorW.PrintWords

/-- At most so many words more, and the last one is all that is left. -/
def wordsL : Nat → List UInt8 → List (List UInt8)
  | 0, l => [l]
  | m + 1, l => if (cut1 32 l).2.2 = true then (cut1 32 l).1 :: wordsL m (cut1 32 l).2.1 else [l]
theorem cut1_at {c : UInt8} : ∀ {x y : List UInt8}, c ∉ x → cut1 c (x ++ c :: y) = (x, y, true)
  | [], y, _ => by simp [cut1]
  | b :: x, y, h => by
    have hb : ¬ b = c := fun e => h (by simp [e])
    have ih := cut1_at (y := y) (fun hm => h (List.mem_cons_of_mem _ hm))
    rw [List.cons_append, cut1, if_neg hb, ih]
theorem cut1_no {c : UInt8} : ∀ {x : List UInt8}, c ∉ x → cut1 c x = (x, [], false)
  | [], _ => rfl
  | b :: x, h => by
    have hb : ¬ b = c := fun e => h (by simp [e])
    have ih := cut1_no (fun hm => h (List.mem_cons_of_mem _ hm))
    rw [cut1, if_neg hb, ih]
theorem bt_nat (s : ByteArray) (i : Nat) (h : i < s.size) : bt s (i : Int) = ((s.data.toList.getD i 0).toNat : Int) := by
  unfold bt
  rw [Int.toNat_natCast, dif_pos h]
  congr 2
  have : i < s.data.toList.length := by rw [Array.length_toList]; exact h
  rw [List.getD_eq_getElem?_getD, List.getElem?_eq_getElem this]
  rfl
def bsA (l : List UInt8) : ByteArray := ⟨l.toArray⟩
theorem extract_bs (s : ByteArray) (a b : Nat) : s.extract a b = bsA ((s.data.toList.drop a).take (b - a)) := extract_str rfl
theorem words_l0 (s : ByteArray) (hs : s.size ≤ 281474976710656) (m : Nat) (hm : m < 100) : ∀ (n i from_ : Nat) (out : List ByteArray), i + n = s.size → from_ ≤ i → out.length ≤ m → (∀ j, from_ ≤ j → j < i → s.data.toList.getD j 0 ≠ 32) →
    P.congressref21_Words.l0 (2 * n + 2) s ((m : Int) + 1) out (from_ : Int) (i : Int) = some (out ++ (wordsL (m - out.length) (s.data.toList.drop from_)).map bsA)
  | n, i, from_, out, hi, hf, ho, hno => by
    have hsl : s.data.toList.length = s.size := by rw [Array.length_toList]; rfl
    have hw1 : wrap64 ((m : Int) + 1 - 1) = (m : Int) := by unfold wrap64; omega
    have hend : ∀ k : Nat, P.congressref21_Words.j1 (k + 1) s ((m : Int) + 1) out (from_ : Int) (i : Int) false = some (out ++ [bsA (s.data.toList.drop from_)]) := by
      intro k
      rw [P.congressref21_Words.j1, if_neg (by decide), if_pos (by omega), if_pos (by omega), if_pos (by omega)]
      rw [Int.toNat_natCast, extract_bs, List.take_of_length_le (by rw [List.length_drop, hsl]; exact Nat.le_refl _)]
    have nob : i = s.size → (32 : UInt8) ∉ s.data.toList.drop from_ := by
      intro he hmem
      obtain ⟨j, hj, hv⟩ := List.getElem_of_mem hmem
      rw [List.length_drop, hsl] at hj
      rw [List.getElem_drop] at hv
      apply hno (from_ + j) (by omega) (by omega)
      rw [List.getD_eq_getElem?_getD, List.getElem?_eq_getElem (by rw [hsl]; omega), hv]
      rfl
    match n, hi with
    | 0, hi =>
      rw [P.congressref21_Words.l0, if_neg (by omega), hend]
      have h1 := nob (by omega)
      cases hq : m - out.length with
      | zero => rfl
      | succ q => rw [wordsL, cut1_no h1]; rfl
    | n + 1, hi =>
      rw [show 2 * (n + 1) + 2 = (2 * n + 2) + 1 + 1 by omega, P.congressref21_Words.l0, if_pos (by omega), hw1]
      by_cases hlt : out.length < m
      · rw [decide_eq_true (show (out.length : Int) < (m : Int) by omega), P.congressref21_Words.j1, if_pos rfl, if_pos (by omega), if_pos (by omega), bt_nat s i (by omega)]
        have hw2 : wrap64 ((i : Int) + 1) = ((i + 1 : Nat) : Int) := by unfold wrap64; omega
        rw [hw2]
        by_cases hb : s.data.toList.getD i 0 = 32
        · have hb2 : ((s.data.toList.getD i 0).toNat : Int) = 32 := by rw [hb]; rfl
          rw [if_pos hb2, if_pos (by omega), if_pos (by omega), if_pos (by omega), if_pos (by omega), Int.toNat_natCast, Int.toNat_natCast]
          rw [words_l0 s hs m hm n (i + 1) (i + 1) (out ++ [s.extract from_ i]) (by omega) (Nat.le_refl _) (by rw [List.length_append, List.length_singleton]; omega) (fun j h1 h2 => absurd h2 (by omega))]
          have hcut : cut1 32 (s.data.toList.drop from_) = ((s.data.toList.drop from_).take (i - from_), s.data.toList.drop (i + 1), true) := by
            have hsplit : s.data.toList.drop from_ = (s.data.toList.drop from_).take (i - from_) ++ 32 :: s.data.toList.drop (i + 1) := by
              have h1 : s.data.toList.drop i = 32 :: s.data.toList.drop (i + 1) := by
                rw [List.drop_eq_getElem_cons (by rw [hsl]; omega)]
                congr 1
                rw [List.getD_eq_getElem?_getD, List.getElem?_eq_getElem (by rw [hsl]; omega)] at hb
                exact hb
              have h2 : (s.data.toList.drop from_).drop (i - from_) = s.data.toList.drop i := by rw [List.drop_drop]; congr 1; omega
              rw [← h1, ← h2, List.take_append_drop]
            rw [hsplit]
            have hnm : (32 : UInt8) ∉ (s.data.toList.drop from_).take (i - from_) := by
              intro hmem
              obtain ⟨j, hj, hv⟩ := List.getElem_of_mem hmem
              rw [List.length_take, List.length_drop, hsl] at hj
              rw [List.getElem_take, List.getElem_drop] at hv
              apply hno (from_ + j) (by omega) (by omega)
              rw [List.getD_eq_getElem?_getD, List.getElem?_eq_getElem (by rw [hsl]; omega), hv]
              rfl
            rw [cut1_at hnm, ← hsplit]
          obtain ⟨q, hq⟩ : ∃ q, m - out.length = q + 1 := ⟨m - out.length - 1, by omega⟩
          rw [hq, wordsL, hcut, if_pos rfl, List.length_append, List.length_singleton, show m - (out.length + 1) = q by omega, extract_bs]
          simp
        · have hb2 : ¬ ((s.data.toList.getD i 0).toNat : Int) = 32 := by
            intro h
            apply hb
            have : (s.data.toList.getD i 0).toNat = 32 := by omega
            exact UInt8.toNat_inj.1 this
          rw [if_neg hb2]
          exact words_l0 s hs m hm n (i + 1) from_ out (by omega) (by omega) ho (fun j h1 h2 => by
            by_cases hj : j = i
            · subst hj; exact hb
            · exact hno j h1 (by omega))
      · rw [decide_eq_false (show ¬ (out.length : Int) < (m : Int) by omega), hend, show m - out.length = 0 by omega]
        rfl
theorem words_f (s : ByteArray) (hs : s.size ≤ 281474976710656) (m : Nat) (hm : m < 100) : P.congressref21_Words.f (2 * s.size + 2) s ((m : Int) + 1) = some ((wordsL m s.data.toList).map bsA) := by
  have := words_l0 s hs m hm s.size 0 0 [] (Nat.zero_add _) (Nat.le_refl _) (Nat.zero_le _) (fun j _ h => absurd h (Nat.not_lt_zero _))
  rw [List.nil_append, List.drop_zero, List.length_nil, Nat.sub_zero] at this
  exact this
end Go.Proofs.YtljgmbpfeajmhaaDoor
