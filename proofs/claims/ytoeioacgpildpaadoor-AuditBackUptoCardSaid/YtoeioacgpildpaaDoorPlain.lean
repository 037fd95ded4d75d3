/- What the printed functions on lists of records answer, in plain words: the document's Add, Check, Failed, Same, and the program's. -/
import Derived.Test.YtoeioacgpildpaaDoorAdd
import Derived.Test.YtoeioacgpildpaaDoorP3
set_option linter.unusedVariables false
set_option linter.unusedSimpArgs false
namespace Go.Proofs.YtoeioacgpildpaaDoor
open Go.Proofs Go.RowKit
open Go.Proofs.YtoeioacgpildpaaDoor.P (S27 k27 z27 rd_T27)

theorem rd_nat (l : List S27) (i : Nat) : rd_T27 l (i : Int) = l.getD i z27 := by unfold rd_T27; rw [Int.toNat_natCast]
/-- Record i stands as an audit asks. -/
def chkAt (l : List S27) (i : Nat) : Bool := decide ((l.getD i z27).f0 = IntKind.u64.wrap ((i : Int) + 1)) && (decide (i = 0) || decide (¬ (l.getD i z27).f1 < (l.getD (i - 1) z27).f1))
def allFrom (l : List S27) : Nat → Nat → Bool
  | _, 0 => true
  | i, n + 1 => chkAt l i && allFrom l (i + 1) n
def checkL (l : List S27) : Bool := allFrom l 0 l.length
theorem check_l0 (l : List S27) (hl : l.length < 4611686018427387904) : ∀ n i, i + n = l.length → P.audit_Check.l0 (n + 1) l l (l.length : Int) (i : Int) = some (allFrom l i n)
  | 0, i, h => by
    rw [P.audit_Check.l0, if_neg (by omega)]
    rfl
  | n + 1, i, h => by
    have hw1 : IntKind.u64.wrap (i : Int) = (i : Int) := by rw [IntKind.wrap_u64]; omega
    have hw2 : wrap64 ((i : Int) + 1) = ((i + 1 : Nat) : Int) := by unfold wrap64; omega
    have ih := check_l0 l hl n (i + 1) (by omega)
    rw [P.audit_Check.l0, if_pos (by omega), if_pos (by omega), if_pos (by omega), rd_nat, hw1, hw2, ih]
    rw [show allFrom l i (n + 1) = (chkAt l i && allFrom l (i + 1) n) from rfl]
    unfold chkAt
    by_cases h0 : (l.getD i z27).f0 = IntKind.u64.wrap ((i : Int) + 1)
    · rw [if_pos h0, decide_eq_true h0]
      by_cases hi : i = 0
      · subst hi
        rw [if_neg (by decide)]
        rfl
      · have hw3 : wrap64 ((i : Int) - 1) = ((i - 1 : Nat) : Int) := by unfold wrap64; omega
        rw [if_pos (by omega), hw3, if_pos (by omega), if_pos (by omega), rd_nat, decide_eq_false hi]
        by_cases h2 : (l.getD i z27).f1 < (l.getD (i - 1) z27).f1
        · rw [if_pos h2, decide_eq_false (not_not_intro h2)]
          rfl
        · rw [if_neg h2, decide_eq_true h2]
          rfl
    · rw [if_neg h0, decide_eq_false h0]
      rfl
theorem rcheck_l0 (l : List S27) (hl : l.length < 4611686018427387904) : ∀ n i, i + n = l.length → P.congressref20_Check.l0 (n + 1) l (i : Int) = some (allFrom l i n)
  | 0, i, h => by
    rw [P.congressref20_Check.l0, if_neg (by omega)]
    rfl
  | n + 1, i, h => by
    have hw2 : wrap64 ((i : Int) + 1) = ((i + 1 : Nat) : Int) := by unfold wrap64; omega
    have ih := rcheck_l0 l hl n (i + 1) (by omega)
    rw [P.congressref20_Check.l0, if_pos (by omega), if_pos (by omega), rd_nat, hw2, ih, show ((i + 1 : Nat) : Int) = (i : Int) + 1 from rfl]
    rw [show allFrom l i (n + 1) = (chkAt l i && allFrom l (i + 1) n) from rfl]
    unfold chkAt
    by_cases h0 : (l.getD i z27).f0 = IntKind.u64.wrap ((i : Int) + 1)
    · rw [if_pos h0, decide_eq_true h0]
      by_cases hi : i = 0
      · subst hi
        rw [if_neg (by decide)]
        rfl
      · have hw3 : wrap64 ((i : Int) - 1) = ((i - 1 : Nat) : Int) := by unfold wrap64; omega
        rw [if_pos (by omega), hw3, if_pos (by omega), if_pos (by omega), rd_nat, decide_eq_false hi]
        by_cases h2 : (l.getD i z27).f1 < (l.getD (i - 1) z27).f1
        · rw [if_pos h2, decide_eq_false (not_not_intro h2)]
          rfl
        · rw [if_neg h2, decide_eq_true h2]
          rfl
    · rw [if_neg h0, decide_eq_false h0]
      rfl
theorem check_f (l : List S27) (hl : l.length < 4611686018427387904) : P.audit_Check.f (l.length + 1) l = some (checkL l) := check_l0 l hl l.length 0 (Nat.zero_add _)
theorem rcheck_f (l : List S27) (hl : l.length < 4611686018427387904) : P.congressref20_Check.f (l.length + 1) l = some (checkL l) := rcheck_l0 l hl l.length 0 (Nat.zero_add _)
/-- How many failed. -/
def cntF (l : List S27) : Nat := (l.filter fun x => x.f3 != 0).length
theorem cntF_le (l : List S27) : cntF l ≤ l.length := List.length_filter_le _ _
theorem drop_at {l : List S27} {i : Nat} (h : i < l.length) : l.drop i = l.getD i z27 :: l.drop (i + 1) := by
  rw [List.drop_eq_getElem_cons h, List.getD_eq_getElem?_getD, List.getElem?_eq_getElem h]; rfl
theorem cntF_step {l : List S27} {i : Nat} (h : i < l.length) : cntF (l.drop i) = (if (l.getD i z27).f3 = 0 then 0 else 1) + cntF (l.drop (i + 1)) := by
  rw [drop_at h]
  unfold cntF
  by_cases h0 : (l.getD i z27).f3 = 0
  · rw [if_pos h0, List.filter_cons_of_neg (by rw [h0]; decide), Nat.zero_add]
  · rw [if_neg h0, List.filter_cons_of_pos (p := fun x : S27 => x.f3 != 0) (bne_iff_ne.mpr h0), List.length_cons, Nat.add_comm]
theorem failed_l0 (l : List S27) (hl : l.length < 2305843009213693952) : ∀ n i a, i + n = l.length → a ≤ i → P.audit_Failed.l0 (n + 1) (a : Int) l (l.length : Int) (i : Int) = some ((a + cntF (l.drop i) : Nat) : Int)
  | 0, i, a, h, _ => by
    rw [P.audit_Failed.l0, if_neg (by omega), List.drop_eq_nil_of_le (by omega)]
    rfl
  | n + 1, i, a, h, ha => by
    have hw2 : wrap64 ((i : Int) + 1) = ((i + 1 : Nat) : Int) := by unfold wrap64; omega
    have hw3 : wrap64 ((a : Int) + 1) = ((a + 1 : Nat) : Int) := by unfold wrap64; omega
    have ih1 := failed_l0 l hl n (i + 1) a (by omega) (by omega)
    have ih2 := failed_l0 l hl n (i + 1) (a + 1) (by omega) (by omega)
    rw [P.audit_Failed.l0, if_pos (by omega), if_pos (by omega), if_pos (by omega), rd_nat, hw2, hw3, ih1, ih2, cntF_step (l := l) (i := i) (by omega)]
    by_cases h0 : (l.getD i z27).f3 = 0
    · rw [if_pos h0, if_pos h0, Nat.zero_add]
    · rw [if_neg h0, if_neg h0, Nat.add_assoc]
theorem failed_f (l : List S27) (hl : l.length < 2305843009213693952) : P.audit_Failed.f (l.length + 1) l = some ((cntF l : Nat) : Int) := by
  have := failed_l0 l hl l.length 0 0 (Nat.zero_add _) (Nat.le_refl _)
  rw [List.drop_zero, Nat.zero_add] at this
  exact this
theorem same_l0 (l : List S27) (hl : l.length < 4611686018427387904) : ∀ n i, i + n = l.length → P.congressref20_Same.l0 (n + 1) l l (i : Int) = some true
  | 0, i, h => by rw [P.congressref20_Same.l0, if_neg (by omega)]
  | n + 1, i, h => by
    have hw2 : wrap64 ((i : Int) + 1) = ((i + 1 : Nat) : Int) := by unfold wrap64; omega
    rw [P.congressref20_Same.l0, if_pos (by omega), if_pos (by omega), if_pos (by omega), hw2, same_l0 l hl n (i + 1) (by omega), if_neg (by simp)]
theorem same_f (l : List S27) (hl : l.length < 4611686018427387904) : P.congressref20_Same.f (l.length + 1) l l = some true := by
  unfold P.congressref20_Same.f
  rw [if_pos rfl]
  exact same_l0 l hl l.length 0 (Nat.zero_add _)
end Go.Proofs.YtoeioacgpildpaaDoor
