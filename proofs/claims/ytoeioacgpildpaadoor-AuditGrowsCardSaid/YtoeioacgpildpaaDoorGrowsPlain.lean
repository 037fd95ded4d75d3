/- A list of records with one more: an audit stays one, one failure more or none, what stood stands. -/
import Derived.Test.YtoeioacgpildpaaDoorFixed
set_option linter.unusedVariables false
namespace Go.Proofs.YtoeioacgpildpaaDoor
open Go.Proofs Go.RowKit Go.Proofs.YtoeioacgpildpaaDoorW.PrintWords
open Go.Proofs.YtoeioacgpildpaaDoor.P (S27 k27 z27 rd_T27)
theorem allFrom_snoc (l : List S27) : ∀ n i, allFrom l i (n + 1) = (allFrom l i n && chkAt l (i + n))
  | 0, i => by simp [allFrom]
  | n + 1, i => by
    have ih := allFrom_snoc l n (i + 1)
    rw [show allFrom l i (n + 1 + 1) = (chkAt l i && allFrom l (i + 1) (n + 1)) from rfl, ih, show allFrom l i (n + 1) = (chkAt l i && allFrom l (i + 1) n) from rfl, Bool.and_assoc, show i + 1 + n = i + (n + 1) from by omega]
theorem allFrom_congr {l m : List S27} : ∀ n i, (∀ j, i ≤ j → j < i + n → chkAt l j = chkAt m j) → allFrom l i n = allFrom m i n
  | 0, i, _ => rfl
  | n + 1, i, h => by
    rw [show allFrom l i (n + 1) = (chkAt l i && allFrom l (i + 1) n) from rfl, show allFrom m i (n + 1) = (chkAt m i && allFrom m (i + 1) n) from rfl, h i (Nat.le_refl _) (by omega), allFrom_congr n (i + 1) (fun j h1 h2 => h j (by omega) (by omega))]
theorem getD_old {l : List S27} {x : S27} {i : Nat} (h : i < l.length) : (l ++ [x]).getD i z27 = l.getD i z27 := by
  rw [List.getD_eq_getElem?_getD, List.getD_eq_getElem?_getD, List.getElem?_append_left h]
theorem getD_new {l : List S27} {x : S27} : (l ++ [x]).getD l.length z27 = x := by
  rw [List.getD_eq_getElem?_getD, List.getElem?_append_right (Nat.le_refl _)]
  simp
def newR (l : List S27) (t : Int) (s : ByteArray) (k : Int) : S27 := ⟨IntKind.u64.wrap ((l.length : Int) + 1), tickL l t, s, k⟩
theorem addL_eq (l : List S27) (t : Int) (s : ByteArray) (k : Int) : addL l t s k = l ++ [newR l t s k] := rfl
theorem addL_len (l : List S27) (t : Int) (s : ByteArray) (k : Int) : (addL l t s k).length = l.length + 1 := by rw [addL_eq, List.length_append, List.length_singleton]
theorem tickL_ge (l : List S27) (t : Int) : t ≤ tickL l t := by
  unfold tickL
  split
  · split <;> omega
  · omega
theorem tickL_last (l : List S27) (t : Int) (h : 0 < l.length) : (l.getD (l.length - 1) z27).f1 ≤ tickL l t := by
  unfold tickL
  rw [if_pos h]
  split <;> omega
theorem check_add (l : List S27) (t : Int) (s : ByteArray) (k : Int) (h : checkL l = true) : checkL (addL l t s k) = true := by
  unfold checkL at h ⊢
  rw [addL_len, allFrom_snoc, Nat.zero_add, allFrom_congr (m := l) l.length 0 (fun j _ hj => ?_), h, Bool.true_and]
  · rw [addL_eq]
    unfold chkAt
    rw [getD_new]
    by_cases h0 : l.length = 0
    · rw [decide_eq_true h0, decide_eq_true (show (newR l t s k).f0 = IntKind.u64.wrap ((l.length : Int) + 1) from rfl)]
      rfl
    · rw [decide_eq_true (show (newR l t s k).f0 = IntKind.u64.wrap ((l.length : Int) + 1) from rfl), getD_old (show l.length - 1 < l.length by omega)]
      have := tickL_last l t (by omega)
      rw [decide_eq_true (show ¬ (newR l t s k).f1 < (l.getD (l.length - 1) z27).f1 from by show ¬ tickL l t < _; omega)]
      simp
  · rw [Nat.zero_add] at hj
    rw [addL_eq]
    unfold chkAt
    rw [getD_old hj]
    by_cases h0 : j = 0
    · rw [decide_eq_true h0]
      simp
    · rw [getD_old (show j - 1 < l.length by omega)]
theorem cntF_add (l : List S27) (t : Int) (s : ByteArray) (k : Int) : cntF (addL l t s k) = cntF l + if k = 0 then 0 else 1 := by
  rw [addL_eq]
  unfold cntF
  rw [List.filter_append, List.length_append]
  congr 1
  by_cases h : k = 0
  · rw [if_pos h, List.filter_cons_of_neg (by show ¬ (k != 0) = true; rw [h]; decide)]
    rfl
  · rw [if_neg h, List.filter_cons_of_pos (by show (k != 0) = true; exact bne_iff_ne.mpr h)]
    rfl
theorem C_take {w : World} {A : Option Addr} {xs ys : List S27} {n : Nat} (h : Kd.C k27 w A n (xs ++ ys)) : Kd.C k27 w A xs.length xs := by
  have hl := Kd.C_len h
  rw [List.length_append] at hl
  refine ⟨rfl, by have := h.2.1; omega, fun hp => ?_⟩
  obtain ⟨ad, e, hr⟩ := h.2.2 (by omega)
  exact ⟨ad, e, fun j p hj => hr j p (by rw [List.getElem?_append_left (List.getElem?_eq_some_iff.1 hj).1]; exact hj)⟩
end Go.Proofs.YtoeioacgpildpaaDoor
