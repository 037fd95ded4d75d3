/- What a quoted text says: the program's reading of it and the document's, in plain words. -/
import Derived.Test.YtoeioacgpildpaaDoorUq
set_option linter.unusedVariables false
set_option linter.unusedSimpArgs false
namespace Go.Proofs.YtoeioacgpildpaaDoor
open Go.Proofs Go.Shelf Go.RowKit Go.Proofs.YtoeioacgpildpaaDoorW.PrintWords Go.Proofs.YtoeioacgpildpaaDoorW.PrintLast Go.Proofs.YtoeioacgpildpaaDoorW.PrintMore
open Go.Proofs.YtoeioacgpildpaaDoor.P (S27 k27 z27)
def nibN (n : Nat) : Option Nat := if 48 ≤ n ∧ n ≤ 57 then some (n - 48) else if 97 ≤ n ∧ n ≤ 102 then some (n - 87) else none
def nib (c : UInt8) : Option Nat := nibN c.toNat
theorem nibN_lt {n x : Nat} (h : nibN n = some x) : x < 16 := by
  unfold nibN at h
  split at h
  · cases h; omega
  · split at h
    · cases h; omega
    · cases h
theorem nibble_ev (c : UInt8) : Ev (fun k => P.audit_nibble.f k (c.toNat : Int)) (match nib c with | some n => (n : Int) | none => 255) := by
  have : ∀ n : Fin 256, P.audit_nibble.f 2 (n.1 : Int) = some (match nibN n.1 with | some m => (m : Int) | none => 255) := by decide +kernel
  exact Ev.of (fun k => P.audit_nibble.mono _ k) (this ⟨c.toNat, c.toNat_lt⟩)
theorem value_ev (c : UInt8) : Ev (fun k => P.congressref20_value.f k (c.toNat : Int)) (match nib c with | some n => (n : Int) | none => -1) := by
  have : ∀ n : Fin 256, P.congressref20_value.f 20 (n.1 : Int) = some (match nibN n.1 with | some m => (m : Int) | none => -1) := by decide +kernel
  exact Ev.of (fun k => P.congressref20_value.mono _ k) (this ⟨c.toNat, c.toNat_lt⟩)
theorem or_nib (a b : Nat) (ha : a < 16) (hb : b < 16) : Go.bits .or .u8 (((a : Int) * 16) % 256) (b : Int) = ((16 * a + b : Nat) : Int) := by
  have : ∀ a b : Fin 16, Go.bits .or .u8 (((a.1 : Int) * 16) % 256) (b.1 : Int) = ((16 * a.1 + b.1 : Nat) : Int) := by decide +kernel
  exact this ⟨a, ha⟩ ⟨b, hb⟩
theorem val_nib (a b : Nat) (ha : a < 16) (hb : b < 16) : (wrap64 ((wrap64 (16 * (a : Int))) + (b : Int))) % 256 = ((16 * a + b : Nat) : Int) := by
  have : ∀ a b : Fin 16, (wrap64 ((wrap64 (16 * (a.1 : Int))) + (b.1 : Int))) % 256 = ((16 * a.1 + b.1 : Nat) : Int) := by decide +kernel
  exact this ⟨a, ha⟩ ⟨b, hb⟩
theorem byte_nib (x y : Nat) (hx : x < 16) (hy : y < 16) : (UInt8.ofNat (16 * x + y)).toNat = 16 * x + y := by rw [UInt8.toNat_ofNat']; omega
/-- What a quoted text says; none: it says none. -/
def uq : List UInt8 → Option (List UInt8)
  | [] => some []
  | [c] => if c = 37 then none else some [c]
  | [c, d] => if c = 37 then none else (uq [d]).bind fun t => some (c :: t)
  | c :: a :: b :: r => if c = 37 then (nib a).bind fun x => (nib b).bind fun y => (uq r).bind fun t => some (UInt8.ofNat (16 * x + y) :: t) else (uq (a :: b :: r)).bind fun t => some (c :: t)
theorem uq_other {c : UInt8} (r : List UInt8) (h : ¬ c = 37) : uq (c :: r) = (uq r).bind fun t => some (c :: t) := by
  match r with
  | [] =>
    show uq [c] = some [c]
    rw [uq, if_neg h]
  | [d] => conv => lhs; rw [uq, if_neg h]
  | a :: b :: r => conv => lhs; rw [uq, if_neg h]
theorem uq_short {c : UInt8} (r : List UInt8) (h : c = 37) (hr : r.length < 2) : uq (c :: r) = none := by
  match r, hr with
  | [], _ => rw [uq, if_pos h]
  | [d], _ => rw [uq, if_pos h]
theorem uq_hex {c : UInt8} (a b : UInt8) (r : List UInt8) (h : c = 37) : uq (c :: a :: b :: r) = (nib a).bind fun x => (nib b).bind fun y => (uq r).bind fun t => some (UInt8.ofNat (16 * x + y) :: t) := by
  rw [uq, if_pos h]
theorem uq_len : ∀ (l t : List UInt8), uq l = some t → t.length ≤ l.length
  | [], t, h => by cases h; exact Nat.le_refl _
  | [c], t, h => by
    unfold uq at h
    split at h
    · cases h
    · cases h; exact Nat.le_refl _
  | [c, d], t, h => by
    unfold uq at h
    split at h
    · cases h
    · obtain ⟨u, hu, h⟩ := Option.bind_eq_some_iff.1 h
      cases h
      have := uq_len [d] u hu
      simp only [List.length_cons, List.length_nil] at *
      omega
  | c :: a :: b :: r, t, h => by
    unfold uq at h
    split at h
    · obtain ⟨x, hx, h⟩ := Option.bind_eq_some_iff.1 h
      obtain ⟨y, hy, h⟩ := Option.bind_eq_some_iff.1 h
      obtain ⟨u, hu, h⟩ := Option.bind_eq_some_iff.1 h
      cases h
      have := uq_len r u hu
      simp only [List.length_cons] at *
      omega
    · obtain ⟨u, hu, h⟩ := Option.bind_eq_some_iff.1 h
      cases h
      have := uq_len (a :: b :: r) u hu
      simp only [List.length_cons] at *
      omega
theorem nib_hexd (a : Nat) (h : a < 16) : nib (hexd a) = some a := by
  have : ∀ a : Fin 16, nib (hexd a.1) = some a.1 := by decide
  exact this ⟨a, h⟩
theorem uq_quoted : ∀ c : List UInt8, uq (quoted c) = some c
  | [] => rfl
  | c :: r => by
    show uq (quote1 c ++ quoted r) = _
    have ih := uq_quoted r
    unfold quote1
    by_cases hp : isPlain c = true
    · rw [if_pos hp, List.singleton_append, uq_other _ (fun e => by subst e; revert hp; decide), ih]
      rfl
    · rw [if_neg hp]
      show uq (37 :: hexd (c.toNat / 16) :: hexd (c.toNat % 16) :: quoted r) = _
      have hlt := c.toNat_lt
      rw [uq_hex _ _ _ rfl, nib_hexd _ (by omega), nib_hexd _ (by omega), Option.bind_some, Option.bind_some, ih, Option.bind_some]
      congr 2
      apply UInt8.toNat_inj.1
      rw [UInt8.toNat_ofNat']
      omega
def numsOf (l : List UInt8) : List Int := l.map fun b => (b.toNat : Int)
def uqR (acc : List Int) (o : Option (List UInt8)) : ByteArray × Bool := match o with | some t => (strOfNums (acc ++ numsOf t), true) | none => (⟨#[]⟩, false)
theorem strOfNums_nums (t : List UInt8) : strOfNums (numsOf t) = bsA t := by
  unfold strOfNums numsOf bsA
  apply ByteArray.ext
  apply Array.ext'
  simp only [List.map_map]
  show List.map _ t = t
  conv => rhs; rw [← List.map_id t]
  apply List.map_congr_left
  intro b _
  simp
theorem ev_pos {α : Type} {c : Prop} [Decidable c] {f g : Nat → Option α} {r : α} (h : c) (k : Ev f r) : Ev (fun n => if c then f n else g n) r := Ev.congr (fun _ => if_pos h) k
theorem ev_neg {α : Type} {c : Prop} [Decidable c] {f g : Nat → Option α} {r : α} (h : ¬ c) (k : Ev g r) : Ev (fun n => if c then f n else g n) r := Ev.congr (fun _ => if_neg h) k

theorem audit_call_no (s : ByteArray) (acc : List Int) (i : Int) : Ev (fun k => P.audit_call.j1 k s acc i true) ((⟨#[]⟩ : ByteArray), false) :=
  Ev.step (f := fun _ => some ((⟨#[]⟩ : ByteArray), false)) (fun k => by rw [P.audit_call.j1, if_pos rfl]) (Ev.now _)
set_option maxHeartbeats 4000000 in
theorem audit_call_l0 (l : List UInt8) (hl : l.length ≤ 140737488355327) : ∀ (n i : Nat) (acc : List Int), i + n = l.length → acc.length ≤ i →
    Ev (fun k => P.audit_call.l0 k (bsA l) acc (i : Int)) (uqR acc (uq (l.drop i)))
  | 0, i, acc, hi, ha => by
    rw [List.drop_eq_nil_of_le (by omega)]
    refine Ev.step (f := fun _ => some (strOfNums acc, true)) (fun k => by rw [P.audit_call.l0, bsA_size, if_neg (by omega)]) ?_
    have e : uqR acc (uq []) = (strOfNums acc, true) := by unfold uqR uq numsOf; simp
    rw [e]
    exact Ev.now _
  | n + 1, i, acc, hi, ha => by
    have hd : l.drop i = l.getD i 0 :: l.drop (i + 1) := by
      rw [List.drop_eq_getElem_cons (by omega), List.getD_eq_getElem?_getD, List.getElem?_eq_getElem (by omega)]; rfl
    obtain ⟨c, hc⟩ : ∃ c, l.getD i 0 = c := ⟨_, rfl⟩
    have w1 : wrap64 ((i : Int) + 1) = ((i + 1 : Nat) : Int) := by unfold wrap64; omega
    have w2 : wrap64 ((i : Int) + 2) = ((i + 2 : Nat) : Int) := by unfold wrap64; omega
    have w3 : wrap64 (((i + 2 : Nat) : Int) + 1) = ((i + 3 : Nat) : Int) := by unfold wrap64; omega
    have b0 := bt_nat (bsA l) i (by rw [bsA_size]; omega)
    rw [bsA_data, hc] at b0
    rw [hd, hc]
    by_cases h37 : c = 37
    · have e37 : ((c.toNat : Nat) : Int) = 37 := by rw [h37]; rfl
      by_cases hlen : i + 2 < l.length
      · have hd1 : l.drop (i + 1) = l.getD (i + 1) 0 :: l.getD (i + 2) 0 :: l.drop (i + 3) := by
          rw [List.drop_eq_getElem_cons (by omega), List.drop_eq_getElem_cons (i := i + 1 + 1) (by omega), List.getD_eq_getElem?_getD, List.getElem?_eq_getElem (by omega), List.getD_eq_getElem?_getD, List.getElem?_eq_getElem (by omega)]; rfl
        obtain ⟨a, hA⟩ : ∃ a, l.getD (i + 1) 0 = a := ⟨_, rfl⟩
        obtain ⟨b, hB⟩ : ∃ b, l.getD (i + 2) 0 = b := ⟨_, rfl⟩
        have b1 := bt_nat (bsA l) (i + 1) (by rw [bsA_size]; omega)
        have b2 := bt_nat (bsA l) (i + 2) (by rw [bsA_size]; omega)
        rw [bsA_data, hA] at b1
        rw [bsA_data, hB] at b2
        rw [hd1, hA, hB, uq_hex a b _ h37]
        have p1 : (0 : Int) ≤ ((i + 2 : Nat) : Int) := by omega
        have p2 : ((i + 2 : Nat) : Int) < (l.length : Int) := by omega
        have na := nibble_ev a
        have nb := nibble_ev b
        have enter : ∀ k, P.audit_call.l0 (k + 1) (bsA l) acc (i : Int) = (P.audit_nibble.f k (a.toNat : Int)).bind fun t1 => (if t1 = 255 then (P.audit_call.j1 k (bsA l) acc (i : Int) true) else ((P.audit_nibble.f k (b.toNat : Int)).bind fun t2 => (P.audit_call.j1 k (bsA l) acc (i : Int) (t2 == 255)))) := fun k => by
          rw [P.audit_call.l0, bsA_size, if_pos (by omega), if_pos (by omega), b0, if_pos e37, w1, w2, if_neg (by omega), if_pos (by omega), if_pos (by omega), b1]
          simp only [p1, p2, if_true, b2]
        cases hna : nib a with
        | none =>
          rw [hna] at na
          exact Ev.step enter (Ev.bind na (ev_pos rfl (audit_call_no _ _ _)))
        | some x =>
          rw [hna] at na
          have hx := nibN_lt hna
          cases hnb : nib b with
          | none =>
            rw [hnb] at nb
            exact Ev.step enter (Ev.bind na (ev_neg (by simp only; omega) (Ev.bind nb (audit_call_no _ _ _))))
          | some y =>
            rw [hnb] at nb
            have hy := nibN_lt hnb
            have ef : ((y : Int) == 255) = false := by first | (rw [beq_eq_false_iff_ne]; omega) | exact decide_eq_false (by omega)
            refine Ev.step enter (Ev.bind na (ev_neg (by simp only; omega) (Ev.bind nb ?_)))
            simp only [ef]
            refine Ev.step (f := fun k => (P.audit_nibble.f k (a.toNat : Int)).bind fun t1 => ((P.audit_nibble.f k (b.toNat : Int)).bind fun t2 => (if acc.length < 140737488355328 then (P.audit_call.l0 k (bsA l) (acc ++ [Go.bits .or .u8 ((t1 * 16) % 256) t2]) ((i + 3 : Nat) : Int)) else none))) (fun k => by
              rw [P.audit_call.j1, if_neg (by decide), w1, w2, bsA_size, if_pos (by omega), if_pos (by omega), b1]
              simp only [p1, p2, if_true, b2, w3]) ?_
            refine Ev.bind na (Ev.bind nb (ev_pos (by omega) ?_))
            have ec : Go.bits .or .u8 (((x : Int) * 16) % 256) (y : Int) = ((16 * x + y : Nat) : Int) := or_nib x y hx hy
            simp only [ec]
            have ih := audit_call_l0 l hl (n - 2) (i + 3) (acc ++ [((16 * x + y : Nat) : Int)]) (by omega) (by rw [List.length_append, List.length_singleton]; omega)
            have er : uqR (acc ++ [((16 * x + y : Nat) : Int)]) (uq (l.drop (i + 3))) = uqR acc ((some x).bind fun x => (some y).bind fun y => (uq (l.drop (i + 3))).bind fun t => some (UInt8.ofNat (16 * x + y) :: t)) := by
              simp only [Option.bind_some]
              cases uq (l.drop (i + 3)) with
              | none => rfl
              | some t =>
                simp only [Option.bind_some, uqR, numsOf, List.map_cons, List.append_assoc, List.singleton_append]
                have e8 := byte_nib x y hx hy
                rw [e8]
            rw [← er]
            exact ih
      · rw [uq_short _ h37 (by rw [List.length_drop]; omega)]
        exact Ev.step (f := fun k => P.audit_call.j1 k (bsA l) acc (i : Int) true) (fun k => by
          rw [P.audit_call.l0, bsA_size, if_pos (by omega), if_pos (by omega), b0, if_pos e37, w2, if_pos (by omega)]) (audit_call_no _ _ _)
    · have e37 : ¬ ((c.toNat : Nat) : Int) = 37 := fun e => h37 (UInt8.toNat_inj.1 (by show c.toNat = 37; omega))
      rw [uq_other _ h37]
      refine Ev.step (f := fun k => P.audit_call.l0 k (bsA l) (acc ++ [(c.toNat : Int)]) ((i + 1 : Nat) : Int)) (fun k => by
        rw [P.audit_call.l0, bsA_size, if_pos (by omega), if_pos (by omega), b0, if_neg e37, if_pos (by omega), w1]) ?_
      have ih := audit_call_l0 l hl n (i + 1) (acc ++ [(c.toNat : Int)]) (by omega) (by rw [List.length_append, List.length_singleton]; omega)
      have er : uqR (acc ++ [(c.toNat : Int)]) (uq (l.drop (i + 1))) = uqR acc ((uq (l.drop (i + 1))).bind fun t => some (c :: t)) := by
        cases uq (l.drop (i + 1)) with
        | none => rfl
        | some t => simp only [Option.bind_some, uqR, numsOf, List.map_cons, List.append_assoc, List.singleton_append]
      rw [← er]
      exact ih
theorem audit_call_ev (l : List UInt8) (hl : l.length ≤ 140737488355327) : Ev (fun k => P.audit_call.f k (bsA l)) (match uq l with | some t => (bsA t, true) | none => ((⟨#[]⟩ : ByteArray), false)) := by
  have h := audit_call_l0 l hl l.length 0 [] (Nat.zero_add _) (Nat.zero_le _)
  rw [List.drop_zero] at h
  cases hu : uq l with
  | none => rw [hu] at h; exact h
  | some t =>
    rw [hu] at h
    have e : uqR [] (some t) = (bsA t, true) := by
      show (strOfNums ([] ++ numsOf t), true) = _
      rw [List.nil_append, strOfNums_nums]
    rw [e] at h
    exact h
theorem congressref20_call_no (s : ByteArray) (acc : List Int) (i : Int) : Ev (fun k => P.congressref20_call.j1 k s acc i true) ((⟨#[]⟩ : ByteArray), false) :=
  Ev.step (f := fun _ => some ((⟨#[]⟩ : ByteArray), false)) (fun k => by rw [P.congressref20_call.j1, if_pos rfl]) (Ev.now _)
set_option maxHeartbeats 4000000 in
theorem congressref20_call_l0 (l : List UInt8) (hl : l.length ≤ 140737488355327) : ∀ (n i : Nat) (acc : List Int), i + n = l.length → acc.length ≤ i →
    Ev (fun k => P.congressref20_call.l0 k (bsA l) acc (i : Int)) (uqR acc (uq (l.drop i)))
  | 0, i, acc, hi, ha => by
    rw [List.drop_eq_nil_of_le (by omega)]
    refine Ev.step (f := fun _ => some (strOfNums acc, true)) (fun k => by rw [P.congressref20_call.l0, bsA_size, if_neg (by omega)]) ?_
    have e : uqR acc (uq []) = (strOfNums acc, true) := by unfold uqR uq numsOf; simp
    rw [e]
    exact Ev.now _
  | n + 1, i, acc, hi, ha => by
    have hd : l.drop i = l.getD i 0 :: l.drop (i + 1) := by
      rw [List.drop_eq_getElem_cons (by omega), List.getD_eq_getElem?_getD, List.getElem?_eq_getElem (by omega)]; rfl
    obtain ⟨c, hc⟩ : ∃ c, l.getD i 0 = c := ⟨_, rfl⟩
    have w1 : wrap64 ((i : Int) + 1) = ((i + 1 : Nat) : Int) := by unfold wrap64; omega
    have w2 : wrap64 ((i : Int) + 2) = ((i + 2 : Nat) : Int) := by unfold wrap64; omega
    have w3 : wrap64 (((i + 2 : Nat) : Int) + 1) = ((i + 3 : Nat) : Int) := by unfold wrap64; omega
    have b0 := bt_nat (bsA l) i (by rw [bsA_size]; omega)
    rw [bsA_data, hc] at b0
    rw [hd, hc]
    by_cases h37 : c = 37
    · have e37 : ((c.toNat : Nat) : Int) = 37 := by rw [h37]; rfl
      by_cases hlen : i + 2 < l.length
      · have hd1 : l.drop (i + 1) = l.getD (i + 1) 0 :: l.getD (i + 2) 0 :: l.drop (i + 3) := by
          rw [List.drop_eq_getElem_cons (by omega), List.drop_eq_getElem_cons (i := i + 1 + 1) (by omega), List.getD_eq_getElem?_getD, List.getElem?_eq_getElem (by omega), List.getD_eq_getElem?_getD, List.getElem?_eq_getElem (by omega)]; rfl
        obtain ⟨a, hA⟩ : ∃ a, l.getD (i + 1) 0 = a := ⟨_, rfl⟩
        obtain ⟨b, hB⟩ : ∃ b, l.getD (i + 2) 0 = b := ⟨_, rfl⟩
        have b1 := bt_nat (bsA l) (i + 1) (by rw [bsA_size]; omega)
        have b2 := bt_nat (bsA l) (i + 2) (by rw [bsA_size]; omega)
        rw [bsA_data, hA] at b1
        rw [bsA_data, hB] at b2
        rw [hd1, hA, hB, uq_hex a b _ h37]
        have p1 : (0 : Int) ≤ ((i + 2 : Nat) : Int) := by omega
        have p2 : ((i + 2 : Nat) : Int) < (l.length : Int) := by omega
        have na := value_ev a
        have nb := value_ev b
        have enter : ∀ k, P.congressref20_call.l0 (k + 1) (bsA l) acc (i : Int) = (P.congressref20_value.f k (a.toNat : Int)).bind fun t1 => (if t1 < 0 then (P.congressref20_call.j1 k (bsA l) acc (i : Int) true) else ((P.congressref20_value.f k (b.toNat : Int)).bind fun t2 => (P.congressref20_call.j1 k (bsA l) acc (i : Int) (decide (t2 < 0))))) := fun k => by
          rw [P.congressref20_call.l0, bsA_size, if_pos (by omega), if_pos (by omega), b0, if_pos e37, w1, w2, if_neg (by omega), if_pos (by omega), if_pos (by omega), b1]
          simp only [p1, p2, if_true, b2]
        cases hna : nib a with
        | none =>
          rw [hna] at na
          exact Ev.step enter (Ev.bind na (ev_pos (by decide) (congressref20_call_no _ _ _)))
        | some x =>
          rw [hna] at na
          have hx := nibN_lt hna
          cases hnb : nib b with
          | none =>
            rw [hnb] at nb
            exact Ev.step enter (Ev.bind na (ev_neg (by simp only; omega) (Ev.bind nb (congressref20_call_no _ _ _))))
          | some y =>
            rw [hnb] at nb
            have hy := nibN_lt hnb
            have ef : (decide ((y : Int) < 0)) = false := by first | (rw [beq_eq_false_iff_ne]; omega) | exact decide_eq_false (by omega)
            refine Ev.step enter (Ev.bind na (ev_neg (by simp only; omega) (Ev.bind nb ?_)))
            simp only [ef]
            refine Ev.step (f := fun k => (P.congressref20_value.f k (a.toNat : Int)).bind fun t1 => ((P.congressref20_value.f k (b.toNat : Int)).bind fun t2 => (if acc.length < 140737488355328 then (P.congressref20_call.l0 k (bsA l) (acc ++ [(wrap64 ((wrap64 (16 * t1)) + t2)) % 256]) ((i + 3 : Nat) : Int)) else none))) (fun k => by
              rw [P.congressref20_call.j1, if_neg (by decide), w1, w2, bsA_size, if_pos (by omega), if_pos (by omega), b1]
              simp only [p1, p2, if_true, b2, w3]) ?_
            refine Ev.bind na (Ev.bind nb (ev_pos (by omega) ?_))
            have ec : (wrap64 ((wrap64 (16 * (x : Int))) + (y : Int))) % 256 = ((16 * x + y : Nat) : Int) := val_nib x y hx hy
            simp only [ec]
            have ih := congressref20_call_l0 l hl (n - 2) (i + 3) (acc ++ [((16 * x + y : Nat) : Int)]) (by omega) (by rw [List.length_append, List.length_singleton]; omega)
            have er : uqR (acc ++ [((16 * x + y : Nat) : Int)]) (uq (l.drop (i + 3))) = uqR acc ((some x).bind fun x => (some y).bind fun y => (uq (l.drop (i + 3))).bind fun t => some (UInt8.ofNat (16 * x + y) :: t)) := by
              simp only [Option.bind_some]
              cases uq (l.drop (i + 3)) with
              | none => rfl
              | some t =>
                simp only [Option.bind_some, uqR, numsOf, List.map_cons, List.append_assoc, List.singleton_append]
                have e8 := byte_nib x y hx hy
                rw [e8]
            rw [← er]
            exact ih
      · rw [uq_short _ h37 (by rw [List.length_drop]; omega)]
        exact Ev.step (f := fun k => P.congressref20_call.j1 k (bsA l) acc (i : Int) true) (fun k => by
          rw [P.congressref20_call.l0, bsA_size, if_pos (by omega), if_pos (by omega), b0, if_pos e37, w2, if_pos (by omega)]) (congressref20_call_no _ _ _)
    · have e37 : ¬ ((c.toNat : Nat) : Int) = 37 := fun e => h37 (UInt8.toNat_inj.1 (by show c.toNat = 37; omega))
      rw [uq_other _ h37]
      refine Ev.step (f := fun k => P.congressref20_call.l0 k (bsA l) (acc ++ [(c.toNat : Int)]) ((i + 1 : Nat) : Int)) (fun k => by
        rw [P.congressref20_call.l0, bsA_size, if_pos (by omega), if_pos (by omega), b0, if_neg e37, if_pos (by omega), w1]) ?_
      have ih := congressref20_call_l0 l hl n (i + 1) (acc ++ [(c.toNat : Int)]) (by omega) (by rw [List.length_append, List.length_singleton]; omega)
      have er : uqR (acc ++ [(c.toNat : Int)]) (uq (l.drop (i + 1))) = uqR acc ((uq (l.drop (i + 1))).bind fun t => some (c :: t)) := by
        cases uq (l.drop (i + 1)) with
        | none => rfl
        | some t => simp only [Option.bind_some, uqR, numsOf, List.map_cons, List.append_assoc, List.singleton_append]
      rw [← er]
      exact ih
theorem congressref20_call_ev (l : List UInt8) (hl : l.length ≤ 140737488355327) : Ev (fun k => P.congressref20_call.f k (bsA l)) (match uq l with | some t => (bsA t, true) | none => ((⟨#[]⟩ : ByteArray), false)) := by
  have h := congressref20_call_l0 l hl l.length 0 [] (Nat.zero_add _) (Nat.zero_le _)
  rw [List.drop_zero] at h
  cases hu : uq l with
  | none => rw [hu] at h; exact h
  | some t =>
    rw [hu] at h
    have e : uqR [] (some t) = (bsA t, true) := by
      show (strOfNums ([] ++ numsOf t), true) = _
      rw [List.nil_append, strOfNums_nums]
    rw [e] at h
    exact h
end Go.Proofs.YtoeioacgpildpaaDoor
