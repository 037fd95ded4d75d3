/- The document's Parse in plain words: it says what the program's says. -/
import Derived.Test.YtljgmbpfeajmhaaDoorNumber
set_option linter.unusedVariables false
set_option linter.unusedSimpArgs false
namespace Go.Proofs.YtljgmbpfeajmhaaDoor
open Go.Proofs Go.Shelf Go.RowKit Go.Proofs.YtljgmbpfeajmhaaDoorW.PrintWords

/-- The place of a word in a list. -/
def atI (x : ByteArray) : List ByteArray → Nat → Int
  | [], _ => -1
  | b :: r, i => if b.toList = x.toList then (i : Int) else atI x r (i + 1)
theorem at_l0 (L : List ByteArray) (x : ByteArray) (hL : L.length < 1000) : ∀ (n i : Nat), i + n = L.length → P.congressref21_At.l0 (n + 1) L x (i : Int) = some (atI x (L.drop i) i)
  | 0, i, h => by
    rw [P.congressref21_At.l0, if_neg (by omega), List.drop_eq_nil_of_le (by omega)]
    rfl
  | n + 1, i, h => by
    have hd : L.drop i = L.getD i ByteArray.empty :: L.drop (i + 1) := by
      rw [List.drop_eq_getElem_cons (by omega), List.getD_eq_getElem?_getD, List.getElem?_eq_getElem (by omega)]; rfl
    have hw : wrap64 ((i : Int) + 1) = ((i + 1 : Nat) : Int) := by unfold wrap64; omega
    rw [P.congressref21_At.l0, if_pos (by omega), if_pos (by omega), hw, at_l0 L x hL n (i + 1) (by omega), hd, atI]
    unfold rdOf
    rw [Int.toNat_natCast]
    split <;> rfl
def kindsB : List ByteArray := [(⟨#[111, 112, 101, 110]⟩ : ByteArray), ⟨#[99, 108, 111, 115, 101]⟩, ⟨#[109, 105, 110, 116]⟩, ⟨#[114, 101, 118, 111, 107, 101]⟩, ⟨#[106, 111, 105, 110]⟩, ⟨#[108, 101, 97, 118, 101]⟩, ⟨#[115, 101, 110, 100]⟩]
def svcB : List ByteArray := [(⟨#[102, 105, 102, 111]⟩ : ByteArray), ⟨#[99, 97, 117, 115, 97, 108]⟩, ⟨#[97, 103, 114, 101, 101, 100]⟩, ⟨#[115, 97, 102, 101]⟩]
def kindL (l : List UInt8) : Option Nat := if l = [111, 112, 101, 110] then some 0 else if l = [99, 108, 111, 115, 101] then some 1 else if l = [109, 105, 110, 116] then some 2 else if l = [114, 101, 118, 111, 107, 101] then some 3 else if l = [106, 111, 105, 110] then some 4 else if l = [108, 101, 97, 118, 101] then some 5 else if l = [115, 101, 110, 100] then some 6 else none
def kindI (l : List UInt8) : Int := match kindL l with | some n => n | none => -1
theorem tl (l : List UInt8) : (⟨l.toArray⟩ : ByteArray).toList = l := bsA_toList l
theorem tl' (a : Array UInt8) : (⟨a⟩ : ByteArray).toList = a.toList := by rw [Lib.toList_data]
theorem eq_flip {a b : List UInt8} : (a = b) ↔ (b = a) := ⟨Eq.symm, Eq.symm⟩
theorem kind_at (l : List UInt8) : P.congressref21_At.f 8 kindsB ⟨l.toArray⟩ = some (kindI l) := by
  have h := at_l0 kindsB ⟨l.toArray⟩ (by decide) 7 0 rfl
  have h' : P.congressref21_At.f 8 kindsB ⟨l.toArray⟩ = _ := h
  rw [h', List.drop_zero]
  by_cases h0 : l = [111, 112, 101, 110]
  · subst h0; simp [atI, kindsB, kindI, kindL, tl']
  have g0 : ¬ [111, 112, 101, 110] = l := fun e => h0 e.symm
  by_cases h1 : l = [99, 108, 111, 115, 101]
  · subst h1; simp [atI, kindsB, kindI, kindL, tl']
  have g1 : ¬ [99, 108, 111, 115, 101] = l := fun e => h1 e.symm
  by_cases h2 : l = [109, 105, 110, 116]
  · subst h2; simp [atI, kindsB, kindI, kindL, tl']
  have g2 : ¬ [109, 105, 110, 116] = l := fun e => h2 e.symm
  by_cases h3 : l = [114, 101, 118, 111, 107, 101]
  · subst h3; simp [atI, kindsB, kindI, kindL, tl']
  have g3 : ¬ [114, 101, 118, 111, 107, 101] = l := fun e => h3 e.symm
  by_cases h4 : l = [106, 111, 105, 110]
  · subst h4; simp [atI, kindsB, kindI, kindL, tl']
  have g4 : ¬ [106, 111, 105, 110] = l := fun e => h4 e.symm
  by_cases h5 : l = [108, 101, 97, 118, 101]
  · subst h5; simp [atI, kindsB, kindI, kindL, tl']
  have g5 : ¬ [108, 101, 97, 118, 101] = l := fun e => h5 e.symm
  by_cases h6 : l = [115, 101, 110, 100]
  · subst h6; simp [atI, kindsB, kindI, kindL, tl']
  have g6 : ¬ [115, 101, 110, 100] = l := fun e => h6 e.symm
  simp [atI, kindsB, kindI, kindL, tl', h0, h1, h2, h3, h4, h5, h6, g0, g1, g2, g3, g4, g5, g6]
theorem svc_at (l : List UInt8) : P.congressref21_At.f 5 svcB ⟨l.toArray⟩ = some (svcI l) := by
  have h := at_l0 svcB ⟨l.toArray⟩ (by decide) 4 0 rfl
  have h' : P.congressref21_At.f 5 svcB ⟨l.toArray⟩ = _ := h
  rw [h', List.drop_zero]
  by_cases h0 : l = [102, 105, 102, 111]
  · subst h0; simp [atI, svcB, svcI, svcAt, tl']
  have g0 : ¬ [102, 105, 102, 111] = l := fun e => h0 e.symm
  by_cases h1 : l = [99, 97, 117, 115, 97, 108]
  · subst h1; simp [atI, svcB, svcI, svcAt, tl']
  have g1 : ¬ [99, 97, 117, 115, 97, 108] = l := fun e => h1 e.symm
  by_cases h2 : l = [97, 103, 114, 101, 101, 100]
  · subst h2; simp [atI, svcB, svcI, svcAt, tl']
  have g2 : ¬ [97, 103, 114, 101, 101, 100] = l := fun e => h2 e.symm
  by_cases h3 : l = [115, 97, 102, 101]
  · subst h3; simp [atI, svcB, svcI, svcAt, tl']
  have g3 : ¬ [115, 97, 102, 101] = l := fun e => h3 e.symm
  simp [atI, svcB, svcI, svcAt, tl', h0, h1, h2, h3, g0, g1, g2, g3]
/-- A digit from a least one to 7. -/
def digL (least : Nat) (l : List UInt8) : Option Nat := match l with | [b] => if (48 ≤ b.toNat ∧ b.toNat ≤ 55) ∧ least ≤ b.toNat - 48 then some (b.toNat - 48) else none | _ => none
theorem digL_one (least : Nat) (b : UInt8) : digL least [b] = if (48 ≤ b.toNat ∧ b.toNat ≤ 55) ∧ least ≤ b.toNat - 48 then some (b.toNat - 48) else none := rfl
theorem digit_f (l : List UInt8) (least : Nat) : ∃ m : Nat, m < 256 ∧ P.congressref21_Digit.f ⟨l.toArray⟩ (least : Int) = some (match digL least l with | some n => ((n : Int), true) | none => ((m : Int), false)) := by
  unfold P.congressref21_Digit.f
  have hs : (⟨l.toArray⟩ : ByteArray).size = l.length := bsA_size l
  rw [hs]
  match l with
  | [] => exact ⟨0, by decide, rfl⟩
  | [b] =>
    rw [if_pos (by rfl), if_pos (by simp)]
    have hb : bt (⟨[b].toArray⟩ : ByteArray) 0 = (b.toNat : Int) := bt_nat _ 0 (by rw [hs]; simp)
    rw [hb]
    have hlt := b.toNat_lt
    by_cases h1 : (b.toNat : Int) < 48
    · rw [if_pos h1]
      refine ⟨0, by decide, ?_⟩
      rw [digL_one, if_neg (by omega)]
      rfl
    · rw [if_neg h1]
      by_cases h2 : (b.toNat : Int) > 55
      · rw [if_pos h2]
        refine ⟨0, by decide, ?_⟩
        rw [digL_one, if_neg (by omega)]
        rfl
      · rw [if_neg h2]
        refine ⟨b.toNat - 48, by omega, ?_⟩
        have e : ((b.toNat : Int) - 48) % 256 = ((b.toNat - 48 : Nat) : Int) := by omega
        rw [e, digL_one]
        by_cases h3 : least ≤ b.toNat - 48
        · rw [if_pos ⟨by omega, h3⟩, decide_eq_true (by omega)]
        · rw [if_neg (by omega), decide_eq_false (by omega)]
  | a :: b :: r =>
    rw [if_neg (by simp only [List.length_cons]; omega)]
    exact ⟨0, by decide, rfl⟩
def txtL (l : List UInt8) : Option (List UInt8) := match l with | 61 :: t => if t.length ≤ 16 then some t else none | _ => none
def manyL (k : Nat) : Nat := if k = 0 then 1 else if k = 1 then 2 else if k = 6 then 5 else 3
def rpL (l : List (List UInt8)) : Option Call7 :=
  (kindL (l.getD 0 [])).bind fun k => if l.length = manyL k then (if k = 0 then some z7 else
    (numL (l.getD 1 [])).bind fun h =>
      if k = 1 then some { z7 with kind := 1, handle := h }
      else if k = 2 then (digL 1 (l.getD 2 [])).bind fun n => some { z7 with kind := 2, handle := h, give := n }
      else if k = 3 then (numL (l.getD 2 [])).bind fun n => some { z7 with kind := 3, handle := h, other := n }
      else if k = 4 then (digL 0 (l.getD 2 [])).bind fun n => some { z7 with kind := 4, handle := h, grp := n }
      else if k = 5 then (digL 0 (l.getD 2 [])).bind fun n => some { z7 with kind := 5, handle := h, grp := n }
      else (digL 0 (l.getD 2 [])).bind fun n => (svcAt (l.getD 3 [])).bind fun v => (txtL (l.getD 4 [])).bind fun t => some { z7 with kind := 6, handle := h, grp := n, svc := v, txt := t }) else none
/-! ### It is what the program's parser says -/
theorem numL_u64 {l : List UInt8} {n : Nat} (h : numL l = some n) : n ≤ 18446744073709551615 := by
  unfold numL at h
  obtain ⟨m, hm, h⟩ := Option.bind_eq_some_iff.1 h
  split at h
  · cases h; have := puL_lt hm; omega
  · cases h
theorem numP_u64 (r : List UInt8) : numP 0 18446744073709551615 r false = (numL (cut1 32 r).1).bind fun n => some (n, (cut1 32 r).2.1, !(cut1 32 r).2.2) := by
  unfold numP wordP
  simp only [Bool.false_eq_true, if_false, Option.bind_some]
  cases h : numL (cut1 32 r).1 with
  | none => rfl
  | some n =>
    have := numL_u64 h
    simp only [Option.bind_some]
    rw [if_pos ⟨Nat.zero_le _, this⟩]
/-- A number from a least one to 7 is a digit. -/
theorem num_dig (least : Nat) (l : List UInt8) : ((numL l).bind fun n => if least ≤ n ∧ n ≤ 7 then some n else none) = digL least l := by
  have one : ∀ b : UInt8, 48 ≤ b.toNat → b.toNat ≤ 57 → numL [b] = some (b.toNat - 48) := by
    intro b h1 h2
    have h := numL_of (b.toNat - 48) (by omega)
    have e : Lib.decDigits (b.toNat - 48) = [b] := by
      rw [Lib.decDigits_one (by omega)]
      congr 1
      apply UInt8.toNat_inj.1
      rw [digit_nat (by omega)]
      omega
    rw [e] at h
    exact h
  cases h : numL l with
  | none =>
    rw [Option.bind_none]
    unfold digL
    split
    · rename_i b
      split
      · rename_i hb
        rw [one b hb.1.1 (by omega)] at h
        cases h
      · rfl
    · rfl
  | some n =>
    rw [Option.bind_some]
    have hd := numL_dec h
    by_cases hn : n < 10
    · rw [Lib.decDigits_one hn] at hd
      subst hd
      rw [digL_one, digit_nat hn]
      by_cases hc : least ≤ n ∧ n ≤ 7
      · rw [if_pos hc, if_pos ⟨⟨by omega, by omega⟩, by omega⟩]
        congr 1
        omega
      · rw [if_neg hc, if_neg (by omega)]
    · rw [if_neg (by omega)]
      have hl : 2 ≤ l.length := by
        rw [← hd, Lib.decDigits, dif_neg hn, List.length_append, List.length_singleton]
        have := dec_ne (n / 10)
        cases hq : Lib.decDigits (n / 10) with
        | nil => exact absurd hq this
        | cons a b => rw [List.length_cons]; omega
      unfold digL
      match l, hl with
      | a :: b :: r, _ => rfl
theorem numP_dig (least : Nat) (r : List UInt8) : numP least 7 r false = (digL least (cut1 32 r).1).bind fun n => some (n, (cut1 32 r).2.1, !(cut1 32 r).2.2) := by
  rw [← num_dig]
  unfold numP wordP
  simp only [Bool.false_eq_true, if_false, Option.bind_some]
  cases h : numL (cut1 32 r).1 with
  | none => rfl
  | some n =>
    simp only [Option.bind_some]
    split <;> rfl
theorem wordP_true (r : List UInt8) : wordP r true = none := rfl
theorem numP_true (a b : Nat) (r : List UInt8) : numP a b r true = none := rfl
theorem handP_true (r : List UInt8) : handP r true = none := rfl
theorem svcP_true (r : List UInt8) : svcP r true = none := rfl
theorem textP_true (r : List UInt8) : textP r true = none := rfl
theorem textP_f (r : List UInt8) : textP r false = (txtL r).bind fun t => some (t, r, true) := by
  unfold textP txtL
  rw [if_neg (by decide)]
  cases r with
  | nil => rfl
  | cons b t =>
    by_cases hb : b = 61
    · subst hb
      by_cases h : t.length ≤ 16
      · simp [h]
      · simp [h]
    · have e1 : ∀ (α : Type) (x : List UInt8 → α) (y : α), (match b :: t with | 61 :: l => x l | _ => y) = y := by
        intro α x y
        split
        · rename_i heq
          injection heq with h1 h2
          exact absurd h1 hb
        · rfl
      rw [e1]
      show _ = none
      split
      · rename_i heq
        injection heq with h1 h2
        exact absurd h1 hb
      · rfl
theorem svcP_f (r : List UInt8) : svcP r false = (svcAt (cut1 32 r).1).bind fun n => some (n, (cut1 32 r).2.1, !(cut1 32 r).2.2) := rfl
theorem cut1_no2 {s w0 s1 : List UInt8} (h : cut1 32 s = (w0, s1, false)) : w0 = s ∧ s1 = [] := by
  have := cut1_false (c := 32) (l := s) (by rw [h])
  rw [h] at this
  exact this.2
theorem wordsL_one {s w0 s1 : List UInt8} (m : Nat) (h : cut1 32 s = (w0, s1, false)) : wordsL m s = [s] := by
  cases m with
  | zero => rfl
  | succ m => rw [wordsL, h]; rfl
theorem wordsL_more {s w0 s1 : List UInt8} (m : Nat) (h : cut1 32 s = (w0, s1, true)) : wordsL (m + 1) s = w0 :: wordsL m s1 := by
  rw [wordsL, h]; rfl
set_option maxHeartbeats 4000000 in
theorem rp_eq (s : List UInt8) : rpL (wordsL 4 s) = callP s := by
  have hk : ∀ x : List UInt8, kindL x = if x = [111, 112, 101, 110] then some 0 else if x = [99, 108, 111, 115, 101] then some 1 else if x = [109, 105, 110, 116] then some 2 else if x = [114, 101, 118, 111, 107, 101] then some 3 else if x = [106, 111, 105, 110] then some 4 else if x = [108, 101, 97, 118, 101] then some 5 else if x = [115, 101, 110, 100] then some 6 else none := fun _ => rfl
  rcases hc1 : cut1 32 s with ⟨w0, s1, b1⟩
  have go : ∀ l : List (List UInt8), l.getD 0 [] = w0 → (∀ k, kindL w0 = some k → rpL l = fin (restP w0 s1 (!b1))) → rpL l = callP s := by
    intro l hl h
    have hcall : callP s = fin (restP w0 s1 (!b1)) := by
      unfold callP wordP
      rw [hc1]
      rfl
    rw [hcall]
    cases hq : kindL w0 with
    | some k => exact h k hq
    | none =>
      unfold rpL
      rw [hl, hq]
      unfold restP
      rw [hk] at hq
      repeat' split at hq
      all_goals first | (cases hq; done) | skip
      simp only [*, if_false]
      rfl
  cases b1 with
  | false =>
    obtain ⟨rfl, rfl⟩ := cut1_no2 hc1
    rw [wordsL_one 4 hc1]
    refine go _ rfl ?_
    intro k hq
    have hd : ([w0] : List (List UInt8)).getD 0 [] = w0 := rfl
    unfold rpL
    rw [hd, hq]
    rw [hk] at hq
    repeat' split at hq
    all_goals first | (cases hq; done) | (injection hq with hq; subst hq; subst_vars; rfl)
  | true =>
    rw [wordsL_more 3 hc1]
    rcases hc2 : cut1 32 s1 with ⟨w1, s2, b2⟩
    cases b2 with
    | false =>
      obtain ⟨rfl, rfl⟩ := cut1_no2 hc2
      rw [wordsL_one 3 hc2]
      refine go _ rfl ?_
      intro k hq
      have hd : ([w0, w1] : List (List UInt8)).getD 0 [] = w0 := rfl
      unfold rpL
      rw [hd, hq]
      rw [hk] at hq
      repeat' split at hq
      all_goals first | (cases hq; done) | (injection hq with hq; subst hq; subst_vars)
      all_goals
        simp only [Option.bind_some, manyL, restP, k_open, k_close, k_mint, k_revoke, k_join, k_leave, k_send, handP, numP_u64, hc2, Bool.not_true, Bool.not_false]
        cases hn : numL w1 <;> simp [fin, hn, numP_true, svcP_true, textP_true]
    | true =>
      rw [wordsL_more 2 hc2]
      rcases hc3 : cut1 32 s2 with ⟨w2, s3, b3⟩
      cases b3 with
      | false =>
        obtain ⟨rfl, rfl⟩ := cut1_no2 hc3
        rw [wordsL_one 2 hc3]
        refine go _ rfl ?_
        intro k hq
        have hd : ([w0, w1, w2] : List (List UInt8)).getD 0 [] = w0 := rfl
        unfold rpL
        rw [hd, hq]
        rw [hk] at hq
        repeat' split at hq
        all_goals first | (cases hq; done) | (injection hq with hq; subst hq; subst_vars)
        all_goals
          simp only [Option.bind_some, manyL, restP, k_open, k_close, k_mint, k_revoke, k_join, k_leave, k_send, handP, numP_u64, hc2, hc3, Bool.not_true, Bool.not_false]
          cases hn : numL w1 with
          | none => simp [fin, hn]
          | some h =>
            cases hn2 : numL w2 <;> cases hd0 : digL 0 w2 <;> cases hd1 : digL 1 w2 <;> simp [fin, hn, numP_u64, numP_dig, hc3, svcP_true, textP_true, hn2, hd0, hd1]
      | true =>
        rw [wordsL_more 1 hc3]
        rcases hc4 : cut1 32 s3 with ⟨w3, s4, b4⟩
        cases b4 with
        | false =>
          obtain ⟨rfl, rfl⟩ := cut1_no2 hc4
          rw [wordsL_one 1 hc4]
          refine go _ rfl ?_
          intro k hq
          have hd : ([w0, w1, w2, w3] : List (List UInt8)).getD 0 [] = w0 := rfl
          unfold rpL
          rw [hd, hq]
          rw [hk] at hq
          repeat' split at hq
          all_goals first | (cases hq; done) | (injection hq with hq; subst hq; subst_vars)
          all_goals
            simp only [Option.bind_some, manyL, restP, k_open, k_close, k_mint, k_revoke, k_join, k_leave, k_send, handP, numP_u64, hc2, hc3, Bool.not_true, Bool.not_false]
            cases hn : numL w1 with
            | none => simp [fin, hn]
            | some h =>
              cases hn2 : numL w2 <;> cases hd0 : digL 0 w2 <;> cases hd1 : digL 1 w2 <;> cases hs : svcAt w3 <;> simp [fin, hn, numP_u64, numP_dig, hc3, hc4, svcP_f, textP_true, hn2, hd0, hd1, hs]
        | true =>
          rw [wordsL_more 0 hc4]
          refine go _ rfl ?_
          intro k hq
          have hd : (w0 :: w1 :: w2 :: w3 :: wordsL 0 s4 : List (List UInt8)).getD 0 [] = w0 := rfl
          unfold rpL
          rw [hd, hq]
          rw [hk] at hq
          repeat' split at hq
          all_goals first | (cases hq; done) | (injection hq with hq; subst hq; subst_vars)
          all_goals
            simp only [Option.bind_some, manyL, wordsL, restP, k_open, k_close, k_mint, k_revoke, k_join, k_leave, k_send, handP, numP_u64, hc2, hc3, Bool.not_true, Bool.not_false]
            cases hn : numL w1 with
            | none => simp [fin, hn]
            | some h =>
              cases hn2 : numL w2 <;> cases hd0 : digL 0 w2 <;> cases hd1 : digL 1 w2 <;> cases hs : svcAt w3 <;> cases ht : txtL s4 <;> simp [fin, hn, numP_u64, numP_dig, hc3, hc4, svcP_f, textP_f, hn2, hd0, hd1, hs, ht]
end Go.Proofs.YtljgmbpfeajmhaaDoor
