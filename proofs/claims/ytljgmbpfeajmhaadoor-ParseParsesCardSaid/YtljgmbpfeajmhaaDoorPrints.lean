/- Which calls may be: their requests are parsed as they were. -/
import Derived.Test.YtljgmbpfeajmhaaDoorPlain
import Derived.Test.YtljgmbpfeajmhaaDoorWords
set_option linter.unusedVariables false
set_option linter.unusedSimpArgs false
namespace Go.Proofs.YtljgmbpfeajmhaaDoor
open Go.Proofs Go.Shelf

theorem digit_nat {d : Nat} (h : d < 10) : (UInt8.ofNat (48 + d)).toNat = 48 + d := by
  rw [UInt8.toNat_ofNat']; omega
theorem parseM_step {M acc d : Nat} (r : List UInt8) (h : d < 10) (hM : M ≤ 18446744073709551615) (hu : acc * 10 + d ≤ M) : Lib.parseUintM M acc (UInt8.ofNat (48 + d) :: r) = Lib.parseUintM M (acc * 10 + d) r := by
  rw [Lib.parseUintM, digit_nat h, if_pos (by omega), if_neg (by omega), show 48 + d - 48 = d by omega, if_neg (by omega)]
theorem parse_dec (M : Nat) (hM : M ≤ 18446744073709551615) : ∀ (u : Nat) (r : List UInt8), u ≤ M → Lib.parseUintM M 0 (Lib.decDigits u ++ r) = Lib.parseUintM M u r := by
  intro u
  induction u using Nat.strongRecOn with
  | ind u ih =>
    intro r hu
    by_cases h : u < 10
    · rw [Lib.decDigits_one h, List.singleton_append, parseM_step r h hM (by omega), Nat.zero_mul, Nat.zero_add]
    · rw [Lib.decDigits, dif_neg h, List.append_assoc, ih (u / 10) (by omega) _ (by omega), List.singleton_append, parseM_step r (by omega) hM (by omega), show u / 10 * 10 + u % 10 = u by omega]
theorem dec_ne (u : Nat) : Lib.decDigits u ≠ [] := by
  rw [Lib.decDigits]
  split <;> simp
theorem puL_dec (u : Nat) (h : u < 18446744073709551616) : puL (Lib.decDigits u) = some u := by
  unfold puL Lib.parseUintB
  rw [if_neg (dec_ne u)]
  have := parse_dec (2 ^ 64 - 1) (by decide) u [] (by omega)
  rw [List.append_nil] at this
  rw [this]
  rfl
theorem numL_of (u : Nat) (h : u < 18446744073709551616) : numL (Lib.decDigits u) = some u := by
  unfold numL
  rw [puL_dec u h, Option.bind_some, if_pos rfl]
theorem dec_digit (u : Nat) : ∀ b ∈ Lib.decDigits u, 48 ≤ b.toNat ∧ b.toNat ≤ 57 := by
  induction u using Nat.strongRecOn with
  | ind u ih =>
    rw [Lib.decDigits]
    split
    · rename_i h
      intro b hb
      rw [List.mem_singleton] at hb
      rw [hb, digit_nat h]
      omega
    · intro b hb
      rcases List.mem_append.1 hb with hb | hb
      · exact ih (u / 10) (by omega) b hb
      · rw [List.mem_singleton] at hb
        rw [hb, digit_nat (by omega)]
        omega
theorem dec_noblank (u : Nat) : (32 : UInt8) ∉ Lib.decDigits u := fun h => by
  have := (dec_digit u 32 h).1
  revert this
  decide
/-- A word that has no blank is taken whole. -/
theorem wordP_at {x r : List UInt8} (h : (32 : UInt8) ∉ x) : wordP (x ++ 32 :: r) false = some (x, r, false) := by
  unfold wordP
  rw [if_neg (by decide), cut1_at h]
  rfl
theorem wordP_end {x : List UInt8} (h : (32 : UInt8) ∉ x) : wordP x false = some (x, [], true) := by
  unfold wordP
  rw [if_neg (by decide), cut1_no h]
  rfl
theorem numP_at {a b n : Nat} {r : List UInt8} (h : n < 18446744073709551616) (h1 : a ≤ n) (h2 : n ≤ b) : numP a b (Lib.decDigits n ++ 32 :: r) false = some (n, r, false) := by
  unfold numP
  rw [wordP_at (dec_noblank n), Option.bind_some, numL_of n h, Option.bind_some, if_pos ⟨h1, h2⟩]
theorem numP_end {a b n : Nat} (h : n < 18446744073709551616) (h1 : a ≤ n) (h2 : n ≤ b) : numP a b (Lib.decDigits n) false = some (n, [], true) := by
  unfold numP
  rw [wordP_end (dec_noblank n), Option.bind_some, numL_of n h, Option.bind_some, if_pos ⟨h1, h2⟩]
theorem handP_at {n : Nat} {r : List UInt8} (h : n < 18446744073709551616) : handP (Lib.decDigits n ++ 32 :: r) false = some (n, r, false) := numP_at h (Nat.zero_le _) (by omega)
theorem handP_end {n : Nat} (h : n < 18446744073709551616) : handP (Lib.decDigits n) false = some (n, [], true) := numP_end h (Nat.zero_le _) (by omega)
theorem svc_noblank (n : Nat) : (32 : UInt8) ∉ svcName n := by
  unfold svcName
  split
  · decide
  · split
    · decide
    · split <;> decide
theorem svcAt_of {n : Nat} (h : n < 4) : svcAt (svcName n) = some n := by
  match n, h with
  | 0, _ => rfl
  | 1, _ => rfl
  | 2, _ => rfl
  | 3, _ => rfl
theorem svcP_at {n : Nat} {r : List UInt8} (h : n < 4) : svcP (svcName n ++ 32 :: r) false = some (n, r, false) := by
  unfold svcP
  rw [wordP_at (svc_noblank n), Option.bind_some]
  simp only []
  rw [svcAt_of h, Option.bind_some]
theorem textP_at {t : List UInt8} (h : t.length ≤ 16) : textP (61 :: t) false = some (t, 61 :: t, true) := by
  unfold textP
  simp [h]
/-- May a call be, by the document's words. -/
def okB (c : Call7) : Prop :=
  (c.kind = 0 ∧ c.handle = 0 ∧ c.other = 0 ∧ c.give = 0 ∧ c.grp = 0 ∧ c.svc = 0 ∧ c.txt = []) ∨
  (c.kind = 1 ∧ c.other = 0 ∧ c.give = 0 ∧ c.grp = 0 ∧ c.svc = 0 ∧ c.txt = []) ∨
  (c.kind = 2 ∧ c.other = 0 ∧ 1 ≤ c.give ∧ c.give ≤ 7 ∧ c.grp = 0 ∧ c.svc = 0 ∧ c.txt = []) ∨
  (c.kind = 3 ∧ c.give = 0 ∧ c.grp = 0 ∧ c.svc = 0 ∧ c.txt = []) ∨
  ((c.kind = 4 ∨ c.kind = 5) ∧ c.other = 0 ∧ c.give = 0 ∧ 0 ≤ c.grp ∧ c.grp ≤ 7 ∧ c.svc = 0 ∧ c.txt = []) ∨
  (c.kind = 6 ∧ c.other = 0 ∧ c.give = 0 ∧ 0 ≤ c.grp ∧ c.grp ≤ 7 ∧ 0 ≤ c.svc ∧ c.svc ≤ 3 ∧ c.txt.length ≤ 16)
theorem callP_word {x r1 : List UInt8} {e1 : Bool} {s : List UInt8} (h : wordP s false = some (x, r1, e1)) : callP s = fin (restP x r1 e1) := by
  unfold callP
  rw [h]
  rfl
theorem open_ok : callP [111, 112, 101, 110] = some z7 := by kernel_rfl
theorem parse_ok {c : Call7} (hf : c.Fits) (h : okB c) : callP (speltL c) = some c := by
  obtain ⟨k, a, o, g, gr, sv, tx⟩ := c
  have h0 := hf.handle0
  have h1 := hf.handle1
  have h2 := hf.other0
  have h3 := hf.other1
  simp only at h0 h1 h2 h3
  obtain ⟨an, rfl⟩ := Int.eq_ofNat_of_zero_le h0
  obtain ⟨on, rfl⟩ := Int.eq_ofNat_of_zero_le h2
  have ha : an < 18446744073709551616 := by omega
  have ho : on < 18446744073709551616 := by omega
  unfold okB at h
  simp only at h
  rcases h with ⟨rfl, e1, e2, rfl, rfl, rfl, rfl⟩ | ⟨rfl, e2, rfl, rfl, rfl, rfl⟩ | ⟨rfl, e2, g1, g2, rfl, rfl, rfl⟩ | ⟨rfl, rfl, rfl, rfl, rfl⟩ | ⟨hk, e2, rfl, g1, g2, rfl, rfl⟩ | ⟨rfl, e2, rfl, g1, g2, s1, s2, tl⟩
  · obtain rfl : an = 0 := by omega
    obtain rfl : on = 0 := by omega
    exact open_ok
  · obtain rfl : on = 0 := by omega
    have hs : speltL ⟨1, an, (0 : Nat), 0, 0, 0, []⟩ = [99, 108, 111, 115, 101] ++ 32 :: Lib.decDigits an := rfl
    rw [hs, callP_word (wordP_at (by decide))]
    show fin (k_close _ _) = _
    unfold k_close
    rw [handP_end ha]
    rfl
  · obtain rfl : on = 0 := by omega
    obtain ⟨gn, rfl⟩ := Int.eq_ofNat_of_zero_le (show 0 ≤ g by omega)
    have hs : speltL ⟨2, an, (0 : Nat), gn, 0, 0, []⟩ = [109, 105, 110, 116] ++ 32 :: (Lib.decDigits an ++ 32 :: Lib.decDigits gn) := by
      unfold speltL; simp [itoa_nat]
    rw [hs, callP_word (wordP_at (by decide))]
    show fin (k_mint _ _) = _
    unfold k_mint
    rw [handP_at ha, Option.bind_some]
    simp only []
    rw [numP_end (by omega) (by omega) (by omega)]
    rfl
  · have hs : speltL ⟨3, an, on, 0, 0, 0, []⟩ = [114, 101, 118, 111, 107, 101] ++ 32 :: (Lib.decDigits an ++ 32 :: Lib.decDigits on) := by
      unfold speltL; simp
    rw [hs, callP_word (wordP_at (by decide))]
    show fin (k_revoke _ _) = _
    unfold k_revoke
    rw [handP_at ha, Option.bind_some]
    simp only []
    rw [handP_end ho]
    rfl
  · obtain rfl : on = 0 := by omega
    obtain ⟨gn, rfl⟩ := Int.eq_ofNat_of_zero_le g1
    rcases hk with rfl | rfl
    · have hs : speltL ⟨4, an, (0 : Nat), 0, gn, 0, []⟩ = [106, 111, 105, 110] ++ 32 :: (Lib.decDigits an ++ 32 :: Lib.decDigits gn) := by
        unfold speltL; simp [itoa_nat]
      rw [hs, callP_word (wordP_at (by decide))]
      show fin (k_join _ _) = _
      unfold k_join
      rw [handP_at ha, Option.bind_some]
      simp only []
      rw [numP_end (by omega) (by omega) (by omega)]
      rfl
    · have hs : speltL ⟨5, an, (0 : Nat), 0, gn, 0, []⟩ = [108, 101, 97, 118, 101] ++ 32 :: (Lib.decDigits an ++ 32 :: Lib.decDigits gn) := by
        unfold speltL; simp [itoa_nat]
      rw [hs, callP_word (wordP_at (by decide))]
      show fin (k_leave _ _) = _
      unfold k_leave
      rw [handP_at ha, Option.bind_some]
      simp only []
      rw [numP_end (by omega) (by omega) (by omega)]
      rfl
  · obtain rfl : on = 0 := by omega
    obtain ⟨gn, rfl⟩ := Int.eq_ofNat_of_zero_le g1
    obtain ⟨sn, rfl⟩ := Int.eq_ofNat_of_zero_le s1
    have hs : speltL ⟨6, an, (0 : Nat), 0, gn, sn, tx⟩ = [115, 101, 110, 100] ++ 32 :: (Lib.decDigits an ++ 32 :: (Lib.decDigits gn ++ 32 :: (svcName sn ++ 32 :: (61 :: tx)))) := by
      unfold speltL; simp [itoa_nat, show (sn : Int) < 4 by omega]
    rw [hs, callP_word (wordP_at (by decide))]
    show fin (k_send _ _) = _
    unfold k_send
    rw [handP_at ha, Option.bind_some]
    simp only []
    rw [numP_at (by omega) (by omega) (by omega), Option.bind_some]
    simp only []
    rw [svcP_at (by omega), Option.bind_some]
    simp only []
    rw [textP_at tl]
    rfl
/-- What is parsed lies within its bounds. -/
def Bounds (c : Call7) : Prop := (c.kind = 2 → 1 ≤ c.give ∧ c.give ≤ 7) ∧ (4 ≤ c.kind → 0 ≤ c.grp ∧ c.grp ≤ 7) ∧ (c.kind = 6 → 0 ≤ c.svc ∧ c.svc ≤ 3 ∧ c.txt.length ≤ 16)
theorem bounds_open {r1 r : List UInt8} {e1 : Bool} {c : Call7} (h : k_open r1 e1 = some (c, r, true)) : Bounds c := by
  unfold k_open at h
  simp only [Option.some.injEq, Prod.mk.injEq] at h
  obtain ⟨rfl, rfl, rfl⟩ := h
  unfold Bounds
  simp [z7]
theorem bounds_close {r1 r : List UInt8} {e1 : Bool} {c : Call7} (h : k_close r1 e1 = some (c, r, true)) : Bounds c := by
  unfold k_close at h
  obtain ⟨⟨n0, r2, e2⟩, q0, h⟩ := Option.bind_eq_some_iff.1 h
  dsimp only at h
  simp only [Option.some.injEq, Prod.mk.injEq] at h
  obtain ⟨rfl, rfl, rfl⟩ := h
  unfold Bounds
  simp [z7]
theorem bounds_mint {r1 r : List UInt8} {e1 : Bool} {c : Call7} (h : k_mint r1 e1 = some (c, r, true)) : Bounds c := by
  unfold k_mint at h
  obtain ⟨⟨n0, r2, e2⟩, q0, h⟩ := Option.bind_eq_some_iff.1 h
  dsimp only at h
  obtain ⟨⟨n1, r3, e3⟩, q1, h⟩ := Option.bind_eq_some_iff.1 h
  dsimp only at h
  simp only [Option.some.injEq, Prod.mk.injEq] at h
  obtain ⟨rfl, rfl, rfl⟩ := h
  have t1 := (numP_took q1).2.2
  unfold Bounds
  simp [z7] <;> omega
theorem bounds_revoke {r1 r : List UInt8} {e1 : Bool} {c : Call7} (h : k_revoke r1 e1 = some (c, r, true)) : Bounds c := by
  unfold k_revoke at h
  obtain ⟨⟨n0, r2, e2⟩, q0, h⟩ := Option.bind_eq_some_iff.1 h
  dsimp only at h
  obtain ⟨⟨n1, r3, e3⟩, q1, h⟩ := Option.bind_eq_some_iff.1 h
  dsimp only at h
  simp only [Option.some.injEq, Prod.mk.injEq] at h
  obtain ⟨rfl, rfl, rfl⟩ := h
  unfold Bounds
  simp [z7]
theorem bounds_join {r1 r : List UInt8} {e1 : Bool} {c : Call7} (h : k_join r1 e1 = some (c, r, true)) : Bounds c := by
  unfold k_join at h
  obtain ⟨⟨n0, r2, e2⟩, q0, h⟩ := Option.bind_eq_some_iff.1 h
  dsimp only at h
  obtain ⟨⟨n1, r3, e3⟩, q1, h⟩ := Option.bind_eq_some_iff.1 h
  dsimp only at h
  simp only [Option.some.injEq, Prod.mk.injEq] at h
  obtain ⟨rfl, rfl, rfl⟩ := h
  have t1 := (numP_took q1).2.2
  unfold Bounds
  simp [z7] <;> omega
theorem bounds_leave {r1 r : List UInt8} {e1 : Bool} {c : Call7} (h : k_leave r1 e1 = some (c, r, true)) : Bounds c := by
  unfold k_leave at h
  obtain ⟨⟨n0, r2, e2⟩, q0, h⟩ := Option.bind_eq_some_iff.1 h
  dsimp only at h
  obtain ⟨⟨n1, r3, e3⟩, q1, h⟩ := Option.bind_eq_some_iff.1 h
  dsimp only at h
  simp only [Option.some.injEq, Prod.mk.injEq] at h
  obtain ⟨rfl, rfl, rfl⟩ := h
  have t1 := (numP_took q1).2.2
  unfold Bounds
  simp [z7] <;> omega
theorem bounds_send {r1 r : List UInt8} {e1 : Bool} {c : Call7} (h : k_send r1 e1 = some (c, r, true)) : Bounds c := by
  unfold k_send at h
  obtain ⟨⟨n0, r2, e2⟩, q0, h⟩ := Option.bind_eq_some_iff.1 h
  dsimp only at h
  obtain ⟨⟨n1, r3, e3⟩, q1, h⟩ := Option.bind_eq_some_iff.1 h
  dsimp only at h
  obtain ⟨⟨n2, r4, e4⟩, q2, h⟩ := Option.bind_eq_some_iff.1 h
  dsimp only at h
  obtain ⟨⟨n3, r5, e5⟩, q3, h⟩ := Option.bind_eq_some_iff.1 h
  dsimp only at h
  simp only [Option.some.injEq, Prod.mk.injEq] at h
  obtain ⟨rfl, rfl, rfl⟩ := h
  have t1 := (numP_took q1).2.2
  have t2 := (svcP_took q2).2.2
  have t3 := (textP_took q3).2.2.2
  unfold Bounds
  simp [z7] <;> omega
theorem bounds_of {s : List UInt8} {c : Call7} (h : callP s = some c) : Bounds c := by
  unfold callP at h
  obtain ⟨r, h⟩ := fin_some h
  obtain ⟨⟨x, r1, e1⟩, hw, h⟩ := Option.bind_eq_some_iff.1 h
  simp only [restP] at h
  split at h
  · exact bounds_open h
  split at h
  · exact bounds_close h
  split at h
  · exact bounds_mint h
  split at h
  · exact bounds_revoke h
  split at h
  · exact bounds_join h
  split at h
  · exact bounds_leave h
  split at h
  · exact bounds_send h
  cases h
theorem okB_of {s : List UInt8} {c : Call7} (h : callP s = some c) : okB c := by
  have hS := said_of h
  obtain ⟨hsp, _, k0, k1, g2, g3, g4, g5, g6, hf⟩ := hS
  have hb := bounds_of h
  have h0 := hf.handle0
  have h2 := hf.other0
  obtain ⟨k, a, o, g, gr, sv, tx⟩ := c
  simp only at k0 k1 g2 g3 g4 g5 g6 h0 h2
  unfold Bounds at hb
  simp only at hb
  unfold okB
  simp only
  by_cases e0 : k = 0
  · have : sv = 0 ∧ tx = [] := by rcases g5 with g5 | g5; omega; exact g5
    exact .inl ⟨e0, by omega, by omega, by omega, by omega, this⟩
  · by_cases e6 : k = 6
    · exact .inr (.inr (.inr (.inr (.inr ⟨e6, by omega, by omega, (hb.2.1 (by omega)).1, (hb.2.1 (by omega)).2, hb.2.2 e6⟩))))
    · have ht : sv = 0 ∧ tx = [] := by rcases g5 with g5 | g5; omega; exact g5
      by_cases e1 : k = 1
      · exact .inr (.inl ⟨e1, by omega, by omega, by omega, ht⟩)
      · by_cases e2 : k = 2
        · exact .inr (.inr (.inl ⟨e2, by omega, (hb.1 e2).1, (hb.1 e2).2, by omega, ht⟩))
        · by_cases e3 : k = 3
          · exact .inr (.inr (.inr (.inl ⟨e3, by omega, by omega, ht⟩)))
          · exact .inr (.inr (.inr (.inr (.inl ⟨by omega, by omega, by omega, (hb.2.1 (by omega)).1, (hb.2.1 (by omega)).2, ht⟩))))
theorem may_ok (c : Call7) (hf : c.Fits) : mayL c = true ↔ okB c := by
  constructor
  · intro h
    exact okB_of (may_call h)
  · intro h
    exact may_of (parse_ok hf h)
end Go.Proofs.YtljgmbpfeajmhaaDoor
