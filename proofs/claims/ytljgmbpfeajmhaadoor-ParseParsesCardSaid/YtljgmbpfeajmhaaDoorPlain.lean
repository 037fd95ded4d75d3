/- What a text says, and a call's request, in plain words: each is the other's inverse. -/
import Derived.Test.YtljgmbpfeajmhaaDoorMay
set_option linter.unusedVariables false
set_option linter.unusedSimpArgs false
namespace Go.Proofs.YtljgmbpfeajmhaaDoor
open Go.Proofs Go.Shelf

/-- A word was taken: it stands ahead of a blank, or it is all. -/
def Took (r x r1 : List UInt8) (e1 : Bool) : Prop := if e1 = true then r = x ∧ r1 = [] else r = x ++ 32 :: r1
theorem wordP_took {r x r1 : List UInt8} {e e1 : Bool} (h : wordP r e = some (x, r1, e1)) : e = false ∧ Took r x r1 e1 := by
  unfold wordP at h
  cases e with
  | true => simp at h
  | false =>
    refine ⟨rfl, ?_⟩
    simp only [Bool.false_eq_true, if_false, Option.some.injEq, Prod.mk.injEq] at h
    obtain ⟨rfl, rfl, rfl⟩ := h
    unfold Took
    cases hc : (cut1 32 r).2.2
    · have := cut1_false hc
      simp [this.2.1, this.2.2]
    · have := (cut1_true hc).1
      simp only [Bool.not_true, Bool.false_eq_true, if_false]
      exact this
theorem numL_dec {l : List UInt8} {n : Nat} (h : numL l = some n) : Lib.decDigits n = l := by
  unfold numL at h
  obtain ⟨m, hm, h⟩ := Option.bind_eq_some_iff.1 h
  split at h
  · cases h; assumption
  · cases h
theorem numP_took {a b : Nat} {r r1 : List UInt8} {e e1 : Bool} {n : Nat} (h : numP a b r e = some (n, r1, e1)) : e = false ∧ Took r (Lib.decDigits n) r1 e1 ∧ a ≤ n ∧ n ≤ b := by
  unfold numP at h
  obtain ⟨⟨x, x1, x2⟩, hx, h⟩ := Option.bind_eq_some_iff.1 h
  obtain ⟨m, hm, h⟩ := Option.bind_eq_some_iff.1 h
  split at h
  · rename_i hc
    simp only [Option.some.injEq, Prod.mk.injEq] at h
    obtain ⟨rfl, rfl, rfl⟩ := h
    have := wordP_took hx
    rw [numL_dec hm]
    exact ⟨this.1, this.2, hc⟩
  · cases h
theorem handP_took {r r1 : List UInt8} {e e1 : Bool} {n : Nat} (h : handP r e = some (n, r1, e1)) : e = false ∧ Took r (Lib.decDigits n) r1 e1 ∧ n ≤ 18446744073709551615 :=
  let ⟨a, b, _, c⟩ := numP_took h; ⟨a, b, c⟩
theorem svcAt_name {l : List UInt8} {n : Nat} (h : svcAt l = some n) : n < 4 ∧ svcName n = l := by
  unfold svcAt at h
  split at h
  · rename_i e; cases h; exact ⟨by decide, by rw [e]; rfl⟩
  · split at h
    · rename_i e; cases h; exact ⟨by decide, by rw [e]; rfl⟩
    · split at h
      · rename_i e; cases h; exact ⟨by decide, by rw [e]; rfl⟩
      · split at h
        · rename_i e; cases h; exact ⟨by decide, by rw [e]; rfl⟩
        · cases h
theorem svcP_took {r r1 : List UInt8} {e e1 : Bool} {n : Nat} (h : svcP r e = some (n, r1, e1)) : e = false ∧ Took r (svcName n) r1 e1 ∧ n < 4 := by
  unfold svcP at h
  obtain ⟨⟨x, x1, x2⟩, hx, h⟩ := Option.bind_eq_some_iff.1 h
  obtain ⟨m, hm, h⟩ := Option.bind_eq_some_iff.1 h
  simp only [Option.some.injEq, Prod.mk.injEq] at h
  obtain ⟨rfl, rfl, rfl⟩ := h
  have := wordP_took hx
  have hs := svcAt_name hm
  rw [hs.2]
  exact ⟨this.1, this.2, hs.1⟩
theorem textP_took {r r1 t : List UInt8} {e e1 : Bool} (h : textP r e = some (t, r1, e1)) : e = false ∧ r = 61 :: t ∧ e1 = true ∧ t.length ≤ 16 := by
  unfold textP at h
  split at h
  · cases h
  · rename_i he
    split at h
    · split at h
      · rename_i hl
        simp only [Option.some.injEq, Prod.mk.injEq] at h
        obtain ⟨rfl, rfl, rfl⟩ := h
        exact ⟨by simpa using he, rfl, rfl, hl⟩
      · cases h
    · cases h
theorem fin_some {o : Option (Call7 × List UInt8 × Bool)} {c : Call7} (h : fin o = some c) : ∃ r, o = some (c, r, true) := by
  unfold fin at h
  obtain ⟨⟨x, r, e⟩, hx, h⟩ := Option.bind_eq_some_iff.1 h
  simp only at h
  split at h
  · rename_i he
    cases h
    exact ⟨r, by rw [hx, he]⟩
  · cases h
theorem itoa_nat (n : Nat) : Lib.itoa (n : Int) = Lib.decDigits n := by
  unfold Lib.itoa
  rw [if_neg (by omega)]
  rfl
/-- What is parsed is printed as it stood, and asks for nothing but what its word has. -/
structure Said (s : List UInt8) (c : Call7) : Prop where
  spelt : speltL c = s
  word : (cut1 32 s).1 = (if c.kind = 0 then [111, 112, 101, 110] else if c.kind = 1 then [99, 108, 111, 115, 101] else if c.kind = 2 then [109, 105, 110, 116] else if c.kind = 3 then [114, 101, 118, 111, 107, 101] else if c.kind = 4 then [106, 111, 105, 110] else if c.kind = 5 then [108, 101, 97, 118, 101] else [115, 101, 110, 100])
  kind0 : 0 ≤ c.kind
  kind1 : c.kind ≤ 6
  give : c.kind = 2 ∨ c.give = 0
  other : c.kind = 3 ∨ c.other = 0
  grp : 3 < c.kind ∨ c.grp = 0
  svc : c.kind = 6 ∨ (c.svc = 0 ∧ c.txt = [])
  handle : 0 < c.kind ∨ c.handle = 0
  fits : c.Fits
theorem said_open {s r1 r : List UInt8} {e1 : Bool} {c : Call7} (hw : wordP s false = some ([111, 112, 101, 110], r1, e1)) (hx : (cut1 32 s).1 = [111, 112, 101, 110]) (h : k_open r1 e1 = some (c, r, true)) : Said s c := by
  have hT := (wordP_took hw).2
  unfold k_open at h
  simp only [Option.some.injEq, Prod.mk.injEq] at h
  obtain ⟨rfl, rfl, rfl⟩ := h
  unfold Took at hT
  rw [if_pos rfl] at hT
  have e0 : s = _ := hT.1
  refine ⟨?_, hx, by simp, by simp, .inr rfl, .inr rfl, .inr rfl, .inr ⟨rfl, rfl⟩, .inr rfl, ?_⟩
  · rw [e0]; unfold speltL; simp
  · constructor <;> decide
theorem said_close {s r1 r : List UInt8} {e1 : Bool} {c : Call7} (hw : wordP s false = some ([99, 108, 111, 115, 101], r1, e1)) (hx : (cut1 32 s).1 = [99, 108, 111, 115, 101]) (h : k_close r1 e1 = some (c, r, true)) : Said s c := by
  have hT := (wordP_took hw).2
  unfold k_close at h
  obtain ⟨⟨n0, r2, e2⟩, q0, h⟩ := Option.bind_eq_some_iff.1 h
  dsimp only at h
  simp only [Option.some.injEq, Prod.mk.injEq] at h
  obtain ⟨rfl, rfl, rfl⟩ := h
  obtain ⟨rfl, t0, l0⟩ := handP_took q0
  unfold Took at hT t0
  rw [if_neg (by decide)] at hT
  rw [if_pos rfl] at t0
  have e0 : s = _ := hT
  rw [t0.1] at e0
  refine ⟨?_, hx, by simp, by simp, .inr rfl, .inr rfl, .inr rfl, .inr ⟨rfl, rfl⟩, .inl (by simp), ?_⟩
  · rw [e0]; unfold speltL; simp [itoa_nat]
  · constructor <;> simp [z7] <;> omega
theorem said_mint {s r1 r : List UInt8} {e1 : Bool} {c : Call7} (hw : wordP s false = some ([109, 105, 110, 116], r1, e1)) (hx : (cut1 32 s).1 = [109, 105, 110, 116]) (h : k_mint r1 e1 = some (c, r, true)) : Said s c := by
  have hT := (wordP_took hw).2
  unfold k_mint at h
  obtain ⟨⟨n0, r2, e2⟩, q0, h⟩ := Option.bind_eq_some_iff.1 h
  dsimp only at h
  obtain ⟨⟨n1, r3, e3⟩, q1, h⟩ := Option.bind_eq_some_iff.1 h
  dsimp only at h
  simp only [Option.some.injEq, Prod.mk.injEq] at h
  obtain ⟨rfl, rfl, rfl⟩ := h
  obtain ⟨rfl, t0, l0⟩ := handP_took q0
  obtain ⟨rfl, t1, m1, l1⟩ := numP_took q1
  unfold Took at hT t0 t1
  rw [if_neg (by decide)] at hT
  rw [if_neg (by decide)] at t0
  rw [if_pos rfl] at t1
  have e0 : s = _ := hT
  rw [t0, t1.1] at e0
  refine ⟨?_, hx, by simp, by simp, .inl (by simp), .inr rfl, .inr rfl, .inr ⟨rfl, rfl⟩, .inl (by simp), ?_⟩
  · rw [e0]; unfold speltL; simp [itoa_nat]
  · constructor <;> simp [z7] <;> omega
theorem said_revoke {s r1 r : List UInt8} {e1 : Bool} {c : Call7} (hw : wordP s false = some ([114, 101, 118, 111, 107, 101], r1, e1)) (hx : (cut1 32 s).1 = [114, 101, 118, 111, 107, 101]) (h : k_revoke r1 e1 = some (c, r, true)) : Said s c := by
  have hT := (wordP_took hw).2
  unfold k_revoke at h
  obtain ⟨⟨n0, r2, e2⟩, q0, h⟩ := Option.bind_eq_some_iff.1 h
  dsimp only at h
  obtain ⟨⟨n1, r3, e3⟩, q1, h⟩ := Option.bind_eq_some_iff.1 h
  dsimp only at h
  simp only [Option.some.injEq, Prod.mk.injEq] at h
  obtain ⟨rfl, rfl, rfl⟩ := h
  obtain ⟨rfl, t0, l0⟩ := handP_took q0
  obtain ⟨rfl, t1, l1⟩ := handP_took q1
  unfold Took at hT t0 t1
  rw [if_neg (by decide)] at hT
  rw [if_neg (by decide)] at t0
  rw [if_pos rfl] at t1
  have e0 : s = _ := hT
  rw [t0, t1.1] at e0
  refine ⟨?_, hx, by simp, by simp, .inr rfl, .inl (by simp), .inr rfl, .inr ⟨rfl, rfl⟩, .inl (by simp), ?_⟩
  · rw [e0]; unfold speltL; simp [itoa_nat]
  · constructor <;> simp [z7] <;> omega
theorem said_join {s r1 r : List UInt8} {e1 : Bool} {c : Call7} (hw : wordP s false = some ([106, 111, 105, 110], r1, e1)) (hx : (cut1 32 s).1 = [106, 111, 105, 110]) (h : k_join r1 e1 = some (c, r, true)) : Said s c := by
  have hT := (wordP_took hw).2
  unfold k_join at h
  obtain ⟨⟨n0, r2, e2⟩, q0, h⟩ := Option.bind_eq_some_iff.1 h
  dsimp only at h
  obtain ⟨⟨n1, r3, e3⟩, q1, h⟩ := Option.bind_eq_some_iff.1 h
  dsimp only at h
  simp only [Option.some.injEq, Prod.mk.injEq] at h
  obtain ⟨rfl, rfl, rfl⟩ := h
  obtain ⟨rfl, t0, l0⟩ := handP_took q0
  obtain ⟨rfl, t1, m1, l1⟩ := numP_took q1
  unfold Took at hT t0 t1
  rw [if_neg (by decide)] at hT
  rw [if_neg (by decide)] at t0
  rw [if_pos rfl] at t1
  have e0 : s = _ := hT
  rw [t0, t1.1] at e0
  refine ⟨?_, hx, by simp, by simp, .inr rfl, .inr rfl, .inl (by simp), .inr ⟨rfl, rfl⟩, .inl (by simp), ?_⟩
  · rw [e0]; unfold speltL; simp [itoa_nat]
  · constructor <;> simp [z7] <;> omega
theorem said_leave {s r1 r : List UInt8} {e1 : Bool} {c : Call7} (hw : wordP s false = some ([108, 101, 97, 118, 101], r1, e1)) (hx : (cut1 32 s).1 = [108, 101, 97, 118, 101]) (h : k_leave r1 e1 = some (c, r, true)) : Said s c := by
  have hT := (wordP_took hw).2
  unfold k_leave at h
  obtain ⟨⟨n0, r2, e2⟩, q0, h⟩ := Option.bind_eq_some_iff.1 h
  dsimp only at h
  obtain ⟨⟨n1, r3, e3⟩, q1, h⟩ := Option.bind_eq_some_iff.1 h
  dsimp only at h
  simp only [Option.some.injEq, Prod.mk.injEq] at h
  obtain ⟨rfl, rfl, rfl⟩ := h
  obtain ⟨rfl, t0, l0⟩ := handP_took q0
  obtain ⟨rfl, t1, m1, l1⟩ := numP_took q1
  unfold Took at hT t0 t1
  rw [if_neg (by decide)] at hT
  rw [if_neg (by decide)] at t0
  rw [if_pos rfl] at t1
  have e0 : s = _ := hT
  rw [t0, t1.1] at e0
  refine ⟨?_, hx, by simp, by simp, .inr rfl, .inr rfl, .inl (by simp), .inr ⟨rfl, rfl⟩, .inl (by simp), ?_⟩
  · rw [e0]; unfold speltL; simp [itoa_nat]
  · constructor <;> simp [z7] <;> omega
theorem said_send {s r1 r : List UInt8} {e1 : Bool} {c : Call7} (hw : wordP s false = some ([115, 101, 110, 100], r1, e1)) (hx : (cut1 32 s).1 = [115, 101, 110, 100]) (h : k_send r1 e1 = some (c, r, true)) : Said s c := by
  have hT := (wordP_took hw).2
  unfold k_send at h
  obtain ⟨⟨n0, r2, e2⟩, q0, h⟩ := Option.bind_eq_some_iff.1 h
  dsimp only at h
  obtain ⟨⟨n1, r3, e3⟩, q1, h⟩ := Option.bind_eq_some_iff.1 h
  dsimp only at h
  obtain ⟨⟨n2, r4, e4⟩, q2, h⟩ := Option.bind_eq_some_iff.1 h
  dsimp only at h
  obtain ⟨⟨n3, r5, e5⟩, q3, h⟩ := Option.bind_eq_some_iff.1 h
  dsimp only at h
  simp only [Option.some.injEq, Prod.mk.injEq] at h
  obtain ⟨rfl, rfl, rfl⟩ := h
  obtain ⟨rfl, t0, l0⟩ := handP_took q0
  obtain ⟨rfl, t1, m1, l1⟩ := numP_took q1
  obtain ⟨rfl, t2, l2⟩ := svcP_took q2
  obtain ⟨rfl, t3, _, l3⟩ := textP_took q3
  unfold Took at hT t0 t1 t2
  rw [if_neg (by decide)] at hT
  rw [if_neg (by decide)] at t0
  rw [if_neg (by decide)] at t1
  rw [if_neg (by decide)] at t2
  have e0 : s = _ := hT
  rw [t0, t1, t2, t3] at e0
  refine ⟨?_, hx, by simp, by simp, .inr rfl, .inr rfl, .inl (by simp), .inl (by simp), .inl (by simp), ?_⟩
  · rw [e0]; unfold speltL; simp [itoa_nat, show (n2 : Int) < 4 by omega]
  · constructor <;> simp [z7] <;> omega
theorem said_of {s : List UInt8} {c : Call7} (h : callP s = some c) : Said s c := by
  unfold callP at h
  obtain ⟨r, h⟩ := fin_some h
  obtain ⟨⟨x, r1, e1⟩, hw, h⟩ := Option.bind_eq_some_iff.1 h
  have hx : (cut1 32 s).1 = x := by
    unfold wordP at hw
    simp only [Bool.false_eq_true, if_false, Option.some.injEq, Prod.mk.injEq] at hw
    exact hw.1
  simp only [restP] at h
  split at h
  · rename_i e
    subst e
    exact said_open hw hx h
  split at h
  · rename_i e
    subst e
    exact said_close hw hx h
  split at h
  · rename_i e
    subst e
    exact said_mint hw hx h
  split at h
  · rename_i e
    subst e
    exact said_revoke hw hx h
  split at h
  · rename_i e
    subst e
    exact said_join hw hx h
  split at h
  · rename_i e
    subst e
    exact said_leave hw hx h
  split at h
  · rename_i e
    subst e
    exact said_send hw hx h
  cases h
theorem callP_nil : callP [] = none := by kernel_rfl
theorem may_of {s : List UInt8} {c : Call7} (h : callP s = some c) : mayL c = true := by
  have := (said_of h).spelt
  unfold mayL parseE parseC
  rw [this, h]
  exact decide_eq_true ⟨rfl, rfl⟩
theorem print_of {s : List UInt8} {c : Call7} (h : callP s = some c) : printL c = s := by
  unfold printL
  rw [may_of h, if_pos rfl]
  exact (said_of h).spelt
theorem may_call {c : Call7} (h : mayL c = true) : callP (speltL c) = some c := by
  unfold mayL at h
  have h := of_decide_eq_true h
  unfold parseE parseC at h
  cases hc : callP (speltL c) with
  | none => rw [hc] at h; exact absurd h.1 (by decide)
  | some d => rw [hc] at h; rw [← h.2]
theorem print_may {c : Call7} (h : mayL c = true) : printL c = speltL c := by unfold printL; rw [h, if_pos rfl]
theorem print_not {c : Call7} (h : mayL c = false) : printL c = [] := by unfold printL; rw [h]; rfl
/-- What Parse tells of a call's print: the call, if it may be; else that it is none. -/
theorem back_e (c : Call7) : parseE (printL c) = if mayL c then 0 else 210 := by
  cases h : mayL c
  · rw [print_not h]; unfold parseE; rw [callP_nil]; rfl
  · rw [print_may h]; unfold parseE; rw [may_call h]; rfl
theorem back_c (c : Call7) : parseC (printL c) = if mayL c then c else z7 := by
  cases h : mayL c
  · rw [print_not h]; unfold parseC; rw [callP_nil]; rfl
  · rw [print_may h]; unfold parseC; rw [may_call h]; rfl
theorem unlike {c d : Call7} (hc : mayL c = true) (hd : mayL d = true) : (printL c == printL d) = (c == d) := by
  rw [print_may hc, print_may hd]
  by_cases h : c = d
  · subst h; simp
  · have h2 : ¬ speltL c = speltL d := by
      intro e
      have h1 := may_call hc
      rw [e, may_call hd] at h1
      injection h1 with h1
      exact h h1.symm
    rw [beq_eq_false_iff_ne.2 h, beq_eq_false_iff_ne.2 h2]
/-- Of a text that is longer or shorter nothing is parsed the same. -/
theorem strict {s t : List UInt8} {c : Call7} (hs : callP s = some c) (h : s.length ≠ t.length) : callP t ≠ some c := by
  intro ht
  have h1 := (said_of hs).spelt
  have h2 := (said_of ht).spelt
  rw [h1] at h2
  exact h (by rw [h2])
end Go.Proofs.YtljgmbpfeajmhaaDoor
