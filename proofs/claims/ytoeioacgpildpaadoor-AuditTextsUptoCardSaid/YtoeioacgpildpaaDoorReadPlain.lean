/- What audit a text says, in plain words. -/
import Derived.Test.YtoeioacgpildpaaDoorRange
import Derived.Test.YtoeioacgpildpaaDoorPlain
set_option linter.unusedVariables false
set_option linter.unusedSimpArgs false
namespace Go.Proofs.YtoeioacgpildpaaDoor
open Go.Proofs Go.Shelf Go.RowKit Go.Proofs.YtoeioacgpildpaaDoorW.PrintWords Go.Proofs.YtoeioacgpildpaaDoorW.PrintLast Go.Proofs.YtoeioacgpildpaaDoorW.PrintMore
open Go.Proofs.YtoeioacgpildpaaDoor.P (S27 k27 z27 k27_mkM)
theorem cut1_at10 {c : UInt8} {x y : List UInt8} (h : c ∉ x) : cut1 c (x ++ c :: y) = (x, y, true) := cut1_at h
theorem dec_no10 (u : Nat) : (10 : UInt8) ∉ Lib.decDigits u := fun h => by
  have := (dec_digit u 10 h).1
  revert this
  decide
theorem itoa_no10 (k : Int) : (10 : UInt8) ∉ Lib.itoa k := by
  unfold Lib.itoa
  split
  · intro h
    rcases List.mem_cons.1 h with h | h
    · revert h; decide
    · exact dec_no10 _ h
  · exact dec_no10 _
theorem hexd_no10 (a : Nat) (h : a < 16) : hexd a ≠ 10 := by
  have : ∀ a : Fin 16, hexd a.1 ≠ 10 := by decide
  exact this ⟨a, h⟩
theorem quoted_no10 : ∀ c : List UInt8, (10 : UInt8) ∉ quoted c
  | [] => by simp [quoted]
  | c :: r => by
    show (10 : UInt8) ∉ quote1 c ++ quoted r
    intro h
    rcases List.mem_append.1 h with h | h
    · unfold quote1 at h
      split at h
      · rename_i hp
        rw [List.mem_singleton] at h
        subst h
        revert hp
        decide
      · have hlt := c.toNat_lt
        rcases List.mem_cons.1 h with h | h
        · revert h; decide
        · rcases List.mem_cons.1 h with h | h
          · exact hexd_no10 _ (by omega) h.symm
          · rw [List.mem_singleton] at h
            exact hexd_no10 _ (by omega) h.symm
    · exact quoted_no10 r h
/-- A line without its end. -/
def bareR (x : S27) : List UInt8 := headB x.f0.toNat x.f1.toNat x.f3 ++ quoted x.f2.data.toList ++ [34]
theorem lineR_bare (x : S27) : lineR x = bareR x ++ [10] := by
  unfold lineR lineB bareR
  simp
theorem bare_no10 (x : S27) : (10 : UInt8) ∉ bareR x := by
  unfold bareR headB
  intro h
  simp only [List.mem_append, List.mem_cons, List.not_mem_nil, or_false] at h
  rcases h with ((((h | h) | h | h) | h | h | h) | h) | h
  all_goals first | exact dec_no10 _ h | exact itoa_no10 _ h | exact quoted_no10 _ h | (revert h; decide)
theorem cut_line (x : S27) (rest : List UInt8) : cut1 10 (lineR x ++ rest) = (bareR x, rest, true) := by
  rw [lineR_bare, List.append_assoc, List.singleton_append]
  exact cut1_at10 (bare_no10 x)
theorem isParse_no10 {s : List UInt8} (h : (10 : UInt8) ∉ s) : IsParse s none := fun r _ hl => by
  apply h
  rw [← hl, lineR_bare]
  simp
theorem textR_nil : textR [] = [] := rfl
theorem textR_cons (x : S27) (xs : List S27) : textR (x :: xs) = lineR x ++ textR xs := rfl
theorem textR_snoc (xs : List S27) (x : S27) : textR (xs ++ [x]) = textR xs ++ lineR x := by
  unfold textR
  rw [List.flatMap_append]
  simp
theorem lineR_pos (x : S27) : 0 < (lineR x).length := by rw [lineR_bare, List.length_append]; simp
theorem textR_length : ∀ xs : List S27, xs.length ≤ (textR xs).length
  | [] => Nat.le_refl _
  | x :: xs => by
    have h1 := lineR_pos x
    have h2 := textR_length xs
    rw [textR_cons, List.length_append, List.length_cons]
    omega
theorem text_peel : ∀ (xs ys : List S27) (s : List UInt8), (∀ x ∈ xs, FitsR x) → (∀ x ∈ ys, FitsR x) → textR ys = textR xs ++ s → ∃ zs, ys = xs ++ zs ∧ textR zs = s
  | [], ys, s, _, _, h => ⟨ys, rfl, h⟩
  | x :: xs, [], s, _, _, h => by
    exfalso
    have h1 := lineR_pos x
    have := congrArg List.length h
    rw [textR_nil, textR_cons, List.length_append, List.length_append, List.length_nil] at this
    omega
  | x :: xs, y :: ys, s, hx, hy, h => by
    rw [textR_cons, textR_cons, List.append_assoc] at h
    have h1 := cut_line y (textR ys)
    rw [h, cut_line] at h1
    injection h1 with e1 e2
    injection e2 with e2 _
    have exy : x = y := lineR_inj (hx x (by simp)) (hy y (by simp)) (by rw [lineR_bare, lineR_bare, e1])
    subst exy
    obtain ⟨zs, h2, h3⟩ := text_peel xs ys s (fun z hz => hx z (List.mem_cons_of_mem _ hz)) (fun z hz => hy z (List.mem_cons_of_mem _ hz)) e2.symm
    exact ⟨zs, by rw [h2]; rfl, h3⟩
theorem text_inj {xs ys : List S27} (hx : ∀ x ∈ xs, FitsR x) (hy : ∀ x ∈ ys, FitsR x) (h : textR ys = textR xs) : ys = xs := by
  obtain ⟨zs, h1, h2⟩ := text_peel xs ys [] hx hy (by rw [h, List.append_nil])
  cases zs with
  | nil => rw [h1, List.append_nil]
  | cons z zs =>
    have := lineR_pos z
    have h3 := congrArg List.length h2
    rw [textR_cons, List.length_append, List.length_nil] at h3
    omega
theorem text_fail {xs : List S27} {s0 s p r : List UInt8} (hx : ∀ x ∈ xs, FitsR x) (h0 : s0 = textR xs ++ s) (hc : cut1 10 s = (p, r, true)) (hp : IsParse (p ++ [10]) none) : ∀ ys, (∀ x ∈ ys, FitsR x) → textR ys ≠ s0 := by
  intro ys hy h
  obtain ⟨zs, h1, h2⟩ := text_peel xs ys s hx hy (by rw [h, h0])
  cases zs with
  | nil => rw [← h2, textR_nil] at hc; cases hc
  | cons z zs =>
    rw [← h2, textR_cons, cut_line] at hc
    injection hc with e1 e2
    exact hp z (hy z (by rw [h1]; simp)) (by rw [lineR_bare, e1])
theorem text_fail2 {xs : List S27} {s0 s : List UInt8} (hx : ∀ x ∈ xs, FitsR x) (h0 : s0 = textR xs ++ s) (hn : (10 : UInt8) ∉ s) (hs : s ≠ []) : ∀ ys, (∀ x ∈ ys, FitsR x) → textR ys ≠ s0 := by
  intro ys hy h
  obtain ⟨zs, h1, h2⟩ := text_peel xs ys s hx hy (by rw [h, h0])
  cases zs with
  | nil => exact hs h2.symm
  | cons z zs =>
    apply hn
    rw [← h2, textR_cons, lineR_bare]
    simp
/-- A text says an audit; or it says none. -/
def IsRead (s : List UInt8) : Option (List S27) → Prop
  | some xs => (∀ x ∈ xs, FitsR x) ∧ textR xs = s ∧ checkL xs = true
  | none => ∀ xs, (∀ x ∈ xs, FitsR x) → textR xs = s → checkL xs = false
theorem isRead_ex (s : List UInt8) : ∃ o, IsRead s o := by
  by_cases h : ∃ xs, (∀ x ∈ xs, FitsR x) ∧ textR xs = s ∧ checkL xs = true
  · obtain ⟨xs, h⟩ := h
    exact ⟨some xs, h⟩
  · refine ⟨none, fun xs h1 h2 => ?_⟩
    cases hc : checkL xs with
    | false => rfl
    | true => exact absurd ⟨xs, h1, h2, hc⟩ h
theorem isRead_text {s : List UInt8} {o : Option (List S27)} (h : IsRead s o) {xs : List S27} (hx : ∀ x ∈ xs, FitsR x) (ht : textR xs = s) : o = if checkL xs = true then some xs else none := by
  cases o with
  | none => rw [if_neg (by rw [h xs hx ht]; decide)]
  | some ys =>
    have e : xs = ys := text_inj h.1 hx (ht.trans h.2.1.symm)
    subst e
    rw [if_pos h.2.2]
theorem isRead_fail {s : List UInt8} {o : Option (List S27)} (h : IsRead s o) (hn : ∀ xs, (∀ x ∈ xs, FitsR x) → textR xs ≠ s) : o = none := by
  cases o with
  | none => rfl
  | some ys => exact absurd h.2.1 (hn ys h.1)
/-- The cells of records. -/
def cellsR (xs : List S27) : List Value := xs.flatMap fun x => [.int .u64 x.f0, .int .u32 x.f1, .string x.f2, .int .i64 x.f3]
theorem cellsR_snoc (xs : List S27) (x : S27) : cellsR (xs ++ [x]) = cellsR xs ++ [.int .u64 x.f0, .int .u32 x.f1, .string x.f2, .int .i64 x.f3] := by
  unfold cellsR
  rw [List.flatMap_append]
  simp
theorem reps_cells (w : World) (base : Nat) (ok : Nat → Prop) (xs : List S27) : Reps (k27.M w base ok) 4 xs (cellsR xs) := by
  have h : ∀ (ys zs : List S27), Reps (k27.M w base ok) 4 ys (cellsR ys) → Reps (k27.M w base ok) 4 (ys ++ zs) (cellsR (ys ++ zs)) := by
    intro ys zs
    induction zs generalizing ys with
    | nil => intro h; rw [List.append_nil]; exact h
    | cons z zs ih =>
      intro h
      have := ih (ys ++ [z]) (by rw [cellsR_snoc]; exact h.snoc (k27_mkM w base ok z) rfl)
      rwa [List.append_assoc, List.singleton_append] at this
  exact h [] xs (Reps.none _ _)
theorem R_of_cells {w : World} {base : Nat} {v : Value} {xs : List S27} (h : w.ownsRow base 27 4 v xs.length (cellsR xs)) : Kd.R k27 27 w base (fun _ => True) v xs :=
  ⟨fun _ _ => trivial, cellsR xs, h, reps_cells _ _ _ _⟩
end Go.Proofs.YtoeioacgpildpaaDoor
