/- Part of the proof of TopEntries: the executor is sound: values, blocks, loads, stores. -/
import Derived.Test.YtcmohdedlclcgaaGreatDoorX00
import Derived.Laws.CopyRow
import Derived.Laws.Cells
import Derived.Laws.Entries
import Derived.Laws.StructEq
import Derived.Laws.Slices
import Derived.Laws.Strings2
import Derived.Laws.Strings3
import Derived.Laws.Concat
import Derived.Laws.Build
set_option linter.unusedVariables false
set_option linter.unusedSimpArgs false
set_option linter.unusedSectionVars false
namespace Go.Ex

theorem brec {β : Type} (b : Bool) (x y : β) : @Bool.rec (fun _ => β) x y b = if b then y else x := by cases b <;> rfl

/-! trees -/
section
variable {α : Type}
theorem Tr.get_nil (n : Nat) : (Tr.nil : Tr α).get n = none := rfl
theorem Tr.get_node (v : Option α) (l r : Tr α) (n : Nat) :
    (Tr.node v l r).get n = if n = 0 then v else if n % 2 = 1 then l.get (n / 2) else r.get (n / 2 - 1) := by
  have h : (Tr.node v l r).get n = @Bool.rec (fun _ => Option α) (@Bool.rec (fun _ => Option α) (r.get (n / 2 - 1)) (l.get (n / 2)) (Nat.beq (n % 2) 1)) v (Nat.beq n 0) := rfl
  rw [h, brec, brec]
  simp only [Nat.beq_eq]
def Tr.l : Tr α → Tr α
  | .nil => .nil
  | .node _ l _ => l
def Tr.r : Tr α → Tr α
  | .nil => .nil
  | .node _ _ r => r
def Tr.v : Tr α → Option α
  | .nil => none
  | .node v _ _ => v
theorem Tr.get_of (t : Tr α) (n : Nat) : t.get n = if n = 0 then t.v else if n % 2 = 1 then t.l.get (n / 2) else t.r.get (n / 2 - 1) := by
  cases t with
  | nil => simp [Tr.get_nil, Tr.v, Tr.l, Tr.r]
  | node v l r => exact Tr.get_node v l r n
theorem Tr.set_succ (f : Nat) (t : Tr α) (n : Nat) (x : Option α) :
    t.set (f + 1) n x = if n = 0 then .node x t.l t.r else if n % 2 = 1 then .node t.v (t.l.set f (n / 2) x) t.r else .node t.v t.l (t.r.set f (n / 2 - 1) x) := by
  cases t with
  | nil =>
    have h : (Tr.nil : Tr α).set (f + 1) n x = @Bool.rec (fun _ => Tr α) (@Bool.rec (fun _ => Tr α) (.node none .nil (Tr.set f .nil (n / 2 - 1) x)) (.node none (Tr.set f .nil (n / 2) x) .nil) (Nat.beq (n % 2) 1)) (.node x .nil .nil) (Nat.beq n 0) := rfl
    rw [h, brec, brec]
    simp only [Nat.beq_eq, Tr.v, Tr.l, Tr.r]
  | node v l r =>
    have h : (Tr.node v l r).set (f + 1) n x = @Bool.rec (fun _ => Tr α) (@Bool.rec (fun _ => Tr α) (.node v l (Tr.set f r (n / 2 - 1) x)) (.node v (Tr.set f l (n / 2) x) r) (Nat.beq (n % 2) 1)) (.node x l r) (Nat.beq n 0) := rfl
    rw [h, brec, brec]
    simp only [Nat.beq_eq, Tr.v, Tr.l, Tr.r]
theorem Tr.get_set (x : Option α) : ∀ (f : Nat) (t : Tr α) (n m : Nat), n + 1 < 2 ^ f → (t.set f n x).get m = if m = n then x else t.get m
  | 0, _, n, _, h => by simp at h
  | f + 1, t, n, m, h => by
    have hp : 2 ^ (f + 1) = 2 * 2 ^ f := by rw [Nat.pow_succ]; omega
    rw [Tr.set_succ]
    by_cases h0 : n = 0
    · subst h0
      rw [if_pos rfl, Tr.get_node]
      by_cases hm : m = 0
      · simp [hm]
      · rw [if_neg hm, if_neg hm, Tr.get_of t m, if_neg hm]
    · rw [if_neg h0]
      by_cases h1 : n % 2 = 1
      · rw [if_pos h1, Tr.get_node, Tr.get_of t m]
        by_cases hm : m = 0
        · have : m ≠ n := by omega
          simp [hm]; omega
        · rw [if_neg hm, if_neg hm]
          by_cases hm1 : m % 2 = 1
          · rw [if_pos hm1, if_pos hm1, Tr.get_set x f t.l (n / 2) (m / 2) (by omega)]
            have : m / 2 = n / 2 ↔ m = n := by omega
            simp only [this]
          · rw [if_neg hm1, if_neg hm1, if_neg (by intro e; subst e; exact hm1 h1)]
      · rw [if_neg h1, Tr.get_node, Tr.get_of t m]
        by_cases hm : m = 0
        · simp [hm]; omega
        · rw [if_neg hm, if_neg hm]
          by_cases hm1 : m % 2 = 1
          · rw [if_pos hm1, if_pos hm1, if_neg (by intro e; subst e; exact h1 hm1)]
          · rw [if_neg hm1, if_neg hm1, Tr.get_set x f t.r (n / 2 - 1) (m / 2 - 1) (by omega)]
            have : m / 2 - 1 = n / 2 - 1 ↔ m = n := by omega
            simp only [this]
theorem get_set_dep (t : Tr α) {n : Nat} (m : Nat) (x : Option α) (h : n < lim) : (t.set dep n x).get m = if m = n then x else t.get m :=
  Tr.get_set x dep t n m (by simp only [lim] at h; simp only [dep]; omega)
end

/-! booleans -/
@[simp] theorem andB_eq (a b : Bool) : andB a b = (a && b) := by cases a <;> cases b <;> rfl
@[simp] theorem orB_eq (a b : Bool) : orB a b = (a || b) := by cases a <;> cases b <;> rfl
@[simp] theorem notB_eq (a : Bool) : notB a = !a := by cases a <;> rfl
@[simp] theorem eqB_eq (a b : Bool) : eqB a b = (a == b) := by cases a <;> cases b <;> rfl
@[simp] theorem cut_some {b : Bool} {x : R} {r : XV × XW} : cut b x = some r ↔ b = true ∧ x = some r := by cases b <;> simp [cut]
theorem iff_eq (b : Bool) (x y : R) : iff b x y = if b then x else y := by cases b <;> rfl
@[simp] theorem forceN_eq (n : Nat) (κ : Nat → R) : forceN n κ = κ n := by cases n <;> rfl
@[simp] theorem forceI_eq (n : Int) (κ : Int → R) : forceI n κ = κ n := by
  cases n with
  | ofNat n => exact forceN_eq n fun n => κ (.ofNat n)
  | negSucc n => exact forceN_eq n fun n => κ (.negSucc n)
theorem iNat_some {i : Int} {κ : Nat → R} {r : XV × XW} (h : iNat i κ = some r) : ∃ n : Nat, i = n ∧ κ n = some r := by
  cases i with
  | ofNat n => exact ⟨n, rfl, h⟩
  | negSucc n => cases h
theorem kNum_inj {a b : IntKind} (h : kNum a = kNum b) : a = b := by cases a <;> cases b <;> first | rfl | (exact absurd h (by decide))

/-! lists -/
@[simp] theorem dropL_eq (n : Nat) (l : List XV) : dropL n l = l.drop n := by
  induction n generalizing l with
  | zero => rfl
  | succ n ih => cases l with
    | nil => rfl
    | cons x t => exact ih t
@[simp] theorem takeL_eq (n : Nat) (l : List XV) : takeL n l = l.take n := by
  induction n generalizing l with
  | zero => rfl
  | succ n ih => cases l with
    | nil => rfl
    | cons x t => exact congrArg (x :: ·) (ih t)
theorem nthO_some {n : Nat} {l : List XV} {κ : XV → R} {r : XV × XW} (h : nthO n l κ = some r) : ∃ x, l[n]? = some x ∧ κ x = some r := by
  induction n generalizing l with
  | zero => cases l with
    | nil => cases h
    | cons x t => exact ⟨x, rfl, h⟩
  | succ n ih => cases l with
    | nil => cases h
    | cons x t => exact ih h
@[simp] theorem appL_eq (ys l : List XV) : appL ys l = l ++ ys := by
  induction l with
  | nil => rfl
  | cons x t ih => exact congrArg (x :: ·) ih
@[simp] theorem lenC_eq (l : List XV) : lenC l = l.length := by
  induction l with
  | nil => rfl
  | cons x t ih => exact congrArg Nat.succ ih
theorem overL_eq (vs cs : List XV) (h : vs.length ≤ cs.length) : overL vs cs = vs ++ cs.drop vs.length := by
  induction vs generalizing cs with
  | nil => rfl
  | cons v vs ih => cases cs with
    | nil => simp at h
    | cons c cs => exact congrArg (v :: ·) (ih cs (by simpa using h))
theorem setL_eq (vs : List XV) (o : Nat) (cs : List XV) (h : o + vs.length ≤ cs.length) : setL vs o cs = cs.take o ++ vs ++ cs.drop (o + vs.length) := by
  induction o generalizing cs with
  | zero =>
    show overL vs cs = _
    rw [overL_eq vs cs (by omega)]
    simp
  | succ o ih => cases cs with
    | nil => simp at h
    | cons c cs =>
      have := ih cs (by simp at h; omega)
      have e : o + 1 + vs.length = (o + vs.length) + 1 := by omega
      rw [e]
      exact congrArg (c :: ·) this
theorem repL_zero (l : List XV) : repL l 0 = [] := rfl
theorem repL_succ (l : List XV) (n : Nat) : repL l (n + 1) = l ++ repL l n := by
  show appL (repL l n) l = _
  simp
theorem repL_length (l : List XV) (n : Nat) : (repL l n).length = n * l.length := by
  induction n with
  | zero => simp [repL_zero]
  | succ n ih => rw [repL_succ, List.length_append, ih, Nat.succ_mul]; omega
theorem bytesL_succ (n c : Nat) : bytesL (n + 1) c = .int .u8 (.ofNat (c % 256)) :: bytesL n (c / 256) := rfl
theorem bytesL_length (n c : Nat) : (bytesL n c).length = n := by
  induction n generalizing c with
  | zero => rfl
  | succ n ih => rw [bytesL_succ]; simp [ih]
@[simp] theorem minN_eq (a b : Nat) : minN a b = min a b := by
  unfold minN
  rw [brec]
  split <;> rename_i h
  · have := Nat.le_of_ble_eq_true h; omega
  · have : ¬ a ≤ b := fun h' => h (Nat.ble_eq_true_of_le h')
    omega
@[simp] theorem maxN_eq (a b : Nat) : maxN a b = max a b := by
  unfold maxN
  rw [brec]
  split <;> rename_i h
  · have := Nat.le_of_ble_eq_true h; omega
  · have : ¬ a ≤ b := fun h' => h (Nat.ble_eq_true_of_le h')
    omega
theorem nthT_eq {α : Type} (n : Nat) (l : List α) : nthT n l = l[n]? := by
  induction n generalizing l with
  | zero => cases l <;> rfl
  | succ n ih => cases l with
    | nil => rfl
    | cons x t => exact ih t

/-! numbers -/
theorem addX_eq (a b : Int) : addX a b = a + b := by
  cases a with
  | ofNat a => cases b with
    | ofNat b => rfl
    | negSucc b =>
      have h : addX (.ofNat a) (.negSucc b) = @Bool.rec (fun _ => Int) (.negSucc (b - a)) (.ofNat (a - (b + 1))) (Nat.blt b a) := rfl
      rw [h, brec]
      split <;> rename_i hb
      · have : b < a := by simpa [Nat.blt_eq] using hb
        simp only [Int.ofNat_eq_natCast]; omega
      · have : ¬ b < a := by simpa [Nat.blt_eq] using hb
        simp only [Int.ofNat_eq_natCast]; omega
  | negSucc a => cases b with
    | ofNat b =>
      have h : addX (.negSucc a) (.ofNat b) = @Bool.rec (fun _ => Int) (.negSucc (a - b)) (.ofNat (b - (a + 1))) (Nat.blt a b) := rfl
      rw [h, brec]
      split <;> rename_i hb
      · have : a < b := by simpa [Nat.blt_eq] using hb
        simp only [Int.ofNat_eq_natCast]; omega
      · have : ¬ a < b := by simpa [Nat.blt_eq] using hb
        simp only [Int.ofNat_eq_natCast]; omega
    | negSucc b =>
      have h : addX (.negSucc a) (.negSucc b) = .negSucc (a + b + 1) := rfl
      rw [h]; omega
theorem negX_eq (a : Int) : negX a = -a := by
  cases a with
  | ofNat n => cases n <;> rfl
  | negSucc n => rfl
theorem eqX_eq (a b : Int) : eqX a b = (a == b) := by
  have key : ∀ a b : Nat, Nat.beq a b = (a == b) := fun a b => by rw [Bool.eq_iff_iff]; simp [Nat.beq_eq]
  cases a <;> cases b
  · rename_i a b
    show Nat.beq a b = _
    rw [key, Bool.eq_iff_iff]; simp; try omega
  · rename_i a b
    show false = _
    symm; rw [beq_eq_false_iff_ne]; intro h; cases h
  · rename_i a b
    show false = _
    symm; rw [beq_eq_false_iff_ne]; intro h; cases h
  · rename_i a b
    show Nat.beq a b = _
    rw [key, Bool.eq_iff_iff]; simp
theorem ltX_eq (a b : Int) : ltX a b = decide (a < b) := by
  have key : ∀ a b : Nat, Nat.blt a b = decide (a < b) := fun a b => by rw [Bool.eq_iff_iff]; simp [Nat.blt_eq]
  cases a <;> cases b
  · rename_i a b
    show Nat.blt a b = _
    rw [key, Bool.eq_iff_iff]; simp
  · rename_i a b
    show false = _
    symm; rw [decide_eq_false_iff_not]; simp only [Int.ofNat_eq_natCast]; omega
  · rename_i a b
    show true = _
    symm; rw [decide_eq_true_iff]; simp only [Int.ofNat_eq_natCast]; omega
  · rename_i a b
    show Nat.blt b a = _
    rw [key, Bool.eq_iff_iff]; simp; omega
theorem resid_eq (M : Nat) (hM : 0 < M) (n : Int) : (resid M n : Int) = n % (M : Int) := by
  cases n with
  | ofNat m => show ((m % M : Nat) : Int) = _; simp
  | negSucc m =>
    show ((M - 1 - m % M : Nat) : Int) = _
    have h1 : m % M < M := Nat.mod_lt _ hM
    rw [Int.negSucc_emod _ (by omega)]
    have h2 : ((m : Int) % (M : Int)) = ((m % M : Nat) : Int) := by simp
    rw [h2]
    omega
theorem wrapS_eq (M H : Nat) (r : Nat) (hr : r < M) : wrapS M H r = if (r : Int) ≥ H then (r : Int) - M else r := by
  unfold wrapS
  rw [brec]
  split <;> rename_i hb
  · have : r < H := by simpa [Nat.blt_eq] using hb
    rw [if_neg (by omega)]; rfl
  · have : ¬ r < H := by simpa [Nat.blt_eq] using hb
    rw [if_pos (by omega)]
    show Int.negSucc (M - 1 - r) = _
    omega
theorem wrapX_eq (k : IntKind) (n : Int) : wrapX k n = k.wrap n := by
  have hlt : ∀ M : Nat, 0 < M → resid M n < M := fun M hM => by
    have := resid_eq M hM n
    have h2 := Int.emod_lt_of_pos n (show (0 : Int) < M by omega)
    omega
  cases k
  · show wrapS 256 128 (resid 256 n) = _
    rw [wrapS_eq _ _ _ (hlt 256 (by decide)), resid_eq 256 (by decide)]
    simp [IntKind.wrap, IntKind.bits, IntKind.signed]
  · show wrapS 65536 32768 (resid 65536 n) = _
    rw [wrapS_eq _ _ _ (hlt 65536 (by decide)), resid_eq 65536 (by decide)]
    simp [IntKind.wrap, IntKind.bits, IntKind.signed]
  · show wrapS 4294967296 2147483648 (resid 4294967296 n) = _
    rw [wrapS_eq _ _ _ (hlt _ (by decide)), resid_eq _ (by decide)]
    simp [IntKind.wrap, IntKind.bits, IntKind.signed]
  · show wrapS 18446744073709551616 9223372036854775808 (resid 18446744073709551616 n) = _
    rw [wrapS_eq _ _ _ (hlt _ (by decide)), resid_eq _ (by decide)]
    simp [IntKind.wrap, IntKind.bits, IntKind.signed]
  · show ((resid 256 n : Nat) : Int) = _
    rw [resid_eq 256 (by decide)]
    simp [IntKind.wrap, IntKind.bits, IntKind.signed]
  · show ((resid 65536 n : Nat) : Int) = _
    rw [resid_eq 65536 (by decide)]
    simp [IntKind.wrap, IntKind.bits, IntKind.signed]
  · show ((resid 4294967296 n : Nat) : Int) = _
    rw [resid_eq _ (by decide)]
    simp [IntKind.wrap, IntKind.bits, IntKind.signed]
  · show ((resid 18446744073709551616 n : Nat) : Int) = _
    rw [resid_eq _ (by decide)]
    simp [IntKind.wrap, IntKind.bits, IntKind.signed]
end Go.Ex
namespace Go.Ex
def N4.nth {α : Type} (t : N4 α) (d : Nat) : α := match d with
  | 0 => t.a
  | 1 => t.b
  | 2 => t.c
  | 3 => t.d
  | 4 => t.e
  | 5 => t.f
  | 6 => t.g
  | 7 => t.h
  | 8 => t.i
  | 9 => t.j
  | 10 => t.k
  | 11 => t.l
  | 12 => t.m
  | 13 => t.n
  | 14 => t.o
  | _ => t.p
theorem gUp_f {α β : Type} (d : Nat) (g : BG α β) (t : N4 α) : (gUp d g).f t = g.f (t.nth d) := by
  obtain ⟨g⟩ := g
  match d with
  | 0 => rfl
  | 1 => rfl
  | 2 => rfl
  | 3 => rfl
  | 4 => rfl
  | 5 => rfl
  | 6 => rfl
  | 7 => rfl
  | 8 => rfl
  | 9 => rfl
  | 10 => rfl
  | 11 => rfl
  | 12 => rfl
  | 13 => rfl
  | 14 => rfl
  | _ + 15 => rfl
theorem sUp_nth {α β : Type} (d e : Nat) (hd : d < 16) (he : e < 16) (s : BU α β) (t : N4 α) (v : β) :
    ((sUp d s).f t v).nth e = if d = e then s.f (t.nth d) v else t.nth e := by
  obtain ⟨s⟩ := s
  obtain ⟨a, b, c, d', e', f, g, h, i, j, k, l, m, n, o, p⟩ := t
  have hd' : d = 0 ∨ d = 1 ∨ d = 2 ∨ d = 3 ∨ d = 4 ∨ d = 5 ∨ d = 6 ∨ d = 7 ∨ d = 8 ∨ d = 9 ∨ d = 10 ∨ d = 11 ∨ d = 12 ∨ d = 13 ∨ d = 14 ∨ d = 15 := by omega
  have he' : e = 0 ∨ e = 1 ∨ e = 2 ∨ e = 3 ∨ e = 4 ∨ e = 5 ∨ e = 6 ∨ e = 7 ∨ e = 8 ∨ e = 9 ∨ e = 10 ∨ e = 11 ∨ e = 12 ∨ e = 13 ∨ e = 14 ∨ e = 15 := by omega
  rcases hd' with rfl | rfl | rfl | rfl | rfl | rfl | rfl | rfl | rfl | rfl | rfl | rfl | rfl | rfl | rfl | rfl <;> rcases he' with rfl | rfl | rfl | rfl | rfl | rfl | rfl | rfl | rfl | rfl | rfl | rfl | rfl | rfl | rfl | rfl <;> rfl
theorem gs_up {α β : Type} (d e : Nat) (hd : d < 16) (he : e < 16) (g : BG α β) (s : BU α β) (t : N4 α) (v : β) (P : Prop) [Decidable P]
    (h : ∀ x, g.f (s.f x v) = if P then v else g.f x) :
    (gUp e g).f ((sUp d s).f t v) = if d = e ∧ P then v else (gUp e g).f t := by
  rw [gUp_f, gUp_f, sUp_nth d e hd he]
  by_cases hde : d = e
  · subst hde
    rw [if_pos rfl, h]
    by_cases hp : P <;> simp [hp]
  · rw [if_neg hde, if_neg (fun h => hde h.1)]
theorem get_set4 {β : Type} (n m : Nat) (hn : n < 256) (hm : m < 256) (t : S4 β) (v : β) :
    (get4 m).f ((set4 n).f t v) = if m = n then v else (get4 m).f t := by
  have h0 : ∀ x : β, (⟨fun x => x⟩ : BG β β).f ((⟨fun _ v => v⟩ : BU β β).f x v) = if True then v else (⟨fun x => x⟩ : BG β β).f x := fun _ => by simp
  have h1 := fun t => gs_up (n % 16) (m % 16) (by omega) (by omega) _ _ t v _ h0
  have h2 := gs_up (n / 16 % 16) (m / 16 % 16) (by omega) (by omega) _ _ t v _ h1
  refine Eq.trans h2 ?_
  have : (n / 16 % 16 = m / 16 % 16 ∧ n % 16 = m % 16 ∧ True) ↔ m = n := ⟨fun ⟨_, _, _⟩ => by omega, fun h => by subst h; exact ⟨rfl, rfl, trivial⟩⟩
  by_cases h : m = n
  · rw [if_pos (this.2 h), if_pos h]
  · rw [if_neg (fun e => h (this.1 e)), if_neg h]; rfl
end Go.Ex
namespace Go.Ex

/-- an executor's block: the real block, the cell at which it begins, how many cells there are from there on -/
abbrev Rho := Nat → Option (Nat × Nat × Nat)

/-- a value of one cell -/
def flatV : Value → Bool
  | .agg _ | .tuple _ => false
  | _ => true

/-- what lay there before lies there yet -/
structure Keeps (w w' : World) : Prop where
  size : w.heap.size ≤ w'.heap.size
  old : ∀ r, r < w.heap.size → w'.heap[r]? = w.heap[r]?
  tape : w'.tape = w.tape
  os : w'.os = w.os
  out : w'.output = w.output
theorem Keeps.refl (w : World) : Keeps w w := ⟨Nat.le_refl _, fun _ _ => rfl, rfl, rfl, rfl⟩
theorem Keeps.trans {w w' w'' : World} (h : Keeps w w') (k : Keeps w' w'') : Keeps w w'' :=
  ⟨Nat.le_trans h.size k.size, fun r hr => (k.old r (Nat.lt_of_lt_of_le hr h.size)).trans (h.old r hr), k.tape.trans h.tape, k.os.trans h.os, k.out.trans h.out⟩

/-- what the atoms stand for; those past a bound are bytes; worlds in which the known functions are called -/
class Val extends Tab where
  G : World → Prop
  stays : ∀ w w', Keeps w w' → G w → G w'
  σ : Nat → Value
  flat : ∀ i, flatV (σ i) = true
  byte : ∀ i, byteFrom ≤ i → ∃ b : UInt8, σ i = .int .u8 (b.toNat : Int)
variable [Val]
set_option linter.unusedSectionVars false

/-- what a real value is to a known one -/
inductive VR (ρ : Rho) : XV → Value → Prop
  | unk {v : Value} : flatV v = true → VR ρ .unk v
  | bad {v : Value} : VR ρ .bad v
  | bool (b : Bool) : VR ρ (.bool b) (.bool b)
  | int (k : IntKind) (n : Int) : VR ρ (.int k n) (.int k n)
  | str {s : ByteArray} {n c : Nat} : s.data.toList.length = n → codeL s.data.toList = c → VR ρ (.str n c) (.string s)
  | ptr {b r d q o : Nat} : ρ b = some (r, d, q) → VR ρ (.ptr b o) (.pointer (some ⟨r, d + o, none⟩))
  | ptrNil : VR ρ .ptrNil (.pointer none)
  | slice {b r d q o n c c' m : Nat} : ρ b = some (r, d, q) → c ≤ c' → (m = 0 → c' = c) → (m ≠ 0 → o + c' * m ≤ q) →
      VR ρ (.slice b o n c m) (.slice (some ⟨r, d + o, none⟩) n c')
  | sliceNil : VR ρ .sliceNil (.slice none 0 0)
  | sliceE (a : Addr) (c : Nat) : a.spot = none → VR ρ .sliceE (.slice (some a) 0 c)
  | map {b r q : Nat} : ρ b = some (r, 0, q) → VR ρ (.map b) (.map (some r))
  | mapNil : VR ρ .mapNil (.map none)
  | func (fn : Fn) {f c : List XV} {f' c' : Array Value} : f.length = f'.size → c.length = c'.size →
      (∀ (i : Nat) (x : XV) (y : Value), f[i]? = some x → f'[i]? = some y → VR ρ x y) →
      (∀ (i : Nat) (x : XV) (y : Value), c[i]? = some x → c'[i]? = some y → VR ρ x y) → VR ρ (.func fn f c) (.func fn f' c')
  | nilFunc : VR ρ .nilFunc .nilFunc
  | iface (t : TypeId) {x : XV} {y : Value} : VR ρ x y → VR ρ (.iface t x) (.iface t y)
  | nilIface : VR ρ .nilIface .nilIface
  | agg {n : Nat} {l : List XV} {l' : Array Value} : l.length = n → l'.size = n → (∀ (i : Nat) (x : XV) (y : Value), l[i]? = some x → l'[i]? = some y → VR ρ x y) →
      (∀ (i : Nat) (y : Value), l'[i]? = some y → flatV y = true) → VR ρ (.agg n l) (.agg l')
  | tuple {l : List XV} {l' : Array Value} : l.length = l'.size → (∀ (i : Nat) (x : XV) (y : Value), l[i]? = some x → l'[i]? = some y → VR ρ x y) →
      VR ρ (.tuple l) (.tuple l')
  | atom (i : Nat) : VR ρ (.atom i) (Val.σ i)
  | strA {l : List Nat} {s : ByteArray} : l.map Val.σ = s.data.toList.map (fun b => Value.int .u8 (b.toNat : Int)) → VR ρ (.strA l) (.string s)

/-- rows of values -/
def VRs (ρ : Rho) (l : List XV) (l' : List Value) : Prop :=
  l.length = l'.length ∧ ∀ (i : Nat) (x : XV) (y : Value), l[i]? = some x → l'[i]? = some y → VR ρ x y

def Rho.le (ρ ρ' : Rho) : Prop := ∀ b x, ρ b = some x → ρ' b = some x

theorem VR.mono {ρ ρ' : Rho} (h : Rho.le ρ ρ') {x : XV} {y : Value} (hv : VR ρ x y) : VR ρ' x y := by
  induction hv with
  | unk h => exact .unk h
  | bad => exact .bad
  | bool b => exact .bool b
  | int k n => exact .int k n
  | str h1 h2 => exact .str h1 h2
  | ptr h1 => exact .ptr (h _ _ h1)
  | ptrNil => exact .ptrNil
  | slice h1 h2 h3 h4 => exact .slice (h _ _ h1) h2 h3 h4
  | sliceNil => exact .sliceNil
  | sliceE a c h1 => exact .sliceE a c h1
  | map h1 => exact .map (h _ _ h1)
  | mapNil => exact .mapNil
  | atom i => exact .atom i
  | strA h => exact .strA h
  | func fn h1 h2 _ _ i1 i2 => exact .func fn h1 h2 i1 i2
  | nilFunc => exact .nilFunc
  | iface t _ i => exact .iface t i
  | nilIface => exact .nilIface
  | agg h1 h2 _ h3 i => exact .agg h1 h2 i h3
  | tuple h1 _ i => exact .tuple h1 i

section
variable {ρ ρ' : Rho}
theorem VRs.nil (ρ : Rho) : VRs ρ [] [] := ⟨rfl, by simp⟩
theorem VRs.cons {x : XV} {y : Value} {l : List XV} {l' : List Value} (h : VR ρ x y) (hl : VRs ρ l l') : VRs ρ (x :: l) (y :: l') := by
  refine ⟨by simp [hl.1], fun i a b ha hb => ?_⟩
  cases i with
  | zero => simp at ha hb; subst ha; subst hb; exact h
  | succ i => simp at ha hb; exact hl.2 i a b ha hb
theorem VRs.head {x : XV} {y : Value} {l : List XV} {l' : List Value} (h : VRs ρ (x :: l) (y :: l')) : VR ρ x y := h.2 0 x y rfl rfl
theorem VRs.tail {x : XV} {y : Value} {l : List XV} {l' : List Value} (h : VRs ρ (x :: l) (y :: l')) : VRs ρ l l' :=
  ⟨by have := h.1; simpa using this, fun i a b ha hb => h.2 (i + 1) a b (by simpa using ha) (by simpa using hb)⟩
theorem VRs.one {x : XV} {y : Value} (h : VR ρ x y) : VRs ρ [x] [y] := VRs.cons h (VRs.nil ρ)
theorem VRs.mono (h : Rho.le ρ ρ') {l : List XV} {l' : List Value} (hl : VRs ρ l l') : VRs ρ' l l' :=
  ⟨hl.1, fun i a b ha hb => (hl.2 i a b ha hb).mono h⟩
theorem VRs.append {l m : List XV} {l' m' : List Value} (h : VRs ρ l l') (hm : VRs ρ m m') : VRs ρ (l ++ m) (l' ++ m') := by
  induction l generalizing l' with
  | nil =>
    cases l' with
    | nil => simpa using hm
    | cons y l' => simp [VRs] at h
  | cons x l ih =>
    cases l' with
    | nil => simp [VRs] at h
    | cons y l' => exact VRs.cons h.head (ih h.tail)
theorem VRs.drop {l : List XV} {l' : List Value} (h : VRs ρ l l') (n : Nat) : VRs ρ (l.drop n) (l'.drop n) :=
  ⟨by simp [h.1], fun i a b ha hb => h.2 (n + i) a b (by simpa using ha) (by simpa using hb)⟩
theorem VRs.take {l : List XV} {l' : List Value} (h : VRs ρ l l') (n : Nat) : VRs ρ (l.take n) (l'.take n) := by
  refine ⟨by simp [h.1], fun i a b ha hb => ?_⟩
  rw [List.getElem?_take] at ha hb
  split at ha
  · rename_i hi; rw [if_pos hi] at hb; exact h.2 i a b ha hb
  · cases ha
theorem VRs.get {l : List XV} {l' : List Value} (h : VRs ρ l l') {i : Nat} {x : XV} (hx : l[i]? = some x) : ∃ y, l'[i]? = some y ∧ VR ρ x y := by
  have hi : i < l'.length := by
    rw [← h.1]
    rcases Nat.lt_or_ge i l.length with h' | h'
    · exact h'
    · rw [List.getElem?_eq_none h'] at hx; cases hx
  exact ⟨l'[i], by simp [hi], h.2 i x _ hx (by simp [hi])⟩
theorem VR.agg' {n : Nat} {l : List XV} {us : List Value} (hn : l.length = n) (h : VRs ρ l us) (hf : ∀ v ∈ us, flatV v = true) : VR ρ (.agg n l) (.agg us.toArray) :=
  .agg hn (by rw [← hn, h.1]; simp) (fun i x y hx hy => h.2 i x y hx (by simpa using hy)) (fun i y hy => hf y (by simpa using Array.mem_of_getElem? hy))
theorem VR.agg_inv {n : Nat} {l : List XV} {v : Value} (h : VR ρ (.agg n l) v) : ∃ cs : Array Value, v = .agg cs ∧ l.length = n ∧ cs.size = n ∧ VRs ρ l cs.toList ∧ ∀ u ∈ cs.toList, flatV u = true := by
  cases h with
  | agg h1 h2 h3 h4 => exact ⟨_, rfl, h1, h2, ⟨by simp [h1, h2], fun i x y hx hy => h3 i x y hx (by simpa using hy)⟩, fun u hu => by
      obtain ⟨i, hi⟩ := List.getElem?_of_mem hu
      exact h4 i u (by simpa using hi)⟩
theorem VR.tuple_inv {l : List XV} {v : Value} (h : VR ρ (.tuple l) v) : ∃ cs : Array Value, v = .tuple cs ∧ VRs ρ l cs.toList := by
  cases h with
  | tuple h1 h2 => exact ⟨_, rfl, ⟨by simpa using h1, fun i x y hx hy => h2 i x y hx (by simpa using hy)⟩⟩
theorem VR.tuple' {l : List XV} {us : List Value} (h : VRs ρ l us) : VR ρ (.tuple l) (.tuple us.toArray) :=
  .tuple (by simpa using h.1) (fun i x y hx hy => h.2 i x y hx (by simpa using hy))
theorem VR.undef : VR ρ undefX (.tuple #[]) := .tuple rfl (by simp)
end

/-- real block r, from cell d on, is as block x says; q cells are there -/
def Blk (ρ : Rho) (w : World) (r d q : Nat) : XB → Prop
  | .cells e n cs plain _ frz ro => cs.length = n ∧ n ≤ q ∧ ∃ C lo hi, w.heap[r]? = some (.cells C e (lo, hi)) ∧ C.size = d + q ∧ VRs ρ cs ((C.toList.drop d).take n) ∧ ((∀ y ∈ (C.toList.drop d).take n, flatV y = true) ∧ (ro = false → ∀ y ∈ C, flatV y = true)) ∧
      (plain = true → d = 0 ∧ q = n) ∧ (ro = false → lo = hi ∨ hi ≤ d + frz)
  | .map es clock => d = 0 ∧ ∃ es' : Array MapEntry, w.heap[r]? = some (.map es' clock) ∧ es.length = es'.size ∧
      ∀ (i : Nat) (x : XV × XV) (y : MapEntry), es[i]? = some x → es'[i]? = some y → VR ρ x.1 y.key ∧ VR ρ x.2 y.val
  | .iter n c pos => d = 0 ∧ ∃ s : ByteArray, w.heap[r]? = some (.stringIter s pos) ∧ s.data.toList.length = n ∧ codeL s.data.toList = c

def XB.kin? : XB → Option Nat
  | .cells _ _ _ _ k _ _ => k
  | _ => none
def XB.ro? : XB → Bool
  | .cells _ _ _ _ _ _ ro => ro
  | _ => false

/-- the known heap E says what world w holds, w₀ being the world at the start -/
structure Rep (w₀ : World) (ρ : Rho) (E : XW) (w : World) : Prop where
  size : w₀.heap.size ≤ w.heap.size
  old : ∀ r, r < w₀.heap.size → w.heap[r]? = w₀.heap[r]?
  tape : w.tape = w₀.tape
  os : w.os = w₀.os
  out : w.output = w₀.output
  ok : Val.G w₀
  glob : ∃ q, ρ 0 = some (0, 0, q)
  next : ∀ b x, ρ b = some x → b < E.next ∧ x.1 < w.heap.size
  blk : ∀ b x r d q, E.heap.get b = some x → ρ b = some (r, d, q) → Blk ρ w r d q x
  own : ∀ b x r d q, E.heap.get b = some x → ρ b = some (r, d, q) → x.ro? = false → w₀.heap.size ≤ r
  kin : ∀ b b' x x' r d d' q q', b ≠ b' → E.heap.get b = some x → E.heap.get b' = some x' → ρ b = some (r, d, q) → ρ b' = some (r, d', q') → x.kin? = some b'

theorem Blk.mono {ρ ρ' : Rho} (h : Rho.le ρ ρ') {w : World} {r d q : Nat} {x : XB} (hb : Blk ρ w r d q x) : Blk ρ' w r d q x := by
  cases x with
  | cells e n cs plain k frz ro =>
    obtain ⟨h0, hq, C, lo, hi, h1, h2, h3, h4⟩ := hb
    exact ⟨h0, hq, C, lo, hi, h1, h2, h3.mono h, h4⟩
  | map es clock =>
    obtain ⟨h0, es', h1, h2, h3⟩ := hb
    exact ⟨h0, es', h1, h2, fun i x y hx hy => ⟨((h3 i x y hx hy).1).mono h, ((h3 i x y hx hy).2).mono h⟩⟩
  | iter n c pos => exact hb

theorem Blk.world {ρ : Rho} {w w' : World} {r d q : Nat} {x : XB} (h : w'.heap[r]? = w.heap[r]?) (hb : Blk ρ w r d q x) : Blk ρ w' r d q x := by
  cases x with
  | cells e n cs plain k frz ro =>
    obtain ⟨h0, hq, C, lo, hi, h1, h2⟩ := hb
    exact ⟨h0, hq, C, lo, hi, h.trans h1, h2⟩
  | map es clock =>
    obtain ⟨h0, es', h1, h2⟩ := hb
    exact ⟨h0, es', h.trans h1, h2⟩
  | iter n c pos =>
    obtain ⟨h0, s, h1, h2⟩ := hb
    exact ⟨h0, s, h.trans h1, h2⟩

/-- a relation that goes on: what was known stays -/
def Ext (n : Nat) (ρ ρ' : Rho) : Prop := ∀ b, b < n → ρ' b = ρ b
theorem Ext.refl (n : Nat) (ρ : Rho) : Ext n ρ ρ := fun _ _ => rfl
theorem Ext.trans {n m : Nat} {ρ ρ' ρ'' : Rho} (h : Ext n ρ ρ') (h' : Ext m ρ' ρ'') (hn : n ≤ m) : Ext n ρ ρ'' := fun b hb => (h' b (by omega)).trans (h b hb)
theorem Rep.le {w₀ w : World} {ρ ρ' : Rho} {E : XW} (h : Rep w₀ ρ E w) (hx : Ext E.next ρ ρ') : Rho.le ρ ρ' := fun b x hb => (hx b (h.next b x hb).1).trans hb

/-- a world in which more was drawn -/
theorem Rep.drew {w₀ w : World} {ρ : Rho} {E : XW} (h : Rep w₀ ρ E w) (n : Nat) : Rep w₀ ρ E { w with drawn := n } :=
  ⟨h.size, h.old, h.tape, h.os, h.out, h.ok, h.glob, h.next, fun b x r d q hx hr => (h.blk b x r d q hx hr).world rfl, h.own, h.kin⟩

def Rho.ext (ρ : Rho) (b : Nat) (x : Nat × Nat × Nat) : Rho := fun n => if n = b then some x else ρ n
theorem Rho.ext_same (ρ : Rho) (b : Nat) (x : Nat × Nat × Nat) : ρ.ext b x b = some x := by simp [Rho.ext]
theorem Rho.le_ext {ρ : Rho} {b : Nat} {x : Nat × Nat × Nat} (h : ρ b = none) : Rho.le ρ (ρ.ext b x) := by
  intro n y hn
  unfold Rho.ext
  split
  · rename_i e; subst e; rw [h] at hn; cases hn
  · exact hn
theorem Ext.ext (ρ : Rho) (b : Nat) (x : Nat × Nat × Nat) : Ext b ρ (ρ.ext b x) := fun n hn => by
  unfold Rho.ext; rw [if_neg (by omega)]
theorem Rep.fresh {w₀ w : World} {ρ : Rho} {E : XW} (h : Rep w₀ ρ E w) : ρ E.next = none := by
  cases hr : ρ E.next with
  | none => rfl
  | some x => exact absurd (h.next _ _ hr).1 (Nat.lt_irrefl _)

/-- a block that the heap holds is made in the world now -/
theorem Rep.made {w₀ w : World} {ρ : Rho} {E : XW} (h : Rep w₀ ρ E w) {b q : Nat} {x : XB} {o : Obj} (hf : ρ b = none) (hbn : b < E.next) (hg : E.heap.get b = some x)
    (hb : Blk (ρ.ext b (w.heap.size, 0, q)) { w with heap := w.heap.push o } w.heap.size 0 q x) :
    Rep w₀ (ρ.ext b (w.heap.size, 0, q)) E { w with heap := w.heap.push o } := by
  have hle : Rho.le ρ (ρ.ext b (w.heap.size, 0, q)) := Rho.le_ext hf
  have hsame : ∀ r, r < w.heap.size → (w.heap.push o)[r]? = w.heap[r]? := fun r hr => by
    rw [Array.getElem?_push]; simp; omega
  refine ⟨?_, ?_, h.tape, h.os, h.out, h.ok, ?_, ?_, ?_, ?_, ?_⟩
  · have := h.size; simp; omega
  · intro r hr
    have := h.size
    rw [← h.old r hr]
    exact hsame r (by omega)
  · obtain ⟨q0, h0⟩ := h.glob
    exact ⟨q0, hle _ _ h0⟩
  · intro b' y hy
    unfold Rho.ext at hy
    split at hy
    · rename_i e; cases hy; subst e; simpa using hbn
    · have := h.next _ _ hy
      simp; omega
  · intro b' y r d q' hy hr
    unfold Rho.ext at hr
    split at hr
    · rename_i e
      subst e
      cases hr
      rw [hg] at hy; cases hy
      exact hb
    · rename_i e
      exact ((h.blk b' y r d q' hy hr).mono hle).world (hsame r (h.next _ _ hr).2)
  · intro b' y r d q' hy hr hyr
    unfold Rho.ext at hr
    split at hr
    · cases hr; exact h.size
    · exact h.own b' y r d q' hy hr hyr
  · intro b1 b2 y y' r d d' q1 q2 hne hy hy' hr hr'
    unfold Rho.ext at hr hr'
    by_cases e : b1 = b
    · rw [if_pos e] at hr
      cases hr
      by_cases e' : b2 = b
      · exact absurd (e.trans e'.symm) hne
      · rw [if_neg e'] at hr'
        exact absurd (h.next _ _ hr').2 (Nat.lt_irrefl _)
    · rw [if_neg e] at hr
      by_cases e' : b2 = b
      · rw [if_pos e'] at hr'
        cases hr'
        exact absurd (h.next _ _ hr).2 (Nat.lt_irrefl _)
      · rw [if_neg e'] at hr'
        exact h.kin b1 b2 y y' r d d' q1 q2 hne hy hy' hr hr'

/-- the heap holds a block that the world has not yet -/
theorem Rep.plan {w₀ w : World} {ρ : Rho} {E : XW} (h : Rep w₀ ρ E w) (x : XB) (hn : E.next < lim) :
    Rep w₀ ρ ⟨E.heap.set dep E.next (some x), E.next + 1⟩ w := by
  have hget : ∀ b, (E.heap.set dep E.next (some x)).get b = if b = E.next then some x else E.heap.get b := fun b => get_set_dep _ _ _ hn
  have hne : ∀ b y, ρ b = some y → b ≠ E.next := fun b y hb e => by subst e; exact absurd (h.next _ _ hb).1 (Nat.lt_irrefl _)
  refine ⟨h.size, h.old, h.tape, h.os, h.out, h.ok, h.glob, fun b y hy => ⟨Nat.lt_succ_of_lt (h.next b y hy).1, (h.next b y hy).2⟩, ?_, ?_, ?_⟩
  · intro b y r d q hy hr
    rw [hget, if_neg (hne b _ hr)] at hy
    exact h.blk b y r d q hy hr
  · intro b y r d q hy hr
    rw [hget, if_neg (hne b _ hr)] at hy
    exact h.own b y r d q hy hr
  · intro b b' y y' r d d' q q' hbb hy hy' hr hr'
    rw [hget, if_neg (hne b _ hr)] at hy
    rw [hget, if_neg (hne b' _ hr')] at hy'
    exact h.kin b b' y y' r d d' q q' hbb hy hy' hr hr'

/-- a new block -/
theorem Rep.new {w₀ w : World} {ρ : Rho} {E : XW} (h : Rep w₀ ρ E w) {x : XB} {o : Obj} {q : Nat} (hn : E.next < lim)
    (hb : Blk (ρ.ext E.next (w.heap.size, 0, q)) { w with heap := w.heap.push o } w.heap.size 0 q x) :
    Rep w₀ (ρ.ext E.next (w.heap.size, 0, q)) ⟨E.heap.set dep E.next (some x), E.next + 1⟩ { w with heap := w.heap.push o } :=
  (h.plan x hn).made h.fresh (Nat.lt_succ_self _) (by rw [get_set_dep _ _ _ hn, if_pos rfl]) hb

theorem kill_some (h : Tr XB) (b : Nat) : kill h (some b) = h.set dep b none := rfl
theorem kill_none (h : Tr XB) : kill h none = h := rfl
theorem kinOk_some {k : Option Nat} (h : kinOk k = true) : ∀ c, k = some c → c < lim := by
  intro c hc; subst hc
  have : Nat.blt c lim = true := h
  simpa [Nat.blt_eq] using this
theorem get_kill {h : Tr XB} {k : Option Nat} (hk : ∀ b, k = some b → b < lim) (n : Nat) :
    (kill h k).get n = if k = some n then none else h.get n := by
  cases k with
  | none => simp [kill_none]
  | some b =>
    rw [kill_some, get_set_dep _ _ _ (hk b rfl)]
    by_cases e : n = b
    · subst e; simp
    · rw [if_neg e, if_neg (by intro e'; cases e'; exact e rfl)]

/-- a block turns; its kin dies -/
theorem Rep.turn {w₀ w w' : World} {ρ : Rho} {E : XW} (h : Rep w₀ ρ E w) {b r d q : Nat} {x x' : XB}
    (hb : E.heap.get b = some x) (hr : ρ b = some (r, d, q)) (hro : x.ro? = false) (hbn : b < lim) (hk : ∀ c, x.kin? = some c → c < lim)
    (hs : w'.heap.size = w.heap.size) (ho : ∀ q, q ≠ r → w'.heap[q]? = w.heap[q]?) (ht : w'.tape = w.tape) (hos : w'.os = w.os) (hout : w'.output = w.output)
    (hB : Blk ρ w' r d q x') :
    Rep w₀ ρ ⟨(kill E.heap x.kin?).set dep b (some x'), E.next⟩ w' := by
  have hget : ∀ n, ((kill E.heap x.kin?).set dep b (some x')).get n =
      if n = b then some x' else if x.kin? = some n then none else E.heap.get n := fun n => by
    rw [get_set_dep _ _ _ hbn, get_kill hk]
  have hown : w₀.heap.size ≤ r := h.own b _ r d q hb hr hro
  have other : ∀ n y r' d' q', n ≠ b → (if x.kin? = some n then none else E.heap.get n) = some y → ρ n = some (r', d', q') → r' ≠ r ∧ E.heap.get n = some y := by
    intro n y r' d' q' hn hx hρ
    split at hx
    · cases hx
    · rename_i hkn
      refine ⟨fun e => ?_, hx⟩
      subst e
      exact hkn (h.kin b n _ y _ d d' q q' (Ne.symm hn) hb hx hr hρ)
  refine ⟨by rw [hs]; exact h.size, fun q hq => ?_, ht.trans h.tape, hos.trans h.os, hout.trans h.out, h.ok, h.glob, fun n y hn => ?_, ?_, ?_, ?_⟩
  · rw [ho q (by omega), h.old q hq]
  · rw [hs]; exact h.next n y hn
  · intro n y r' d' q' hx hρ
    rw [hget] at hx
    split at hx
    · rename_i en
      subst en
      cases hx
      rw [hr] at hρ
      cases hρ
      exact hB
    · rename_i en
      obtain ⟨hne, hx'⟩ := other n y r' d' q' en hx hρ
      exact (h.blk n y r' d' q' hx' hρ).world (ho r' hne)
  · intro n y r' d' q' hx hρ hro'
    rw [hget] at hx
    split at hx
    · rename_i en
      subst en
      rw [hr] at hρ
      cases hρ
      exact hown
    · rename_i en
      exact h.own n y r' d' q' (other n y r' d' q' en hx hρ).2 hρ hro'
  · intro n n' y y' r' d1 d2 q1 q2 hne hx hx' hρ hρ'
    rw [hget] at hx hx'
    split at hx
    · rename_i en
      subst en
      rw [hr] at hρ
      cases hρ
      split at hx'
      · rename_i en'; exact absurd en'.symm hne
      · rename_i en'
        exact absurd rfl (other n' y' _ d2 q2 en' hx' hρ').1
    · rename_i en
      have h1 := other n y r' d1 q1 en hx hρ
      split at hx'
      · rename_i en'
        subst en'
        rw [hr] at hρ'
        cases hρ'
        exact absurd rfl h1.1
      · rename_i en'
        exact h.kin n n' y y' r' d1 d2 q1 q2 hne h1.2 (other n' y' r' d2 q2 en' hx' hρ').2 hρ hρ'
end Go.Ex
namespace Go.Ex
variable [Val]
set_option linter.unusedSectionVars false
variable {P : Program}

/-! views -/
section
variable {v : XV} {r : XV × XW}
theorem vInt_some {κ : IntKind → Int → R} (h : vInt v κ = some r) : ∃ k n, v = .int k n ∧ κ k n = some r := by
  cases v <;> first | (have h' : (none : R) = some r := h; cases h'; done) | exact ⟨_, _, rfl, h⟩
theorem vBool_some {κ : Bool → R} (h : vBool v κ = some r) : ∃ b, v = .bool b ∧ κ b = some r := by
  cases v <;> first | (have h' : (none : R) = some r := h; cases h'; done) | exact ⟨_, rfl, h⟩
theorem vIf_some {x y : R} (h : vIf v x y = some r) : ∃ b, v = .bool b ∧ (if b then x else y) = some r := by
  cases v <;> first | (have h' : (none : R) = some r := h; cases h'; done) | (rename_i b; exact ⟨b, rfl, by cases b <;> exact h⟩)
theorem vPtr_some {κ : Nat → Nat → R} (h : vPtr v κ = some r) : ∃ b o, v = .ptr b o ∧ κ b o = some r := by
  cases v <;> first | (have h' : (none : R) = some r := h; cases h'; done) | exact ⟨_, _, rfl, h⟩
theorem vPtrN_some {κ : Nat → Nat → R} {x : R} (h : vPtrN v κ x = some r) : (∃ b o, v = .ptr b o ∧ κ b o = some r) ∨ (v = .ptrNil ∧ x = some r) := by
  cases v <;> first | (have h' : (none : R) = some r := h; cases h'; done) | exact .inl ⟨_, _, rfl, h⟩ | exact .inr ⟨rfl, h⟩
theorem vStr_some {κ : Nat → Nat → R} (h : vStr v κ = some r) : ∃ n c, v = .str n c ∧ κ n c = some r := by
  cases v <;> first | (have h' : (none : R) = some r := h; cases h'; done) | exact ⟨_, _, rfl, h⟩
theorem vAgg_some {κ : Nat → List XV → R} (h : vAgg v κ = some r) : ∃ n cs, v = .agg n cs ∧ κ n cs = some r := by
  cases v <;> first | (have h' : (none : R) = some r := h; cases h'; done) | exact ⟨_, _, rfl, h⟩
theorem vTuple_some {κ : List XV → R} (h : vTuple v κ = some r) : ∃ vs, v = .tuple vs ∧ κ vs = some r := by
  cases v <;> first | (have h' : (none : R) = some r := h; cases h'; done) | exact ⟨_, rfl, h⟩
theorem vSl_some {κ : Nat → Nat → Nat → Nat → Nat → R} {x y : R} (h : vSl v κ x y = some r) :
    (∃ b o n c m, v = .slice b o n c m ∧ κ b o n c m = some r) ∨ (v = .sliceNil ∧ x = some r) ∨ (v = .sliceE ∧ y = some r) := by
  cases v <;> first | (have h' : (none : R) = some r := h; cases h'; done) | exact .inl ⟨_, _, _, _, _, rfl, h⟩ | exact .inr (.inl ⟨rfl, h⟩) | exact .inr (.inr ⟨rfl, h⟩)
theorem vMap_some {κ : Nat → R} {x : R} (h : vMap v κ x = some r) : (∃ m, v = .map m ∧ κ m = some r) ∨ (v = .mapNil ∧ x = some r) := by
  cases v <;> first | (have h' : (none : R) = some r := h; cases h'; done) | exact .inl ⟨_, rfl, h⟩ | exact .inr ⟨rfl, h⟩
theorem vFunc_some {κ : Fn → List XV → List XV → R} {x : R} (h : vFunc v κ x = some r) : (∃ fn f c, v = .func fn f c ∧ κ fn f c = some r) ∨ (v = .nilFunc ∧ x = some r) := by
  cases v <;> first | (have h' : (none : R) = some r := h; cases h'; done) | exact .inl ⟨_, _, _, rfl, h⟩ | exact .inr ⟨rfl, h⟩
theorem vIface_some {κ : TypeId → XV → R} {x : R} (h : vIface v κ x = some r) : (∃ t u, v = .iface t u ∧ κ t u = some r) ∨ (v = .nilIface ∧ x = some r) := by
  cases v <;> first | (have h' : (none : R) = some r := h; cases h'; done) | exact .inl ⟨_, _, rfl, h⟩ | exact .inr ⟨rfl, h⟩
theorem vNil_some {κ : XV → R} (h : vNil v κ = some r) : ∃ b o, v = .ptr b o ∧ κ (.ptr b o) = some r := by
  cases v <;> first | (have h' : (none : R) = some r := h; cases h'; done) | exact ⟨_, _, rfl, h⟩
theorem vKey_some {κ : IntKind → Int → R} {κ' : Nat → Nat → R} (h : vKey v κ κ' = some r) : (∃ k n, v = .int k n ∧ κ k n = some r) ∨ (∃ n c, v = .str n c ∧ κ' n c = some r) := by
  cases v <;> first | (have h' : (none : R) = some r := h; cases h'; done) | exact .inl ⟨_, _, rfl, h⟩ | exact .inr ⟨_, _, rfl, h⟩
theorem vStrSl_some {κ : Nat → Nat → R} {κ' : Nat → Nat → Nat → R} {x : R} (h : vStrSl v κ κ' x = some r) :
    (∃ n c, v = .str n c ∧ κ n c = some r) ∨ (∃ b o n c m, v = .slice b o n c m ∧ κ' b o n = some r) ∨ ((v = .sliceNil ∨ v = .sliceE) ∧ x = some r) := by
  cases v <;> first | (have h' : (none : R) = some r := h; cases h'; done) | exact .inl ⟨_, _, rfl, h⟩ | exact .inr (.inl ⟨_, _, _, _, _, rfl, h⟩) | exact .inr (.inr ⟨.inl rfl, h⟩) | exact .inr (.inr ⟨.inr rfl, h⟩)
theorem vId_some {κ : Nat → R} (h : vId v κ = some r) : (∃ b, κ b = some r ∧ ((∃ o, v = .ptr b o) ∨ (∃ o n c m, v = .slice b o n c m) ∨ v = .map b)) := by
  cases v <;> first | (have h' : (none : R) = some r := h; cases h'; done) | exact ⟨_, h, .inl ⟨_, rfl⟩⟩ | exact ⟨_, h, .inr (.inl ⟨_, _, _, _, rfl⟩)⟩ | exact ⟨_, h, .inr (.inr rfl)⟩
theorem vWantT_some {κ : Bool → R} (h : vWantT v κ = some r) : v ≠ .unk ∧ v ≠ .bad ∧ κ (match v with | .bool b => b | _ => false) = some r := by
  cases v <;> first | (have h' : (none : R) = some r := h; cases h'; done) | (refine ⟨by simp, by simp, ?_⟩; exact h)
theorem vWantF_some {κ : Bool → R} (h : vWantF v κ = some r) : v ≠ .unk ∧ v ≠ .bad ∧ κ (match v with | .bool b => !b | _ => false) = some r := by
  cases v <;> first | (have h' : (none : R) = some r := h; cases h'; done) | (refine ⟨by simp, by simp, ?_⟩; first | exact h | (rename_i b; cases b <;> exact h))

/-- a value's cells -/
theorem vCells_some {ρ : Rho} {u : Value} {κ : Nat → List XV → R} (hv : VR ρ v u) (h : vCells v κ = some r) :
    ∃ n l, κ n l = some r ∧ l.length = n ∧ VRs ρ l u.cells.toList ∧ ∀ y ∈ u.cells.toList, flatV y = true := by
  have one : flatV u = true → u.cells = #[u] := by cases u <;> simp [flatV, Value.cells]
  have flat1 : ∀ {v : XV}, VR ρ v u → flatV u = true → κ 1 [v] = some r → ∃ n l, κ n l = some r ∧ l.length = n ∧ VRs ρ l u.cells.toList ∧ ∀ y ∈ u.cells.toList, flatV y = true := by
    intro v hv hf h
    rw [one hf]
    exact ⟨1, [v], h, rfl, VRs.one hv, by simpa using hf⟩
  cases hv with
  | bad => cases h
  | tuple h1 h2 => cases h
  | agg h1 h2 h3 h4 =>
    refine ⟨_, _, h, h1, ⟨by simpa [Value.cells] using h1.trans h2.symm, fun i a b ha hb => h3 i a b ha (by simpa [Value.cells] using hb)⟩, fun u hu => ?_⟩
    obtain ⟨i, hi⟩ := List.getElem?_of_mem hu
    exact h4 i u (by simpa [Value.cells] using hi)
  | unk hf => exact flat1 (.unk hf) hf h
  | bool b => exact flat1 (.bool b) rfl h
  | int k n => exact flat1 (.int k n) rfl h
  | str h1 h2 => exact flat1 (.str h1 h2) rfl h
  | ptr h1 => exact flat1 (.ptr h1) rfl h
  | ptrNil => exact flat1 .ptrNil rfl h
  | slice h1 h2 h3 h4 => exact flat1 (.slice h1 h2 h3 h4) rfl h
  | sliceNil => exact flat1 .sliceNil rfl h
  | sliceE a c h1 => exact flat1 (.sliceE a c h1) rfl h
  | map h1 => exact flat1 (.map h1) rfl h
  | mapNil => exact flat1 .mapNil rfl h
  | func fn h1 h2 h3 h4 => exact flat1 (.func fn h1 h2 h3 h4) rfl h
  | nilFunc => exact flat1 .nilFunc rfl h
  | iface t h1 => exact flat1 (.iface t h1) rfl h
  | nilIface => exact flat1 .nilIface rfl h
  | atom i => exact flat1 (.atom i) (Val.flat i) h
  | strA e => exact flat1 (.strA e) rfl h
end

/-! cells -/
theorem hCells_some {E : XW} {b : Nat} {κ : TypeId → Nat → List XV → Bool → Option Nat → Nat → Bool → R} {r : XV × XW} (h : hCells E b κ = some r) :
    ∃ e n cs p k f ro, E.heap.get b = some (.cells e n cs p k f ro) ∧ κ e n cs p k f ro = some r := by
  unfold hCells at h
  cases hg : E.heap.get b with
  | none => rw [hg] at h; cases h
  | some x =>
    rw [hg] at h
    cases x with
    | cells e n cs p k f ro => exact ⟨e, n, cs, p, k, f, ro, rfl, h⟩
    | map es c => cases h
    | iter n c p => cases h
theorem oMap_some {E : XW} {b : Nat} {κ : List (XV × XV) → Nat → R} {r : XV × XW} (h : oMap (E.heap.get b) κ = some r) :
    ∃ es c, E.heap.get b = some (.map es c) ∧ κ es c = some r := by
  cases hg : E.heap.get b with
  | none => rw [hg] at h; cases h
  | some x =>
    rw [hg] at h
    cases x with
    | map es c => exact ⟨es, c, rfl, h⟩
    | cells e n cs p k f ro => cases h
    | iter n c p => cases h
theorem oIter_some {E : XW} {b : Nat} {κ : Nat → Nat → Nat → R} {r : XV × XW} (h : oIter (E.heap.get b) κ = some r) :
    ∃ n c p, E.heap.get b = some (.iter n c p) ∧ κ n c p = some r := by
  cases hg : E.heap.get b with
  | none => rw [hg] at h; cases h
  | some x =>
    rw [hg] at h
    cases x with
    | iter n c p => exact ⟨n, c, p, rfl, h⟩
    | cells e n cs p k f ro => cases h
    | map es c => cases h

theorem flat_one (v : Value) : v.oneCell' = flatV v := by cases v <;> rfl
theorem ble_le {a b : Nat} (h : Nat.ble a b = true) : a ≤ b := Nat.le_of_ble_eq_true h
theorem blt_lt {a b : Nat} (h : Nat.blt a b = true) : a < b := by simpa [Nat.blt_eq] using h
theorem beq_eq' {a b : Nat} (h : Nat.beq a b = true) : a = b := Nat.eq_of_beq_eq_true h

section
variable {w₀ w : World} {ρ : Rho} {E : XW}

theorem flat_all {C : Array Value} {d n : Nat} {p : Prop} (h : ∀ y ∈ C, flatV y = true) : (∀ y ∈ (C.toList.drop d).take n, flatV y = true) ∧ (p → ∀ y ∈ C, flatV y = true) :=
  ⟨fun y hy => h y (Array.mem_toList_iff.1 (List.mem_of_mem_drop (List.mem_of_mem_take hy))), fun _ => h⟩

/-- cells are read -/
theorem Rep.loads (h : Rep w₀ ρ E w) {b r d q : Nat} {e : TypeId} {n : Nat} {cs : List XV} {pl : Bool} {k : Option Nat} {f : Nat} {ro : Bool}
    (hb : E.heap.get b = some (.cells e n cs pl k f ro)) (hr : ρ b = some (r, d, q)) (o m : Nat) (hn : o + m ≤ n) :
    ∃ us : List Value, VRs ρ ((cs.drop o).take m) us ∧ (∀ v ∈ us, flatV v = true) ∧ us.length = m ∧ ((cs.drop o).take m).length = m ∧ (loadCells ⟨r, d + o, none⟩ m).run P w = .ok us.toArray w := by
  obtain ⟨hcs, hq, C, lo, hi, h1, h2, h3, h4, _⟩ := h.blk b _ r d q hb hr
  have hm : ((cs.drop o).take m).length = m := by simp; omega
  have h2' := (h3.drop o).take m
  refine ⟨_, h2', fun v hv => h4.1 v ?_, by rw [← h2'.1, hm], hm, ?_⟩
  · exact List.mem_of_mem_drop (List.mem_of_mem_take hv)
  · have hl : ((((C.toList.drop d).take n).drop o).take m).length = m := by rw [← h2'.1, hm]
    have hrun := run_loadCells_list (P := P) (w := w) ⟨r, d + o, none⟩ ((((C.toList.drop d).take n).drop o).take m) (fun j v hj => by
      have hadd : (⟨r, d + o, none⟩ : Addr).add j = ⟨r, d + o + j, none⟩ := by unfold Addr.add; split <;> simp_all
      rw [hadd]
      simp only [List.getElem?_take, List.getElem?_drop] at hj
      have hC : C[d + o + j]? = some v := by
        split at hj
        · split at hj
          · simpa [Nat.add_assoc] using hj
          · cases hj
        · cases hj
      simp [World.cell?, h1, hC])
    rw [hl] at hrun
    exact hrun

theorem loadN_ok (h : Rep w₀ ρ E w) {b r d q o n : Nat} {κ : List XV → R} {res : XV × XW} (hr : ρ b = some (r, d, q)) (hl : loadN n E b o κ = some res) :
    ∃ l us, κ l = some res ∧ l.length = n ∧ VRs ρ l us ∧ (∀ v ∈ us, flatV v = true) ∧ us.length = n ∧ (loadCells ⟨r, d + o, none⟩ n).run P w = .ok us.toArray w := by
  obtain ⟨e, m, cs, p, k, f, ro, hg, hk⟩ := hCells_some hl
  simp only [cut_some, dropL_eq, takeL_eq] at hk
  obtain ⟨us, h1, h2, h3, h4, h5⟩ := h.loads (P := P) hg hr o n (ble_le hk.1)
  exact ⟨_, us, hk.2, h4, h1, h2, h3, h5⟩

theorem load1_ok (h : Rep w₀ ρ E w) {b r d q o : Nat} {κ : XV → R} {res : XV × XW} (hr : ρ b = some (r, d, q)) (hl : load1 E b o κ = some res) :
    ∃ x v, κ x = some res ∧ VR ρ x v ∧ flatV v = true ∧ (load ⟨r, d + o, none⟩).run P w = .ok v w := by
  obtain ⟨e, m, cs, p, k, f, ro, hg, hk⟩ := hCells_some hl
  simp only [cut_some] at hk
  obtain ⟨x, hx, hκ⟩ := nthO_some hk.2
  obtain ⟨hcs, hq, C, lo, hi, h1, h2, h3, h4, _⟩ := h.blk b _ r d q hg hr
  obtain ⟨v, hv, hvr⟩ := h3.get hx
  have hmem := List.mem_of_getElem? hv
  rw [List.getElem?_take] at hv
  split at hv
  · rw [List.getElem?_drop] at hv
    have hC : C[d + o]? = some v := by simpa using hv
    exact ⟨x, v, hκ, hvr, h4.1 v hmem, by simp [World.cell?, h1, hC]⟩
  · cases hv

theorem run_stores (P : Program) (g o : Nat) (t : TypeId) (lo hi : Nat) : ∀ (vs : List Value) (i : Nat) (cur : Array Value) (w : World), w.heap[g]? = some (.cells cur t (lo, hi)) →
    o + i + vs.length ≤ cur.size → (∀ v ∈ vs, flatV v = true) → (∀ j, j < vs.length → ¬ (lo ≤ o + i + j ∧ o + i + j < hi)) →
    (storeCells ⟨g, o, none⟩ vs i).run P w = .ok () (w.setRow g (cur.toList.take (o + i) ++ vs ++ cur.toList.drop (o + i + vs.length)).toArray)
  | [], i, cur, w, hg, _, _, _ => by
    simp only [storeCells, List.append_nil, List.length_nil, Nat.add_zero, List.take_append_drop, Array.toArray_toList]
    rw [setRow_self w g cur t (lo, hi) hg]
    rfl
  | v :: rest, i, cur, w, hg, hl, h1, hf => by
    have hi' : o + i < cur.size := by simp at hl; omega
    have hadd : (⟨g, o, none⟩ : Addr).add i = ⟨g, o + i, none⟩ := by unfold Addr.add; split <;> simp_all
    have hcell : w.cell? ⟨g, o + i, none⟩ = some cur[o + i] := by simp [World.cell?, hg, hi']
    have hfro : w.frozen? ⟨g, o + i, none⟩ = false := by
      have := hf 0 (by simp)
      simp [World.frozen?, hg]
      simpa using this
    have hst : (store ((⟨g, o, none⟩ : Addr).add i) v).run P w = .ok () (w.setRow g (cur.setIfInBounds (o + i) v)) := by
      rw [hadd, run_store P w _ v _ (by rw [flat_one]; exact h1 v (by simp)), hcell]
      simp [hfro, setCell_eq_setRow w g (o + i) cur t (lo, hi) v hg]
    have ih := run_stores P g o t lo hi rest (i + 1) (cur.setIfInBounds (o + i) v) (w.setRow g (cur.setIfInBounds (o + i) v)) (setRow_heap w g cur _ t _ hg) (by simp at hl ⊢; omega) (fun x hx => h1 x (by simp [hx]))
      (fun j hj => by have := hf (j + 1) (by simp; omega); rwa [show o + (i + 1) + j = o + i + (j + 1) by omega])
    simp only [storeCells, Sem.run_bind, hst, Result.andThen_ok, ih, setRow_setRow]
    congr 3
    have e := list_seg_step cur.toList (o + i) v rest (by simp at hl ⊢; omega)
    simpa [Array.toList_setIfInBounds, Nat.add_assoc] using e

/-- cells written at a place -/
theorem VRs.of_parts {cs vs : List XV} {C : List Value} {us : List Value} {d o n : Nat} (hcs : cs.length = n) (hc : VRs ρ cs ((C.drop d).take n)) (hv : VRs ρ vs us)
    (ho : o + vs.length ≤ n) :
    VRs ρ (setL vs o cs) (((C.take (d + o) ++ us ++ C.drop (d + o + us.length)).drop d).take n) := by
  have hlen : d + n ≤ C.length ∨ n = 0 := by
    have := hc.1
    simp at this
    omega
  rw [setL_eq vs o cs (by omega)]
  have e : ((C.take (d + o) ++ us ++ C.drop (d + o + us.length)).drop d).take n =
      ((C.drop d).take n).take o ++ us ++ ((C.drop d).take n).drop (o + us.length) := by
    have hul := hv.1
    apply List.ext_getElem?
    intro j
    simp only [List.getElem?_take, List.getElem?_drop, List.getElem?_append, List.length_append, List.length_take, List.length_drop]
    rcases hlen with hlen | hlen
    · by_cases h1 : j < n
      · by_cases h2 : j < o
        · have a1 : d + j < min (d + o) C.length := by omega
          have a2 : j < min o (min n (C.length - d)) := by omega
          simp [h1, h2, a1, a2]
          split <;> split <;> first | rfl | omega
        · by_cases h3 : j < o + us.length
          · have a1 : ¬ d + j < min (d + o) C.length := by omega
            have a2 : d + j < min (d + o) C.length + us.length := by omega
            have a3 : ¬ j < min o (min n (C.length - d)) := by omega
            have a4 : j < min o (min n (C.length - d)) + us.length := by omega
            have a5 : d + j - min (d + o) C.length = j - min o (min n (C.length - d)) := by omega
            rw [if_pos h1, if_pos a2, if_neg a1, if_pos a4, if_neg a3, a5]
          · have a2 : ¬ d + j < min (d + o) C.length + us.length := by omega
            have a4 : ¬ j < min o (min n (C.length - d)) + us.length := by omega
            have a6 : o + us.length + (j - (min o (min n (C.length - d)) + us.length)) = j := by omega
            have a7 : d + o + us.length + (d + j - (min (d + o) C.length + us.length)) = d + j := by omega
            rw [if_pos h1, if_neg a2, if_neg a4, a6, a7, if_pos h1]
      · rw [if_neg h1]
        have a4 : ¬ j < min o (min n (C.length - d)) + us.length := by omega
        have a8 : ¬ o + us.length + (j - (min o (min n (C.length - d)) + us.length)) < n := by omega
        rw [if_neg a4, if_neg a8]
    · have h1 : ¬ j < n := by omega
      have : us.length = 0 := by omega
      have : us = [] := List.eq_nil_of_length_eq_zero this
      subst this
      have : o = 0 := by omega
      subst this
      simp [hlen]
  rw [e]
  have h0 : vs.length = us.length := hv.1
  rw [h0]
  exact ((hc.take o).append hv).append (hc.drop (o + us.length))

theorem setL_length (vs : List XV) (o : Nat) (cs : List XV) (h : o + vs.length ≤ cs.length) : (setL vs o cs).length = cs.length := by
  rw [setL_eq vs o cs h]; simp; omega

theorem storeAt_ok (h : Rep w₀ ρ E w) {b r d q o n : Nat} {vs : List XV} {us : List Value} {κ : XW → R} {res : XV × XW} (hr : ρ b = some (r, d, q))
    (hn : vs.length = n) (hv : VRs ρ vs us) (hfl : ∀ v ∈ us, flatV v = true) (hl : storeAt E b o n vs κ = some res) :
    ∃ E' w', κ E' = some res ∧ (storeCells ⟨r, d + o, none⟩ us).run P w = .ok () w' ∧ Rep w₀ ρ E' w' ∧ E'.next = E.next := by
  obtain ⟨e, m, cs, p, k, f, ro, hg, hk⟩ := hCells_some hl
  simp only [cut_some, andB_eq, notB_eq, Bool.and_eq_true, Bool.not_eq_true'] at hk
  obtain ⟨⟨hfo, hom, hro, hbl, hko⟩, hk⟩ := hk
  subst hro
  replace hfo := ble_le hfo
  replace hom := ble_le hom
  replace hbl := blt_lt hbl
  obtain ⟨hcs, hq, C, lo, hi, h1, h2, h3, h4, h5, h6⟩ := h.blk b _ r d q hg hr
  have hlen : us.length = n := by rw [← hv.1, hn]
  have hfz : lo = hi ∨ hi ≤ d + f := h6 rfl
  have hom' : o + n ≤ m := hom
  have hrun := run_stores P r (d + o) e lo hi us 0 C w h1 (by omega) hfl (fun j hj => by omega)
  refine ⟨_, _, hk, hrun, h.turn hg hr rfl hbl (kinOk_some hko) ?_ ?_ rfl rfl rfl ?_, rfl⟩
  · simp [World.setRow]
  · intro q' hq'
    simp only [World.setRow, Array.getElem?_modify]
    rw [if_neg (Ne.symm hq')]
  · refine ⟨by rw [setL_length _ _ _ (by omega)]; exact hcs, hq, _, lo, hi, setRow_heap w r C _ e _ h1, ?_, ?_, ?_, h5, h6⟩
    · simp; omega
    · have := VRs.of_parts (o := o) hcs h3 hv (by omega)
      simpa using this
    · refine flat_all ?_
      intro y hy
      simp only [List.mem_toArray, List.mem_append] at hy
      rcases hy with (hy | hy) | hy
      · exact h4.2 rfl y (Array.mem_toList_iff.1 (List.mem_of_mem_take hy))
      · exact hfl y hy
      · exact h4.2 rfl y (Array.mem_toList_iff.1 (List.mem_of_mem_drop hy))

/-- a new block of cells -/
theorem newB_some {x : XB} {κ : Nat → XW → R} {res : XV × XW} (h : newB x E κ = some res) : E.next < lim ∧ κ E.next ⟨E.heap.set dep E.next (some x), E.next + 1⟩ = some res := by
  unfold newB at h
  rw [forceN_eq, cut_some] at h
  exact ⟨blt_lt h.1, h.2⟩

theorem Rep.cells (h : Rep w₀ ρ E w) (hn : E.next < lim) {e : TypeId} {n : Nat} {cs : List XV} {us : List Value} {pl : Bool} {f : Nat} {ro : Bool} {C : Array Value}
    (hcs : cs.length = n) (hv : VRs ρ cs us) (hC : C.toList.take n = us) (hfl : ∀ y ∈ C, flatV y = true) (hp : pl = true → C.size = n) :
    Rep w₀ (ρ.ext E.next (w.heap.size, 0, C.size)) ⟨E.heap.set dep E.next (some (.cells e n cs pl none f ro)), E.next + 1⟩ { w with heap := w.heap.push (.cells C e) } := by
  refine h.new hn ?_
  have hlen := hv.1
  have hnC : n ≤ C.size := by
    have : us.length = n := by rw [← hlen, hcs]
    rw [← hC] at this
    simp at this
    omega
  refine ⟨hcs, hnC, C, 0, 0, by simp, by simp, ?_, flat_all hfl, fun h => ⟨rfl, hp h⟩, fun _ => .inl rfl⟩
  rw [List.drop_zero, hC]
  exact hv.mono (Rho.le_ext h.fresh)
end
end Go.Ex
namespace Go.Ex
variable [Val]
set_option linter.unusedSectionVars false
variable {P : Program}

/-! types -/
theorem infoAt_ok {t : TypeId} {i : TypeInfo} (h : infoAt P t = some i) : P.info? t = some i := by
  unfold infoAt at h
  rw [nthT_eq] at h
  have h' : P.types[t]? = some i := by simpa using h
  have hlt : t < P.types.size := (Array.getElem?_eq_some_iff.1 h').1
  unfold Tables.info?
  rw [if_pos hlt]; exact h'
theorem under_ok {t : TypeId} {d : TypeDesc} (h : under P t = some d) : P.underlying t = some d := by
  unfold under at h
  cases hi : infoAt P t with
  | none => rw [hi] at h; cases h
  | some i =>
    rw [hi] at h
    have hi' := infoAt_ok hi
    unfold Program.underlying
    rw [hi']
    obtain ⟨desc, str, sz, by_, hp, al, fal, z, cm, ms⟩ := i
    cases desc <;> simp only [descOf] at h <;> try exact h
    rename_i nm u
    cases hu : infoAt P u with
    | none => rw [hu] at h; cases h
    | some j =>
      rw [hu] at h
      simp only [infoAt_ok hu]
      simpa using h
theorem size_ok {t : TypeId} {n : Nat} (h : size P t = some n) : ∃ i, P.info? t = some i ∧ i.size = n := by
  unfold size at h
  cases hi : infoAt P t with
  | none => rw [hi] at h; cases h
  | some i => rw [hi] at h; cases h; exact ⟨i, infoAt_ok hi, rfl⟩
theorem run_size {t : TypeId} {n : Nat} (h : size P t = some n) (w : World) : (sizeOf t).run P w = .ok n w := by
  obtain ⟨i, hi, rfl⟩ := size_ok h
  simp [sizeOf, typeInfo, hi]
theorem run_under {t : TypeId} {d : TypeDesc} (h : under P t = some d) (w : World) : (underlying t).run P w = .ok d w := run_underlying (under_ok h) w
theorem run_agg {t : TypeId} {b : Bool} (h : isAgg P t = some b) (w : World) : (Go.isAgg t).run P w = .ok b w := by
  unfold isAgg at h
  cases hu : under P t with
  | none => rw [hu] at h; cases h
  | some d =>
    rw [hu] at h
    cases h
    unfold Go.isAgg
    rw [Sem.run_bind, run_under hu]
    cases d <;> rfl

/-! constants -/
theorem ofFlat_ok (ρ : Rho) (v : Value) : VR ρ (ofFlat v) v := by
  cases v with
  | bool b => exact .bool b
  | int k n => exact .int k n
  | string s => exact .str rfl rfl
  | pointer a => cases a with
    | none => exact .ptrNil
    | some a => exact .unk rfl
  | slice a l c => cases a with
    | none => cases l with
      | zero => cases c with
        | zero => exact .sliceNil
        | succ c => exact .unk rfl
      | succ l => exact .unk rfl
    | some a => exact .unk rfl
  | map r => cases r with
    | none => exact .mapNil
    | some a => exact .unk rfl
  | nilFunc => exact .nilFunc
  | nilIface => exact .nilIface
  | agg cs => exact .bad
  | tuple cs => exact .bad
  | float k b => exact .unk rfl
  | complex k a b => exact .unk rfl
  | chan r => exact .unk rfl
  | func fn a b => exact .unk rfl
  | iface t v => exact .unk rfl
theorem allFlat_ok {l : List Value} (h : allFlat l = true) : ∀ v ∈ l, flatV v = true := by
  induction l with
  | nil => simp
  | cons v l ih =>
    intro u hu
    cases v <;> simp [allFlat] at h <;> (rcases List.mem_cons.1 hu with rfl | hu <;> first | rfl | exact ih h u hu)
theorem ofFlats_ok (ρ : Rho) (l : List Value) : VRs ρ (ofFlats l) l := by
  induction l with
  | nil => exact VRs.nil ρ
  | cons v l ih => exact VRs.cons (ofFlat_ok ρ v) ih
theorem ofValue_ok (ρ : Rho) (v : Value) : VR ρ (ofValue v) v := by
  unfold ofValue
  split
  · rename_i cs
    cases hc : allFlat cs.toList with
    | false => exact .bad
    | true =>
      have hv := ofFlats_ok ρ cs.toList
      exact .agg (by rw [hv.1]; simp) rfl (fun i x y hx hy => hv.2 i x y hx (by simpa using hy)) (fun i y hy => allFlat_ok hc y (Array.mem_toList_iff.2 (Array.mem_of_getElem? hy)))
  · exact VR.undef
  · exact ofFlat_ok ρ v
theorem zeroOf_ok {t : TypeId} {z : List XV} (h : zeroOf P t = some z) : ∃ i v, P.info? t = some i ∧ i.zero = some v ∧ (∀ ρ, VRs ρ z v.cells.toList) ∧ ∀ u ∈ v.cells.toList, flatV u = true := by
  unfold zeroOf at h
  cases hi : infoAt P t with
  | none => rw [hi] at h; cases h
  | some i =>
    rw [hi] at h
    have hi' := infoAt_ok hi
    split at h
    · rename_i i' heq
      cases heq
      split at h
      · rename_i cs hz
        cases hc : allFlat cs.toList with
        | false => rw [hc] at h; cases h
        | true =>
          rw [hc] at h
          cases h
          exact ⟨i, _, hi', hz, fun ρ => ofFlats_ok ρ _, allFlat_ok hc⟩
      · cases h
      · rename_i v hv1 hv2 hz
        cases h
        have hc : v.cells = #[v] := by cases v <;> simp_all [Value.cells]
        refine ⟨i, v, hi', hz, fun ρ => by rw [hc]; exact VRs.one (ofFlat_ok ρ v), ?_⟩
        rw [hc]
        intro u hu
        simp at hu
        subst hu
        cases u <;> simp_all [flatV]
      · cases h
    · cases h
theorem run_zero {t : TypeId} {i : TypeInfo} {v : Value} (hi : P.info? t = some i) (hz : i.zero = some v) (w : World) : (zeroValue t).run P w = .ok v w := by
  simp [zeroValue, typeInfo, hi, hz]

/-! operands -/
theorem u1_f (x : Operand) (k : XV → XW → (XV → R) → R) (s : Sl) (E : XW) (κ : XV → R) : (u1 x k).f s E κ = k ((cE x).f s) E κ := rfl
theorem u2_f (x y : Operand) (k : XV → XV → XW → (XV → R) → R) (s : Sl) (E : XW) (κ : XV → R) : (u2 x y k).f s E κ = k ((cE x).f s) ((cE y).f s) E κ := rfl

/-- an operation's run, whatever else its row has -/
def Runs (P : Program) (ev : Operand → Value) (op : Op) (w : World) (n : Next) (w' : World) : Prop := ∀ o : Oper, o.op = op → (execOp ev o).run P w = .ok n w'

/-- operands as they are known -/
def OpV (ρ : Rho) (s : Sl) (ev : Operand → Value) (x : Operand) : Prop := VR ρ ((cE x).f s) (ev x)

/-- an operation that makes a value and leaves the world -/
def ValS (P : Program) (op : Op) (f : Sl → XW → (XV → R) → R) : Prop := ∀ (s : Sl) (E : XW) (κ : XV → R) (res : XV × XW), f s E κ = some res →
  ∀ (w₀ : World) (ρ : Rho) (w : World) (ev : Operand → Value), Rep w₀ ρ E w → (∀ x ∈ op.operands, OpV ρ s ev x) →
  ∃ x v, κ x = some res ∧ VR ρ x v ∧ Runs P ev op w (.value v) w

theorem ValS.no (op : Op) : ValS P op noV.f := fun _ _ _ _ h => by cases h

/-! inversions -/
section
variable {ρ : Rho} {v : Value}
theorem VR.int_inv {k : IntKind} {n : Int} (h : VR ρ (.int k n) v) : v = .int k n := by cases h; rfl
theorem VR.bool_inv {b : Bool} (h : VR ρ (.bool b) v) : v = .bool b := by cases h; rfl
theorem VR.str_inv {n c : Nat} (h : VR ρ (.str n c) v) : ∃ s, v = .string s ∧ s.data.toList.length = n ∧ codeL s.data.toList = c := by cases h with | str h1 h2 => exact ⟨_, rfl, h1, h2⟩
theorem VR.ptr_inv {b o : Nat} (h : VR ρ (.ptr b o) v) : ∃ r d q, v = .pointer (some ⟨r, d + o, none⟩) ∧ ρ b = some (r, d, q) := by cases h with | ptr h1 => exact ⟨_, _, _, rfl, h1⟩
theorem VR.ptrNil_inv (h : VR ρ .ptrNil v) : v = .pointer none := by cases h; rfl
theorem VR.slice_inv {b o n c m : Nat} (h : VR ρ (.slice b o n c m) v) : ∃ r d q c', v = .slice (some ⟨r, d + o, none⟩) n c' ∧ ρ b = some (r, d, q) ∧ c ≤ c' ∧ (m = 0 → c' = c) ∧ (m ≠ 0 → o + c' * m ≤ q) := by
  cases h with | slice h1 h2 h3 h4 => exact ⟨_, _, _, _, rfl, h1, h2, h3, h4⟩
theorem VR.sliceNil_inv (h : VR ρ .sliceNil v) : v = .slice none 0 0 := by cases h; rfl
theorem VR.sliceE_inv (h : VR ρ .sliceE v) : ∃ a c, v = .slice (some a) 0 c ∧ a.spot = none := by cases h with | sliceE a c h1 => exact ⟨a, c, rfl, h1⟩
theorem VR.map_inv {b : Nat} (h : VR ρ (.map b) v) : ∃ r q, v = .map (some r) ∧ ρ b = some (r, 0, q) := by cases h with | map h1 => exact ⟨_, _, rfl, h1⟩
theorem VR.mapNil_inv (h : VR ρ .mapNil v) : v = .map none := by cases h; rfl
theorem VR.nilFunc_inv (h : VR ρ .nilFunc v) : v = .nilFunc := by cases h; rfl
theorem VR.nilIface_inv (h : VR ρ .nilIface v) : v = .nilIface := by cases h; rfl
theorem VR.iface_inv {t : TypeId} {x : XV} (h : VR ρ (.iface t x) v) : ∃ u, v = .iface t u ∧ VR ρ x u := by cases h with | iface _ h1 => exact ⟨_, rfl, h1⟩
theorem VR.func_inv {fn : Fn} {f c : List XV} (h : VR ρ (.func fn f c) v) : ∃ f' c', v = .func fn f' c' ∧ VRs ρ f f'.toList ∧ VRs ρ c c'.toList := by
  cases h with
  | func _ h1 h2 h3 h4 => exact ⟨_, _, rfl, ⟨by simpa using h1, fun i x y hx hy => h3 i x y hx (by simpa using hy)⟩, ⟨by simpa using h2, fun i x y hx hy => h4 i x y hx (by simpa using hy)⟩⟩
end

/-! loads, places -/
theorem load_ok (t : TypeId) (x : Operand) : ValS P (.load t x) (cLoad P t x).f := by
  intro s E κ res h w₀ ρ w ev hR hV
  have hx : VR ρ ((cE x).f s) (ev x) := hV x (by simp [Op.operands])
  unfold cLoad at h
  split at h
  · rename_i n ha hn
    rw [u1_f] at h
    obtain ⟨b, o, hp, h⟩ := vPtr_some h
    rw [hp] at hx
    obtain ⟨r, d, q, he, hρ⟩ := hx.ptr_inv
    obtain ⟨l, us, hk, hl, hv, hf, hu, hrun⟩ := loadN_ok (P := P) hR hρ h
    refine ⟨_, .agg us.toArray, hk, VR.agg' hl hv hf, fun o ho => ?_⟩
    simp [execOp, ho, Instr.loadAt, he, Instr.sureAddr, loadVar, run_agg ha, run_size hn, hrun]
  · rename_i n ha hn
    rw [u1_f] at h
    obtain ⟨b, o, hp, h⟩ := vPtr_some h
    rw [hp] at hx
    obtain ⟨r, d, q, he, hρ⟩ := hx.ptr_inv
    obtain ⟨y, v, hk, hv, hf, hrun⟩ := load1_ok (P := P) hR hρ h
    refine ⟨y, v, hk, hv, fun o ho => ?_⟩
    simp only [execOp, ho, Instr.loadAt, he, Instr.sureAddr, loadVar, Sem.run_bind, Sem.run_pure, Result.andThen_ok, run_agg ha, hrun, Bool.false_eq_true, if_false]
  · cases h

theorem fieldAddr_ok (t : TypeId) (x : Operand) (f : Nat) : ValS P (.fieldAddr t x f) (cFieldAddr P t x f).f := by
  intro s E κ res h w₀ ρ w ev hR hV
  have hx : VR ρ ((cE x).f s) (ev x) := hV x (by simp [Op.operands])
  unfold cFieldAddr at h
  split at h
  · rename_i d hd
    rw [u1_f] at h
    obtain ⟨b, o, hp, h⟩ := vPtr_some h
    rw [hp] at hx
    obtain ⟨r, d', q, he, hρ⟩ := hx.ptr_inv
    unfold fieldOff at hd
    split at hd
    · rename_i fs hu
      split at hd
      · rename_i fd hfd
        split at hd
        · rename_i n hn
          cases hd
          refine ⟨_, .pointer (some ⟨r, d' + o + fd.offset, none⟩), h, ?_, fun op ho => ?_⟩
          · rw [Nat.add_assoc]; exact .ptr hρ
          · have hadd : (⟨r, d' + o, none⟩ : Addr).add fd.offset = ⟨r, d' + o + fd.offset, none⟩ := Addr.add_lit _ _ _
            simp [execOp, ho, Instr.fieldAt, run_under hu, hfd, he, Instr.sureAddr, fieldPlace, Go.fieldPlace, run_size hn, hadd]
        · cases hd
      · cases hd
    · cases hd
  · cases h

theorem indexAddr_ok (t : TypeId) (x ix : Operand) : ValS P (.indexAddr t x ix) (cIndexAddr P t x ix).f := by
  intro s E κ res h w₀ ρ w ev hR hV
  have hx : VR ρ ((cE x).f s) (ev x) := hV x (by simp [Op.operands])
  have hi : VR ρ ((cE ix).f s) (ev ix) := hV ix (by simp [Op.operands])
  unfold cIndexAddr at h
  split at h
  · rename_i len e hu
    split at h
    · rename_i sz hs
      rw [u2_f] at h
      obtain ⟨k, i, hix, h⟩ := vInt_some h
      obtain ⟨n, rfl, h⟩ := iNat_some h
      obtain ⟨hn, h⟩ := cut_some.1 h
      replace hn := blt_lt hn
      obtain ⟨b, o, hp, h⟩ := vPtr_some h
      rw [hp] at hx
      rw [hix] at hi
      obtain ⟨r, d, q, he, hρ⟩ := hx.ptr_inv
      have hi := hi.int_inv
      refine ⟨_, .pointer (some ⟨r, d + o + n * sz, none⟩), h, by rw [Nat.add_assoc]; exact .ptr hρ, fun op ho => ?_⟩
      have hadd : (⟨r, d + o, none⟩ : Addr).add (n * sz) = ⟨r, d + o + n * sz, none⟩ := Addr.add_lit _ _ _
      have h2 : ((n : Int) < (len : Int)) := by omega
      simp [execOp, ho, Instr.indexAt, run_under hu, he, hi, asIntOf, Instr.sureAddr, run_size hs, hadd, h2]
      omega
    · cases h
  · rename_i e hu
    split at h
    · rename_i sz hs
      rw [u2_f] at h
      obtain ⟨k, i, hix, h⟩ := vInt_some h
      obtain ⟨n, rfl, h⟩ := iNat_some h
      rcases vSl_some h with ⟨b, o, len, c, m, hp, h⟩ | ⟨_, h⟩ | ⟨_, h⟩
      · simp only [cut_some] at h
        obtain ⟨hn, h⟩ := h
        replace hn := blt_lt hn
        rw [hp] at hx
        rw [hix] at hi
        obtain ⟨r, d, q, c', he, hρ, hc⟩ := hx.slice_inv
        have hi := hi.int_inv
        refine ⟨_, .pointer (some ⟨r, d + o + n * sz, none⟩), h, by rw [Nat.add_assoc]; exact .ptr hρ, fun op ho => ?_⟩
        have hadd : (⟨r, d + o, none⟩ : Addr).add (n * sz) = ⟨r, d + o + n * sz, none⟩ := Addr.add_lit _ _ _
        have h2 : ((n : Int) < (len : Int)) := by omega
        simp [execOp, ho, Instr.indexAt, run_under hu, he, hi, asIntOf, run_size hs, hadd, h2]
        omega
      · cases h
      · cases h
    · cases h
  · cases h
end Go.Ex
