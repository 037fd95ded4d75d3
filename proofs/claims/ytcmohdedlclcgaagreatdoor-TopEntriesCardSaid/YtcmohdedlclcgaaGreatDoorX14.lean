/- Part of the proof of TopEntries: entry.Check: its contract. -/
import Derived.Test.YtcmohdedlclcgaaGreatDoorX13
set_option linter.unusedVariables false
set_option linter.unusedSimpArgs false
set_option linter.unusedSectionVars false
open Go.Proofs
namespace Go.Ex

/-- an entry -/
structure Ent where
  k : Int
  s : Int
  g : Int
  se : Nat
  nu : Nat
  t : ByteArray
noncomputable instance : DecidableEq Ent := Classical.typeDecidableEq Ent
def Ent.cells (e : Ent) : List Value := [.int .i64 e.k, .int .i64 e.s, .int .i64 e.g, .int .u64 e.se, .int .u64 e.nu, .string e.t]
def Ent.val (e : Ent) : Value := .agg e.cells.toArray
def Ent.zero : Ent := ⟨0, 0, 0, 0, 0, .empty⟩
/-- an entry that may be -/
def Ent.may (e : Ent) : Prop := e = .zero ∨ (0 ≤ e.s ∧ e.s < 4 ∧ 0 ≤ e.g ∧ e.g < 8 ∧ e.se < 65536 ∧ e.nu < 4294967296 ∧ e.t.size ≤ 16 ∧ (e.k = 1 ∨ ((e.k = 2 ∨ e.k = 3) ∧ e.s = 2 ∧ e.t.size = 0)))
noncomputable instance (e : Ent) : Decidable e.may := by unfold Ent.may; infer_instance
structure Ent.R (e : Ent) : Prop where
  se : e.se < 2 ^ 64
  nu : e.nu < 2 ^ 64

/-- the numbers of an entry as they are known one by one -/
def litE (k s g p q : Int) (n c : Nat) : XV := .agg 6 [.int .i64 k, .int .i64 s, .int .i64 g, .int .u64 p, .int .u64 q, .str n c]
theorem eq_row (k s g p q k' s' g' p' q' : Int) (n c n' c' : Nat) (κ : Bool → R) : (cEq Tryz.prog 60 30).f (litE k s g p q n c) (litE k' s' g' p' q' n' c') κ =
    Go.Ex.iff (eqX k k') (Go.Ex.iff (eqX s s') (Go.Ex.iff (eqX g g') (Go.Ex.iff (eqX p p') (Go.Ex.iff (eqX q q') (Go.Ex.iff (andB (Nat.beq n n') (Nat.beq c c')) (κ true) (κ false)) (κ false)) (κ false)) (κ false)) (κ false)) (κ false) := by kernel_rfl

section
variable [Val]
theorem Ent.lit (ρ : Rho) (e : Ent) : VR ρ (litE e.k e.s e.g e.se e.nu e.t.data.toList.length (codeL e.t.data.toList)) e.val :=
  VR.agg' rfl (VRs.cons (.int _ _) (VRs.cons (.int _ _) (VRs.cons (.int _ _) (VRs.cons (.int _ _) (VRs.cons (.int _ _) (VRs.one (.str rfl rfl))))))) (by
    intro v hv
    simp only [Ent.cells, List.mem_cons, List.not_mem_nil, or_false] at hv
    rcases hv with rfl | rfl | rfl | rfl | rfl | rfl <;> rfl)

theorem ent_equal (e f : Ent) {D : Nat} (hD : 60 ≤ D) (w : World) : (Op.equalIn D 30 e.val f.val).run Tryz.prog w = .ok (decide (e = f)) w := by
  have h := eq_row e.k e.s e.g e.se e.nu f.k f.s f.g f.se f.nu e.t.data.toList.length (codeL e.t.data.toList) f.t.data.toList.length (codeL f.t.data.toList) (fun b => some (.bool b, ⟨.nil, 0⟩))
  have hs := str_beq (a := e.t) (b := f.t) rfl rfl rfl rfl
  have hq : (e.t.toList == f.t.toList) = decide (e.t = f.t) := by
    rw [ByteArray.toList_eq, ByteArray.toList_eq, Bool.eq_iff_iff]
    simp only [beq_iff_eq, decide_eq_true_eq]
    constructor
    · intro h
      cases ht : e.t with | mk a => cases ht' : f.t with | mk b =>
      rw [ht, ht'] at h
      have : a = b := Array.toList_inj.1 h
      rw [this]
    · rintro h; rw [h]
  simp only [eqX_eq, andB_eq, iff_eq, ← hs, hq] at h
  have hv : (cEq Tryz.prog 60 30).f (litE e.k e.s e.g e.se e.nu e.t.data.toList.length (codeL e.t.data.toList)) (litE f.k f.s f.g f.se f.nu f.t.data.toList.length (codeL f.t.data.toList)) (fun b => some (.bool b, (⟨.nil, 0⟩ : XW))) = some (.bool (decide (e = f)), ⟨.nil, 0⟩) := by
    rw [h]
    have he : e = f ↔ e.k = f.k ∧ e.s = f.s ∧ e.g = f.g ∧ e.se = f.se ∧ e.nu = f.nu ∧ e.t = f.t := by
      cases e; cases f; simp
    by_cases h1 : e.k = f.k
    · by_cases h2 : e.s = f.s
      · by_cases h3 : e.g = f.g
        · by_cases h4 : e.se = f.se
          · by_cases h5 : e.nu = f.nu
            · by_cases h6 : e.t = f.t <;> simp [h1, h2, h3, h4, h5, h6, he]
            · have : ¬ (e.nu : Int) = (f.nu : Int) := by omega
              simp [h1, h2, h3, h4, h5, he, this]
          · have : ¬ (e.se : Int) = (f.se : Int) := by omega
            simp [h1, h2, h3, h4, he, this]
        · simp [h1, h2, h3, he]
      · simp [h1, h2, he]
    · simp [h1, he]
  obtain ⟨b, h1, h2⟩ := cEq_ok (P := Tryz.prog) 60 30 _ _ _ _ hv (fun _ => none) e.val f.val (e.lit _) (f.lit _)
  cases h1
  exact h2 D w hD

theorem ent_eqGuard (b : BinOp) (e f : Ent) (x y : Operand) (w : World) : (eqGuard b 30 x y e.val f.val).run Tryz.prog w = .ok () w :=
  run_eqGuard_agg w b 30 x y _ _ (by kernel_rfl)
theorem ent_cmp {want : Bool} {op : BinOp} (hop : eqOp op = some want) (e f : Ent) (x y : Operand) (w : World) :
    (do eqGuard op 30 x y e.val f.val; binOp op 30 e.val f.val).run Tryz.prog w = .ok (.bool (eqB want (decide (e = f)))) w :=
  cmp_run hop (by simp [notNum, Ent.val]) x y (ent_eqGuard op e f x y w) fun D hD => ent_equal e f hD w
end
end Go.Ex
open Go.Proofs
namespace Go.Ex

def chkV (e : Ent) (j : Nat) : Nat := if j = 67 then e.se else if j = 68 then e.nu else 0
def chkU (e : Ent) (k : Nat) : Value := match k with
  | 0 => .int .i64 e.k
  | 1 => .int .i64 e.s
  | 2 => .int .i64 e.g
  | 5 => .string e.t
  | 6 => .int .i64 (e.t.size : Int)
  | _ => .int .u8 0
theorem chkU_flat (e : Ent) : ∀ k, flatV (chkU e k) = true := by
  intro k; unfold chkU; split <;> rfl
@[reducible] noncomputable def chkVal (e : Ent) (q : Nat) : Val := valN Tryz.prog w8 (chkD q) (chkQ q) chkL noFn (chkV e) (chkU e) (chkU_flat e)

def tests (e : Ent) : Nat → Prop
  | 1 => 0 ≤ e.s
  | 2 => e.s < 4
  | 3 => 0 ≤ e.g
  | 4 => e.g < 8
  | 5 => e.se >>> 16 = 0
  | 6 => e.nu >>> 32 = 0
  | 7 => e.t.size ≤ 16
  | _ => True
/-- a stage is an entry's -/
structure Stage (e : Ent) (q : Nat) : Prop where
  lt : q < 16
  zero : q = 0 ↔ e = .zero
  yes : ∀ t, q ≠ 0 → t < q → tests e t
  no : ∀ t, 1 ≤ t → t ≤ 7 → t = q → ¬ tests e t
  k1 : 8 ≤ q → (e.k = 1 ↔ q = 8)
  k2 : 9 ≤ q → (e.k = 2 ↔ q = 9 ∨ q = 10 ∨ q = 11)
  k3 : 12 ≤ q → (e.k = 3 ↔ q = 12 ∨ q = 13 ∨ q = 14)
  sv : 9 ≤ q → q ≤ 14 → (e.s = 2 ↔ q = 9 ∨ q = 10 ∨ q = 12 ∨ q = 13)
  tx : (q = 9 ∨ q = 10 ∨ q = 12 ∨ q = 13) → (e.t.size = 0 ↔ q = 9 ∨ q = 12)

theorem sig_text (V : Nat → Nat) (U : Nat → Value) (k : Nat) (h : k < 100) : sigN V U (uA k) = U k := by
  have e : uA k = textFrom + k := rfl
  unfold sigN
  rw [e, if_neg (by omega), if_pos (by simp only [textFrom, byteFrom]; omega), Nat.add_sub_cancel_left]

theorem tst_some {q t : Nat} {r : Bool} (h : tst q t = some r) : q ≠ 0 ∧ t ≤ q ∧ (r = true ↔ q ≠ t) := by
  unfold tst at h
  split at h
  · cases h
  · rename_i hb
    cases h
    have h0 : (q == 0) = false := by
      cases hq : Nat.beq q 0 with
      | true => rw [hq] at hb; cases hb
      | false => simpa using beq_false hq
    have h1 : Nat.blt q t = false := by
      cases hq : Nat.blt q t with
      | true => rw [hq] at hb; simp at hb
      | false => rfl
    refine ⟨by simpa using h0, blt_false h1, ?_⟩
    cases hq : Nat.beq q t with
    | true => simp [Nat.eq_of_beq_eq_true hq, notB]
    | false => simp [beq_false hq, notB]

theorem inL_iff (q : Nat) : ∀ l, (inL q l = true ↔ q ∈ l)
  | [] => by simp [inL]
  | n :: l => by
    unfold inL
    rw [Bool.or_eq_true, inL_iff q l]
    simp

theorem chk_dec {e : Ent} {q : Nat} (hS : Stage e q) : DecOK (chkD q) (chkV e) (chkU e) := by
  have test : ∀ {t : Nat} {r : Bool}, tst q t = some r → 1 ≤ t → t ≤ 7 → (r = true ↔ tests e t) := by
    intro t r h h1 h7
    obtain ⟨a, b, c⟩ := tst_some h
    by_cases hq : q = t
    · have := hS.no t h1 h7 hq.symm
      simp [c, hq, this]
    · have := hS.yes t a (by omega)
      simp [c, hq, this]
  intro b i k n r h
  unfold chkD at h
  split at h
  · split at h
    · split at h
      · rename_i hi
        rw [Nat.eq_of_beq_eq_true hi, sig_text _ _ _ (by decide)]
        refine ⟨_, rfl, ?_⟩
        have := test h (by decide) (by decide)
        simp only [cmpI, Option.some.injEq]
        rw [Bool.eq_iff_iff, this]; simp [tests]
      · rename_i hi _
        rw [Nat.eq_of_beq_eq_true hi, sig_text _ _ _ (by decide)]
        refine ⟨_, rfl, ?_⟩
        have := test h (by decide) (by decide)
        simp only [cmpI, Option.some.injEq]
        rw [Bool.eq_iff_iff, this]; simp [tests]
      · cases h
    · split at h
      · rename_i hi
        rw [Nat.eq_of_beq_eq_true hi, sig_text _ _ _ (by decide)]
        refine ⟨_, rfl, ?_⟩
        have := test h (by decide) (by decide)
        simp only [cmpI, Option.some.injEq]
        rw [Bool.eq_iff_iff, this]; simp [tests]
      · cases h
    · split at h
      · rename_i hi
        rw [Nat.eq_of_beq_eq_true hi, sig_text _ _ _ (by decide)]
        refine ⟨_, rfl, ?_⟩
        have := test h (by decide) (by decide)
        simp only [cmpI, Option.some.injEq]
        rw [Bool.eq_iff_iff, this]; simp [tests]
      · cases h
    · split at h
      · rename_i hi
        rw [Nat.eq_of_beq_eq_true hi, sig_text _ _ _ (by decide)]
        refine ⟨_, rfl, ?_⟩
        have := test h (by decide) (by decide)
        simp only [cmpI, Option.some.injEq]
        rw [Bool.eq_iff_iff, this]; simp [tests]; omega
      · cases h
    · split at h
      · rename_i hi
        cases h
        rw [Bool.and_eq_true] at hi
        rw [Nat.eq_of_beq_eq_true hi.1, sig_text _ _ _ (by decide)]
        refine ⟨_, rfl, ?_⟩
        have := hS.k1 (Nat.le_of_ble_eq_true hi.2)
        simp only [cmpI, Option.some.injEq]
        rw [Bool.eq_iff_iff]
        simp [this]
      · cases h
    · split at h
      · rename_i hi
        cases h
        rw [Bool.and_eq_true] at hi
        rw [Nat.eq_of_beq_eq_true hi.1, sig_text _ _ _ (by decide)]
        refine ⟨_, rfl, ?_⟩
        have := hS.k2 (Nat.le_of_ble_eq_true hi.2)
        simp only [cmpI, Option.some.injEq]
        rw [Bool.eq_iff_iff, inL_iff]
        simp [this]
      · rename_i hi _
        cases h
        rw [Bool.and_eq_true, Bool.and_eq_true] at hi
        rw [Nat.eq_of_beq_eq_true hi.1, sig_text _ _ _ (by decide)]
        refine ⟨_, rfl, ?_⟩
        have := hS.sv (Nat.le_of_ble_eq_true hi.2.1) (Nat.le_of_ble_eq_true hi.2.2)
        simp only [cmpI, Option.some.injEq]
        rw [Bool.eq_iff_iff, inL_iff]
        simp [this]
      · cases h
    · split at h
      · rename_i hi
        cases h
        rw [Bool.and_eq_true] at hi
        rw [Nat.eq_of_beq_eq_true hi.1, sig_text _ _ _ (by decide)]
        refine ⟨_, rfl, ?_⟩
        have := hS.k3 (Nat.le_of_ble_eq_true hi.2)
        simp only [cmpI, Option.some.injEq]
        rw [Bool.eq_iff_iff, inL_iff]
        simp [this]
      · cases h
    · cases h
  · split at h
    · split at h
      · rename_i hi
        have e1 : i = 64 * 67 + (8 + 2) := Nat.eq_of_beq_eq_true hi
        rw [e1, sig_sh _ _ 67 2 (by decide) (by decide)]
        refine ⟨_, rfl, ?_⟩
        have := test h (by decide) (by decide)
        simp only [cmpI, Option.some.injEq]
        rw [Bool.eq_iff_iff, this, decide_eq_true_iff]
        show (((e.se >>> 16 : Nat) : Int) = 0) ↔ (e.se >>> 16 = 0)
        exact Int.natCast_eq_zero
      · rename_i hi _
        have e1 : i = 64 * 68 + (8 + 4) := Nat.eq_of_beq_eq_true hi
        rw [e1, sig_sh _ _ 68 4 (by decide) (by decide)]
        refine ⟨_, rfl, ?_⟩
        have := test h (by decide) (by decide)
        simp only [cmpI, Option.some.injEq]
        rw [Bool.eq_iff_iff, this, decide_eq_true_iff]
        show (((e.nu >>> 32 : Nat) : Int) = 0) ↔ (e.nu >>> 32 = 0)
        exact Int.natCast_eq_zero
      · cases h
    · cases h
  · cases h

theorem isL_ok [Val] : ∀ (xs ys : List XV), isL xs ys = true → xs = ys
  | [], [], _ => rfl
  | [], _ :: _, h => by cases h
  | _ :: _, [], h => by cases h
  | x :: xs, y :: ys, h => by
    unfold isL at h
    split at h
    · rename_i r hr
      rw [(same_some hr).1, isL_ok xs ys h]
    · cases h

theorem chk_str {e : Ent} {q : Nat} (hS : Stage e q) : @StrOK Tryz.prog (chkQ q) (chkVal e q) := by
  letI := chkVal e q
  intro b t xs x hu h ρ w u v xo yo hv
  unfold chkQ at h
  split at h
  · split at h
    · rename_i hi
      cases h
      rw [Bool.and_eq_true] at hi
      have ht := Nat.eq_of_beq_eq_true hi.1
      have hx := isL_ok _ _ hi.2
      subst hx
      subst ht
      obtain ⟨h1, h2⟩ : VR ρ chkX u ∧ VR ρ zerX v := ⟨hv.head, hv.tail.head⟩
      have e1 : u = e.val := by
        obtain ⟨cs, rfl, _, _, h3, _⟩ := h1.agg_inv
        have at1 : ∀ (i : Nat) (a : Nat) (y : Value), [XV.atom (uA 0), .atom (uA 1), .atom (uA 2), nuN 67 7, nuN 68 7, .atom (uA 5)][i]? = some (.atom a) → cs.toList[i]? = some y → y = sigN (chkV e) (chkU e) a := by
          intro i a y hx hy
          exact atomInv (h3.2 i _ y hx hy)
        have hl : cs.toList.length = 6 := h3.1.symm
        unfold Ent.val
        congr 1
        apply Array.toList_inj.1
        match hcs : cs.toList, hl with
        | [a, b, c, d, f, g], _ =>
          rw [hcs] at at1
          show [a, b, c, d, f, g] = e.cells
          rw [at1 0 _ a rfl rfl, at1 1 _ b rfl rfl, at1 2 _ c rfl rfl, at1 3 _ d rfl rfl, at1 4 _ f rfl rfl, at1 5 _ g rfl rfl]
          rw [sig_text _ _ 0 (by decide), sig_text _ _ 1 (by decide), sig_text _ _ 2 (by decide), sig_text _ _ 5 (by decide)]
          have a1 := sig_num (chkV e) (chkU e) 67 7 (by decide) (by decide)
          have a2 := sig_num (chkV e) (chkU e) 68 7 (by decide) (by decide)
          have b1 : Nat.add (Nat.mul 64 67) 7 = 64 * 67 + 7 := rfl
          have b2 : Nat.add (Nat.mul 64 68) 7 = 64 * 68 + 7 := rfl
          rw [b1, b2, a1, a2]
          rfl
      have e2 : v = Ent.zero.val := by
        obtain ⟨cs, rfl, _, _, h3, _⟩ := h2.agg_inv
        have hl : cs.toList.length = 6 := h3.1.symm
        unfold Ent.val
        congr 1
        apply Array.toList_inj.1
        match hcs : cs.toList, hl with
        | [a, b, c, d, f, g], _ =>
          rw [hcs] at h3
          have g1 := (h3.2 0 _ a rfl rfl).int_inv
          have g2 := (h3.2 1 _ b rfl rfl).int_inv
          have g3 := (h3.2 2 _ c rfl rfl).int_inv
          have g4 := (h3.2 3 _ d rfl rfl).int_inv
          have g5 := (h3.2 4 _ f rfl rfl).int_inv
          obtain ⟨s, g6, g7, _⟩ := (h3.2 5 _ g rfl rfl).str_inv
          have : s = .empty := by
            cases s with | mk d =>
            have : d = #[] := by
              apply Array.eq_empty_of_size_eq_zero
              simpa using g7
            rw [this]; rfl
          rw [g1, g2, g3, g4, g5, g6, this]
          rfl
      rw [e1, e2]
      refine ⟨_, VR.bool _, ?_⟩
      rw [ent_cmp (want := true) rfl e .zero xo yo w]
      congr 2
      cases hq : Nat.beq q 0 with
      | true => 
        have := hS.zero.1 (Nat.eq_of_beq_eq_true hq)
        simp [this, eqB]
      | false =>
        have : ¬ e = .zero := fun h => beq_false hq (hS.zero.2 h)
        simp [this, eqB]
    · rename_i hi _
      cases h
      simp only [Bool.and_eq_true] at hi
      have hx := isL_ok _ _ hi.2.1
      have hq := (inL_iff q _).1 hi.2.2
      subst hx
      obtain ⟨h1, h2⟩ : VR ρ (.atom (uA 5)) u ∧ VR ρ (.str 0 0) v := ⟨hv.head, hv.tail.head⟩
      have e1 : u = .string e.t := (atomInv h1).trans (sig_text _ _ 5 (by decide))
      obtain ⟨s, e2, g7, _⟩ := h2.str_inv
      have : s = .empty := by
        cases s with | mk d =>
        have : d = #[] := by
          apply Array.eq_empty_of_size_eq_zero
          simpa using g7
        rw [this]; rfl
      subst this
      refine ⟨_, VR.bool _, ?_⟩
      rw [e1, e2]
      have ht := hS.tx (by simpa using hq)
      have hb : (e.t.toList == ByteArray.empty.toList) = inL q [9, 12] := by
        rw [Bool.eq_iff_iff, inL_iff, ByteArray.toList_eq, ByteArray.toList_eq, beq_iff_eq]
        simp only [List.mem_cons, List.not_mem_nil, or_false]
        rw [← ht]
        constructor
        · intro h
          have := congrArg List.length h
          simpa using this
        · intro h
          cases ht : e.t with | mk d =>
          rw [ht] at h
          have : d = #[] := Array.eq_empty_of_size_eq_zero h
          rw [this]; rfl
      rw [← hb]
      simp only [Sem.run_bind, eqGuard_at_string, Sem.run_pure, Result.andThen_ok, binOp_string_eql]
    · cases h
  · cases h

theorem chk_len {e : Ent} {q : Nat} : @LenOK chkL (chkVal e q) := by
  letI := chkVal e q
  intro i x h
  unfold chkL at h
  split at h
  · rename_i hi
    cases h
    rw [Nat.eq_of_beq_eq_true hi]
    exact ⟨e.t, sig_text _ _ 5 (by decide), fun ρ => atomIs (sig_text _ _ 6 (by decide))⟩
  · cases h
end Go.Ex
open Go.Proofs
namespace Go.Ex

theorem nums8 (V : Nat → Nat) (h : ∀ j, V j < 2 ^ 64) : NumOK w8 V := ⟨fun _ => Nat.le_refl _, fun j => h j⟩

theorem stage_of (e : Ent) : ∃ q, Stage e q ∧ (e.may ↔ q = 0 ∨ q = 8 ∨ q = 9 ∨ q = 12) := by
  have mk : ∀ q, q < 16 → (q = 0 ↔ e = .zero) → (∀ t, q ≠ 0 → t < q → tests e t) → (1 ≤ q → q ≤ 7 → ¬ tests e q) → (8 ≤ q → (e.k = 1 ↔ q = 8)) → (9 ≤ q → (e.k = 2 ↔ q = 9 ∨ q = 10 ∨ q = 11)) →
      (12 ≤ q → (e.k = 3 ↔ q = 12 ∨ q = 13 ∨ q = 14)) → (9 ≤ q → q ≤ 14 → (e.s = 2 ↔ q = 9 ∨ q = 10 ∨ q = 12 ∨ q = 13)) → ((q = 9 ∨ q = 10 ∨ q = 12 ∨ q = 13) → (e.t.size = 0 ↔ q = 9 ∨ q = 12)) → Stage e q :=
    fun q h0 h1 h2 h3 h4 h5 h6 h7 h8 => ⟨h0, h1, h2, fun t a b c => by subst c; exact h3 a b, h4, h5, h6, h7, h8⟩
  by_cases hz : e = .zero
  · exact ⟨0, mk 0 (by decide) (by simp [hz]) (by simp) (by simp) (by simp) (by simp) (by simp) (by simp) (by simp), by simp [Ent.may, hz]⟩
  have f5 : e.se >>> 16 = 0 ↔ e.se < 65536 := by rw [Nat.shiftRight_eq_div_pow]; omega
  have f6 : e.nu >>> 32 = 0 ↔ e.nu < 4294967296 := by rw [Nat.shiftRight_eq_div_pow]; omega
  have low : ∀ q, 1 ≤ q → q ≤ 7 → (∀ t, 1 ≤ t → t < q → tests e t) → ¬ tests e q → Stage e q ∧ (e.may ↔ q = 0 ∨ q = 8 ∨ q = 9 ∨ q = 12) := by
    intro q h1 h7 hy hn
    refine ⟨mk q (by omega) ⟨fun h => by omega, fun h => absurd h hz⟩ (fun t _ ht => ?_) (fun _ _ => hn) (by omega) (by omega) (by omega) (by omega) (by omega), ?_⟩
    · rcases Nat.eq_zero_or_pos t with rfl | h0
      · trivial
      · exact hy t h0 ht
    · constructor
      · rintro (h | ⟨a, b, c, d, x, y, z, _⟩)
        · exact absurd h hz
        · exfalso
          apply hn
          have : q = 1 ∨ q = 2 ∨ q = 3 ∨ q = 4 ∨ q = 5 ∨ q = 6 ∨ q = 7 := by omega
          rcases this with rfl | rfl | rfl | rfl | rfl | rfl | rfl
          · exact a
          · exact b
          · exact c
          · exact d
          · exact f5.2 x
          · exact f6.2 y
          · exact z
      · intro h; omega
  by_cases t1 : tests e 1
  rotate_left
  · exact ⟨1, low 1 (by decide) (by decide) (fun t h1 h2 => by omega) t1⟩
  by_cases t2 : tests e 2
  rotate_left
  · exact ⟨2, low 2 (by decide) (by decide) (fun t h1 h2 => by rw [show t = 1 by omega]; exact t1) t2⟩
  by_cases t3 : tests e 3
  rotate_left
  · exact ⟨3, low 3 (by decide) (by decide) (fun t h1 h2 => by rcases (by omega : t = 1 ∨ t = 2) with rfl | rfl <;> assumption) t3⟩
  by_cases t4 : tests e 4
  rotate_left
  · exact ⟨4, low 4 (by decide) (by decide) (fun t h1 h2 => by rcases (by omega : t = 1 ∨ t = 2 ∨ t = 3) with rfl | rfl | rfl <;> assumption) t4⟩
  by_cases t5 : tests e 5
  rotate_left
  · exact ⟨5, low 5 (by decide) (by decide) (fun t h1 h2 => by rcases (by omega : t = 1 ∨ t = 2 ∨ t = 3 ∨ t = 4) with rfl | rfl | rfl | rfl <;> assumption) t5⟩
  by_cases t6 : tests e 6
  rotate_left
  · exact ⟨6, low 6 (by decide) (by decide) (fun t h1 h2 => by rcases (by omega : t = 1 ∨ t = 2 ∨ t = 3 ∨ t = 4 ∨ t = 5) with rfl | rfl | rfl | rfl | rfl <;> assumption) t6⟩
  by_cases t7 : tests e 7
  rotate_left
  · exact ⟨7, low 7 (by decide) (by decide) (fun t h1 h2 => by rcases (by omega : t = 1 ∨ t = 2 ∨ t = 3 ∨ t = 4 ∨ t = 5 ∨ t = 6) with rfl | rfl | rfl | rfl | rfl | rfl <;> assumption) t7⟩
  have all : ∀ t, tests e t := by
    intro t
    match t with
    | 0 => trivial
    | 1 => exact t1
    | 2 => exact t2
    | 3 => exact t3
    | 4 => exact t4
    | 5 => exact t5
    | 6 => exact t6
    | 7 => exact t7
    | _ + 8 => trivial
  have may : e.may ↔ (e.k = 1 ∨ ((e.k = 2 ∨ e.k = 3) ∧ e.s = 2 ∧ e.t.size = 0)) := by
    constructor
    · rintro (h | ⟨_, _, _, _, _, _, _, h⟩)
      · exact absurd h hz
      · exact h
    · intro h
      exact .inr ⟨t1, t2, t3, t4, f5.1 t5, f6.1 t6, t7, h⟩
  have hi : ∀ q, 8 ≤ q → q < 16 → (e.k = 1 ↔ q = 8) → (9 ≤ q → (e.k = 2 ↔ q = 9 ∨ q = 10 ∨ q = 11)) → (12 ≤ q → (e.k = 3 ↔ q = 12 ∨ q = 13 ∨ q = 14)) → (9 ≤ q → q ≤ 14 → (e.s = 2 ↔ q = 9 ∨ q = 10 ∨ q = 12 ∨ q = 13)) →
      ((q = 9 ∨ q = 10 ∨ q = 12 ∨ q = 13) → (e.t.size = 0 ↔ q = 9 ∨ q = 12)) → Stage e q := fun q h8 h16 a b c d f =>
    mk q h16 ⟨fun h => by omega, fun h => absurd h hz⟩ (fun t _ _ => all t) (by omega) (fun _ => a) b c d f
  by_cases k1 : e.k = 1
  · exact ⟨8, hi 8 (by decide) (by decide) (by simp [k1]) (by simp) (by simp) (by simp) (by simp), by simp [may, k1]⟩
  by_cases k2 : e.k = 2
  · by_cases s2 : e.s = 2
    · by_cases x : e.t.size = 0
      · exact ⟨9, hi 9 (by decide) (by decide) (by simp [k2]) (by simp [k2]) (by simp) (by simp [s2]) (by simp [x]), by simp [may, k2, s2, x]⟩
      · exact ⟨10, hi 10 (by decide) (by decide) (by simp [k2]) (by simp [k2]) (by simp) (by simp [s2]) (by simp [x]), by simp [may, k2, x]⟩
    · exact ⟨11, hi 11 (by decide) (by decide) (by simp [k2]) (by simp [k2]) (by simp) (by simp [s2]) (by simp), by simp [may, k2, s2]⟩
  by_cases k3 : e.k = 3
  · by_cases s2 : e.s = 2
    · by_cases x : e.t.size = 0
      · exact ⟨12, hi 12 (by decide) (by decide) (by simp [k3]) (by simp [k3]) (by simp [k3]) (by simp [s2]) (by simp [x]), by simp [may, k3, s2, x]⟩
      · exact ⟨13, hi 13 (by decide) (by decide) (by simp [k3]) (by simp [k3]) (by simp [k3]) (by simp [s2]) (by simp [x]), by simp [may, k3, x]⟩
    · exact ⟨14, hi 14 (by decide) (by decide) (by simp [k3]) (by simp [k3]) (by simp [k3]) (by simp [s2]) (by simp), by simp [may, k3, s2]⟩
  · exact ⟨15, hi 15 (by decide) (by decide) (by simp [k1]) (by simp [k2]) (by simp [k3]) (by simp) (by simp), by simp [may, k1, k2, k3]⟩

theorem chk_ext {e : Ent} (hR : e.R) {q : Nat} (hS : Stage e q) : @ExtOK (chkVal e q) Tryz.prog :=
  @ext_ok (chkVal e q) (fun o g xs x ho h ρ w ev hv => opN_ok (nums8 _ (fun j => by unfold chkV; split; exact hR.se; split; exact hR.nu; decide)) (chk_dec hS) (chk_str hS) chk_len ho h hv)
    (fun _ _ _ _ h => nomatch h)

theorem chk_arg (e : Ent) (q : Nat) (ρ : Rho) : @VR (chkVal e q) ρ chkX e.val := by
  letI := chkVal e q
  refine VR.agg' rfl (VRs.cons (atomIs (sig_text _ _ 0 (by decide))) (VRs.cons (atomIs (sig_text _ _ 1 (by decide))) (VRs.cons (atomIs (sig_text _ _ 2 (by decide)))
    (VRs.cons (atomIs (sig_num (chkV e) (chkU e) 67 7 (by decide) (by decide))) (VRs.cons (atomIs (sig_num (chkV e) (chkU e) 68 7 (by decide) (by decide))) (VRs.one (atomIs (sig_text _ _ 5 (by decide))))))))) ?_
  intro v hv
  simp only [Ent.cells, List.mem_cons, List.not_mem_nil, or_false] at hv
  rcases hv with rfl | rfl | rfl | rfl | rfl | rfl <;> rfl

theorem run_of {V : Val} {P : Program} {T n : Nat} {f : FuncId} {xs : List XV} {E : XW} {κ : XV → XW → R} (hX : @ExtOK V P) (h : ((@callN V.toTab P T n f false).f xs E κ).isSome = true) {w : World} {ρ : Rho} {args : Array Value}
    (hR : @Rep V w ρ E w) (hv : @VRs V ρ xs args.toList) {Q : Value → Prop} (hQ : ∀ x E' ρ' v r, κ x E' = some r → @VR V ρ' x v → Q v) : Calls P f args w fun e w' => ∃ v, e = .returned v ∧ Q v ∧ Keeps w w' :=
  @run_keeps V P hX T n f xs E κ h w ρ args hR hv Q hQ

theorem chk_tab (e : Ent) (q : Nat) : (chkVal e q).toTab = chkT Tryz.prog q := rfl

/-- entry.Check -/
theorem check_calls (e : Ent) (hR : e.R) {w : World} (hw : Tens w) : Calls Tryz.prog 7 #[e.val] w fun x w' => ∃ v, x = .returned v ∧ v = .int .i64 (if e.may then 0 else 30) ∧ Keeps w w' := by
  obtain ⟨q, hS, hm⟩ := stage_of e
  have hrun0 := upto_ok chk_all q hS.lt
  have hrun : ((@callN (chkVal e q).toTab Tryz.prog levC 4 7 false).f [chkX] E1 (kOne (chkR q))).isSome = true := by
    rw [chk_tab]
    exact hrun0
  refine run_of (V := chkVal e q) (chk_ext hR hS) hrun (@E1_rep (chkVal e q) w hw hw.pos) (@VRs.one (chkVal e q) _ _ _ (chk_arg e q ρ0)) ?_
  intro x E' ρ' v r hx hv
  have := (@same_some (chkVal e q) _ _ _ _ hx).1
  subst this
  unfold chkR at hv
  split at hv
  · rename_i hi
    have : e.may := hm.2 (by simpa using (inL_iff q _).1 hi)
    rw [if_pos this]
    exact @VR.int_inv (chkVal e q) _ _ _ _ hv
  · rename_i hi
    have : ¬ e.may := fun h => by
      have := (inL_iff q [0, 8, 9, 12]).2 (by simpa using hm.1 h)
      rw [this] at hi; cases hi
    rw [if_neg this]
    exact @VR.int_inv (chkVal e q) _ _ _ _ hv
end Go.Ex
