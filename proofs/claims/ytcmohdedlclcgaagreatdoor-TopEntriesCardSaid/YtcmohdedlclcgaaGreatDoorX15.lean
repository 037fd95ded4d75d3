/- Part of the proof of TopEntries: entry.Encode and Decode: their contracts. -/
import Derived.Test.YtcmohdedlclcgaaGreatDoorX14
set_option linter.unusedVariables false
set_option linter.unusedSimpArgs false
set_option linter.unusedSectionVars false
open Go.Proofs
namespace Go.Ex

/-- the byte that an atom stands for -/
def bOf (V : Nat → Nat) (U : Nat → Value) (i : Nat) : UInt8 := match sigN V U i with
  | .int _ n => UInt8.ofNat n.toNat
  | _ => 0
theorem bOf_ok (V : Nat → Nat) (U : Nat → Value) (i : Nat) (h : byteFrom ≤ i) : sigN V U i = .int .u8 ((bOf V U i).toNat : Int) := by
  obtain ⟨n, hn, e⟩ := sig_byte V U i h
  unfold bOf
  rw [e]
  simp
  omega
def strOf (V : Nat → Nat) (U : Nat → Value) (l : List Nat) : ByteArray := ⟨(l.map (bOf V U)).toArray⟩
theorem strOf_ok (V : Nat → Nat) (U : Nat → Value) (l : List Nat) (h : ∀ i ∈ l, byteFrom ≤ i) : l.map (sigN V U) = bytesV (strOf V U l) := by
  unfold bytesV strOf
  simp only [List.map_map]
  apply List.map_congr_left
  intro i hi
  exact bOf_ok V U i (h i hi)
theorem txtL_get (j : Nat) : ∀ (n i : Nat), i < n → (txtL j n)[i]? = some (byteFrom + 8 * (j + i)) := by
  intro n
  induction n generalizing j with
  | zero => intro i hi; omega
  | succ n ih =>
    intro i hi
    cases i with
    | zero => rfl
    | succ i =>
      show (txtL (Nat.succ j) n)[i]? = _
      rw [ih (Nat.succ j) i (by omega)]
      congr 3
      show j + 1 + i = _
      omega
theorem txtL_len (j : Nat) : ∀ n, (txtL j n).length = n := by
  intro n
  induction n generalizing j with
  | zero => rfl
  | succ n ih => show (txtL (Nat.succ j) n).length + 1 = _; rw [ih]
/-- a text's bytes as atoms -/
theorem txtL_ok (V : Nat → Nat) (U : Nat → Value) (j : Nat) (t : ByteArray) (hj : j + t.size < 65536) (h : ∀ (i : Nat) (b : UInt8), t.data.toList[i]? = some b → V (j + i) = b.toNat) : (txtL j t.size).map (sigN V U) = bytesV t := by
  apply List.ext_getElem?
  intro i
  unfold bytesV
  rw [List.getElem?_map, List.getElem?_map]
  rcases Nat.lt_or_ge i t.size with hi | hi
  · have hb : t.data.toList[i]? = some (t.data.toList[i]'(by simpa using hi)) := List.getElem?_eq_getElem _
    rw [txtL_get j _ i hi, hb]
    simp only [Option.map_some]
    have e := sig_by V U (j + i) 0 (by omega) (by decide)
    rw [Nat.add_zero] at e
    rw [e, h i _ hb]
    congr 2
    have := (t.data.toList[i]'(by simpa using hi)).toNat_lt
    simp
    try omega
  · rw [List.getElem?_eq_none (by rw [txtL_len]; exact hi), List.getElem?_eq_none (by simpa using hi)]
    rfl

/-- byte p of a text -/
def byteOf (t : ByteArray) (p : Nat) : Nat := (t.data.toList[p]?.getD 0).toNat
theorem byteOf_lt (t : ByteArray) (p : Nat) : byteOf t p < 256 := UInt8.toNat_lt _
theorem byteOf_some {t : ByteArray} {p : Nat} {b : UInt8} (h : t.data.toList[p]? = some b) : byteOf t p = b.toNat := by
  unfold byteOf; rw [h]; rfl

def entV (e : Ent) (j : Nat) : Nat :=
  if j = 64 then e.k.toNat else if j = 65 then e.s.toNat else if j = 66 then e.g.toNat else if j = 67 then e.se else if j = 68 then e.nu
  else if 512 ≤ j ∧ j < 544 then byteOf e.t (j - 512) else 0
def noU (_ : Nat) : Value := .int .u8 0
theorem noU_flat : ∀ k, flatV (noU k) = true := fun _ => rfl
@[reducible] noncomputable def entVal (e : Ent) : Val := valN Tryz.prog widthN noD noQ' noL (entF e.t.size) (entV e) noU noU_flat
theorem ent_tab (e : Ent) : (entVal e).toTab = entT Tryz.prog e.t.size := rfl

theorem may_bounds {e : Ent} (h : e.may) : 0 ≤ e.k ∧ e.k < 4 ∧ 0 ≤ e.s ∧ e.s < 4 ∧ 0 ≤ e.g ∧ e.g < 8 ∧ e.se < 65536 ∧ e.nu < 4294967296 ∧ e.t.size ≤ 16 := by
  rcases h with rfl | ⟨a, b, c, d, x, y, z, k⟩
  · refine ⟨?_, ?_, ?_, ?_, ?_, ?_, ?_, ?_, ?_⟩ <;> decide
  · omega
theorem widthN_le (j : Nat) : widthN j ≤ 8 := by
  unfold widthN
  split
  · split
    · rename_i w _ hw
      have : w ∈ widthL := by
        rw [dropN_eq] at hw
        exact List.mem_of_mem_drop (by rw [hw]; simp)
      revert this
      unfold widthL
      intro h
      simp only [List.mem_cons, List.not_mem_nil, or_false] at h
      omega
    · decide
  · split <;> decide
theorem widthN_pos (j : Nat) : 1 ≤ widthN j := by
  unfold widthN
  split
  · split
    · rename_i w _ hw
      have : w ∈ widthL := by
        rw [dropN_eq] at hw
        exact List.mem_of_mem_drop (by rw [hw]; simp)
      revert this
      unfold widthL
      intro h
      simp only [List.mem_cons, List.not_mem_nil, or_false] at h
      omega
    · decide
  · split <;> decide
theorem lt_width {j n : Nat} (h : n < 256) : n < 2 ^ (8 * widthN j) :=
  Nat.lt_of_lt_of_le h (Nat.le_trans (by decide : 256 ≤ 2 ^ (8 * 1)) (Nat.pow_le_pow_right (by decide) (by have := widthN_pos j; omega)))
theorem ent_nums {e : Ent} (h : e.may) : NumOK widthN (entV e) := by
  obtain ⟨a, b, c, d, f, g, x, y, z⟩ := may_bounds h
  refine ⟨widthN_le, fun j => ?_⟩
  unfold entV
  split
  · exact lt_width (by omega)
  · split
    · exact lt_width (by omega)
    · split
      · exact lt_width (by omega)
      · split
        · rename_i hj; subst hj; exact Nat.lt_of_lt_of_le x (by decide)
        · split
          · rename_i hj; subst hj; exact Nat.lt_of_lt_of_le y (by decide)
          · split
            · exact lt_width (byteOf_lt _ _)
            · exact lt_width (by decide)

theorem ent_text (e : Ent) (h : e.t.size ≤ 16) : (txtL 512 e.t.size).map (sigN (entV e) noU) = bytesV e.t := by
  refine txtL_ok _ _ 512 e.t (by omega) fun i b hb => ?_
  have hi : i < e.t.size := by
    have := (List.getElem?_eq_some_iff.1 hb).1
    simpa using this
  unfold entV
  rw [if_neg (by omega), if_neg (by omega), if_neg (by omega), if_neg (by omega), if_neg (by omega), if_pos (by omega), Nat.add_sub_cancel_left]
  exact byteOf_some hb

theorem nuN_eq (j t : Nat) : nuN j t = .atom (64 * j + t) := rfl
theorem ent_arg {e : Ent} (h : e.may) (ρ : Rho) : @VR (entVal e) ρ (entX e.t.size) e.val := by
  letI := entVal e
  obtain ⟨a, b, c, d, f, g, x, y, z⟩ := may_bounds h
  have n0 : ∀ (j t : Nat) (k : IntKind) (n : Int), 64 * j + t < textFrom → t < 8 → kOf t = k → (entV e j : Int) = n → VR ρ (nuN j t) (.int k n) := by
    intro j t k n h1 h2 h3 h4
    rw [nuN_eq]
    refine atomIs ?_
    rw [sig_num _ _ j t h1 h2, h3, h4]
  refine VR.agg' rfl (VRs.cons (n0 64 3 _ _ (by decide) (by decide) rfl ?_) (VRs.cons (n0 65 3 _ _ (by decide) (by decide) rfl ?_) (VRs.cons (n0 66 3 _ _ (by decide) (by decide) rfl ?_)
    (VRs.cons (n0 67 7 _ _ (by decide) (by decide) rfl ?_) (VRs.cons (n0 68 7 _ _ (by decide) (by decide) rfl ?_) (VRs.one (mkS_ok (ent_text e z)))))))) ?_
  · simp [entV]; omega
  · simp [entV]; omega
  · simp [entV]; omega
  · simp [entV]
  · simp [entV]
  · intro v hv
    simp only [Ent.cells, List.mem_cons, List.not_mem_nil, or_false] at hv
    rcases hv with rfl | rfl | rfl | rfl | rfl | rfl <;> rfl
end Go.Ex
open Go.Proofs
namespace Go.Ex
section
variable {P : Program} {W : Nat → Nat} {D : BinOp → Nat → IntKind → Int → Option Bool} {Q : BinOp → TypeId → List XV → Option XV} {L : Nat → Option XV} {F : FuncId → Option (List XV → Option XV)}
  {V : Nat → Nat} {U : Nat → Value} {hU : ∀ k, flatV (U k) = true}

theorem str_inj {a b : ByteArray} {n c : Nat} (h1 : a.data.toList.length = n) (h2 : codeL a.data.toList = c) (h3 : b.data.toList.length = n) (h4 : codeL b.data.toList = c) : a = b := by
  letI := valN Tryz.prog w8 noD noQ' noL noFn (fun _ => 0) noU noU_flat
  have h := str_beq (a := a) (b := b) h1 h2 h3 h4
  have e : (Nat.beq n n && Nat.beq c c) = true := by simp
  rw [e, ByteArray.toList_eq, ByteArray.toList_eq, beq_iff_eq] at h
  obtain ⟨⟨a⟩⟩ := a
  obtain ⟨⟨b⟩⟩ := b
  have h : a = b := h
  rw [h]

theorem mkS_inv {ρ : Rho} {l : List Nat} {v : Value} (hl : ∀ i ∈ l, byteFrom ≤ i) (h : @VR (valN P W D Q L F V U hU) ρ (mkS l) v) : v = .string (strOf V U l) := by
  letI := valN P W D Q L F V U hU
  have h0 : VR ρ (mkS l) (.string (strOf V U l)) := mkS_ok (strOf_ok V U l hl)
  unfold mkS at h h0
  cases hc : allConst l with
  | true =>
    rw [hc] at h h0
    obtain ⟨s, e, h1, h2⟩ := h.str_inv
    obtain ⟨s', e', h3, h4⟩ := h0.str_inv
    cases e'
    rw [e, str_inj h1 h2 h3 h4]
  | false =>
    rw [hc] at h h0
    obtain ⟨s, e, h1⟩ := strA_inv h
    rw [e]
    congr 1
    exact bytesV_inj (h1.symm.trans (strOf_ok V U l hl))
theorem strA_inv' {ρ : Rho} {l : List Nat} {v : Value} (hl : ∀ i ∈ l, byteFrom ≤ i) (h : @VR (valN P W D Q L F V U hU) ρ (.strA l) v) : v = .string (strOf V U l) := by
  obtain ⟨s, e, h1⟩ := strA_inv h
  rw [e]
  congr 1
  exact bytesV_inj (h1.symm.trans (strOf_ok V U l hl))

/-- cells of atoms stand for one row of values alone -/
theorem agg_inj {ρ : Rho} {n : Nat} {l : List XV} {vs : List Value} {v : Value} (h : @VR (valN P W D Q L F V U hU) ρ (.agg n l) v) (hl : l.length = vs.length)
    (hi : ∀ (i : Nat) (x : XV) (y z : Value), l[i]? = some x → vs[i]? = some z → @VR (valN P W D Q L F V U hU) ρ x y → y = z) : v = .agg vs.toArray := by
  letI := valN P W D Q L F V U hU
  obtain ⟨cs, rfl, _, _, h3, _⟩ := h.agg_inv
  congr 1
  apply Array.toList_inj.1
  apply List.ext_getElem?
  intro i
  rcases Nat.lt_or_ge i l.length with h4 | h4
  · have h5 : i < cs.toList.length := by rw [← h3.1]; exact h4
    have h6 : i < vs.length := by omega
    rw [List.getElem?_eq_getElem h5]
    have h7 : vs[i]? = some vs[i] := List.getElem?_eq_getElem h6
    rw [show (vs.toArray.toList) = vs from rfl, h7]
    congr 1
    exact hi i l[i] cs.toList[i] vs[i] (List.getElem?_eq_getElem h4) h7 (h3.2 i _ _ (List.getElem?_eq_getElem h4) (List.getElem?_eq_getElem h5))
  · rw [List.getElem?_eq_none (by rw [← h3.1]; exact h4), List.getElem?_eq_none (by show vs.toArray.toList.length ≤ i; simp; omega)]
end
end Go.Ex
open Go.Proofs
namespace Go.Ex

theorem ansL_some [Val] {xs zs : List XV} {y x : XV} (h : ansL xs y zs = some x) : zs = xs ∧ x = y := by
  unfold ansL at h
  split at h
  · rename_i hi
    cases h
    exact ⟨(isL_ok _ _ hi).symm, rfl⟩
  · cases h

theorem txtL_mem {j : Nat} : ∀ (n : Nat) {i : Nat}, i ∈ txtL j n → byteFrom ≤ i := by
  intro n
  induction n generalizing j with
  | zero => intro i hi; cases hi
  | succ n ih =>
    intro i hi
    rcases List.mem_cons.1 hi with rfl | hi
    · exact Nat.le_add_right _ _
    · exact ih hi
theorem byL_mem {j : Nat} : ∀ (n : Nat) {i : Nat}, i ∈ byL j n → byteFrom ≤ i := by
  intro n
  induction n with
  | zero => intro i hi; cases hi
  | succ n ih =>
    intro i hi
    rcases List.mem_cons.1 hi with rfl | hi
    · exact Nat.le_add_right _ _
    · exact ih hi
theorem zerL_mem : ∀ (n : Nat) {i : Nat}, i ∈ zerL n → byteFrom ≤ i := by
  intro n
  induction n with
  | zero => intro i hi; cases hi
  | succ n ih =>
    intro i hi
    rcases List.mem_cons.1 hi with rfl | hi
    · decide
    · exact ih hi
theorem entB_mem (n : Nat) {i : Nat} (h : i ∈ entB n) : byteFrom ≤ i := by
  unfold entB at h
  simp only [appN_eq, List.mem_append, List.mem_cons] at h
  rcases h with h | h | h | h | h | h | h | h
  · exact byL_mem _ h
  · exact byL_mem _ h
  · exact byL_mem _ h
  · exact byL_mem _ h
  · exact byL_mem _ h
  · rw [h]; exact Nat.le_trans (by decide : byteFrom ≤ constFrom) (Nat.le_add_right _ _)
  · exact txtL_mem _ h
  · exact zerL_mem _ h

theorem ent_argInv {e : Ent} (h : e.may) {ρ : Rho} {v : Value} (hv : @VR (entVal e) ρ (entX e.t.size) v) : v = e.val := by
  letI := entVal e
  obtain ⟨a, b, c, d, f, g, x, y, z⟩ := may_bounds h
  refine agg_inj hv rfl ?_
  intro i x' y' z' hx hz hy
  have n0 : ∀ (j t : Nat) (k : IntKind) (n : Int), 64 * j + t < textFrom → t < 8 → kOf t = k → (entV e j : Int) = n → VR ρ (nuN j t) y' → y' = .int k n := by
    intro j t k n h1 h2 h3 h4 h5
    rw [nuN_eq] at h5
    rw [atomInv h5, sig_num _ _ j t h1 h2, h3, h4]
  match i, hx, hz with
  | 0, hx, hz => cases hx; cases hz; exact n0 64 3 _ _ (by decide) (by decide) rfl (by simp [entV]; omega) hy
  | 1, hx, hz => cases hx; cases hz; exact n0 65 3 _ _ (by decide) (by decide) rfl (by simp [entV]; omega) hy
  | 2, hx, hz => cases hx; cases hz; exact n0 66 3 _ _ (by decide) (by decide) rfl (by simp [entV]; omega) hy
  | 3, hx, hz => cases hx; cases hz; exact n0 67 7 _ _ (by decide) (by decide) rfl (by simp [entV]) hy
  | 4, hx, hz => cases hx; cases hz; exact n0 68 7 _ _ (by decide) (by decide) rfl (by simp [entV]) hy
  | 5, hx, hz =>
    cases hx; cases hz
    rw [mkS_inv (fun i hi => txtL_mem _ hi) hy]
    congr 1
    exact bytesV_inj ((strOf_ok _ _ _ (fun i hi => txtL_mem _ hi)).symm.trans (ent_text e z))
  | n + 6, hx, hz => simp at hx

theorem may_R {e : Ent} (h : e.may) : e.R := by
  obtain ⟨a, b, c, d, f, g, x, y, z⟩ := may_bounds h
  exact ⟨by omega, by omega⟩

theorem ent_ext {e : Ent} (h : e.may) : @ExtOK (entVal e) Tryz.prog := by
  refine @ext_ok (entVal e) (fun o g xs x ho hg ρ w ev hv => opN_ok (ent_nums h) (fun b i k n r hd => by cases hd) (fun b t xs x _ hq => by cases hq) (fun i x hl => by cases hl) ho hg hv) ?_
  intro f g xs x hf hg ρ w args hw hv
  letI := entVal e
  have hf : entF e.t.size f = some g := hf
  unfold entF at hf
  split at hf
  · cases hf
    obtain ⟨rfl, rfl⟩ := ansL_some hg
    obtain ⟨u, hu, h1⟩ := hv.single
    have : args = #[e.val] := Array.toList_inj.1 (by rw [hu, ent_argInv h h1])
    subst this
    refine (check_calls e (may_R h) hw).mono ?_
    rintro o w' ⟨v, rfl, rfl, hk⟩
    rw [if_pos h]
    exact ⟨_, rfl, VR.int _ _, hk⟩
  · cases hf

/-- an entry's bytes -/
def encB (e : Ent) : ByteArray := strOf (entV e) noU (entB e.t.size)

theorem kIs_some {ys : List XV} {x : XV} {E : XW} {r : XV × XW} [Val] (h : kIs ys x E = some r) : x = .tuple ys := by
  unfold kIs at h
  obtain ⟨vs, rfl, h1⟩ := vTuple_some h
  split at h1
  · rename_i hi; rw [isL_ok _ _ hi]
  · cases h1

theorem tuple2 [Val] {ρ : Rho} {p q : XV} {v : Value} (h : VR ρ (.tuple [p, q]) v) : ∃ a b, v = .tuple #[a, b] ∧ VR ρ p a ∧ VR ρ q b := by
  obtain ⟨cs, rfl, hv⟩ := h.tuple_inv
  obtain ⟨a, b, e, h1, h2⟩ := hv.two
  exact ⟨a, b, by rw [show cs = #[a, b] from Array.toList_inj.1 e], h1, h2⟩

/-- entry.Encode -/
theorem enc_calls {e : Ent} (h : e.may) {w : World} (hw : Tens w) : Calls Tryz.prog 60 #[e.val] w fun x w' => ∃ v, x = .returned v ∧ v = .tuple #[.string (encB e), .int .i64 0] ∧ Keeps w w' := by
  obtain ⟨_, _, _, _, _, _, _, _, z⟩ := may_bounds h
  have hrun0 := upto_ok entEnc_all e.t.size (by omega)
  have hrun : ((@callN (entVal e).toTab Tryz.prog levE 10 60 false).f [entX e.t.size] E1 (kIs [.strA (entB e.t.size), okX])).isSome = true := by
    rw [ent_tab]; exact hrun0
  refine run_of (V := entVal e) (ent_ext h) hrun (@E1_rep (entVal e) w hw hw.pos) (@VRs.one (entVal e) _ _ _ (ent_arg h ρ0)) ?_
  intro x E' ρ' v r hx hv
  rw [@kIs_some _ _ _ _ (entVal e) hx] at hv
  obtain ⟨a, b, rfl, h1, h2⟩ := @tuple2 (entVal e) _ _ _ _ hv
  rw [strA_inv' (fun i hi => entB_mem _ hi) h1, @VR.int_inv (entVal e) _ _ _ _ h2]
  rfl

/-- entry.Decode -/
theorem dec_calls {e : Ent} (h : e.may) {w : World} (hw : Tens w) : Calls Tryz.prog 62 #[.string (encB e)] w fun x w' => ∃ v, x = .returned v ∧ v = .tuple #[e.val, .int .i64 0] ∧ Keeps w w' := by
  obtain ⟨_, _, _, _, _, _, _, _, z⟩ := may_bounds h
  have hrun0 := upto_ok entDec_all e.t.size (by omega)
  have hrun : ((@callN (entVal e).toTab Tryz.prog levE 10 62 false).f [.strA (entB e.t.size)] E1 (kIs [entX e.t.size, okX])).isSome = true := by
    rw [ent_tab]; exact hrun0
  refine run_of (V := entVal e) (ent_ext h) hrun (@E1_rep (entVal e) w hw hw.pos) (@VRs.one (entVal e) _ _ _ (strA_mk (strOf_ok _ _ _ fun i hi => entB_mem _ hi))) ?_
  intro x E' ρ' v r hx hv
  rw [@kIs_some _ _ _ _ (entVal e) hx] at hv
  obtain ⟨a, b, rfl, h1, h2⟩ := @tuple2 (entVal e) _ _ _ _ hv
  rw [ent_argInv h h1, @VR.int_inv (entVal e) _ _ _ _ h2]
  rfl
theorem encB_size {e : Ent} (h : e.may) : (encB e).size = 28 := by
  obtain ⟨_, _, _, _, _, _, _, _, z⟩ := may_bounds h
  have h1 : (encB e).size = (entB e.t.size).length := by
    unfold encB strOf
    show ((entB e.t.size).map _).toArray.size = _
    simp
  rw [h1]
  have : ∀ n, n ≤ 16 → (entB n).length = 28 := by
    intro n hn
    have : ∀ m : Fin 17, (entB m.1).length = 28 := by decide
    exact this ⟨n, by omega⟩
  exact this _ z
end Go.Ex
