/- Part of the proof of TopEntries: packet.Check, Encode, Decode: their contracts. -/
import Derived.Test.YtcmohdedlclcgaaGreatDoorX17
import Derived.Test.YtcmohdedlclcgaaGreatDoorX16
import Derived.Test.YtcmohdedlclcgaaGreatDoorX11
set_option linter.unusedVariables false
set_option linter.unusedSimpArgs false
set_option linter.unusedSectionVars false
open Go.Proofs
namespace Go.Ex

/-- a packet -/
structure Pkt where
  n : Nat → Nat
  rdy : Bool
  e : Nat → Ent
  x : ByteArray := .empty
  y : Int := 0
def entsV (e : Nat → Ent) (k : Nat) : Nat → List Value
  | 0 => []
  | m + 1 => (e k).cells ++ entsV e (k + 1) m
def numsV (n : Nat → Nat) (j : Nat) : Nat → List Value
  | 0 => []
  | m + 1 => .int .u32 (n j : Int) :: numsV n (j + 1) m
def Pkt.cells (p : Pkt) : List Value := numsV p.n 0 32 ++ ([.bool p.rdy] ++ (numsV p.n 33 2 ++ (entsV p.e 0 12 ++ (numsV p.n 35 2 ++ entsV p.e 12 6))))
def Pkt.val (p : Pkt) : Value := .agg p.cells.toArray
structure Pkt.R (p : Pkt) : Prop where
  n : ∀ j, p.n j < 2 ^ 32
  e : ∀ k, (p.e k).R
/-- a packet that may be -/
def Pkt.may (p : Pkt) : Prop := p.n 0 < 8 ∧ p.n 35 < 8 ∧ p.n 3 < 8 ∧ p.n 22 < 8 ∧ ∀ k, k < 18 → (p.e k).may

def pktU (p : Pkt) (i : Nat) : Value :=
  if i = 0 then .bool p.rdy else if i = 500 then .string p.x else if i = 501 then .int .i64 p.y else if 100 ≤ i ∧ i < 300 then ((p.e ((i - 100) / 8)).cells[(i - 100) % 8]?).getD (.int .u8 0) else .int .u8 0
theorem cells_flat (e : Ent) (i : Nat) : flatV (e.cells[i]?.getD (.int .u8 0)) = true := by
  match i with
  | 0 => rfl
  | 1 => rfl
  | 2 => rfl
  | 3 => rfl
  | 4 => rfl
  | 5 => rfl
  | _ + 6 => rfl
theorem pktU_flat (p : Pkt) : ∀ i, flatV (pktU p i) = true := by
  intro i
  unfold pktU
  split
  · rfl
  · split
    · rfl
    · split
      · rfl
      · split
        · exact cells_flat _ _
        · rfl
theorem sig_U (V : Nat → Nat) (U : Nat → Value) (k : Nat) (h : k < 1000) : sigN V U (Nat.add textFrom k) = U k := by
  have e : Nat.add textFrom k = textFrom + k := rfl
  unfold sigN
  rw [e, if_neg (by omega), if_pos (by simp only [textFrom, byteFrom]; omega), Nat.add_sub_cancel_left]

section
variable {P : Program} {W : Nat → Nat} {D : BinOp → Nat → IntKind → Int → Option Bool} {Q : BinOp → TypeId → List XV → Option XV} {L : Nat → Option XV} {F : FuncId → Option (List XV → Option XV)}
  {V : Nat → Nat} {p : Pkt}

/-- an entry's cells are its atoms' -/
theorem entA_at (V : Nat → Nat) (p : Pkt) {k : Nat} (hk : k < 25) {i : Nat} {x : XV} {z : Value} (hx : (entA k)[i]? = some x) (hz : (p.e k).cells[i]? = some z) : ∃ a, x = .atom a ∧ sigN V (pktU p) a = z := by
  have key : ∀ m, m < 6 → (p.e k).cells[m]? = some z → sigN V (pktU p) (Nat.add textFrom (Nat.add (100 + m) (Nat.mul 8 k))) = z := by
    intro m hm hz
    have e : Nat.add (100 + m) (Nat.mul 8 k) = 100 + m + 8 * k := rfl
    rw [e, sig_U _ _ _ (by omega)]
    unfold pktU
    rw [if_neg (by omega), if_neg (by omega), if_neg (by omega), if_pos (by omega), show (100 + m + 8 * k - 100) / 8 = k by omega, show (100 + m + 8 * k - 100) % 8 = m by omega, hz]
    rfl
  match i, hx with
  | 0, hx => cases hx; exact ⟨_, rfl, key 0 (by decide) hz⟩
  | 1, hx => cases hx; exact ⟨_, rfl, key 1 (by decide) hz⟩
  | 2, hx => cases hx; exact ⟨_, rfl, key 2 (by decide) hz⟩
  | 3, hx => cases hx; exact ⟨_, rfl, key 3 (by decide) hz⟩
  | 4, hx => cases hx; exact ⟨_, rfl, key 4 (by decide) hz⟩
  | 5, hx => cases hx; exact ⟨_, rfl, key 5 (by decide) hz⟩
  | n + 6, hx => simp [entA] at hx
theorem entA_rows {k : Nat} (hk : k < 25) {ρ : Rho} : @VRs (valN P W D Q L F V (pktU p) (pktU_flat p)) ρ (entA k) (p.e k).cells := by
  refine ⟨rfl, fun i x y hx hy => ?_⟩
  obtain ⟨a, rfl, h⟩ := entA_at V p hk hx hy
  exact atomIs h
theorem entA_inv {k : Nat} (hk : k < 25) {ρ : Rho} {v : Value} (h : @VR (valN P W D Q L F V (pktU p) (pktU_flat p)) ρ (.agg 6 (entA k)) v) : v = (p.e k).val := by
  refine agg_inj h rfl fun i x y z hx hz hy => ?_
  obtain ⟨a, rfl, h1⟩ := entA_at V p hk hx hz
  rw [atomInv hy, h1]
theorem entA_val {k : Nat} (hk : k < 25) {ρ : Rho} : @VR (valN P W D Q L F V (pktU p) (pktU_flat p)) ρ (.agg 6 (entA k)) (p.e k).val := by
  letI := valN P W D Q L F V (pktU p) (pktU_flat p)
  refine VR.agg' rfl (entA_rows hk) fun v hv => ?_
  simp only [Ent.cells, List.mem_cons, List.not_mem_nil, or_false] at hv
  rcases hv with rfl | rfl | rfl | rfl | rfl | rfl <;> rfl

theorem entsA_rows {ρ : Rho} : ∀ (m k : Nat), k + m ≤ 25 → @VRs (valN P W D Q L F V (pktU p) (pktU_flat p)) ρ (entsA k m) (entsV p.e k m)
  | 0, k, _ => @VRs.nil (valN P W D Q L F V (pktU p) (pktU_flat p)) ρ
  | m + 1, k, h => by
    letI := valN P W D Q L F V (pktU p) (pktU_flat p)
    show VRs ρ (appL (entsA (Nat.succ k) m) (entA k)) _
    rw [appL_eq]
    exact (entA_rows (by omega)).append (entsA_rows m (k + 1) (by omega))
theorem numsA_rows {ρ : Rho} : ∀ (m j : Nat), j + m < 64 → (∀ i, j ≤ i → i < j + m → V i = p.n i) → @VRs (valN P W D Q L F V (pktU p) (pktU_flat p)) ρ (numsA j m) (numsV p.n j m)
  | 0, j, _, _ => @VRs.nil (valN P W D Q L F V (pktU p) (pktU_flat p)) ρ
  | m + 1, j, h, hV => by
    letI := valN P W D Q L F V (pktU p) (pktU_flat p)
    refine VRs.cons ?_ (numsA_rows m (j + 1) (by omega) fun i h1 h2 => hV i (by omega) (by omega))
    rw [nuN_eq]
    refine atomIs ?_
    rw [sig_num _ _ j 6 (by simp only [textFrom]; omega) (by decide), hV j (by omega) (by omega)]
    rfl
theorem pktC_rows {ρ : Rho} {r : XV} (hr : @VR (valN P W D Q L F V (pktU p) (pktU_flat p)) ρ r (.bool p.rdy)) (hV : ∀ j, j < 37 → j ≠ 32 → V j = p.n j) :
    @VRs (valN P W D Q L F V (pktU p) (pktU_flat p)) ρ (pktC r) p.cells := by
  letI := valN P W D Q L F V (pktU p) (pktU_flat p)
  unfold pktC Pkt.cells
  simp only [appL_eq]
  exact (numsA_rows 32 0 (by decide) fun i _ h => hV i (by omega) (by omega)).append ((VRs.one hr).append ((numsA_rows 2 33 (by decide) fun i h1 h2 => hV i (by omega) (by omega)).append
    ((entsA_rows 12 0 (by decide)).append ((numsA_rows 2 35 (by decide) fun i h1 h2 => hV i (by omega) (by omega)).append (entsA_rows 6 12 (by decide))))))
theorem entsV_flat (e : Nat → Ent) : ∀ (m k : Nat) (v : Value), v ∈ entsV e k m → flatV v = true
  | 0, _, _, h => by cases h
  | m + 1, k, v, h => by
    rcases List.mem_append.1 h with h | h
    · simp only [Ent.cells, List.mem_cons, List.not_mem_nil, or_false] at h
      rcases h with rfl | rfl | rfl | rfl | rfl | rfl <;> rfl
    · exact entsV_flat e m (k + 1) v h
theorem numsV_flat (n : Nat → Nat) : ∀ (m k : Nat) (v : Value), v ∈ numsV n k m → flatV v = true
  | 0, _, _, h => by cases h
  | m + 1, k, v, h => by
    rcases List.mem_cons.1 h with rfl | h
    · rfl
    · exact numsV_flat n m (k + 1) v h
theorem pkt_flat (p : Pkt) : ∀ v ∈ p.cells, flatV v = true := by
  intro v h
  unfold Pkt.cells at h
  simp only [List.mem_append, List.mem_singleton] at h
  rcases h with h | h | h | h | h | h
  · exact numsV_flat _ _ _ _ h
  · rw [h]; rfl
  · exact numsV_flat _ _ _ _ h
  · exact entsV_flat _ _ _ _ h
  · exact numsV_flat _ _ _ _ h
  · exact entsV_flat _ _ _ _ h
theorem pkt_val {ρ : Rho} {r : XV} (hr : @VR (valN P W D Q L F V (pktU p) (pktU_flat p)) ρ r (.bool p.rdy)) (hV : ∀ j, j < 37 → j ≠ 32 → V j = p.n j) :
    @VR (valN P W D Q L F V (pktU p) (pktU_flat p)) ρ (pktX r) p.val := by
  letI := valN P W D Q L F V (pktU p) (pktU_flat p)
  exact VR.agg' (by cases r <;> rfl) (pktC_rows hr hV) (pkt_flat p)
/-- what a packet's cells stand for is the packet alone -/
def isFlat : XV → Bool
  | .atom _ => true
  | .bool _ => true
  | .int _ _ => true
  | .str _ _ => true
  | _ => false
theorem flat_unique {ρ : Rho} {x : XV} {y z : Value} (hx : isFlat x = true) (h1 : @VR (valN P W D Q L F V (pktU p) (pktU_flat p)) ρ x y) (h2 : @VR (valN P W D Q L F V (pktU p) (pktU_flat p)) ρ x z) : y = z := by
  letI := valN P W D Q L F V (pktU p) (pktU_flat p)
  cases x with
  | atom a => rw [atomInv h1, atomInv h2]
  | bool b => rw [h1.bool_inv, h2.bool_inv]
  | int k n => rw [h1.int_inv, h2.int_inv]
  | str n c =>
    obtain ⟨s, e1, a1, a2⟩ := h1.str_inv
    obtain ⟨s', e2, b1, b2⟩ := h2.str_inv
    rw [e1, e2, str_inj a1 a2 b1 b2]
  | _ => cases hx
theorem pkt_inv {ρ : Rho} {r : XV} (hr : @VR (valN P W D Q L F V (pktU p) (pktU_flat p)) ρ r (.bool p.rdy)) (hV : ∀ j, j < 37 → j ≠ 32 → V j = p.n j) (hf : (pktC r).all isFlat = true) {v : Value}
    (h : @VR (valN P W D Q L F V (pktU p) (pktU_flat p)) ρ (pktX r) v) : v = p.val := by
  have hrows := pktC_rows hr hV
  refine agg_inj h hrows.1 fun i x y z hx hz hy => ?_
  exact flat_unique (List.all_eq_true.1 hf x (List.mem_of_getElem? hx)) hy (hrows.2 i x z hx hz)
end
end Go.Ex
open Go.Proofs
namespace Go.Ex

theorem first_fail (T : Nat → Prop) : ∀ n, ∃ q, q ≤ n ∧ (∀ t, t < q → T t) ∧ (q = n ∨ ¬ T q)
  | 0 => ⟨0, Nat.le_refl _, fun t h => absurd h (Nat.not_lt_zero t), .inl rfl⟩
  | n + 1 => by
    obtain ⟨q, h1, h2, h3⟩ := first_fail T n
    rcases h3 with rfl | h3
    · by_cases hq : T q
      · exact ⟨q + 1, Nat.le_refl _, fun t ht => by
          rcases Nat.lt_succ_iff_lt_or_eq.1 ht with h | rfl
          · exact h2 t h
          · exact hq, .inl rfl⟩
      · exact ⟨q, Nat.le_succ _, h2, .inr hq⟩
    · exact ⟨q, Nat.le_succ_of_le h1, h2, .inr h3⟩

/-- test t of a packet -/
def pcTest (p : Pkt) (t : Nat) : Prop := match t with
  | 0 => p.n 0 < 8
  | 1 => p.n 35 < 8
  | 2 => p.n 3 < 8
  | 3 => p.n 22 < 8
  | t + 4 => (p.e t).may
theorem pc_may (p : Pkt) : p.may ↔ ∀ t, t < 22 → pcTest p t := by
  constructor
  · rintro ⟨a, b, c, d, h⟩ t ht
    match t, ht with
    | 0, _ => exact a
    | 1, _ => exact b
    | 2, _ => exact c
    | 3, _ => exact d
    | t + 4, ht => exact h t (by omega)
  · intro h
    exact ⟨h 0 (by decide), h 1 (by decide), h 2 (by decide), h 3 (by decide), fun k hk => h (k + 4) (by omega)⟩
structure PStage (p : Pkt) (q : Nat) : Prop where
  lt : q < 23
  yes : ∀ t, t < q → pcTest p t
  no : q < 22 → ¬ pcTest p q
@[reducible] noncomputable def pcVal (p : Pkt) (q : Nat) : Val := valN Tryz.prog w8 (pcD q) noQ' noL (pcF q) p.n (pktU p) (pktU_flat p)
theorem pc_tab (p : Pkt) (q : Nat) : (pcVal p q).toTab = pcT Tryz.prog w8 q := rfl

theorem pc_dec {p : Pkt} {q : Nat} (hS : PStage p q) : DecOK (pcD q) p.n (pktU p) := by
  intro b i k n r h
  unfold pcD at h
  split at h
  · split at h
    · rename_i hi
      rw [Bool.and_eq_true] at hi
      have hi1 : i < textFrom := by have := Nat.le_of_ble_eq_true hi.1; omega
      have hi2 := Nat.eq_of_beq_eq_true hi.2
      obtain ⟨j, s, hs, rfl⟩ := sig_split (i := i)
      rw [mod64 hs] at hi2
      subst hi2
      rw [div64 (by decide)] at h
      rw [sig_num _ _ j 6 hi1 (by decide)]
      split at h
      · rename_i hle
        cases h
        have hle := Nat.le_of_ble_eq_true hle
        have hq := hS.lt
        refine ⟨_, rfl, ?_⟩
        simp only [cmpI, Option.some.injEq]
        rw [Bool.eq_iff_iff, decide_eq_true_iff]
        have key : ∀ t, t < 4 → t ≤ q → (pcTest p t ↔ p.n j < 8) → ((8 : Int) ≤ (p.n j : Int) ↔ Nat.beq t q = true) := by
          intro t h4 htq ht
          rw [Nat.beq_eq]
          constructor
          · intro h8
            rcases Nat.lt_or_ge t q with h | h
            · have := ht.1 (hS.yes t h); omega
            · omega
          · rintro rfl
            have := hS.no (by omega)
            rw [ht] at this
            omega
        unfold pcNum at hle ⊢
        split at hle
        · exact key 0 (by decide) hle Iff.rfl
        · exact key 1 (by decide) hle Iff.rfl
        · exact key 2 (by decide) hle Iff.rfl
        · exact key 3 (by decide) hle Iff.rfl
        · omega
      · cases h
    · cases h
  · cases h

theorem ans7_some {q k : Nat} {xs : List XV} {x : XV} (h : ans7 q k xs = some x) : k < 18 ∧ k + 4 ≤ q ∧ xs = [.agg 6 (entA k)] ∧ x = (if k + 4 = q then e30X else okX) := by
  letI := valN Tryz.prog w8 noD noQ' noL noFn (fun _ => 0) noU noU_flat
  have e4 : Nat.add 4 k = k + 4 := Nat.add_comm 4 k
  unfold ans7 at h
  rw [e4] at h
  cases hb : (Nat.blt k 18 && Nat.ble (k + 4) q) with
  | false => rw [hb] at h; cases h
  | true =>
    rw [hb] at h
    dsimp only at h
    rw [Bool.and_eq_true] at hb
    obtain ⟨h1, h2⟩ := ansL_some h
    refine ⟨Nat.le_of_ble_eq_true hb.1, Nat.le_of_ble_eq_true hb.2, h1, ?_⟩
    rw [h2]
    cases hq : Nat.beq (k + 4) q with
    | true => rw [if_pos (Nat.eq_of_beq_eq_true hq)]
    | false => rw [if_neg (beq_false hq)]
theorem ans7_ex {q : Nat} {xs : List XV} {x : XV} (h : ans7 q (entK xs) xs = some x) : ∃ k, k < 18 ∧ k + 4 ≤ q ∧ xs = [.agg 6 (entA k)] ∧ x = (if k + 4 = q then e30X else okX) := ⟨entK xs, ans7_some h⟩
theorem pc_num {p : Pkt} (hR : p.R) : NumOK w8 p.n := nums8 _ (fun j => Nat.lt_of_lt_of_le (hR.n j) (by decide))
theorem pc_op {p : Pkt} (hR : p.R) {q : Nat} (hS : PStage p q) : ∀ o g xs x, (pcVal p q).op o = some g → g xs = some x → ∀ (ρ : Rho) (w : World) (ev : Operand → Value), @VRs (pcVal p q) ρ xs (o.operands.toList.map ev) → ∃ v, @VR (pcVal p q) ρ x v ∧ Runs Tryz.prog ev o w (.value v) w :=
  fun o g xs x ho hg ρ w ev hv => opN_ok (pc_num hR) (pc_dec hS) (fun b t xs x _ hq => by cases hq) (fun i x hl => by cases hl) ho hg hv
theorem pc_fn {p : Pkt} (hR : p.R) {q : Nat} (hS : PStage p q) : ∀ f g xs x, (pcVal p q).fn f = some g → g xs = some x → ∀ (ρ : Rho) (w : World) (args : Array Value), Tens w → @VRs (pcVal p q) ρ xs args.toList → Calls Tryz.prog f args w fun e w' => ∃ v, e = .returned v ∧ @VR (pcVal p q) ρ x v ∧ Keeps w w' := by
  intro f g xs x hf hg ρ w args hw hv
  letI := pcVal p q
  have hf : pcF q f = some g := hf
  unfold pcF at hf
  split at hf
  · cases hf
    have hg : ans7 q (entK xs) xs = some x := hg
    obtain ⟨k, hk1, hk2, rfl, h4⟩ := ans7_ex hg
    obtain ⟨u, hu, h1⟩ := hv.single
    have : args = #[(p.e k).val] := Array.toList_inj.1 (by rw [hu, entA_inv (Nat.lt_trans hk1 (by decide)) h1])
    subst this
    refine (check_calls (p.e k) (hR.e k) hw).mono ?_
    rintro o w' ⟨v, rfl, rfl, hkp⟩
    refine ⟨_, rfl, ?_, hkp⟩
    have hq := hS.lt
    rw [h4]
    by_cases hkq : k + 4 = q
    · have := hS.no (by omega)
      rw [← hkq] at this
      have : ¬ (p.e k).may := this
      rw [if_neg this, if_pos hkq]
      exact VR.int _ _
    · have : (p.e k).may := hS.yes (k + 4) (by omega)
      rw [if_pos this, if_neg hkq]
      exact VR.int _ _
  · cases hf

theorem pc_ext {p : Pkt} (hR : p.R) {q : Nat} (hS : PStage p q) : @ExtOK (pcVal p q) Tryz.prog := @ext_ok (pcVal p q) (pc_op hR hS) (pc_fn hR hS)

/-- packet.Check -/
theorem pcheck_calls (p : Pkt) (hR : p.R) {w : World} (hw : Tens w) (z : Int) (hz : (p.may ∧ z = 0) ∨ (¬ p.may ∧ z = 52)) : Calls Tryz.prog 25 #[p.val] w fun x w' => ∃ v, x = .returned v ∧ v = .int .i64 z ∧ Keeps w w' := by
  obtain ⟨q, h1, h2, h3⟩ := first_fail (pcTest p) 22
  have hS : PStage p q := ⟨by omega, h2, fun h => by
    rcases h3 with rfl | h3
    · exact absurd h (by decide)
    · exact h3⟩
  have hrun0 := upto_ok pktChk_all q hS.lt
  have hrun : ((@callN (pcVal p q).toTab Tryz.prog levPc 4 25 false).f [pktX (uaX 0)] E1 (kOne (pcR q))).isSome = true := by
    rw [pc_tab]; exact hrun0
  have hr0 : @VR (pcVal p q) ρ0 (uaX 0) (.bool p.rdy) := atomIs (sig_U _ _ 0 (by decide))
  refine run_of (V := pcVal p q) (pc_ext hR hS) hrun (@E1_rep (pcVal p q) w hw hw.pos) (@VRs.one (pcVal p q) _ _ _ (pkt_val hr0 fun _ _ _ => rfl)) ?_
  intro x E' ρ' v r hx hv
  have := (@same_some (pcVal p q) _ _ _ _ hx).1
  subst this
  unfold pcR at hv
  split at hv
  · rename_i hq
    have hq := Nat.eq_of_beq_eq_true hq
    have hm : p.may := (pc_may p).2 fun t ht => h2 t (by omega)
    rw [@VR.int_inv (pcVal p q) _ _ _ _ hv]
    rcases hz with ⟨_, rfl⟩ | ⟨h, _⟩
    · rfl
    · exact absurd hm h
  · rename_i hq
    have hm : ¬ p.may := by
      intro hm
      have hq' : q ≠ 22 := fun e => by rw [e] at hq; cases hq
      exact hS.no (by omega) ((pc_may p).1 hm q (by omega))
    rw [@VR.int_inv (pcVal p q) _ _ _ _ hv]
    rcases hz with ⟨h, _⟩ | ⟨_, rfl⟩
    · exact absurd h hm
    · rfl
end Go.Ex
open Go.Proofs
namespace Go.Ex

def pktV (p : Pkt) (c : Nat) (j : Nat) : Nat :=
  if j < 37 then (if j = 32 then (if p.rdy = true then 1 else 0) else p.n j)
  else if j = 40 then c
  else if 1024 ≤ j ∧ j < 1600 then byteOf (encB (p.e ((j - 1024) / 32))) ((j - 1024) % 32) else 0
theorem width_small : ∀ j : Fin 37, (widthN j.1 = 4 ∨ (widthN j.1 = 1 ∧ (j.1 = 0 ∨ j.1 = 3 ∨ j.1 = 22 ∨ j.1 = 32 ∨ j.1 = 35))) := by decide
theorem pkt_nums {p : Pkt} (hR : p.R) (h : p.may) {c : Nat} (hc : c < 2 ^ 32) : NumOK widthN (pktV p c) := by
  refine ⟨widthN_le, fun j => ?_⟩
  obtain ⟨a, b, d, e, _⟩ := h
  unfold pktV
  split
  · rename_i hj
    rcases width_small ⟨j, hj⟩ with hw | ⟨hw, hj⟩
    · have hw : widthN j = 4 := hw
      rw [hw]
      split
      · split <;> decide
      · exact Nat.lt_of_lt_of_le (hR.n j) (by decide)
    · refine lt_width ?_
      split
      · split <;> decide
      · have hj : j = 0 ∨ j = 3 ∨ j = 22 ∨ j = 32 ∨ j = 35 := hj
        rcases hj with rfl | rfl | rfl | rfl | rfl
        · omega
        · omega
        · omega
        · rename_i h; exact absurd rfl h
        · omega
  · split
    · rename_i hj
      subst hj
      exact Nat.lt_of_lt_of_le hc (by decide)
    · split
      · exact lt_width (byteOf_lt _ _)
      · exact lt_width (by decide)

@[reducible] noncomputable def pktVal (p : Pkt) (c : Nat) : Val := valN Tryz.prog widthN (pktD p.rdy) noQ' noL (pktF true p.rdy) (pktV p c) (pktU p) (pktU_flat p)
theorem pkt_tab (p : Pkt) (c : Nat) : (pktVal p c).toTab = pktT Tryz.prog widthN true p.rdy := rfl

theorem pkt_dec {p : Pkt} {c : Nat} : DecOK (pktD p.rdy) (pktV p c) (pktU p) := by
  have e : sigN (pktV p c) (pktU p) 2054 = .int .u32 ((if p.rdy = true then 1 else 0 : Nat) : Int) := by
    have := sig_num (pktV p c) (pktU p) 32 6 (by decide) (by decide)
    exact this
  intro b i k n r h
  unfold pktD at h
  split at h
  · split at h
    · rename_i hi
      cases h
      rw [Nat.eq_of_beq_eq_true hi, e]
      refine ⟨_, rfl, ?_⟩
      cases p.rdy <;> rfl
    · cases h
  · split at h
    · rename_i hi
      cases h
      rw [Nat.eq_of_beq_eq_true hi, e]
      refine ⟨_, rfl, ?_⟩
      cases p.rdy <;> rfl
    · cases h
  · cases h

/-- packet.truth -/
theorem truth_run (b : Bool) : ((@callN liveV.toTab Tryz.prog 0 2 28 false).f [.bool b] E1 (kOne (match b with | true => .int .u32 (.ofNat 1) | false => .int .u32 (.ofNat 0)))).isSome = true := by
  cases b <;> kernel_rfl
theorem truth_calls (b : Bool) {w : World} (hw : Tens w) : Calls Tryz.prog 28 #[.bool b] w fun x w' => ∃ v, x = .returned v ∧ v = .int .u32 ((if b = true then 1 else 0 : Nat) : Int) ∧ Keeps w w' := by
  refine run_of (V := liveV) live_ext (truth_run b) (@E1_rep liveV w hw hw.pos) (@VRs.one liveV _ _ _ (@VR.bool liveV _ b)) ?_
  intro x E' ρ' v r hx hv
  have := (@same_some liveV _ _ _ _ hx).1
  subst this
  cases b
  · exact @VR.int_inv liveV _ _ _ _ hv
  · exact @VR.int_inv liveV _ _ _ _ hv

theorem ofB_range (s : ByteArray) : 0 ≤ Crc.ofB s ∧ Crc.ofB s < 4294967296 := by
  unfold Crc.ofB Go.bits
  simp only [IntKind.wrap_u32]
  omega

theorem body_le {i : Nat} (h : i ∈ bodyB) : byteFrom ≤ i ∧ i < constFrom ∧ (i - byteFrom) / 8 ≠ 40 := by
  have := List.all_eq_true.1 bodyB_byte i h
  simp only [Bool.and_eq_true, Bool.not_eq_true'] at this
  obtain ⟨⟨h1, h2⟩, h3⟩ := this
  refine ⟨Nat.le_of_ble_eq_true h1, Nat.le_of_ble_eq_true h2, ?_⟩
  exact beq_false h3
def body (p : Pkt) : ByteArray := strOf (pktV p 0) (pktU p) bodyB
def pktC' (p : Pkt) : Nat := (Crc.ofB (body p)).toNat
theorem strOf_congr {V V' : Nat → Nat} {U : Nat → Value} {l : List Nat} (h : ∀ i ∈ l, sigN V U i = sigN V' U i) : strOf V U l = strOf V' U l := by
  unfold strOf
  have : l.map (bOf V U) = l.map (bOf V' U) := List.map_congr_left fun i hi => by unfold bOf; rw [h i hi]
  rw [this]
theorem body_any (p : Pkt) (c : Nat) : strOf (pktV p c) (pktU p) bodyB = body p := by
  refine strOf_congr fun i hi => ?_
  obtain ⟨h1, h2, h3⟩ := body_le hi
  have : sigN (pktV p c) (pktU p) i = sigN (pktV p 0) (pktU p) i := by
    have hn : ¬ i < textFrom := by simp only [textFrom, byteFrom] at *; omega
    have hn2 : ¬ i < byteFrom := by omega
    unfold sigN
    rw [if_neg hn, if_neg hn2, if_pos h2, if_neg hn, if_neg hn2, if_pos h2]
    have : pktV p c ((i - byteFrom) / 8) = pktV p 0 ((i - byteFrom) / 8) := by
      unfold pktV
      split
      · rfl
      · simp only [h3, if_false]
    rw [this]
  exact this
theorem strOf_size (V : Nat → Nat) (U : Nat → Value) (l : List Nat) : (strOf V U l).size = l.length := by
  unfold strOf
  show (l.map _).toArray.size = _
  simp
theorem body_size (p : Pkt) : (body p).size = 637 := (strOf_size _ _ _).trans bodyB_len

theorem txt_ent (p : Pkt) (c : Nat) {k : Nat} (hk : k < 18) (h : (p.e k).may) : strOf (pktV p c) (pktU p) (txtL (1024 + 32 * k) 28) = encB (p.e k) := by
  have hs := encB_size h
  have := txtL_ok (pktV p c) (pktU p) (1024 + 32 * k) (encB (p.e k)) (by omega) fun i b hb => by
    have hi : i < 28 := by
      have := (List.getElem?_eq_some_iff.1 hb).1
      rw [← hs]; simpa using this
    unfold pktV
    rw [if_neg (by omega), if_neg (by omega), if_pos (by omega), show (1024 + 32 * k + i - 1024) / 32 = k by omega, show (1024 + 32 * k + i - 1024) % 32 = i by omega]
    exact byteOf_some hb
  rw [hs] at this
  exact bytesV_inj ((strOf_ok _ _ _ fun i hi => txtL_mem _ hi).symm.trans this)

theorem ans60_some {k : Nat} {xs : List XV} {x : XV} (h : ans60 k xs = some x) : k < 18 ∧ xs = [.agg 6 (entA k)] ∧ x = .tuple [.strA (txtL (1024 + 32 * k) 28), okX] := by
  letI := liveV
  unfold ans60 at h
  cases hb : Nat.blt k 18 with
  | false => rw [hb] at h; cases h
  | true =>
    rw [hb] at h
    obtain ⟨h1, h2⟩ := ansL_some h
    exact ⟨Nat.le_of_ble_eq_true hb, h1, h2⟩
theorem ans62_some {k : Nat} {xs : List XV} {x : XV} (h : ans62 k xs = some x) : k < 18 ∧ xs = [.strA (txtL (1024 + 32 * k) 28)] ∧ x = .tuple [.agg 6 (entA k), okX] := by
  letI := liveV
  unfold ans62 at h
  cases hb : Nat.blt k 18 with
  | false => rw [hb] at h; cases h
  | true =>
    rw [hb] at h
    obtain ⟨h1, h2⟩ := ansL_some h
    exact ⟨Nat.le_of_ble_eq_true hb, h1, h2⟩
theorem ans60_ex {xs : List XV} {x : XV} (h : ans60 (entK xs) xs = some x) : ∃ k, k < 18 ∧ xs = [.agg 6 (entA k)] ∧ x = .tuple [.strA (txtL (1024 + 32 * k) 28), okX] := ⟨_, ans60_some h⟩
theorem ans62_ex {xs : List XV} {x : XV} (h : ans62 (bytK xs) xs = some x) : ∃ k, k < 18 ∧ xs = [.strA (txtL (1024 + 32 * k) 28)] ∧ x = .tuple [.agg 6 (entA k), okX] := ⟨_, ans62_some h⟩
theorem flat_ua : (pktC (uaX 0)).all isFlat = true := by kernel_rfl
theorem flat_b (b : Bool) : (pktC (.bool b)).all isFlat = true := by cases b <;> kernel_rfl
theorem tuple2_mk [Val] {ρ : Rho} {p q : XV} {a b : Value} (h1 : VR ρ p a) (h2 : VR ρ q b) : VR ρ (.tuple [p, q]) (.tuple #[a, b]) := VR.tuple' (us := [a, b]) (VRs.cons h1 (VRs.one h2))

theorem pkt_fn {p : Pkt} (hR : p.R) (h : p.may) : ∀ f g xs x, (pktVal p (pktC' p)).fn f = some g → g xs = some x → ∀ (ρ : Rho) (w : World) (args : Array Value), Tens w → @VRs (pktVal p (pktC' p)) ρ xs args.toList →
    Calls Tryz.prog f args w fun e w' => ∃ v, e = .returned v ∧ @VR (pktVal p (pktC' p)) ρ x v ∧ Keeps w w' := by
  intro f g xs x hf hg ρ w args hw hv
  letI := pktVal p (pktC' p)
  have hrdy : VR ρ (uaX 0) (.bool p.rdy) := atomIs (sig_U _ _ 0 (by decide))
  have hV : ∀ j, j < 37 → j ≠ 32 → pktV p (pktC' p) j = p.n j := by
    intro j h1 h2
    unfold pktV
    rw [if_pos h1, if_neg h2]
  have hf : pktF true p.rdy f = some g := hf
  unfold pktF at hf
  split at hf
  · cases hf
    dsimp only at hg
    have chk : ∀ (r : XV), xs = [pktX r] → VR ρ r (.bool p.rdy) → (pktC r).all isFlat = true → x = okX → Calls Tryz.prog 25 args w fun e w' => ∃ v, e = .returned v ∧ VR ρ x v ∧ Keeps w w' := by
      rintro r rfl hr hfl rfl
      obtain ⟨u, hu, h1⟩ := hv.single
      have : args = #[p.val] := Array.toList_inj.1 (by rw [hu, pkt_inv hr hV hfl h1])
      subst this
      refine (pcheck_calls p hR hw 0 (.inl ⟨h, rfl⟩)).mono ?_
      rintro o w' ⟨v, rfl, rfl, hk⟩
      exact ⟨_, rfl, VR.int _ _, hk⟩
    split at hg
    · rename_i hi
      cases hg
      exact chk _ (isL_ok _ _ hi) hrdy flat_ua rfl
    · rename_i hi _
      cases hg
      rw [Bool.and_eq_true] at hi
      exact chk _ (isL_ok _ _ hi.1) (VR.bool _) (flat_b _) rfl
    · cases hg
  · cases hf
    obtain ⟨rfl, rfl⟩ := ansL_some hg
    obtain ⟨u, hu, h1⟩ := hv.single
    have hu' : u = .bool p.rdy := flat_unique rfl h1 hrdy
    have : args = #[.bool p.rdy] := Array.toList_inj.1 (by rw [hu, hu'])
    subst this
    refine (truth_calls p.rdy hw).mono ?_
    rintro o w' ⟨v, rfl, rfl, hk⟩
    refine ⟨_, rfl, ?_, hk⟩
    rw [nuN_eq]
    refine atomIs ?_
    rw [sig_num _ _ 32 6 (by decide) (by decide)]
    rfl
  · cases hf
    obtain ⟨rfl, rfl⟩ := ansL_some hg
    obtain ⟨u, hu, h1⟩ := hv.single
    have hu' : u = .string (body p) := by rw [strA_inv' (fun i hi => (body_le hi).1) h1, body_any]
    have : args = #[.string (body p)] := Array.toList_inj.1 (by rw [hu, hu'])
    subst this
    refine (Crc.of_any (body p) (by rw [body_size]; decide) w).mono ?_
    rintro o w' ⟨rfl, hb⟩
    refine ⟨_, rfl, ?_, hb.size, hb.block, hb.tape, hb.os, hb.output⟩
    rw [nuN_eq]
    refine atomIs ?_
    rw [sig_num _ _ 40 6 (by decide) (by decide)]
    have := ofB_range (body p)
    show Value.int .u32 ((pktC' p : Nat) : Int) = _
    unfold pktC'
    rw [Int.toNat_of_nonneg this.1]
  · cases hf
    have hg : ans60 (entK xs) xs = some x := hg
    obtain ⟨k, hk, rfl, rfl⟩ := ans60_ex hg
    obtain ⟨u, hu, h1⟩ := hv.single
    have : args = #[(p.e k).val] := Array.toList_inj.1 (by rw [hu, entA_inv (Nat.lt_trans hk (by decide)) h1])
    subst this
    have hm := h.2.2.2.2 k hk
    refine (enc_calls hm hw).mono ?_
    rintro o w' ⟨v, rfl, rfl, hkp⟩
    refine ⟨_, rfl, tuple2_mk (strA_mk ?_) (VR.int _ _), hkp⟩
    rw [← txt_ent p (pktC' p) hk hm]
    exact strOf_ok _ _ _ fun i hi => txtL_mem _ hi
  · cases hf
    have hg : ans62 (bytK xs) xs = some x := hg
    obtain ⟨k, hk, rfl, rfl⟩ := ans62_ex hg
    obtain ⟨u, hu, h1⟩ := hv.single
    have hm := h.2.2.2.2 k hk
    have : args = #[.string (encB (p.e k))] := Array.toList_inj.1 (by rw [hu, strA_inv' (fun i hi => txtL_mem _ hi) h1, txt_ent p _ hk hm])
    subst this
    refine (dec_calls hm hw).mono ?_
    rintro o w' ⟨v, rfl, rfl, hkp⟩
    exact ⟨_, rfl, tuple2_mk (entA_val (Nat.lt_trans hk (by decide))) (VR.int _ _), hkp⟩
  · cases hf

theorem pkt_ext {p : Pkt} (hR : p.R) (h : p.may) : @ExtOK (pktVal p (pktC' p)) Tryz.prog :=
  @ext_ok (pktVal p (pktC' p)) (fun o g xs x ho hg ρ w ev hv => opN_ok (pkt_nums hR h (by have := ofB_range (body p); unfold pktC'; omega)) pkt_dec (fun b t xs x _ hq => by cases hq) (fun i x hl => by cases hl) ho hg hv) (pkt_fn hR h)

/-- a packet's bytes -/
def sealS (p : Pkt) : ByteArray := strOf (pktV p (pktC' p)) (pktU p) sealB
theorem seal_le {i : Nat} (h : i ∈ sealB) : byteFrom ≤ i := by
  unfold sealB at h
  rw [appN_eq, List.mem_append] at h
  rcases h with h | h
  · exact (body_le h).1
  · simp only [sumB, List.mem_cons, List.not_mem_nil, or_false] at h
    rcases h with rfl | rfl | rfl | rfl <;> exact Nat.le_add_right _ _

/-- packet.Encode -/
theorem pEnc_calls {p : Pkt} (hR : p.R) (h : p.may) {w : World} (hw : Tens w) : Calls Tryz.prog 9 #[p.val] w fun x w' => ∃ v, x = .returned v ∧ v = .tuple #[.string (sealS p), .int .i64 0] ∧ Keeps w w' := by
  have hrun : ((@callN (pktVal p (pktC' p)).toTab Tryz.prog levP 10 9 false).f [pktX (uaX 0)] E1 (kIs [.strA sealB, okX])).isSome = true := by
    rw [pkt_tab]; exact pktEnc_run p.rdy
  have hr0 : @VR (pktVal p (pktC' p)) ρ0 (uaX 0) (.bool p.rdy) := atomIs (sig_U _ _ 0 (by decide))
  refine run_of (V := pktVal p (pktC' p)) (pkt_ext hR h) hrun (@E1_rep (pktVal p (pktC' p)) w hw hw.pos) (@VRs.one (pktVal p (pktC' p)) _ _ _ (pkt_val hr0 fun j h1 h2 => by unfold pktV; rw [if_pos h1, if_neg h2])) ?_
  intro x E' ρ' v r hx hv
  rw [@kIs_some _ _ _ _ (pktVal p (pktC' p)) hx] at hv
  obtain ⟨a, b, rfl, h1, h2⟩ := @tuple2 (pktVal p (pktC' p)) _ _ _ _ hv
  rw [strA_inv' (fun i hi => seal_le hi) h1, @VR.int_inv (pktVal p (pktC' p)) _ _ _ _ h2]
  rfl

/-- packet.Decode -/
theorem pDec_calls {p : Pkt} (hR : p.R) (h : p.may) {w : World} (hw : Tens w) : Calls Tryz.prog 10 #[.string (sealS p)] w fun x w' => ∃ v, x = .returned v ∧ v = .tuple #[p.val, .int .i64 0] ∧ Keeps w w' := by
  have hrun : ((@callN (pktVal p (pktC' p)).toTab Tryz.prog levP 10 10 false).f [.strA sealB] E1 (kIs [pktX (.bool p.rdy), okX])).isSome = true := by
    rw [pkt_tab]; exact pktDec_run p.rdy
  refine run_of (V := pktVal p (pktC' p)) (pkt_ext hR h) hrun (@E1_rep (pktVal p (pktC' p)) w hw hw.pos) (@VRs.one (pktVal p (pktC' p)) _ _ _ (strA_mk (strOf_ok _ _ _ fun i hi => seal_le hi))) ?_
  intro x E' ρ' v r hx hv
  rw [@kIs_some _ _ _ _ (pktVal p (pktC' p)) hx] at hv
  obtain ⟨a, b, rfl, h1, h2⟩ := @tuple2 (pktVal p (pktC' p)) _ _ _ _ hv
  rw [pkt_inv (@VR.bool (pktVal p (pktC' p)) _ _) (fun j h1 h2 => by unfold pktV; rw [if_pos h1, if_neg h2]) (flat_b _) h1, @VR.int_inv (pktVal p (pktC' p)) _ _ _ _ h2]
  rfl
end Go.Ex
