/- Part of the proof of TopEntries: the executor is sound: equality. -/
import Derived.Test.YtcmohdedlclcgaaGreatDoorX01
import Derived.ChangeKeysEq
set_option linter.unusedVariables false
set_option linter.unusedSimpArgs false
set_option linter.unusedSectionVars false
namespace Go.Ex
variable [Val]
set_option linter.unusedSectionVars false
variable {P : Program}

/-! parts -/
theorem cPart_ok {t : TypeId} {off m : Nat} {cs : List XV} {us : List Value} {ρ : Rho} {κ : XV → R} {res : XV × XW} (h : (cPart P t off).f m cs κ = some res)
    (hm : cs.length = m) (hv : VRs ρ cs us) (hf : ∀ u ∈ us, flatV u = true) : ∃ x v, κ x = some res ∧ VR ρ x v ∧ ∀ w, (part t us.toArray off).run P w = .ok v w := by
  unfold cPart at h
  split at h
  · rename_i n ha hn
    obtain ⟨h1, h⟩ := cut_some.1 h
    replace h1 := ble_le h1
    rw [dropL_eq, takeL_eq] at h
    have h1' : off + n ≤ m := h1
    have hl : ((cs.drop off).take n).length = n := by simp; omega
    refine ⟨_, .agg ((us.drop off).take n).toArray, h, VR.agg' hl ((hv.drop off).take n) (fun v hv => hf v (List.mem_of_mem_drop (List.mem_of_mem_take hv))), fun w => ?_⟩
    simp [part, run_agg ha, run_size hn, List.extract_eq_take_drop]
  · rename_i n ha hn
    obtain ⟨h1, h⟩ := cut_some.1 h
    obtain ⟨x, hx, h⟩ := nthO_some h
    obtain ⟨v, hv', hvr⟩ := hv.get hx
    refine ⟨x, v, h, hvr, fun w => ?_⟩
    simp [part, run_agg ha, hv']
  · cases h

theorem field_ok (t : TypeId) (x : Operand) (f : Nat) : ValS P (.field t x f) (cField P t x f).f := by
  intro s E κ res h w₀ ρ w ev hR hV
  have hx : VR ρ ((cE x).f s) (ev x) := hV x (by simp [Op.operands])
  unfold cField at h
  split at h
  · rename_i fs hu
    split at h
    · rename_i fd hfd
      change vAgg ((cE x).f s) (fun n cs => (cPart P fd.type fd.offset).f n cs κ) = some res at h
      obtain ⟨n, cs, hp, h⟩ := vAgg_some h
      rw [hp] at hx
      obtain ⟨us, he, h1, h2, h3, h4⟩ := hx.agg_inv
      obtain ⟨y, v, hk, hv, hrun⟩ := cPart_ok h h1 h3 h4
      refine ⟨y, v, hk, hv, fun o ho => ?_⟩
      have := hrun w
      simp only [Array.toArray_toList] at this
      simp [execOp, ho, Instr.field, run_under hu, hfd, he, asAgg, this]
    · cases h
  · cases h

theorem index_ok (t : TypeId) (x ix : Operand) : ValS P (.index t x ix) (cIndex P t x ix).f := by
  intro s E κ res h w₀ ρ w ev hR hV
  have hx : VR ρ ((cE x).f s) (ev x) := hV x (by simp [Op.operands])
  have hi : VR ρ ((cE ix).f s) (ev ix) := hV ix (by simp [Op.operands])
  unfold cIndex at h
  split at h
  · rename_i len e hu
    split at h
    · rename_i sz hs ha
      rw [u2_f] at h
      obtain ⟨k, i, hix, h⟩ := vInt_some h
      obtain ⟨n, rfl, h⟩ := iNat_some h
      obtain ⟨hn, h⟩ := cut_some.1 h
      replace hn := blt_lt hn
      obtain ⟨m, cs, hp, h⟩ := vAgg_some h
      rw [hp] at hx
      rw [hix] at hi
      obtain ⟨us, he, h1, h2, h3, h4⟩ := hx.agg_inv
      have hi := hi.int_inv
      have hc : (cPart P e (n * sz)).f m cs κ = some res := by
        unfold cPart
        rw [ha, hs]
        exact h
      obtain ⟨y, v, hk, hv, hrun⟩ := cPart_ok hc h1 h3 h4
      refine ⟨y, v, hk, hv, fun o ho => ?_⟩
      have := hrun w
      simp only [Array.toArray_toList] at this
      have h2 : ((n : Int) < (len : Int)) := by omega
      have h3 : (0 : Int) ≤ (n : Int) := by omega
      simp [execOp, ho, Instr.index, run_under hu, he, hi, asIntOf, run_size hs, hn, h3, this]
    · rename_i sz hs ha
      rw [u2_f] at h
      obtain ⟨k, i, hix, h⟩ := vInt_some h
      obtain ⟨n, rfl, h⟩ := iNat_some h
      obtain ⟨hn, h⟩ := cut_some.1 h
      replace hn := blt_lt hn
      obtain ⟨m, cs, hp, h⟩ := vAgg_some h
      rw [hp] at hx
      rw [hix] at hi
      obtain ⟨us, he, h1, h2, h3, h4⟩ := hx.agg_inv
      have hi := hi.int_inv
      have hc : (cPart P e (n * sz)).f m cs κ = some res := by
        unfold cPart
        rw [ha, hs]
        exact h
      obtain ⟨y, v, hk, hv, hrun⟩ := cPart_ok hc h1 h3 h4
      refine ⟨y, v, hk, hv, fun o ho => ?_⟩
      have := hrun w
      simp only [Array.toArray_toList] at this
      have h2 : ((n : Int) < (len : Int)) := by omega
      have h3 : (0 : Int) ≤ (n : Int) := by omega
      simp [execOp, ho, Instr.index, run_under hu, he, hi, asIntOf, run_size hs, hn, h3, this]
    · cases h
  · rename_i hu
    rw [u2_f] at h
    obtain ⟨k, i, hix, h⟩ := vInt_some h
    obtain ⟨n, rfl, h⟩ := iNat_some h
    obtain ⟨l, c, hp, h⟩ := vStr_some h
    obtain ⟨hn, h⟩ := cut_some.1 h
    replace hn := blt_lt hn
    rw [forceN_eq] at h
    rw [hp] at hx
    rw [hix] at hi
    obtain ⟨b, he, h1, h2⟩ := hx.str_inv
    have hi := hi.int_inv
    have hnb : n < b.size := by rw [← h1] at hn; exact hn
    have hby : byteAt c n = b[n].toNat := by
      rw [← h2]
      have key : ∀ (l : List UInt8) (n : Nat) (h : n < l.length), byteAt (codeL l) n = l[n].toNat := by
        intro l
        induction l with
        | nil => intro n h; simp at h
        | cons x l ih =>
          intro n h
          have hc : codeL (x :: l) = x.toNat + 256 * codeL l := rfl
          have hx : x.toNat < 256 := x.toNat_lt
          cases n with
          | zero =>
            show (codeL (x :: l) >>> (8 * 0)) % 256 = _
            rw [hc]; simp
            try omega
          | succ n =>
            show (codeL (x :: l) >>> (8 * (n + 1))) % 256 = _
            have := ih n (by simpa using h)
            have e : codeL (x :: l) >>> (8 * (n + 1)) = codeL l >>> (8 * n) := by
              rw [hc, show 8 * (n + 1) = 8 + 8 * n by omega, Nat.shiftRight_add]
              congr 1
              rw [Nat.shiftRight_eq_div_pow]
              show (x.toNat + 256 * codeL l) / 256 = _
              omega
            rw [e]
            exact this
      exact key b.data.toList n (by rw [h1]; exact hn)
    refine ⟨_, .int .u8 b[n].toNat, h, ?_, fun o ho => ?_⟩
    · rw [hby]; exact .int _ _
    · have h3 : (0 : Int) ≤ (n : Int) := by omega
      have hg : b[n]? = some b[n] := ByteArray.getElem?_lt' b n hnb
      simp [execOp, ho, Instr.index, run_under hu, he, hi, asIntOf, h3, hg]
  · cases h

/-! strings as numbers -/
theorem codeL_append (a b : List UInt8) : codeL (a ++ b) = codeL a + codeL b <<< (8 * a.length) := by
  induction a with
  | nil => simp [codeL]
  | cons x a ih =>
    have hc : codeL (x :: a ++ b) = x.toNat + 256 * codeL (a ++ b) := rfl
    have hc' : codeL (x :: a) = x.toNat + 256 * codeL a := rfl
    rw [hc, hc', ih, Nat.shiftLeft_eq, Nat.shiftLeft_eq]
    have : 2 ^ (8 * (x :: a).length) = 256 * 2 ^ (8 * a.length) := by
      rw [List.length_cons, show 8 * (a.length + 1) = 8 + 8 * a.length by omega, Nat.pow_add]
    rw [this, Nat.mul_add, Nat.add_assoc]
    congr 1
    congr 1
    rw [Nat.mul_left_comm]
theorem codeL_inj {a b : List UInt8} (hl : a.length = b.length) (hc : codeL a = codeL b) : a = b := by
  induction a generalizing b with
  | nil => cases b with
    | nil => rfl
    | cons y b => simp at hl
  | cons x a ih => cases b with
    | nil => simp at hl
    | cons y b =>
      have h1 : x.toNat + 256 * codeL a = y.toNat + 256 * codeL b := hc
      have hx : x.toNat < 256 := x.toNat_lt
      have hy : y.toNat < 256 := y.toNat_lt
      have e1 : x.toNat = y.toNat := by omega
      have e2 : codeL a = codeL b := by omega
      have e3 : x = y := UInt8.toNat_inj.1 e1
      subst e3
      rw [ih (by simpa using hl) e2]
theorem codeL_lt (a : List UInt8) : codeL a < 2 ^ (8 * a.length) := by
  induction a with
  | nil => simp [codeL]
  | cons x a ih =>
    have hc : codeL (x :: a) = x.toNat + 256 * codeL a := rfl
    have hx : x.toNat < 256 := x.toNat_lt
    have : 2 ^ (8 * (x :: a).length) = 256 * 2 ^ (8 * a.length) := by
      rw [List.length_cons, show 8 * (a.length + 1) = 8 + 8 * a.length by omega, Nat.pow_add]
    rw [hc, this]; omega
theorem codeL_drop (a : List UInt8) (n : Nat) : codeL (a.drop n) = codeL a >>> (8 * n) := by
  induction n generalizing a with
  | zero => simp
  | succ n ih => cases a with
    | nil => simp [codeL]
    | cons x a =>
      have hx : x.toNat < 256 := x.toNat_lt
      rw [List.drop_succ_cons, ih]
      have hc : codeL (x :: a) = x.toNat + 256 * codeL a := rfl
      rw [hc, show 8 * (n + 1) = 8 + 8 * n by omega, Nat.shiftRight_add]
      congr 1
      rw [Nat.shiftRight_eq_div_pow]
      show _ = (x.toNat + 256 * codeL a) / 256
      omega
theorem codeL_take (a : List UInt8) (n : Nat) (h : n ≤ a.length) : codeL (a.take n) = codeL a % 2 ^ (8 * n) := by
  have h1 : codeL a = codeL (a.take n) + codeL (a.drop n) <<< (8 * n) := by
    have := codeL_append (a.take n) (a.drop n)
    rw [List.take_append_drop] at this
    rw [this]
    have : (a.take n).length = n := by simp; omega
    rw [this]
  have h2 : codeL (a.take n) < 2 ^ (8 * n) := by
    have := codeL_lt (a.take n)
    have e : (a.take n).length = n := by simp; omega
    rwa [e] at this
  rw [h1, Nat.shiftLeft_eq, Nat.add_mul_mod_self_right, Nat.mod_eq_of_lt h2]

/-! equality -/
def QOk (P : Program) (d : Nat) (t : TypeId) (q : XV → XV → (Bool → R) → R) : Prop :=
  ∀ (x y : XV) (κ : Bool → R) (res : XV × XW), q x y κ = some res → ∀ (ρ : Rho) (u v : Value), VR ρ x u → VR ρ y v →
    ∃ b, κ b = some res ∧ ∀ D w, d ≤ D → (Op.equalIn D t u v).run P w = .ok b w

theorem str_beq {a b : ByteArray} {n c m e : Nat} (h1 : a.data.toList.length = n) (h2 : codeL a.data.toList = c) (h3 : b.data.toList.length = m) (h4 : codeL b.data.toList = e) :
    (a.toList == b.toList) = (Nat.beq n m && Nat.beq c e) := by
  rw [ByteArray.toList_eq, ByteArray.toList_eq, Bool.eq_iff_iff]
  simp only [beq_iff_eq, Bool.and_eq_true, Nat.beq_eq]
  constructor
  · intro h
    rw [h] at h1 h2
    exact ⟨h1.symm.trans h3, h2.symm.trans h4⟩
  · rintro ⟨rfl, rfl⟩
    exact codeL_inj (h1.trans h3.symm) (h2.trans h4.symm)

theorem qInt_ok {t : TypeId} {k : IntKind} (hu : under P t = some (.int k)) : QOk P 1 t qInt.f := by
  intro x y κ res h ρ u v hx hy
  obtain ⟨k1, a, rfl, h_1⟩ := vInt_some h
  obtain ⟨k2, b, rfl, h_2⟩ := vInt_some h_1
  obtain ⟨hk, h_3⟩ := cut_some.1 h_2
  have hk := kNum_inj (beq_eq' hk)
  rw [hx.int_inv, hy.int_inv, ← hk]
  refine ⟨_, h_3, fun D w hD => ?_⟩
  obtain ⟨D, rfl⟩ : ∃ D', D = D' + 1 := ⟨D - 1, by omega⟩
  rw [run_equalIn_int w D t _ _ _ _ (under_ok hu), eqX_eq]

theorem cEqF_ok {d : Nat} {eq : TypeId → BQ} (he : ∀ t, QOk P d t (eq t).f) : ∀ (fs : List Field) (x y : XV) (κ : Bool → R) (res : XV × XW),
    (cEqF P eq fs).f x y κ = some res → ∀ (ρ : Rho) (xs ys : Array Value), VR ρ x (.agg xs) → VR ρ y (.agg ys) →
    ∃ b, κ b = some res ∧ ∀ D w, d ≤ D → (Op.eqFields D xs ys fs).run P w = .ok b w := by
  intro fs
  induction fs with
  | nil => intro x y κ res h ρ xs ys hx hy; exact ⟨true, h, fun D w _ => by simp [Op.eqFields]⟩
  | cons f fs ih =>
    intro x y κ res h ρ xs ys hx hy
    unfold cEqF at h
    split at h
    · rename_i hn
      have hn' : f.name = "_" := by simpa using hn
      obtain ⟨b, hb, hr⟩ := ih x y κ res h ρ xs ys hx hy
      exact ⟨b, hb, fun D w hD => by simp only [Op.eqFields, hn', ne_eq, not_true_eq_false, if_false]; exact hr D w hD⟩
    · rename_i hn
      have hn' : f.name ≠ "_" := by simpa using hn
      change vAgg x (fun n cs => vAgg y fun m es => (cPart P f.type f.offset).f n cs fun a => (cPart P f.type f.offset).f m es fun b => (eq f.type).f a b fun r => iff r ((cEqF P eq fs).f x y κ) (κ false)) = some res at h
      obtain ⟨n, cs, rfl, h_4⟩ := vAgg_some h
      obtain ⟨m, es, rfl, h_5⟩ := vAgg_some h_4
      obtain ⟨xs', e1, a1, a2, a3, a4⟩ := hx.agg_inv
      obtain ⟨ys', e2, b1, b2, b3, b4⟩ := hy.agg_inv
      cases e1; cases e2
      obtain ⟨a, va, h_6, hva, hra⟩ := cPart_ok h_5 a1 a3 a4
      obtain ⟨b, vb, h_7, hvb, hrb⟩ := cPart_ok h_6 b1 b3 b4
      simp only [Array.toArray_toList] at hra hrb
      obtain ⟨r, h_8, hrr⟩ := he _ _ _ _ _ h_7 ρ va vb hva hvb
      rw [iff_eq] at h_8
      cases r with
      | true =>
        obtain ⟨b', hb', hr'⟩ := ih _ _ κ res h_8 ρ xs ys hx hy
        refine ⟨b', hb', fun D w hD => ?_⟩
        simp [Op.eqFields, hn', hra w, hrb w, hrr D w hD, hr' D w hD]
      | false =>
        refine ⟨false, h_8, fun D w hD => ?_⟩
        simp [Op.eqFields, hn', hra w, hrb w, hrr D w hD]

theorem cEqA_ok {d : Nat} {e : TypeId} {n : Nat} {q : XV → XV → (Bool → R) → R} (he : QOk P d e q) : ∀ (len i : Nat) (x y : XV) (κ : Bool → R) (res : XV × XW),
    (cEqA P e n q len i).f x y κ = some res → ∀ (ρ : Rho) (xs ys : Array Value), VR ρ x (.agg xs) → VR ρ y (.agg ys) →
    ∃ b, κ b = some res ∧ ∀ D w, d ≤ D → (Op.eqItems D e n xs ys (List.range' i len)).run P w = .ok b w := by
  intro len
  induction len with
  | zero => intro i x y κ res h ρ xs ys hx hy; exact ⟨true, h, fun D w _ => by simp [Op.eqItems]⟩
  | succ len ih =>
    intro i x y κ res h ρ xs ys hx hy
    unfold cEqA at h
    change vAgg x (fun k cs => vAgg y fun m es => (cPart P e (i * n)).f k cs fun a => (cPart P e (i * n)).f m es fun b => q a b fun r => iff r ((cEqA P e n q len (i + 1)).f x y κ) (κ false)) = some res at h
    obtain ⟨k, cs, rfl, h_9⟩ := vAgg_some h
    obtain ⟨m, es, rfl, h_10⟩ := vAgg_some h_9
    obtain ⟨xs', e1, a1, a2, a3, a4⟩ := hx.agg_inv
    obtain ⟨ys', e2, b1, b2, b3, b4⟩ := hy.agg_inv
    cases e1; cases e2
    obtain ⟨a, va, h_11, hva, hra⟩ := cPart_ok h_10 a1 a3 a4
    obtain ⟨b, vb, h_12, hvb, hrb⟩ := cPart_ok h_11 b1 b3 b4
    simp only [Array.toArray_toList] at hra hrb
    obtain ⟨r, h_13, hrr⟩ := he _ _ _ _ h_12 ρ va vb hva hvb
    rw [iff_eq] at h_13
    cases r with
    | true =>
      obtain ⟨b', hb', hr'⟩ := ih _ _ _ κ res h_13 ρ xs ys hx hy
      refine ⟨b', hb', fun D w hD => ?_⟩
      simp [List.range'_succ, Op.eqItems, hra w, hrb w, hrr D w hD, hr' D w hD]
    | false =>
      refine ⟨false, h_13, fun D w hD => ?_⟩
      simp [List.range'_succ, Op.eqItems, hra w, hrb w, hrr D w hD]

theorem QOk.no (d : Nat) (t : TypeId) : QOk P d t noQ.f := fun _ _ _ _ h => by cases h

theorem cEq_ok : ∀ (d : Nat) (t : TypeId), QOk P d t (cEq P d t).f := by
  intro d
  induction d with
  | zero => intro t x y κ res h; cases h
  | succ d ih =>
    intro t x y κ res h ρ u v hx hy
    unfold cEq at h
    split at h
    · rename_i hu
      obtain ⟨a, rfl, h_14⟩ := vBool_some h
      obtain ⟨b, rfl, h_15⟩ := vBool_some h_14
      rw [hx.bool_inv, hy.bool_inv]
      refine ⟨_, h_15, fun D w hD => ?_⟩
      obtain ⟨D, rfl⟩ : ∃ D', D = D' + 1 := ⟨D - 1, by omega⟩
      rw [run_equalIn_bool w D t _ _ (under_ok hu), eqB_eq]
    · rename_i k hu
      obtain ⟨b, hb, hr⟩ := qInt_ok hu x y κ res h ρ u v hx hy
      exact ⟨b, hb, fun D w hD => hr D w (by omega)⟩
    · rename_i hu
      obtain ⟨n, c, rfl, h_16⟩ := vStr_some h
      obtain ⟨m, e, rfl, h_17⟩ := vStr_some h_16
      obtain ⟨a, rfl, a1, a2⟩ := hx.str_inv
      obtain ⟨b, rfl, b1, b2⟩ := hy.str_inv
      refine ⟨_, h_17, fun D w hD => ?_⟩
      obtain ⟨D, rfl⟩ : ∃ D', D = D' + 1 := ⟨D - 1, by omega⟩
      rw [run_equalIn_string w D t _ _ (under_ok hu), str_beq a1 a2 b1 b2, andB_eq]
    · rename_i e hu
      split at h
      · rename_i n hn
        have hu' := under_ok hu
        rcases vPtrN_some h with ⟨b, o, rfl, h_18⟩ | ⟨rfl, h_18⟩
        · rcases vPtrN_some h_18 with ⟨b', o', rfl, h_19⟩ | ⟨rfl, h_19⟩
          · obtain ⟨hb, h_20⟩ := cut_some.1 h_19
            have hb' := beq_eq' hb
            obtain ⟨r, d1, q1, rfl, h1⟩ := hx.ptr_inv
            obtain ⟨r', d2, q2, rfl, h2⟩ := hy.ptr_inv
            rw [← hb', h1] at h2; cases h2
            refine ⟨_, h_20, fun D w hD => ?_⟩
            obtain ⟨D, rfl⟩ : ∃ D', D = D' + 1 := ⟨D - 1, by omega⟩
            have hb : ((⟨r, d1 + o, none⟩ : Addr) == ⟨r, d1 + o', none⟩) = Nat.beq o o' := by
              rw [Bool.eq_iff_iff]; simp [Nat.beq_eq]
            have hb2 : (decide ((⟨r, d1 + o, none⟩ : Addr) = ⟨r, d1 + o', none⟩)) = Nat.beq o o' := by
              rw [Bool.eq_iff_iff]; simp [Nat.beq_eq]
            simp [Op.equalIn, run_underlying hu', run_size hn, sameAddr, hb]
          · obtain ⟨r, d1, q1, rfl, h1⟩ := hx.ptr_inv
            rw [hy.ptrNil_inv]
            refine ⟨_, h_19, fun D w hD => ?_⟩
            obtain ⟨D, rfl⟩ : ∃ D', D = D' + 1 := ⟨D - 1, by omega⟩
            simp [Op.equalIn, run_underlying hu']
        · rw [hx.ptrNil_inv]
          rcases vPtrN_some h_18 with ⟨b', o', rfl, h_21⟩ | ⟨rfl, h_21⟩
          · obtain ⟨r, d1, q1, rfl, h1⟩ := hy.ptr_inv
            refine ⟨_, h_21, fun D w hD => ?_⟩
            obtain ⟨D, rfl⟩ : ∃ D', D = D' + 1 := ⟨D - 1, by omega⟩
            simp [Op.equalIn, run_underlying hu']
          · rw [hy.ptrNil_inv]
            refine ⟨_, h_21, fun D w hD => ?_⟩
            obtain ⟨D, rfl⟩ : ∃ D', D = D' + 1 := ⟨D - 1, by omega⟩
            simp [Op.equalIn, run_underlying hu']
      · cases h
    · rename_i ms hu
      have hu' := under_ok hu
      rcases vIface_some h with ⟨b, o, rfl, h_22⟩ | ⟨rfl, h_22⟩
      · obtain ⟨a, rfl, ha⟩ := hx.iface_inv
        rcases vIface_some h_22 with ⟨b', o', rfl, h_23⟩ | ⟨rfl, h_23⟩
        · cases h_23
        · rw [hy.nilIface_inv]
          refine ⟨_, h_23, fun D w hD => ?_⟩
          obtain ⟨D, rfl⟩ : ∃ D', D = D' + 1 := ⟨D - 1, by omega⟩
          simp [Op.equalIn, run_underlying hu']
      · rw [hx.nilIface_inv]
        rcases vIface_some h_22 with ⟨b', o', rfl, h_24⟩ | ⟨rfl, h_24⟩
        · obtain ⟨a, rfl, ha⟩ := hy.iface_inv
          refine ⟨_, h_24, fun D w hD => ?_⟩
          obtain ⟨D, rfl⟩ : ∃ D', D = D' + 1 := ⟨D - 1, by omega⟩
          simp [Op.equalIn, run_underlying hu']
        · rw [hy.nilIface_inv]
          refine ⟨_, h_24, fun D w hD => ?_⟩
          obtain ⟨D, rfl⟩ : ∃ D', D = D' + 1 := ⟨D - 1, by omega⟩
          simp [Op.equalIn, run_underlying hu']
    · rename_i e hu
      have hu' := under_ok hu
      rcases vSl_some h with ⟨b, o, n, c, m, rfl, h_25⟩ | ⟨rfl, h_25⟩ | ⟨rfl, h_25⟩
      · obtain ⟨r, d1, q1, c1, rfl, h1, _⟩ := hx.slice_inv
        rcases vSl_some h_25 with ⟨b', o', n', c', m', rfl, h_26⟩ | ⟨rfl, h_26⟩ | ⟨rfl, h_26⟩
        · cases h_26
        · rw [hy.sliceNil_inv]
          refine ⟨_, h_26, fun D w hD => ?_⟩
          obtain ⟨D, rfl⟩ : ∃ D', D = D' + 1 := ⟨D - 1, by omega⟩
          simp [Op.equalIn, run_underlying hu']
        · cases h_26
      · rw [hx.sliceNil_inv]
        rcases vSl_some h_25 with ⟨b', o', n', c', m', rfl, h_27⟩ | ⟨rfl, h_27⟩ | ⟨rfl, h_27⟩
        · obtain ⟨r, d1, q1, c1, rfl, h1, _⟩ := hy.slice_inv
          refine ⟨_, h_27, fun D w hD => ?_⟩
          obtain ⟨D, rfl⟩ : ∃ D', D = D' + 1 := ⟨D - 1, by omega⟩
          simp [Op.equalIn, run_underlying hu']
        · rw [hy.sliceNil_inv]
          refine ⟨_, h_27, fun D w hD => ?_⟩
          obtain ⟨D, rfl⟩ : ∃ D', D = D' + 1 := ⟨D - 1, by omega⟩
          simp [Op.equalIn, run_underlying hu']
        · cases h_27
      · cases h_25
    · rename_i k e hu
      have hu' := under_ok hu
      rcases vMap_some h with ⟨b, rfl, h_28⟩ | ⟨rfl, h_28⟩
      · obtain ⟨r, q1, rfl, h1⟩ := hx.map_inv
        rcases vMap_some h_28 with ⟨b', rfl, h_29⟩ | ⟨rfl, h_29⟩
        · cases h_29
        · rw [hy.mapNil_inv]
          refine ⟨_, h_29, fun D w hD => ?_⟩
          obtain ⟨D, rfl⟩ : ∃ D', D = D' + 1 := ⟨D - 1, by omega⟩
          simp [Op.equalIn, run_underlying hu']
      · rw [hx.mapNil_inv]
        rcases vMap_some h_28 with ⟨b', rfl, h_30⟩ | ⟨rfl, h_30⟩
        · obtain ⟨r, q1, rfl, h1⟩ := hy.map_inv
          refine ⟨_, h_30, fun D w hD => ?_⟩
          obtain ⟨D, rfl⟩ : ∃ D', D = D' + 1 := ⟨D - 1, by omega⟩
          simp [Op.equalIn, run_underlying hu']
        · rw [hy.mapNil_inv]
          refine ⟨_, h_30, fun D w hD => ?_⟩
          obtain ⟨D, rfl⟩ : ∃ D', D = D' + 1 := ⟨D - 1, by omega⟩
          simp [Op.equalIn, run_underlying hu']
    · rename_i ps rs vr hu
      have hu' := under_ok hu
      rcases vFunc_some h with ⟨fn, f, c, rfl, h_31⟩ | ⟨rfl, h_31⟩
      · obtain ⟨f', c', rfl, h1⟩ := hx.func_inv
        rcases vFunc_some h_31 with ⟨fn, f, c, rfl, h_32⟩ | ⟨rfl, h_32⟩
        · cases h_32
        · rw [hy.nilFunc_inv]
          refine ⟨_, h_32, fun D w hD => ?_⟩
          obtain ⟨D, rfl⟩ : ∃ D', D = D' + 1 := ⟨D - 1, by omega⟩
          simp [Op.equalIn, run_underlying hu']
      · rw [hx.nilFunc_inv]
        rcases vFunc_some h_31 with ⟨fn, f, c, rfl, h_33⟩ | ⟨rfl, h_33⟩
        · obtain ⟨f', c', rfl, h1⟩ := hy.func_inv
          refine ⟨_, h_33, fun D w hD => ?_⟩
          obtain ⟨D, rfl⟩ : ∃ D', D = D' + 1 := ⟨D - 1, by omega⟩
          simp [Op.equalIn, run_underlying hu']
        · rw [hy.nilFunc_inv]
          refine ⟨_, h_33, fun D w hD => ?_⟩
          obtain ⟨D, rfl⟩ : ∃ D', D = D' + 1 := ⟨D - 1, by omega⟩
          simp [Op.equalIn, run_underlying hu']
    · rename_i fs hu
      have hu' := under_ok hu
      split at h
      · cases h
      · rename_i hst
        change vAgg x (fun n cs => vAgg y fun m es => (cEqF P (fun t => cEq P d t) fs.toList).f (.agg n cs) (.agg m es) κ) = some res at h
        obtain ⟨n, cs, rfl, h_34⟩ := vAgg_some h
        obtain ⟨m, es, rfl, h_35⟩ := vAgg_some h_34
        obtain ⟨xs, rfl, _⟩ := hx.agg_inv
        obtain ⟨ys, rfl, _⟩ := hy.agg_inv
        have hf : P.fieldsOf t = fs := by simp [Program.fieldsOf, hu']
        obtain ⟨b, hb, hb'⟩ := cEqF_ok (P := P) ih fs.toList _ _ κ res h_35 ρ xs ys hx hy
        refine ⟨b, hb, fun D w hD => ?_⟩
        obtain ⟨D, rfl⟩ : ∃ D', D = D' + 1 := ⟨D - 1, by omega⟩
        rw [run_equalIn_struct w D t xs ys (by rw [hf]; exact hu') hst, hf]
        exact hb' D w (by omega)
    · rename_i len e hu
      have hu' := under_ok hu
      split at h
      · rename_i n hn
        change vAgg x (fun k cs => vAgg y fun m es => (cEqA P e n (cEq P d e).f len 0).f (.agg k cs) (.agg m es) κ) = some res at h
        obtain ⟨k, cs, rfl, q1⟩ := vAgg_some h
        obtain ⟨m, es, rfl, q2⟩ := vAgg_some q1
        obtain ⟨xs, rfl, _⟩ := hx.agg_inv
        obtain ⟨ys, rfl, _⟩ := hy.agg_inv
        obtain ⟨b, hb, hb'⟩ := cEqA_ok (P := P) (ih e) len 0 _ _ κ res q2 ρ xs ys hx hy
        refine ⟨b, hb, fun D w hD => ?_⟩
        obtain ⟨D, rfl⟩ : ∃ D', D = D' + 1 := ⟨D - 1, by omega⟩
        obtain ⟨i, hi, hin⟩ := size_ok hn
        have hc : P.cellsOf e = n := by simp [Program.cellsOf, hi, hin]
        rw [run_equalIn_array w D xs ys hu' hi, hc, List.range_eq_range']
        exact hb' D w (by omega)
      · cases h
    · cases h
end Go.Ex
