/- Part of the proof of TopEntries: the executor is sound: operators, conversions. -/
import Derived.Test.YtcmohdedlclcgaaGreatDoorX02
import Derived.Laws.BytesString
import Derived.Laws.Externs
set_option linter.unusedVariables false
set_option linter.unusedSimpArgs false
set_option linter.unusedSectionVars false
namespace Go.Ex
variable [Val]
set_option linter.unusedSectionVars false
variable {P : Program}

/-! numbers -/
theorem wrap_nat_mod (k : IntKind) (a : Nat) : k.wrap (((a % 2 ^ k.bits : Nat) : Int)) = k.wrap a := by
  unfold IntKind.wrap
  have : ((a % 2 ^ k.bits : Nat) : Int) % (2 ^ k.bits : Int) = (a : Int) % (2 ^ k.bits : Int) := by
    simp
  simp only [this]
theorem bits_nat (k : IntKind) (a b : Nat) :
    bits .and k a b = wrapX k (Nat.land a b) ∧ bits .or k a b = wrapX k (Nat.lor a b) ∧ bits .xor k a b = wrapX k (Nat.xor a b) ∧
    bits .andNot k a b = wrapX k (Nat.land a (2 ^ k.bits - 1 - b % 2 ^ k.bits)) := by
  have hn : ∀ a : Nat, BitVec.ofInt k.bits (a : Int) = BitVec.ofNat k.bits a := fun a => by
    apply BitVec.eq_of_toNat_eq
    simp
  refine ⟨?_, ?_, ?_, ?_⟩
  · rw [wrapX_eq, ← wrap_nat_mod]
    simp only [bits, hn]
    congr 2
    simp only [BitVec.toNat_and, BitVec.toNat_ofNat]
    exact (Nat.and_mod_two_pow).symm
  · rw [wrapX_eq, ← wrap_nat_mod]
    simp only [bits, hn]
    congr 2
    simp only [BitVec.toNat_or, BitVec.toNat_ofNat]
    exact (Nat.or_mod_two_pow).symm
  · rw [wrapX_eq, ← wrap_nat_mod]
    simp only [bits, hn]
    congr 2
    simp only [BitVec.toNat_xor, BitVec.toNat_ofNat]
    exact (Nat.xor_mod_two_pow).symm
  · rw [wrapX_eq, ← wrap_nat_mod]
    simp only [bits, hn]
    congr 2
    simp only [BitVec.toNat_and, BitVec.toNat_not, BitVec.toNat_ofNat]
    have h1 : b % 2 ^ k.bits < 2 ^ k.bits := Nat.mod_lt _ (Nat.two_pow_pos _)
    have h2 : (2 ^ k.bits - 1 - b % 2 ^ k.bits) % 2 ^ k.bits = 2 ^ k.bits - 1 - b % 2 ^ k.bits := Nat.mod_eq_of_lt (by omega)
    have h3 := Nat.and_mod_two_pow (a := a) (b := 2 ^ k.bits - 1 - b % 2 ^ k.bits) (n := k.bits)
    rw [h2] at h3
    exact h3.symm

theorem intB_ok {op : BinOp} {h : IntKind → Int → Int → (XV → R) → R} (hb : intB op = some h) {k : IntKind} {a b : Int} {κ : XV → R} {res : XV × XW} (hr : h k a b κ = some res)
    (t : TypeId) (x y : Operand) (w : World) : ∃ z v, κ z = some res ∧ (∀ ρ, VR ρ z v) ∧ (do eqGuard op t x y (.int k a) (.int k b); binOp op t (.int k a) (.int k b)).run P w = .ok v w := by
  unfold intB at hb
  split at hb <;> cases hb <;> dsimp only at hr
  · rw [forceI_eq, wrapX_eq, addX_eq] at hr
    exact ⟨_, _, hr, fun ρ => .int _ _, by simp [eqGuard_at_int, binOp_add, Op.intArith]⟩
  · rw [forceI_eq, wrapX_eq, addX_eq, negX_eq] at hr
    exact ⟨_, _, hr, fun ρ => .int _ _, by simp [eqGuard_at_int, binOp_sub, Op.intArith, Int.sub_eq_add_neg]⟩
  · rw [forceI_eq, wrapX_eq] at hr
    exact ⟨_, _, hr, fun ρ => .int _ _, by simp [eqGuard_at_int, binOp_mul, Op.intArith]; try rfl⟩
  · rw [eqX_eq] at hr
    exact ⟨_, _, hr, fun ρ => .bool _, by simp [eqGuard_at_int, binOp_eql]⟩
  · rw [eqX_eq, notB_eq] at hr
    exact ⟨_, _, hr, fun ρ => .bool _, by simp [eqGuard_at_int, binOp_neq, bne]⟩
  · rw [ltX_eq] at hr
    exact ⟨_, _, hr, fun ρ => .bool _, by simp [eqGuard_at_int, binOp_lss]⟩
  · rw [ltX_eq, notB_eq] at hr
    refine ⟨_, .bool (decide (a ≤ b)), hr, fun ρ => ?_, by simp [eqGuard_at_int, binOp_leq]⟩
    have : (!decide (b < a)) = decide (a ≤ b) := by rw [Bool.eq_iff_iff]; simp
    rw [this]; exact .bool _
  · rw [ltX_eq] at hr
    exact ⟨_, _, hr, fun ρ => .bool _, by simp [eqGuard_at_int, binOp_gtr]⟩
  · rw [ltX_eq, notB_eq] at hr
    refine ⟨_, .bool (decide (a ≥ b)), hr, fun ρ => ?_, by simp [eqGuard_at_int, binOp_geq]⟩
    have : (!decide (a < b)) = decide (a ≥ b) := by rw [Bool.eq_iff_iff]; simp
    rw [this]; exact .bool _
  · obtain ⟨a, rfl, hr'⟩ := iNat_some hr
    obtain ⟨b, rfl, hr''⟩ := iNat_some hr'
    obtain ⟨hb, hr'''⟩ := cut_some.1 hr''
    rw [forceI_eq, wrapX_eq] at hr'''
    have hb0 : b ≠ 0 := by
      intro e; subst e; simp at hb
    refine ⟨_, _, hr''', fun ρ => .int _ _, ?_⟩
    have hb1 : ¬ (b : Int) = 0 := by omega
    have e : ((a : Int).tdiv (b : Int)) = ((a / b : Nat) : Int) := (Int.ofNat_tdiv a b).symm
    simp only [Sem.run_bind, eqGuard_at_int, Sem.run_pure, Result.andThen_ok, binOp_quo, Op.intDiv, if_neg hb1, e]
    rfl
  · obtain ⟨a, rfl, hr'⟩ := iNat_some hr
    obtain ⟨b, rfl, hr''⟩ := iNat_some hr'
    obtain ⟨hb, hr'''⟩ := cut_some.1 hr''
    rw [forceN_eq] at hr'''
    have hb0 : b ≠ 0 := by
      intro e; subst e; simp at hb
    refine ⟨_, _, hr''', fun ρ => .int _ _, ?_⟩
    have hb1 : ¬ (b : Int) = 0 := by omega
    have e : ((a : Int).tmod (b : Int)) = ((a % b : Nat) : Int) := (Int.ofNat_tmod a b).symm
    simp only [Sem.run_bind, eqGuard_at_int, Sem.run_pure, Result.andThen_ok, binOp_rem, Op.intDiv, if_neg hb1, e]
    rfl
  · obtain ⟨a, rfl, hr'⟩ := iNat_some hr
    obtain ⟨b, rfl, hr''⟩ := iNat_some hr'
    rw [forceI_eq] at hr''
    exact ⟨_, _, hr'', fun ρ => .int _ _, by simp only [Sem.run_bind, eqGuard_at_int, Sem.run_pure, Result.andThen_ok, binOp_and, intBits_and, (bits_nat k a b).1]; rfl⟩
  · obtain ⟨a, rfl, hr'⟩ := iNat_some hr
    obtain ⟨b, rfl, hr''⟩ := iNat_some hr'
    rw [forceI_eq] at hr''
    exact ⟨_, _, hr'', fun ρ => .int _ _, by simp only [Sem.run_bind, eqGuard_at_int, Sem.run_pure, Result.andThen_ok, binOp_or, intBits_or, (bits_nat k a b).2.1]; rfl⟩
  · obtain ⟨a, rfl, hr'⟩ := iNat_some hr
    obtain ⟨b, rfl, hr''⟩ := iNat_some hr'
    rw [forceI_eq] at hr''
    exact ⟨_, _, hr'', fun ρ => .int _ _, by simp only [Sem.run_bind, eqGuard_at_int, Sem.run_pure, Result.andThen_ok, binOp_andNot, intBits_andNot, (bits_nat k a b).2.2.2]; rfl⟩
  · obtain ⟨a, rfl, hr'⟩ := iNat_some hr
    obtain ⟨b, rfl, hr''⟩ := iNat_some hr'
    rw [forceI_eq] at hr''
    exact ⟨_, _, hr'', fun ρ => .int _ _, by simp only [Sem.run_bind, eqGuard_at_int, Sem.run_pure, Result.andThen_ok, binOp_xor, intBits_xor, (bits_nat k a b).2.2.1]; rfl⟩

theorem shB_ok {op : BinOp} {h : IntKind → Nat → Nat → (XV → R) → R} (hb : shB op = some h) {k k' : IntKind} {a b : Nat} {κ : XV → R} {res : XV × XW} (hr : h k a b κ = some res)
    (t : TypeId) (x y : Operand) (w : World) : ∃ z v, κ z = some res ∧ (∀ ρ, VR ρ z v) ∧ (do eqGuard op t x y (.int k a) (.int k' b); binOp op t (.int k a) (.int k' b)).run P w = .ok v w := by
  unfold shB at hb
  split at hb <;> cases hb <;> dsimp only at hr
  · obtain ⟨hk, hr⟩ := cut_some.1 hr
    replace hk := ble_le hk
    rw [forceI_eq, wrapX_eq] at hr
    refine ⟨_, _, hr, fun ρ => .int _ _, ?_⟩
    have h1 : ¬ (b : Int) < 0 := by omega
    have h2 : min b k.bits = b := by omega
    simp [eqGuard_at_int, binOp_shl, Op.shift, h1, h2]
    try rfl
  · obtain ⟨hk, hr⟩ := cut_some.1 hr
    replace hk := ble_le hk
    rw [forceN_eq] at hr
    refine ⟨_, _, hr, fun ρ => .int _ _, ?_⟩
    rw [eqGuard_at_int, binOp_shr, shift_shr k k' a b (by omega) (by omega)]
    simp
    try rfl

theorem strB_ok {op : BinOp} {h : Nat → Nat → Nat → Nat → (XV → R) → R} (hb : strB op = some h) {n c m d : Nat} {κ : XV → R} {res : XV × XW} (hr : h n c m d κ = some res)
    {a b : ByteArray} (h1 : a.data.toList.length = n) (h2 : codeL a.data.toList = c) (h3 : b.data.toList.length = m) (h4 : codeL b.data.toList = d)
    (t : TypeId) (x y : Operand) (w : World) : ∃ z v, κ z = some res ∧ (∀ ρ, VR ρ z v) ∧ (do eqGuard op t x y (.string a) (.string b); binOp op t (.string a) (.string b)).run P w = .ok v w := by
  unfold strB at hb
  split at hb <;> cases hb <;> dsimp only at hr
  · rw [forceN_eq] at hr
    obtain ⟨hk, hr⟩ := cut_some.1 hr
    replace hk := blt_lt hk
    rw [forceN_eq] at hr
    refine ⟨_, .string (a ++ b), hr, fun ρ => .str ?_ ?_, ?_⟩
    · obtain ⟨a⟩ := a
      obtain ⟨b⟩ := b
      have : ((⟨a⟩ : ByteArray) ++ ⟨b⟩).data.toList = a.toList ++ b.toList := by
        have := ByteArray.mk_append_mk a.toList b.toList
        simp only [Array.toArray_toList] at this
        rw [this]
      rw [this, List.length_append, ← h1, ← h3]
      rfl
    · obtain ⟨a⟩ := a
      obtain ⟨b⟩ := b
      have : ((⟨a⟩ : ByteArray) ++ ⟨b⟩).data.toList = a.toList ++ b.toList := by
        have := ByteArray.mk_append_mk a.toList b.toList
        simp only [Array.toArray_toList] at this
        rw [this]
      rw [this, codeL_append, ← h1, ← h2, ← h4]
      rfl
    · have hs : a.size + b.size ≤ 9223372036854775807 := by
        have e1 : a.size = n := h1
        have e2 : b.size = m := h3
        have : n + m < 1000000 := hk
        omega
      simp only [Sem.run_bind, eqGuard_at_string, Sem.run_pure, Result.andThen_ok, binOp_string_add, run_string_add_sum w a b hs]
  · rw [andB_eq, ← str_beq h1 h2 h3 h4] at hr
    exact ⟨_, _, hr, fun ρ => .bool _, by simp [eqGuard_at_string, binOp_string_eql]⟩
  · rw [andB_eq, notB_eq, ← str_beq h1 h2 h3 h4] at hr
    exact ⟨_, _, hr, fun ρ => .bool _, by simp [eqGuard_at_string, binOp_string_neq]⟩

theorem eqB_want (want r : Bool) : eqB want r = if want then r else !r := by cases want <;> cases r <;> rfl

/-- a comparison by the type's equality -/
theorem cmp_ok {want : Bool} {op : BinOp} (hop : eqOp op = some want) {t : TypeId} {u v : Value} {w : World} {b : Bool}
    (hi : ∀ k a k' b, ¬ (u = .int k a ∧ v = .int k' b)) (hs : ∀ a b, ¬ (u = .string a ∧ v = .string b))
    (hfl : ∀ k a, u ≠ .float k a) (hcx : ∀ k a b, u ≠ .complex k a b)
    (hg : ∀ x y, (eqGuard op t x y u v).run P w = .ok () w) (he : (Op.equal t u v).run P w = .ok b w) (x y : Operand) :
    (do eqGuard op t x y u v; binOp op t u v).run P w = .ok (.bool (eqB want b)) w := by
  rw [Sem.run_bind, hg, Result.andThen_ok]
  unfold eqOp at hop
  split at hop <;> cases hop
  · have e : binOp .eql t u v = (do pure (.bool (← Op.equal t u v))) := by
      cases u <;> cases v <;> first | rfl | (exact absurd ⟨rfl, rfl⟩ (hi _ _ _ _)) | (exact absurd ⟨rfl, rfl⟩ (hs _ _)) | (exact absurd rfl (hfl _ _)) | (exact absurd rfl (hcx _ _ _))
    rw [e]
    simp [he]
  · have e : binOp .neq t u v = (do pure (.bool (!(← Op.equal t u v)))) := by
      cases u <;> cases v <;> first | rfl | (exact absurd ⟨rfl, rfl⟩ (hi _ _ _ _)) | (exact absurd ⟨rfl, rfl⟩ (hs _ _)) | (exact absurd rfl (hfl _ _)) | (exact absurd rfl (hcx _ _ _))
    rw [e]
    simp [he]
end Go.Ex
namespace Go.Ex
variable [Val]
set_option linter.unusedSectionVars false
variable {P : Program}

theorem be_eta (x : Operand) : cE x = ⟨(cE x).f⟩ := rfl

/-- what a compared value may be -/
def notNum (u : Value) : Prop := (∀ k a, u ≠ .int k a) ∧ (∀ a, u ≠ .string a) ∧ (∀ k a, u ≠ .float k a) ∧ (∀ k a b, u ≠ .complex k a b)

theorem eqGuard_ok (op : BinOp) (t : TypeId) (x y : Operand) (u v : Value) (h1 : u ≠ .nilIface ∨ v ≠ .nilIface) (h2 : ∀ a, u ≠ .agg a) : eqGuard op t x y u v = pure () := by
  cases op <;> first | rfl | (cases u <;> cases v <;> first | rfl | (exact absurd rfl (h2 _)) | (rcases h1 with h | h <;> exact absurd rfl h))

theorem cmp_run {want : Bool} {op : BinOp} (hop : eqOp op = some want) {t : TypeId} {u v : Value} {w : World} {b : Bool} (hn : notNum u) (x y : Operand)
    (hg : (eqGuard op t x y u v).run P w = .ok () w) (he : ∀ D, 60 ≤ D → (Op.equalIn D t u v).run P w = .ok b w) :
    (do eqGuard op t x y u v; binOp op t u v).run P w = .ok (.bool (eqB want b)) w := by
  rw [Sem.run_bind, hg, Result.andThen_ok]
  have he' : (Op.equal t u v).run P w = .ok b w := he Op.maxDepth (by decide)
  obtain ⟨n1, n2, n3, n4⟩ := hn
  unfold eqOp at hop
  split at hop <;> cases hop
  · have e : binOp .eql t u v = (do pure (.bool (← Op.equal t u v))) := by
      cases u <;> first | (exact absurd rfl (n1 _ _)) | (exact absurd rfl (n2 _)) | (exact absurd rfl (n3 _ _)) | (exact absurd rfl (n4 _ _ _)) | (cases v <;> rfl)
    rw [e, eqB_eq]
    simp [he']
  · have e : binOp .neq t u v = (do pure (.bool (!(← Op.equal t u v)))) := by
      cases u <;> first | (exact absurd rfl (n1 _ _)) | (exact absurd rfl (n2 _)) | (exact absurd rfl (n3 _ _)) | (exact absurd rfl (n4 _ _ _)) | (cases v <;> rfl)
    rw [e, eqB_eq]
    simp [he']

theorem VR.iface_or {ρ : Rho} {x : XV} {u : Value} (h : (∃ t y, x = .iface t y) ∨ x = .nilIface) (hv : VR ρ x u) : (∃ t y, u = .iface t y) ∨ u = .nilIface := by
  rcases h with ⟨t, y, rfl⟩ | rfl
  · obtain ⟨z, rfl, _⟩ := hv.iface_inv; exact .inl ⟨_, _, rfl⟩
  · exact .inr hv.nilIface_inv

theorem cmp_ok' {want : Bool} {op : BinOp} (hop : eqOp op = some want) (t yt : TypeId) (x y : Operand) : ValS P (.binOp op t x y yt) (cCmp P want t x y).f := by
  intro s E κ res h w₀ ρ w ev hR hV
  have hx : VR ρ ((cE x).f s) (ev x) := hV x (by simp [Op.operands])
  have hy : VR ρ ((cE y).f s) (ev y) := hV y (by simp [Op.operands])
  have fin : ∀ (b : Bool), κ (.bool (eqB want b)) = some res → (do eqGuard op t x y (ev x) (ev y); binOp op t (ev x) (ev y)).run P w = .ok (.bool (eqB want b)) w →
      ∃ z v, κ z = some res ∧ VR ρ z v ∧ Runs P ev (.binOp op t x y yt) w (.value v) w := by
    intro b hk hr
    refine ⟨_, _, hk, .bool _, fun o ho => ?_⟩
    simp only [execOp, ho]
    rw [Sem.run_bind, hr]
    rfl
  have q := cEq_ok (P := P) 60 t
  unfold cCmp at h
  rw [be_eta x, be_eta y, show cEq P 60 t = ⟨(cEq P 60 t).f⟩ from rfl] at h
  dsimp only at h
  split at h
  · rename_i ms hu
    have shape : ∀ κ', (cEq P 60 t).f ((cE x).f s) ((cE y).f s) κ' = some res → ((∃ t y, (cE x).f s = .iface t y) ∨ (cE x).f s = .nilIface) ∧ ((∃ t z, (cE y).f s = .iface t z) ∨ (cE y).f s = .nilIface) := by
      intro κ' h
      unfold cEq at h
      rw [hu] at h
      rcases vIface_some h with ⟨a, b, e, h1⟩ | ⟨e, h1⟩
      · refine ⟨.inl ⟨a, b, e⟩, ?_⟩
        rcases vIface_some h1 with ⟨a, b, e, h1⟩ | ⟨e, h1⟩
        · exact .inl ⟨a, b, e⟩
        · exact .inr e
      · refine ⟨.inr e, ?_⟩
        rcases vIface_some h1 with ⟨a, b, e, h1⟩ | ⟨e, h1⟩
        · exact .inl ⟨a, b, e⟩
        · exact .inr e
    split at h
    · rename_i hc
      change (cEq P 60 t).f ((cE x).f s) ((cE y).f s) (fun r => κ (.bool (eqB want r))) = some res at h
      obtain ⟨b, hk, hr⟩ := q _ _ _ _ h ρ _ _ hx hy
      obtain ⟨s1, s2⟩ := shape _ h
      have s1 := hx.iface_or s1
      have s2 := hy.iface_or s2
      refine fin b hk (cmp_run hop ?_ x y ?_ (fun D hD => hr D w hD))
      · rcases s1 with ⟨_, _, e⟩ | e <;> rw [e] <;> simp [notNum]
      · rcases s1 with ⟨_, _, e⟩ | e
        · rw [e, eqGuard_at_iface]; rfl
        · rcases s2 with ⟨_, _, e'⟩ | e'
          · rw [e, e', eqGuard_nil_iface]; rfl
          · rw [e, e']
            simp only [isConst, Bool.or_eq_true] at hc
            rcases hc with hc | hc
            · cases x <;> simp at hc
              rw [eqGuard_nil_constL]; rfl
            · cases y <;> simp at hc
              rw [eqGuard_nil_constR]; rfl
    · change vIfaceN ((cE x).f s) ((cEq P 60 t).f ((cE x).f s) ((cE y).f s) (fun r => κ (.bool (eqB want r)))) none = some res at h
      rcases vIface_some h with ⟨a, b, e, h1⟩ | ⟨e, h1⟩
      · rw [e] at hx
        obtain ⟨z, hz, _⟩ := id hx.iface_inv
        obtain ⟨b, hk, hr⟩ := q _ _ _ _ h1 ρ _ _ (by rw [e]; exact hx) hy
        refine fin b hk (cmp_run hop ?_ x y ?_ (fun D hD => hr D w hD))
        · rw [hz]; simp [notNum]
        · rw [hz, eqGuard_at_iface]; rfl
      · cases h1
  · rename_i fs hu
    split at h
    · cases h
    · rename_i hg
      change (cEq P 60 t).f ((cE x).f s) ((cE y).f s) (fun r => κ (.bool (eqB want r))) = some res at h
      obtain ⟨b, hk, hr⟩ := q _ _ _ _ h ρ _ _ hx hy
      have shape : (∃ n cs, (cE x).f s = .agg n cs) ∧ (∃ n cs, (cE y).f s = .agg n cs) := by
        unfold cEq at h
        rw [hu] at h
        dsimp only at h
        split at h
        · cases h
        · obtain ⟨n, cs, e, h1⟩ := vAgg_some h
          obtain ⟨m, es, e', h2⟩ := vAgg_some h1
          exact ⟨⟨n, cs, e⟩, ⟨m, es, e'⟩⟩
      obtain ⟨⟨n, cs, e1⟩, ⟨m, es, e2⟩⟩ := shape
      rw [e1] at hx
      rw [e2] at hy
      obtain ⟨xs, ex, _⟩ := hx.agg_inv
      obtain ⟨ys, ey, _⟩ := hy.agg_inv
      refine fin b hk (cmp_run hop ?_ x y ?_ (fun D hD => hr D w hD))
      · rw [ex]; simp [notNum]
      · rw [ex, ey]; exact run_eqGuard_agg w op t x y xs ys hg
  · rename_i n e hu
    split at h
    · cases h
    · rename_i hg
      change (cEq P 60 t).f ((cE x).f s) ((cE y).f s) (fun r => κ (.bool (eqB want r))) = some res at h
      obtain ⟨b, hk, hr⟩ := q _ _ _ _ h ρ _ _ hx hy
      have shape : (∃ n cs, (cE x).f s = .agg n cs) ∧ (∃ n cs, (cE y).f s = .agg n cs) := by
        unfold cEq at h
        rw [hu] at h
        dsimp only at h
        split at h
        · obtain ⟨n, cs, e, h1⟩ := vAgg_some h
          obtain ⟨m, es, e', h2⟩ := vAgg_some h1
          exact ⟨⟨n, cs, e⟩, ⟨m, es, e'⟩⟩
        · cases h
      obtain ⟨⟨n, cs, e1⟩, ⟨m, es, e2⟩⟩ := shape
      rw [e1] at hx
      rw [e2] at hy
      obtain ⟨xs, ex, _⟩ := hx.agg_inv
      obtain ⟨ys, ey, _⟩ := hy.agg_inv
      refine fin b hk (cmp_run hop ?_ x y ?_ (fun D hD => hr D w hD))
      · rw [ex]; simp [notNum]
      · rw [ex, ey]; exact run_eqGuard_agg w op t x y xs ys hg
  all_goals try (cases h; done)
  · rename_i hu
    change (cEq P 60 t).f ((cE x).f s) ((cE y).f s) (fun r => κ (.bool (eqB want r))) = some res at h
    obtain ⟨b, hk, hr⟩ := q _ _ _ _ h ρ _ _ hx hy
    unfold cEq at h
    rw [hu] at h
    obtain ⟨c, e, _⟩ := vBool_some h
    rw [e] at hx
    have ex := hx.bool_inv
    refine fin b hk (cmp_run hop ?_ x y ?_ (fun D hD => hr D w hD))
    · rw [ex]; simp [notNum]
    · rw [ex, eqGuard_at_bool]; rfl
  · rename_i e hu
    change (cEq P 60 t).f ((cE x).f s) ((cE y).f s) (fun r => κ (.bool (eqB want r))) = some res at h
    obtain ⟨b, hk, hr⟩ := q _ _ _ _ h ρ _ _ hx hy
    have ex : ∃ p, ev x = .pointer p := by
      unfold cEq at h
      rw [hu] at h
      dsimp only at h
      split at h
      · rcases vPtrN_some h with ⟨_, _, e, _⟩ | ⟨e, _⟩
        · rw [e] at hx; obtain ⟨_, _, _, e, _⟩ := hx.ptr_inv; exact ⟨_, e⟩
        · rw [e] at hx; exact ⟨_, hx.ptrNil_inv⟩
      · cases h
    obtain ⟨p, ex⟩ := ex
    refine fin b hk (cmp_run hop ?_ x y ?_ (fun D hD => hr D w hD))
    · rw [ex]; simp [notNum]
    · rw [ex, eqGuard_at_pointer]; rfl
  · rename_i e hu
    change (cEq P 60 t).f ((cE x).f s) ((cE y).f s) (fun r => κ (.bool (eqB want r))) = some res at h
    obtain ⟨b, hk, hr⟩ := q _ _ _ _ h ρ _ _ hx hy
    have ex : ∃ p l c, ev x = .slice p l c := by
      unfold cEq at h
      rw [hu] at h
      rcases vSl_some h with ⟨_, _, _, _, _, e, _⟩ | ⟨e, _⟩ | ⟨e, h'⟩
      · rw [e] at hx; obtain ⟨_, _, _, _, e, _⟩ := hx.slice_inv; exact ⟨_, _, _, e⟩
      · rw [e] at hx; exact ⟨_, _, _, hx.sliceNil_inv⟩
      · cases h'
    obtain ⟨p, l, c, ex⟩ := ex
    refine fin b hk (cmp_run hop ?_ x y ?_ (fun D hD => hr D w hD))
    · rw [ex]; simp [notNum]
    · rw [ex, eqGuard_at_slice]; rfl
  · rename_i k e hu
    change (cEq P 60 t).f ((cE x).f s) ((cE y).f s) (fun r => κ (.bool (eqB want r))) = some res at h
    obtain ⟨b, hk, hr⟩ := q _ _ _ _ h ρ _ _ hx hy
    have ex : ∃ p, ev x = .map p := by
      unfold cEq at h
      rw [hu] at h
      rcases vMap_some h with ⟨_, e, _⟩ | ⟨e, _⟩
      · rw [e] at hx; obtain ⟨_, _, e, _⟩ := hx.map_inv; exact ⟨_, e⟩
      · rw [e] at hx; exact ⟨_, hx.mapNil_inv⟩
    obtain ⟨p, ex⟩ := ex
    refine fin b hk (cmp_run hop ?_ x y ?_ (fun D hD => hr D w hD))
    · rw [ex]; simp [notNum]
    · rw [ex, eqGuard_at_map]; rfl
  · rename_i ps rs va hu
    change (cEq P 60 t).f ((cE x).f s) ((cE y).f s) (fun r => κ (.bool (eqB want r))) = some res at h
    obtain ⟨b, hk, hr⟩ := q _ _ _ _ h ρ _ _ hx hy
    have ex : (∃ f a c, ev x = .func f a c) ∨ ev x = .nilFunc := by
      unfold cEq at h
      rw [hu] at h
      rcases vFunc_some h with ⟨_, _, _, e, _⟩ | ⟨e, _⟩
      · rw [e] at hx; obtain ⟨_, _, e, _⟩ := hx.func_inv; exact .inl ⟨_, _, _, e⟩
      · rw [e] at hx; exact .inr hx.nilFunc_inv
    rcases ex with ⟨f, a, c, ex⟩ | ex
    · refine fin b hk (cmp_run hop ?_ x y ?_ (fun D hD => hr D w hD))
      · rw [ex]; simp [notNum]
      · rw [ex, eqGuard_at_func]; rfl
    · refine fin b hk (cmp_run hop ?_ x y ?_ (fun D hD => hr D w hD))
      · rw [ex]; simp [notNum]
      · rw [ex, eqGuard_at_nilFunc]; rfl

theorem binOp_ok (op : BinOp) (t yt : TypeId) (x y : Operand) : ValS P (.binOp op t x y yt) (cBin P op t x y).f := by
  intro s E κ res h w₀ ρ w ev hR hV
  have hx : VR ρ ((cE x).f s) (ev x) := hV x (by simp [Op.operands])
  have hy : VR ρ ((cE y).f s) (ev y) := hV y (by simp [Op.operands])
  have fin : ∀ (u v : Value), ev x = u → ev y = v → (∃ z r, κ z = some res ∧ (∀ ρ, VR ρ z r) ∧ (do eqGuard op t x y u v; binOp op t u v).run P w = .ok r w) →
      ∃ z v, κ z = some res ∧ VR ρ z v ∧ Runs P ev (.binOp op t x y yt) w (.value v) w := by
    rintro u v rfl rfl ⟨z, r, hk, hv, hr⟩
    refine ⟨z, r, hk, hv ρ, fun o ho => ?_⟩
    simp only [execOp, ho]
    rw [Sem.run_bind, hr]
    rfl
  unfold cBin at h
  rw [be_eta x, be_eta y] at h
  split at h
  · rename_i k0 hu
    cases hb : intB op with
    | some f =>
      rw [hb] at h
      dsimp only at h
      obtain ⟨k, a, e1, h1⟩ := vInt_some h
      obtain ⟨k', b, e2, h2⟩ := vInt_some h1
      obtain ⟨hk, h3⟩ := cut_some.1 h2
      have hk := kNum_inj (beq_eq' hk)
      rw [e1] at hx
      rw [e2, ← hk] at hy
      exact fin _ _ hx.int_inv hy.int_inv (intB_ok hb h3 t x y w)
    | none =>
      rw [hb] at h
      cases hs : shB op with
      | none => rw [hs] at h; cases h
      | some f =>
        rw [hs] at h
        dsimp only at h
        obtain ⟨k, a, e1, h1⟩ := vInt_some h
        obtain ⟨k', b, e2, h2⟩ := vInt_some h1
        obtain ⟨n, e3, h3⟩ := iNat_some h2
        obtain ⟨m, e4, h4⟩ := iNat_some h3
        rw [e1, e3] at hx
        rw [e2, e4] at hy
        exact fin _ _ hx.int_inv hy.int_inv (shB_ok hs h4 t x y w)
  · rename_i hu
    cases hb : strB op with
    | some f =>
      rw [hb] at h
      dsimp only at h
      obtain ⟨n, c, e1, h1⟩ := vStr_some h
      obtain ⟨m, d, e2, h2⟩ := vStr_some h1
      rw [e1] at hx
      rw [e2] at hy
      obtain ⟨a, ea, a1, a2⟩ := hx.str_inv
      obtain ⟨b, eb, b1, b2⟩ := hy.str_inv
      exact fin _ _ ea eb (strB_ok hb h2 a1 a2 b1 b2 t x y w)
    | none => rw [hb] at h; cases h
  · split at h
    · rename_i want hw
      exact cmp_ok' hw t yt x y s E κ res h w₀ ρ w ev hR hV
    · cases h

theorem unOp_ok (op : UnOp) (t : TypeId) (x : Operand) : ValS P (.unOp op t x) (cUn op x).f := by
  intro s E κ res h w₀ ρ w ev hR hV
  have hx : VR ρ ((cE x).f s) (ev x) := hV x (by simp [Op.operands])
  unfold cUn at h
  split at h
  · rw [u1_f] at h
    obtain ⟨b, e, h1⟩ := vBool_some h
    rw [e] at hx
    rw [notB_eq] at h1
    exact ⟨_, _, h1, .bool _, fun o ho => by simp [execOp, ho, hx.bool_inv, Op.unary]⟩
  · rw [u1_f] at h
    obtain ⟨k, n, e, h1⟩ := vInt_some h
    rw [e] at hx
    rw [forceI_eq, wrapX_eq, negX_eq] at h1
    exact ⟨_, _, h1, .int _ _, fun o ho => by simp [execOp, ho, hx.int_inv, Op.unary, Op.intArith]⟩
  · rw [u1_f] at h
    obtain ⟨k, n, e, h1⟩ := vInt_some h
    rw [e] at hx
    rw [forceI_eq, wrapX_eq, addX_eq, negX_eq] at h1
    refine ⟨_, _, h1, .int _ _, fun o ho => ?_⟩
    have hb : bits .xor k (if k.signed then -1 else k.max) n = k.wrap (-n + Int.negSucc 0) := by
      have ha : BitVec.ofInt k.bits (if k.signed then -1 else k.max) = BitVec.allOnes k.bits := by
        cases k <;> rfl
      simp only [bits, ha]
      have hc : BitVec.allOnes k.bits ^^^ BitVec.ofInt k.bits n = ~~~ BitVec.ofInt k.bits n := BitVec.allOnes_xor
      rw [hc, BitVec.toNat_not, BitVec.toNat_ofInt]
      have hM : ((2 ^ k.bits : Nat) : Int) = (2 : Int) ^ k.bits := by cases k <;> rfl
      have hM0 : 0 < 2 ^ k.bits := Nat.two_pow_pos _
      unfold IntKind.wrap
      rw [← hM]
      generalize 2 ^ k.bits = M at hM0
      have h1 := Int.emod_nonneg n (show (M : Int) ≠ 0 by omega)
      have h2 := Int.emod_lt_of_pos n (show (0 : Int) < (M : Int) by omega)
      have e1 : ((M - 1 - (n % (M : Int)).toNat : Nat) : Int) = (M : Int) - 1 - n % (M : Int) := by omega
      have e2 : ((M - 1 - (n % (M : Int)).toNat : Nat) : Int) % (M : Int) = (-n + Int.negSucc 0) % (M : Int) := by
        rw [e1]
        have : (-n + Int.negSucc 0) = ((M : Int) - 1 - n % (M : Int)) + (M : Int) * (- (n / (M : Int)) - 1) := by
          have := Int.emod_add_mul_ediv n (M : Int)
          have e3 : Int.negSucc 0 = -1 := rfl
          rw [e3, Int.mul_sub, Int.mul_neg]
          omega
        rw [this, Int.add_mul_emod_self_left]
      simp only [e2]
    simp [execOp, ho, hx.int_inv, Op.unary, intBits_xor, hb]
  · cases h
end Go.Ex
namespace Go.Ex
variable [Val]
set_option linter.unusedSectionVars false
variable {P : Program}

/-! strings out of cells -/
theorem bytesX_some {ρ : Rho} : ∀ (l : List XV) (us : List Value) (κ : Nat → R) (res : XV × XW), bytesX l κ = some res → VRs ρ l us →
    ∃ ns : List Nat, us = (ns.map fun n : Nat => Value.int .u8 (n : Int)) ∧ κ (codeL (ns.map fun n => UInt8.ofNat n)) = some res := by
  intro l
  induction l with
  | nil =>
    intro us κ res h hv
    have : us = [] := List.eq_nil_of_length_eq_zero hv.1.symm
    subst this
    exact ⟨[], rfl, h⟩
  | cons v l ih =>
    intro us κ res h hv
    cases us with
    | nil => simp [VRs] at hv
    | cons u us =>
      change vInt v (fun k n => cut (Nat.beq (kNum k) 4) (iNat n fun n => cut (Nat.blt n 256) (bytesX l fun c => forceN (Nat.add n (Nat.mul 256 c)) κ))) = some res at h
      obtain ⟨k, n, e1, h1⟩ := vInt_some h
      obtain ⟨hk, h2⟩ := cut_some.1 h1
      obtain ⟨m, e2, h3⟩ := iNat_some h2
      obtain ⟨hm, h4⟩ := cut_some.1 h3
      have hk : k = .u8 := kNum_inj (by rw [beq_eq' hk]; rfl)
      replace hm := blt_lt hm
      obtain ⟨ns, e3, h5⟩ := ih us _ res h4 hv.tail
      have hu := hv.head
      rw [e1, hk, e2] at hu
      rw [forceN_eq] at h5
      refine ⟨m :: ns, by rw [hu.int_inv, e3]; rfl, ?_⟩
      have : codeL ((m :: ns).map fun n => UInt8.ofNat n) = m + 256 * codeL (ns.map fun n => UInt8.ofNat n) := by
        show (UInt8.ofNat m).toNat + 256 * _ = _
        have : (UInt8.ofNat m).toNat = m := by simp; omega
        rw [this]
      rw [this]
      exact h5

theorem vAtom_some {v : XV} {κ : Nat → R} {r : XV × XW} (h : vAtom v κ = some r) : ∃ i, v = .atom i ∧ κ i = some r := by
  cases v <;> first | (have h' : (none : R) = some r := h; cases h'; done) | exact ⟨_, rfl, h⟩
theorem VR.atom_inv {ρ : Rho} {i : Nat} {u : Value} (h : VR ρ (.atom i) u) : u = Val.σ i := by
  cases h; rfl
theorem atsX_some {ρ : Rho} : ∀ (l : List XV) (us : List Value) (κ : List Nat → R) (r : XV × XW), atsX l κ = some r → VRs ρ l us →
    ∃ (a : List Nat) (ns : List Nat), us = ns.map (fun n : Nat => Value.int .u8 (n : Int)) ∧ (∀ n ∈ ns, n < 256) ∧ a.map Val.σ = us ∧ κ a = some r
  | [], us, κ, r, h, hv => by
    have : us = [] := by have := hv.1; cases us with | nil => rfl | cons _ _ => simp at this
    subst this
    exact ⟨[], [], rfl, by simp, rfl, h⟩
  | v :: l, us, κ, r, h, hv => by
    cases us with
    | nil => have := hv.1; simp at this
    | cons u us =>
      obtain ⟨i, rfl, h1⟩ := vAtom_some (κ := fun i => cut (Nat.ble byteFrom i) (atsX l fun l => κ (i :: l))) h
      obtain ⟨h2, h3⟩ := cut_some.1 h1
      have hu := (hv.2 0 _ _ rfl rfl).atom_inv
      have hv' : VRs ρ l us := ⟨by have := hv.1; simpa using this, fun j x y hx hy => hv.2 (j + 1) x y (by simpa using hx) (by simpa using hy)⟩
      obtain ⟨a, ns, k1, k2, k3, k4⟩ := atsX_some l us _ r h3 hv'
      obtain ⟨b, hb⟩ := Val.byte i (ble_le h2)
      refine ⟨i :: a, b.toNat :: ns, ?_, ?_, ?_, k4⟩
      · rw [hu, hb, k1]; rfl
      · intro n hn
        rcases List.mem_cons.1 hn with rfl | hn
        · exact b.toNat_lt
        · exact k2 n hn
      · rw [List.map_cons, k3, hu]
theorem vAtB_some {v : XV} {x y : R} {r : XV × XW} (h : vAtB v x y = some r) : x = some r ∨ y = some r := by
  cases v <;> first | exact .inl h | exact .inr h
theorem strX_some {ρ : Rho} {n : Nat} {l : List XV} {us : List Value} {κ : XV → R} {r : XV × XW} (h : strX n l κ = some r) (hv : VRs ρ l us) (hl : l.length = n) :
    ∃ (ns : List Nat) (x : XV), us = (ns.map fun n : Nat => Value.int .u8 (n : Int)) ∧ κ x = some r ∧ ∀ s : ByteArray, s.data.toList = (ns.map fun n => UInt8.ofNat n) → VR ρ x (.string s) := by
  have old : (bytesX l fun c => κ (.str n c)) = some r → ∃ (ns : List Nat) (x : XV), us = (ns.map fun n : Nat => Value.int .u8 (n : Int)) ∧ κ x = some r ∧ ∀ s : ByteArray, s.data.toList = (ns.map fun n => UInt8.ofNat n) → VR ρ x (.string s) := by
    intro h
    obtain ⟨ns, eu, h7⟩ := bytesX_some _ _ _ _ h hv
    refine ⟨ns, _, eu, h7, fun s hs => .str ?_ (by rw [hs])⟩
    rw [hs]
    have h1 := hv.1
    rw [eu, hl] at h1
    simp at h1
    simp [h1]
  cases l with
  | nil => exact old h
  | cons v l =>
    rcases vAtB_some (v := v) (x := atsX (v :: l) fun a => κ (.strA a)) (y := bytesX (v :: l) fun c => κ (.str n c)) h with h | h
    · obtain ⟨a, ns, k1, k2, k3, k4⟩ := atsX_some _ _ _ _ h hv
      refine ⟨ns, _, k1, k4, fun s hs => .strA ?_⟩
      rw [k3, k1, hs]
      simp
      intro n hn
      have := k2 n hn
      omega
    · exact old h
theorem foldl_bytes (ns : List Nat) : ∀ s : ByteArray, ((ns.map fun n : Nat => (n : Int)).foldl (fun r n => r.push (UInt8.ofNat n.toNat)) s).data.toList = s.data.toList ++ ns.map fun n => UInt8.ofNat n := by
  induction ns with
  | nil => intro s; simp
  | cons n ns ih =>
    intro s
    rw [List.map_cons, List.foldl_cons, ih]
    simp [ByteArray.push]

theorem move_ok (x : Operand) : ValS P (.move x) (fun s _ κ => κ ((cE x).f s)) := by
  intro s E κ res h w₀ ρ w ev hR hV
  exact ⟨_, _, h, hV x (by simp [Op.operands]), fun o ho => by simp [execOp, ho]⟩
theorem assign_ok (x : Operand) : ValS P (.assign x) (fun s _ κ => κ ((cE x).f s)) := by
  intro s E κ res h w₀ ρ w ev hR hV
  exact ⟨_, _, h, hV x (by simp [Op.operands]), fun o ho => by simp [execOp, ho]⟩
theorem pick_ok (c x y : Operand) : ValS P (.pick c x y) (cPick c x y).f := by
  intro s E κ res h w₀ ρ w ev hR hV
  have hc : VR ρ ((cE c).f s) (ev c) := hV c (by simp [Op.operands])
  change vIf ((cE c).f s) (κ ((cE x).f s)) (κ ((cE y).f s)) = some res at h
  obtain ⟨b, e, h1⟩ := vIf_some h
  rw [e] at hc
  cases b with
  | true => exact ⟨_, _, h1, hV x (by simp [Op.operands]), fun o ho => by simp [execOp, ho, hc.bool_inv, asBool]⟩
  | false => exact ⟨_, _, h1, hV y (by simp [Op.operands]), fun o ho => by simp [execOp, ho, hc.bool_inv, asBool]⟩
theorem nilCheck_ok (x : Operand) : ValS P (.nilCheck x) (u1 x fun v _ κ => vNil v κ).f := by
  intro s E κ res h w₀ ρ w ev hR hV
  have hx : VR ρ ((cE x).f s) (ev x) := hV x (by simp [Op.operands])
  rw [u1_f] at h
  obtain ⟨b, o, e, h1⟩ := vNil_some h
  rw [e] at hx
  obtain ⟨r, d, q, ep, hρ⟩ := hx.ptr_inv
  exact ⟨_, _, h1, hx, fun o ho => by simp [execOp, ho, ep]⟩
theorem iface_ok (t : TypeId) (x : Operand) : ValS P (.makeInterface t x) (cIface P t x).f := by
  intro s E κ res h w₀ ρ w ev hR hV
  have hx : VR ρ ((cE x).f s) (ev x) := hV x (by simp [Op.operands])
  unfold cIface at h
  split at h
  · cases h
  · rename_i d hd hu
    rw [u1_f] at h
    refine ⟨_, _, h, .iface t hx, fun o ho => ?_⟩
    simp only [execOp, ho, Instr.makeInterface, Sem.run_bind, run_under hu, Result.andThen_ok]
    cases d <;> first | rfl | (exact absurd rfl (hd _))
  · cases h
theorem cEs_ok {ρ : Rho} {s : Sl} {ev : Operand → Value} : ∀ (l : List Operand), (∀ x ∈ l, OpV ρ s ev x) → VRs ρ ((cEs l).f s) (l.map ev)
  | [], _ => VRs.nil ρ
  | x :: xs, h => VRs.cons (h x (by simp)) (cEs_ok xs fun y hy => h y (by simp [hy]))
theorem makeFunc_ok (fn : Fn) (f c : Array Operand) : ValS P (.makeFunc fn f c) (cFunc fn f.toList c.toList).f := by
  intro s E κ res h w₀ ρ w ev hR hV
  have h1 := cEs_ok (ρ := ρ) (s := s) (ev := ev) f.toList (fun x hx => hV x (by simp [Op.operands]; exact .inl (by simpa using hx)))
  have h2 := cEs_ok (ρ := ρ) (s := s) (ev := ev) c.toList (fun x hx => hV x (by simp [Op.operands]; exact .inr (by simpa using hx)))
  change κ (.func fn ((cEs f.toList).f s) ((cEs c.toList).f s)) = some res at h
  refine ⟨_, .func fn (f.map ev) (c.map ev), h, .func fn ?_ ?_ ?_ ?_, fun o ho => ?_⟩
  · have := h1.1; simpa using this
  · have := h2.1; simpa using this
  · intro i x y hx hy
    exact h1.2 i x y hx (by simpa using hy)
  · intro i x y hx hy
    exact h2.2 i x y hx (by simpa using hy)
  · simp [execOp, ho, Instr.makeFunc]
theorem extract_ok (x : Operand) (i : Nat) : ValS P (.extract x i) (u1 x fun v _ κ => vTuple v fun vs => nthO i vs κ).f := by
  intro s E κ res h w₀ ρ w ev hR hV
  have hx : VR ρ ((cE x).f s) (ev x) := hV x (by simp [Op.operands])
  rw [u1_f] at h
  obtain ⟨vs, e, h1⟩ := vTuple_some h
  obtain ⟨y, hy, h2⟩ := nthO_some h1
  rw [e] at hx
  obtain ⟨cs, ec, hv⟩ := hx.tuple_inv
  obtain ⟨v, hv1, hv2⟩ := hv.get hy
  have hv1' : cs[i]? = some v := by simpa using hv1
  exact ⟨y, v, h2, hv2, fun o ho => by simp [execOp, ho, ec, Instr.extract, hv1']⟩

/-! conversions -/
theorem conv_ok (src dst : TypeId) (x : Operand) : ValS P (.convert src dst x) (cConv P src dst x).f := by
  intro s E κ res h w₀ ρ w ev hR hV
  have hx : VR ρ ((cE x).f s) (ev x) := hV x (by simp [Op.operands])
  unfold cConv at h
  split at h
  · rename_i h1 h2
    rw [u1_f] at h
    rcases vPtrN_some h with ⟨b, o, e, h3⟩ | ⟨e, h3⟩
    · rw [e] at hx
      obtain ⟨r, d, q, ep, hρ⟩ := hx.ptr_inv
      exact ⟨_, _, h3, hx, fun o ho => by simp [execOp, ho, ep, convert, run_under h1, run_under h2, Conv.unsafePointer]⟩
    · rw [e] at hx
      exact ⟨_, _, h3, hx, fun o ho => by simp [execOp, ho, hx.ptrNil_inv, convert, run_under h1, run_under h2, Conv.unsafePointer]⟩
  · rename_i t h1 h2
    split at h
    · rename_i n hn
      rw [u1_f] at h
      rcases vPtrN_some h with ⟨b, o, e, h3⟩ | ⟨e, h3⟩
      · rw [e] at hx
        obtain ⟨r, d, q, ep, hρ⟩ := hx.ptr_inv
        obtain ⟨e', m, cs, p, k, f, ro, hg, h4⟩ := hCells_some h3
        obtain ⟨hm, h5⟩ := cut_some.1 h4
        replace hm := blt_lt hm
        obtain ⟨_, hq, C, lo, hi, a1, a2, _⟩ := hR.blk b _ r d q hg hρ
        refine ⟨_, _, h5, hx, fun op ho => ?_⟩
        have hs : w.shape? r = some (e', C.size) := by simp [World.shape?, a1]
        have hlt : ¬ C.size ≤ d + o := by omega
        simp [execOp, ho, ep, convert, run_under h1, run_under h2, Conv.unsafePointer, Conv.seenAt, viewAt, cellsIn, hs, run_size hn, hlt]
      · rw [e] at hx
        exact ⟨_, _, h3, hx, fun o ho => by simp [execOp, ho, hx.ptrNil_inv, convert, run_under h1, run_under h2, Conv.unsafePointer]⟩
    · cases h
  · rename_i u h1 h2
    split at h
    rotate_left
    · cases h
    rename_i su hsu
    rw [u1_f] at h
    rcases vPtrN_some h with ⟨b, o, e, h3⟩ | ⟨e, h3⟩
    · rw [e] at hx
      obtain ⟨r, d, q, ep, hρ⟩ := hx.ptr_inv
      obtain ⟨e', m, cs, p, k, f, ro, hg, h4⟩ := hCells_some h3
      obtain ⟨hm, h5⟩ := cut_some.1 h4
      rw [andB_eq, Bool.and_eq_true] at hm
      obtain ⟨hp, hl⟩ := hm
      obtain ⟨_, hq, C, lo, hi, a1, a2, a3, a4, a5, _⟩ := hR.blk b _ r d q hg hρ
      obtain ⟨rfl, hqm⟩ := a5 hp
      refine ⟨_, _, h5, hx, fun op ho => ?_⟩
      have hC : C.size = m := by omega
      have hs : w.shape? r = some (e', m) := by simp [World.shape?, a1, hC]
      simp only [Nat.zero_add] at ep
      simp [execOp, ho, ep, convert, run_under h1, run_under h2, Conv.unsafePointer, Conv.seenAt, viewAt, hs, variablesAt, hl, run_size hsu]
    · rw [e] at hx
      exact ⟨_, _, h3, hx, fun o ho => by simp [execOp, ho, hx.ptrNil_inv, convert, run_under h1, run_under h2, Conv.unsafePointer]⟩
  · rename_i k' k h1 h2
    rw [u1_f] at h
    obtain ⟨k1, n, e, h3⟩ := vInt_some h
    rw [e] at hx
    rw [forceI_eq, wrapX_eq] at h3
    exact ⟨_, _, h3, .int _ _, fun o ho => by simp [execOp, ho, hx.int_inv, convert, run_under h1, run_under h2, Conv.intToInt]⟩
  · rename_i h1 h2
    rw [u1_f] at h
    obtain ⟨n, c, e, h3⟩ := vStr_some h
    rw [e] at hx
    obtain ⟨b, eb, _⟩ := hx.str_inv
    exact ⟨_, _, h3, hx, fun o ho => by simp [execOp, ho, eb, convert, run_under h1, run_under h2]⟩
  · rename_i e0 h1 h2
    split at h
    · rename_i h0
      rw [u1_f] at h
      rcases vSl_some h with ⟨b, o, n, c, m, e, h3⟩ | ⟨e, h3⟩ | ⟨e, h3⟩
      · rw [e] at hx
        obtain ⟨r, d, q, c', ep, hρ, _⟩ := hx.slice_inv
        obtain ⟨l, us, h4, hl, hv, hf, hu, hrun⟩ := loadN_ok (P := P) hR hρ h3
        obtain ⟨ns, x', eu, h5, hx'⟩ := strX_some h4 hv (by omega)
        have hb := run_bytesToString (P := P) w ⟨r, d + o, none⟩ n c' (ns.map fun n : Nat => (n : Int)) (by rw [hrun, eu]; simp)
        refine ⟨_, .string ((ns.map fun n : Nat => (n : Int)).foldl (fun r n => r.push (UInt8.ofNat n.toNat)) ByteArray.empty), h5, ?_, fun op ho => ?_⟩
        rotate_left
        · simp only [execOp, ho, ep]
          rw [Sem.run_bind, run_convert_bytes_string w src dst e0 _ _ _ (under_ok h1) (under_ok h0) (under_ok h2), hb]
          rfl
        · exact hx' _ (by rw [foldl_bytes]; simp)
      · rw [e] at hx
        refine ⟨_, .string .empty, h3, .str rfl rfl, fun op ho => ?_⟩
        simp only [execOp, ho, hx.sliceNil_inv]
        rw [Sem.run_bind, run_convert_bytes_string w src dst e0 _ _ _ (under_ok h1) (under_ok h0) (under_ok h2)]
        rfl
      · cases h3
    · cases h
  · cases h

/-! slices -/
theorem cO_some {x : Option Operand} {s : Sl} {d : Nat} {κ : Nat → R} {res : XV × XW} (h : (cO x).f s d κ = some res) :
    (x = none ∧ κ d = some res) ∨ ∃ y, x = some y ∧ ∃ k, ∃ n : Nat, (cE y).f s = .int k n ∧ κ n = some res := by
  cases x with
  | none => exact .inl ⟨rfl, h⟩
  | some y =>
    change vInt ((cE y).f s) (fun _ i => iNat i κ) = some res at h
    obtain ⟨k, i, e, h1⟩ := vInt_some h
    obtain ⟨n, e2, h2⟩ := iNat_some h1
    exact .inr ⟨y, rfl, k, n, by rw [e, e2], h2⟩

theorem run_bounds (b : Bool) (len cap l h q : Nat) (lo hi mx : Option Value) (w : World)
    (hm : (mx = none ∧ q = cap) ∨ ∃ k, mx = some (.int k (q : Int)) ∧ q ≤ cap)
    (hh : (hi = none ∧ mx = none ∧ h = len) ∨ ∃ k, hi = some (.int k (h : Int)) ∧ h ≤ q)
    (hl : (lo = none ∧ l = 0) ∨ ∃ k, lo = some (.int k (l : Int)) ∧ l ≤ h) :
    (Instr.sliceBounds b len cap lo hi mx).run P w = .ok (l, h, q) w := by
  have sb : ∀ (k : IntKind) (n y : Nat) (c : BoundsCode), n ≤ y → (Instr.sliceBound (.int k (n : Int)) y c).run P w = .ok n w := fun k n y c hn => by
    have := run_sliceBound (P := P) w k n y c (by omega) (by omega)
    simpa using this
  rcases hm with ⟨rfl, rfl⟩ | ⟨k, rfl, hq⟩
  · rcases hh with ⟨rfl, _, rfl⟩ | ⟨k, rfl, hh⟩
    · rcases hl with ⟨rfl, rfl⟩ | ⟨k, rfl, hl⟩
      · simp [Instr.sliceBounds]
      · simp [Instr.sliceBounds, sb _ _ _ _ hl]
    · rcases hl with ⟨rfl, rfl⟩ | ⟨k, rfl, hl⟩
      · simp [Instr.sliceBounds, sb _ _ _ _ hh]
      · simp [Instr.sliceBounds, sb _ _ _ _ hl, sb _ _ _ _ hh]
  · rcases hh with ⟨_, e, _⟩ | ⟨k, rfl, hh⟩
    · cases e
    · rcases hl with ⟨rfl, rfl⟩ | ⟨k, rfl, hl⟩
      · simp [Instr.sliceBounds, sb _ _ _ _ hh, sb _ _ _ _ hq]
      · simp [Instr.sliceBounds, sb _ _ _ _ hl, sb _ _ _ _ hh, sb _ _ _ _ hq]
end Go.Ex
