/- Part of the proof of TopEntries: the executor is sound: next, copy, append. -/
import Derived.Test.YtcmohdedlclcgaaGreatDoorX04
import Derived.Laws.Append
import Derived.Lib.MakeNoZero
set_option linter.unusedVariables false
set_option linter.unusedSimpArgs false
set_option linter.unusedSectionVars false
namespace Go.Ex
variable [Val]
set_option linter.unusedSectionVars false
variable {P : Program}

theorem byteAt_ok (l : List UInt8) (n : Nat) (h : n < l.length) : byteAt (codeL l) n = l[n].toNat := by
  show (codeL l >>> (8 * n)) % 256 = _
  rw [← codeL_drop]
  have : l.drop n = l[n] :: l.drop (n + 1) := List.drop_eq_getElem_cons h
  rw [this]
  show (l[n].toNat + 256 * codeL (l.drop (n + 1))) % 256 = _
  have : l[n].toNat < 256 := l[n].toNat_lt
  omega

theorem next_ok (it : Operand) : EffS P (.next it true) (cNext it).f := by
  intro s E κ res h w₀ ρ w ev hR hV
  have hx : VR ρ ((cE it).f s) (ev it) := hV it (by simp [Op.operands])
  unfold cNext at h
  rw [be_eta it] at h
  dsimp only at h
  obtain ⟨r, o, e, h1⟩ := vPtr_some h
  obtain ⟨hg, h2⟩ := cut_some.1 h1
  rw [andB_eq, Bool.and_eq_true] at hg
  have ho := beq_eq' hg.1
  have hlim := blt_lt hg.2
  obtain ⟨n, c, pos, hb, h3⟩ := oIter_some h2
  rw [e, ho] at hx
  obtain ⟨rr, d, q, ex, hρ⟩ := hx.ptr_inv
  obtain ⟨hd, b, hw, b1, b2⟩ := hR.blk r _ rr d q hb hρ
  subst hd
  have hr : rr < w.heap.size := (Array.getElem?_eq_some_iff.1 hw).1
  have hbs : b.size = n := b1
  rw [iff_eq] at h3
  split at h3
  · rename_i hp
    have hp := blt_lt hp
    rw [forceN_eq] at h3
    obtain ⟨h128, h4⟩ := cut_some.1 h3
    have h128 := blt_lt h128
    have hby : byteAt c pos = (b.data.toList[pos]'(by omega)).toNat := by rw [← b2]; exact byteAt_ok _ _ _
    have hget : (b.get! pos).toNat = byteAt c pos := by
      rw [hby]
      have : b.get! pos = b.data[pos]! := rfl
      rw [this]
      simp
      rw [getElem!_pos b.data pos (by have : b.data.size = n := b1; omega)]
    have hdec : Utf8.decode b pos = (byteAt c pos, 1) := by
      unfold Utf8.decode
      simp only [Nat.add_zero, hget]
      rw [if_pos (by omega)]
    refine ⟨_, _, ρ, .tuple #[.bool true, goInt pos, .int .i32 (byteAt c pos : Nat)], { w with heap := w.heap.setIfInBounds rr (.stringIter b (pos + 1)) }, .value _, h4, Ext.refl _ _, Nat.le_refl _, ?_, ?_, fun op hop => ?_, .inl rfl⟩
    · refine putAt_ok hR hb hρ rfl rfl hlim (by simp) (fun q' hq' => ?_) rfl rfl rfl ⟨rfl, b, ?_, b1, b2⟩
      · simp only [Array.getElem?_setIfInBounds_ne (Ne.symm hq')]
      · simp [hr]
    · exact VR.tuple' (VRs.cons (.bool true) (VRs.cons (.int _ _) (VRs.one (.int _ _))))
    · have hlt : pos < b.size := by omega
      simp [execOp, hop, Instr.next, ex, getObj, Sem.run, hw, hlt, hdec, setObj]
  · rename_i hp
    have hp : ¬ pos < n := fun h' => hp (by simpa [Nat.blt_eq] using h')
    refine ⟨_, E, ρ, .tuple #[.bool false], w, .value _, h3, Ext.refl _ _, Nat.le_refl _, hR, VR.tuple' (VRs.one (.bool false)), fun op hop => ?_, .inl rfl⟩
    have hlt : ¬ pos < b.size := by omega
    simp [execOp, hop, Instr.next, ex, getObj, Sem.run, hw, hlt]

/-! bytes -/
theorem bytesL_ok (ρ : Rho) (l : List UInt8) (k : Nat) (hk : k ≤ l.length) : VRs ρ (bytesL k (codeL l)) ((l.take k).map fun b => Value.int .u8 (b.toNat : Int)) := by
  induction k generalizing l with
  | zero => exact VRs.nil ρ
  | succ k ih =>
    cases l with
    | nil => simp at hk
    | cons b l =>
      have hb : b.toNat < 256 := b.toNat_lt
      have e1 : codeL (b :: l) % 256 = b.toNat := by show (b.toNat + 256 * codeL l) % 256 = _; omega
      have e2 : codeL (b :: l) / 256 = codeL l := by show (b.toNat + 256 * codeL l) / 256 = _; omega
      rw [bytesL_succ, e1, e2]
      exact VRs.cons (.int _ _) (ih l (by simpa using hk))

/-! strings of atoms -/
theorem vStrA_some {v : XV} {κ : List Nat → R} {x : R} {r : XV × XW} (h : vStrA v κ x = some r) : (∃ l, v = .strA l ∧ κ l = some r) ∨ x = some r := by
  cases v <;> first | exact .inl ⟨_, rfl, h⟩ | exact .inr h
theorem VR.strA_inv {ρ : Rho} {l : List Nat} {u : Value} (h : VR ρ (.strA l) u) : ∃ s : ByteArray, u = .string s ∧ l.map Val.σ = s.data.toList.map (fun b => Value.int .u8 (b.toNat : Int)) := by
  cases h with
  | strA e => exact ⟨_, rfl, e⟩
theorem atomsL_eq : ∀ l : List Nat, atomsL l = l.map .atom
  | [] => rfl
  | i :: l => by show XV.atom i :: atomsL l = _; rw [atomsL_eq l]; rfl
theorem lenNs_eq : ∀ l : List Nat, lenNs l = l.length
  | [] => rfl
  | i :: l => by show Nat.succ (lenNs l) = _; rw [lenNs_eq l]; rfl
theorem atomsL_ok (ρ : Rho) (l : List Nat) : VRs ρ (atomsL l) (l.map Val.σ) := by
  rw [atomsL_eq]
  refine ⟨by simp, fun i x y hx hy => ?_⟩
  simp [List.getElem?_map] at hx hy
  obtain ⟨a, ha, rfl⟩ := hx
  obtain ⟨a', ha', rfl⟩ := hy
  rw [ha] at ha'; cases ha'
  exact .atom a

/-- what is appended -/
theorem newCells_ok {w₀ w : World} {ρ : Rho} {E : XW} (hR : Rep w₀ ρ E w) {sz : Nat} {v : XV} {u : Value} (hv : VR ρ v u) {κ : Nat → List XV → R} {res : XV × XW} (h : newCells sz v E κ = some res) :
    ∃ n l us, κ n l = some res ∧ l.length = n * sz ∧ VRs ρ l us ∧ (∀ y ∈ us, flatV y = true) ∧ (Builtin.lenOf u).run P w = .ok n w ∧ (Builtin.firstCells sz n u).run P w = .ok us.toArray w := by
  unfold newCells at h
  rcases vStrA_some h with ⟨l, rfl, h0⟩ | h
  · obtain ⟨hs, h2⟩ := cut_some.1 h0
    have hs := beq_eq' hs
    rw [forceN_eq] at h2
    obtain ⟨b, rfl, hb⟩ := hv.strA_inv
    have hlen : l.length = b.size := by
      have := congrArg List.length hb
      simpa using this
    have hvs := atomsL_ok ρ l
    rw [hb] at hvs
    refine ⟨_, _, _, h2, by rw [atomsL_eq, lenNs_eq, hs]; simp, hvs, fun y hy => ?_, by simp [Builtin.lenOf, lenNs_eq, hlen], ?_⟩
    · obtain ⟨z, _, rfl⟩ := List.mem_map.1 hy; rfl
    · have hd := extract_data b 0 (lenNs l)
      simp only [List.drop_zero, Nat.sub_zero] at hd
      simp only [Builtin.firstCells, Sem.run_pure]
      congr 1
      apply Array.ext'
      rw [Array.toList_map, hd, lenNs_eq, hlen, List.take_of_length_le (show b.data.toList.length ≤ b.size from Nat.le_refl _)]
  rcases vStrSl_some h with ⟨n, c, rfl, h1⟩ | ⟨b, o, n, c, m, rfl, h1⟩ | ⟨hn, h1⟩
  · obtain ⟨hs, h2⟩ := cut_some.1 h1
    have hs := beq_eq' hs
    obtain ⟨b, rfl, b1, b2⟩ := hv.str_inv
    have hbs : b.size = n := b1
    have hvs := bytesL_ok ρ b.data.toList n (by omega)
    rw [b2] at hvs
    refine ⟨n, _, _, h2, by rw [bytesL_length, hs]; omega, hvs, fun y hy => ?_, by simp [Builtin.lenOf, hbs], ?_⟩
    · obtain ⟨z, _, rfl⟩ := List.mem_map.1 hy; rfl
    · have hd := extract_data b 0 n
      simp only [List.drop_zero, Nat.sub_zero] at hd
      simp only [Builtin.firstCells, Sem.run_pure]
      congr 1
      apply Array.ext'
      rw [Array.toList_map, hd]
  · obtain ⟨r, d, q, c', rfl, hρ, _⟩ := hv.slice_inv
    obtain ⟨l, us, h2, hl, hvs, hf, hu, hrun⟩ := loadN_ok (P := P) hR hρ h1
    exact ⟨n, l, us, h2, hl, hvs, hf, by simp [Builtin.lenOf], by simpa [Builtin.firstCells] using hrun⟩
  · rcases hn with rfl | rfl
    · rw [hv.sliceNil_inv]
      exact ⟨0, [], [], h1, by simp, VRs.nil ρ, by simp, by simp [Builtin.lenOf], by simp [Builtin.firstCells]⟩
    · obtain ⟨a, c, rfl, _⟩ := hv.sliceE_inv
      exact ⟨0, [], [], h1, by simp, VRs.nil ρ, by simp, by simp [Builtin.lenOf], by simp [Builtin.firstCells, loadCells, loadCellsFrom]⟩

theorem copy_ok {c : Call} {t : TypeId} {x y : Operand} (hb : c.callee = .builtin .copy) (ht : c.argTypes[0]? = some t) (ha : c.args.toList = [x, y]) : EffS P (.call c) (cCopy P t x y).f := by
  intro s E κ res h w₀ ρ w ev hR hV
  have ha' : c.args = #[x, y] := Array.toList_inj.1 ha
  have hx : VR ρ ((cE x).f s) (ev x) := hV x (by simp [Op.operands, Call.operands, ha'])
  have hy : VR ρ ((cE y).f s) (ev y) := hV y (by simp [Op.operands, Call.operands, ha'])
  unfold cCopy at h
  split at h
  · rename_i e hu
    rw [be_eta x, be_eta y] at h
    cases hs : size P e with
    | none => rw [hs] at h; cases h
    | some sz =>
      rw [hs] at h
      dsimp only at h
      -- the end
      have fin : ∀ (k : Nat) (base : Option Addr) (dl dc : Nat) (us : List Value) (E' : XW) (w' : World), ev x = .slice base dl dc → κ (.int .i64 (.ofNat k)) E' = some res →
          (∃ m, (Builtin.lenOf (ev y)).run P w = .ok m w ∧ k = Nat.min m dl) → (Builtin.firstCells sz k (ev y)).run P w = .ok us.toArray w →
          (match base with | some a => (storeCells a us).run P w = .ok () w' | none => w' = w) → Rep w₀ ρ E' w' → E'.next = E.next →
          ∃ x E' ρ' v w' n, κ x E' = some res ∧ Ext E.next ρ ρ' ∧ E.next ≤ E'.next ∧ Rep w₀ ρ' E' w' ∧ VR ρ' x v ∧ Runs P ev (.call c) w n w' ∧ (n = .value v ∨ (n = .skip ∧ v = undef)) := by
        rintro k base dl dc us E' w' ex hk ⟨m, hl, hm⟩ hf hst hR' hE
        refine ⟨_, E', ρ, .int .i64 k, w', .value _, hk, Ext.refl _ _, by omega, hR', .int _ _, fun o ho => ?_, .inl rfl⟩
        rw [run_builtin hb ev o ho]
        simp only [builtin, ha']
        cases base with
        | none =>
          subst hst
          simp only [List.map_toArray, List.map_cons, List.map_nil, ex]
          simp [Builtin.copy_, ht, run_under hu, hl, ← hm, run_size hs, hf, goInt]
        | some a =>
          simp only [List.map_toArray, List.map_cons, List.map_nil, ex]
          simp [Builtin.copy_, ht, run_under hu, hl, ← hm, run_size hs, hf, goInt, hst]
      rcases vSl_some h with ⟨b, o, n, cc, m, ex, h1⟩ | ⟨ex, h1⟩ | ⟨_, h1⟩
      · rw [ex] at hx
        obtain ⟨r, d, q, c', evx, hρ, _⟩ := hx.slice_inv
        rcases vStrSl_some h1 with ⟨l, cd, ey, h2⟩ | ⟨b', o', l, c2, m2, ey, h2⟩ | ⟨ey, h2⟩
        · obtain ⟨h1s, h3⟩ := cut_some.1 h2
          have h1s := beq_eq' h1s
          rw [forceN_eq, minN_eq] at h3
          rw [ey] at hy
          obtain ⟨bs, evy, b1, b2⟩ := hy.str_inv
          have hbs : bs.size = l := b1
          have hvs := bytesL_ok ρ bs.data.toList (min l n) (by omega)
          rw [b2] at hvs
          obtain ⟨E', w', h4, hrun, hR', hE⟩ := storeAt_ok (P := P) hR hρ (by rw [bytesL_length, h1s]; exact (Nat.mul_one _).symm) hvs (fun u hu => by obtain ⟨z, _, rfl⟩ := List.mem_map.1 hu; rfl) h3
          refine fin (min l n) _ _ _ _ E' w' evx h4 ⟨l, by simp [evy, Builtin.lenOf, hbs], rfl⟩ ?_ hrun hR' hE
          have hd := extract_data bs 0 (min l n)
          simp only [List.drop_zero, Nat.sub_zero] at hd
          simp only [evy, Builtin.firstCells, Sem.run_pure]
          congr 1
          apply Array.ext'
          rw [Array.toList_map, hd]
        · rw [forceN_eq, minN_eq] at h2
          rw [ey] at hy
          obtain ⟨r', d', q', c3, evy, hρ', _⟩ := hy.slice_inv
          obtain ⟨ll, us, h3, hl, hvs, hf, hu', hrun'⟩ := loadN_ok (P := P) hR hρ' h2
          obtain ⟨E', w', h4, hrun, hR', hE⟩ := storeAt_ok (P := P) hR hρ hl hvs hf h3
          refine fin (min l n) _ _ _ _ E' w' evx h4 ⟨l, by simp [evy, Builtin.lenOf], rfl⟩ ?_ hrun hR' hE
          simpa [evy, Builtin.firstCells] using hrun'
        · have h0 : (Builtin.lenOf (ev y)).run P w = .ok 0 w ∧ (Builtin.firstCells sz 0 (ev y)).run P w = .ok #[] w := by
            rcases ey with ey | ey
            · rw [ey] at hy; rw [hy.sliceNil_inv]; exact ⟨by simp [Builtin.lenOf], by simp [Builtin.firstCells]⟩
            · rw [ey] at hy
              obtain ⟨a, c3, evy, _⟩ := hy.sliceE_inv
              rw [evy]; exact ⟨by simp [Builtin.lenOf], by simp [Builtin.firstCells, loadCells, loadCellsFrom]⟩
          exact fin 0 _ _ _ [] E w evx h2 ⟨0, h0.1, by simp⟩ h0.2 (by simp [storeCells]) hR rfl
      · rw [ex] at hx
        have evx := hx.sliceNil_inv
        have h0 : ∃ m, (Builtin.lenOf (ev y)).run P w = .ok m w ∧ (Builtin.firstCells sz 0 (ev y)).run P w = .ok #[] w := by
          rcases vStrSl_some h1 with ⟨l, cd, ey, _⟩ | ⟨b', o', l, c2, m2, ey, _⟩ | ⟨ey, _⟩
          · rw [ey] at hy
            obtain ⟨bs, evy, b1, b2⟩ := hy.str_inv
            refine ⟨bs.size, by simp [evy, Builtin.lenOf], ?_⟩
            have hd := extract_data bs 0 0
            simp only [List.drop_zero, Nat.sub_zero, List.take_zero] at hd
            simp only [evy, Builtin.firstCells, Sem.run_pure]
            congr 1
            apply Array.ext'
            rw [Array.toList_map, hd]; rfl
          · rw [ey] at hy
            obtain ⟨r', d', q', c3, evy, hρ', _⟩ := hy.slice_inv
            exact ⟨l, by simp [evy, Builtin.lenOf], by simp [evy, Builtin.firstCells, loadCells, loadCellsFrom]⟩
          · rcases ey with ey | ey
            · rw [ey] at hy; rw [hy.sliceNil_inv]; exact ⟨0, by simp [Builtin.lenOf], by simp [Builtin.firstCells]⟩
            · rw [ey] at hy
              obtain ⟨a, c3, evy, _⟩ := hy.sliceE_inv
              rw [evy]; exact ⟨0, by simp [Builtin.lenOf], by simp [Builtin.firstCells, loadCells, loadCellsFrom]⟩
        obtain ⟨m, hm, hf⟩ := h0
        have hk : κ (.int .i64 (.ofNat 0)) E = some res := by
          rcases vStrSl_some h1 with ⟨_, _, _, h2⟩ | ⟨_, _, _, _, _, _, h2⟩ | ⟨_, h2⟩ <;> exact h2
        exact fin 0 none 0 0 [] E w evx hk ⟨m, hm, by simp⟩ hf rfl hR rfl
      · cases h1
  · cases h

theorem clear_ok {c : Call} {t : TypeId} {x : Operand} (hb : c.callee = .builtin .clear) (ht : c.argTypes[0]? = some t) (ha : c.args.toList = [x]) : EffS P (.call c) (cClear P t x).f := by
  intro s E κ res h w₀ ρ w ev hR hV
  have ha' : c.args = #[x] := Array.toList_inj.1 ha
  have hx : VR ρ ((cE x).f s) (ev x) := hV x (by simp [Op.operands, Call.operands, ha'])
  unfold cClear at h
  split at h
  · rename_i e hu
    rw [be_eta x] at h
    cases hs : size P e with
    | none => rw [hs] at h; cases h
    | some sz =>
      cases hz : zeroOf P e with
      | none => rw [hs, hz] at h; cases h
      | some z =>
        rw [hs, hz] at h
        dsimp only at h
        rw [lenC_eq] at h
        cases hzl : Nat.beq z.length sz with
        | false => rw [hzl] at h; cases h
        | true =>
          rw [hzl] at h
          dsimp only at h
          have hzl := beq_eq' hzl
          obtain ⟨it, zv, hi, hzv, hvz, hfz⟩ := zeroOf_ok hz
          have hzs : zv.cells.size = sz := by
            have := (hvz ρ).1
            simp at this
            omega
          have fin : ∀ (E' : XW) (w' : World), κ undefX E' = some res → (Builtin.clear_ c.argTypes (default : TypeId) #[ev x]).run P w = .ok (.tuple #[]) w' → Rep w₀ ρ E' w' → E'.next = E.next →
              ∃ x E' ρ' v w' n, κ x E' = some res ∧ Ext E.next ρ ρ' ∧ E.next ≤ E'.next ∧ Rep w₀ ρ' E' w' ∧ VR ρ' x v ∧ Runs P ev (.call c) w n w' ∧ (n = .value v ∨ (n = .skip ∧ v = undef)) := by
            intro E' w' hk hr hR' hE
            refine ⟨_, E', ρ, .tuple #[], w', .value _, hk, Ext.refl _ _, by omega, hR', VR.undef, fun o ho => ?_, .inl rfl⟩
            rw [run_builtin hb ev o ho]
            simp only [builtin, ha', List.map_toArray, List.map_cons, List.map_nil]
            have : (Builtin.clear_ c.argTypes o.type #[ev x]).run P w = .ok (.tuple #[]) w' := hr
            simp [this]
          rcases vSl_some h with ⟨b, o, n, cc, m, ex, h1⟩ | ⟨ex, h1⟩ | ⟨ex, h1⟩
          · rw [ex] at hx
            obtain ⟨r, d, q, c', evx, hρ, _⟩ := hx.slice_inv
            rw [iff_eq] at h1
            split at h1
            · rename_i hn
              have hn := beq_eq' hn
              subst hn
              exact fin E w h1 (by simp [Builtin.clear_, ht, evx, run_under hu]) hR rfl
            · rename_i hn
              have hn : n ≠ 0 := fun e => hn (by simp [e])
              obtain ⟨E', w', h4, hrun, hR', hE⟩ := storeAt_ok (P := P) hR hρ (by rw [repL_length, hzl]; rfl) (repV_ok (hvz ρ) n) (repV_flat hfz n) h1
              refine fin E' w' h4 ?_ hR' hE
              have hzc : (Builtin.zeroCells zv.cells n).toList = repV zv.cells.toList n := by
                unfold Builtin.zeroCells
                rw [range_rep]
              obtain ⟨n, rfl⟩ : ∃ k, n = k + 1 := ⟨n - 1, by omega⟩
              simp [Builtin.clear_, ht, evx, run_under hu, run_zero hi hzv, hzc, hrun]
          · rw [ex] at hx
            exact fin E w h1 (by simp [Builtin.clear_, ht, hx.sliceNil_inv, run_under hu]) hR rfl
          · rw [ex] at hx
            obtain ⟨a, c3, evx, _⟩ := hx.sliceE_inv
            exact fin E w h1 (by simp [Builtin.clear_, ht, evx, run_under hu]) hR rfl
  · cases h
end Go.Ex
namespace Go.Ex
variable [Val]
set_option linter.unusedSectionVars false
variable {P : Program}

/-- two known blocks in one real block -/
theorem Rep.share {w₀ w : World} {ρ : Rho} {E : XW} (h : Rep w₀ ρ E w) (hn : E.next < lim) {b r d q d' q' : Nat} {x y : XB} (hb : E.heap.get b = some x) (hr : ρ b = some (r, d, q)) (hro : x.ro? = false)
    (hk : x.kin? = some E.next) (hky : y.kin? = some b) (hB : Blk (ρ.ext E.next (r, d', q')) w r d' q' y) :
    Rep w₀ (ρ.ext E.next (r, d', q')) ⟨E.heap.set dep E.next (some y), E.next + 1⟩ w := by
  have hf := h.fresh
  have hle : Rho.le ρ (ρ.ext E.next (r, d', q')) := Rho.le_ext hf
  have hget : ∀ n, (E.heap.set dep E.next (some y)).get n = if n = E.next then some y else E.heap.get n := fun n => get_set_dep _ _ _ hn
  have hbn : b ≠ E.next := fun e => by rw [e, hf] at hr; cases hr
  have only : ∀ n z d1 q1, n ≠ E.next → E.heap.get n = some z → ρ n = some (r, d1, q1) → n = b := by
    intro n z d1 q1 hne hz hρ
    rcases Nat.decEq n b with hnb | hnb
    · have := h.kin b n x z r d d1 q q1 (Ne.symm hnb) hb hz hr hρ
      rw [hk] at this
      cases this
      exact absurd rfl hne
    · exact hnb
  refine ⟨h.size, h.old, h.tape, h.os, h.out, h.ok, ?_, ?_, ?_, ?_, ?_⟩
  · obtain ⟨q0, h0⟩ := h.glob
    exact ⟨q0, hle _ _ h0⟩
  · intro n z hz
    unfold Rho.ext at hz
    split at hz
    · rename_i e; cases hz; subst e
      exact ⟨Nat.lt_succ_self _, (h.next b _ hr).2⟩
    · exact ⟨Nat.lt_succ_of_lt (h.next n z hz).1, (h.next n z hz).2⟩
  · intro n z r1 d1 q1 hz hρ
    rw [hget] at hz
    unfold Rho.ext at hρ
    split at hz
    · rename_i e
      rw [if_pos e] at hρ
      cases hz; cases hρ
      exact hB
    · rename_i e
      rw [if_neg e] at hρ
      exact (h.blk n z r1 d1 q1 hz hρ).mono hle
  · intro n z r1 d1 q1 hz hρ hz'
    rw [hget] at hz
    unfold Rho.ext at hρ
    split at hz
    · rename_i e
      rw [if_pos e] at hρ
      cases hρ
      exact h.own b x r d q hb hr hro
    · rename_i e
      rw [if_neg e] at hρ
      exact h.own n z r1 d1 q1 hz hρ hz'
  · intro n1 n2 z1 z2 r1 d1 d2 q1 q2 hne hz1 hz2 hρ1 hρ2
    rw [hget] at hz1 hz2
    unfold Rho.ext at hρ1 hρ2
    by_cases e1 : n1 = E.next
    · rw [if_pos e1] at hz1 hρ1
      cases hz1; cases hρ1
      have e2 : n2 ≠ E.next := fun e => hne (e1.trans e.symm)
      rw [if_neg e2] at hz2 hρ2
      rw [only n2 z2 d2 q2 e2 hz2 hρ2]
      exact hky
    · rw [if_neg e1] at hz1 hρ1
      by_cases e2 : n2 = E.next
      · rw [if_pos e2] at hz2 hρ2
        cases hz2; cases hρ2
        have := only n1 z1 d1 q1 e1 hz1 hρ1
        subst this
        rw [hb] at hz1
        cases hz1
        rw [hk, e2]
      · rw [if_neg e2] at hz2 hρ2
        exact h.kin n1 n2 z1 z2 r1 d1 d2 q1 q2 hne hz1 hz2 hρ1 hρ2

theorem Blk.take {ρ : Rho} {w : World} {r d q e n : Nat} {cs : List XV} {p : Bool} {k k' : Option Nat} {f : Nat} {ro : Bool} (h : Blk ρ w r d q (.cells e n cs p k f ro)) {m : Nat} (hm : m ≤ n) :
    Blk ρ w r d q (.cells e m (cs.take m) false k' f ro) := by
  obtain ⟨h0, hq, C, lo, hi, h1, h2, h3, h4, h5, h6⟩ := h
  refine ⟨by simp; omega, by omega, C, lo, hi, h1, h2, ?_, ⟨fun y hy => h4.1 y (by
    have e : ((C.toList.drop d).take n).take m = (C.toList.drop d).take m := by rw [List.take_take, Nat.min_eq_left hm]
    rw [← e] at hy
    exact List.mem_of_mem_take hy), h4.2⟩, (fun h => by cases h), h6⟩
  have := h3.take m
  rw [List.take_take, Nat.min_eq_left hm] at this
  exact this

/-- the run of an append that makes a new block -/
theorem run_append_new {t u ty e : TypeId} {w : World} {i : TypeInfo} {zv : Value} {sz len c' n : Nat} {ts : Array TypeId} {base : Option Addr} {y : Value} {du : TypeDesc} {old new : List Value}
    (ht : ts[0]? = some t) (hu2 : ts[1]? = some u) (hu : under P t = some (.slice e)) (hdu : under P u = some du) (hni : ∀ k, du ≠ .int k)
    (hi : P.info? e = some i) (hz : i.zero = some zv) (hs : size P e = some sz) (hl : (Builtin.lenOf y).run P w = .ok n w) (hgt : c' < len + n) (hsmall : (len + n) * i.bytes ≤ 140737488355328) (hint : len + n < 9223372036854775807)
    (hold : (Builtin.firstCells sz len (.slice base len c')).run P w.drew = .ok old.toArray w.drew)
    (hnew : (Builtin.firstCells sz n y).run P w.drew = .ok new.toArray w.drew) :
    ∃ cap, len + n ≤ cap ∧ (Builtin.append_ ts ty #[.slice base len c', y]).run P w =
      .ok (.slice (some ⟨w.heap.size, 0, none⟩) (len + n) cap) (w.drew.alloc (.cells (old ++ new ++ (Builtin.zeroCells zv.cells (cap - (len + n))).toList).toArray e)) := by
  refine ⟨(Question.appendCap (len + n) c' e).cut (w.tape w.drawn (.appendCap (len + n) c' e)), by simp only [Question.cut]; omega, ?_⟩
  have hz0 : ((match du with | .int _ => true | _ => false) : Bool) = false := by
    cases du <;> first | rfl | (exact absurd rfl (hni _))
  have h1 : ¬ len + n ≤ c' := by omega
  have h2 : ¬ (((len + n : Nat) : Int) > IntKind.i64.max ∧ (false = true ∨ i.bytes = 0)) := by
    rintro ⟨h, _⟩
    have : IntKind.i64.max = 9223372036854775807 := by decide
    omega
  have h3 : ¬ (Builtin.nextslicecap (len + n) c' * i.bytes > 2 ^ 48) := by
    have := growslice_fits (need := len + n) (old := c') (bytes := i.bytes) (by omega) hsmall
    omega
  have hti : ∀ w, (typeInfo e).run P w = .ok i w := fun w => by simp [typeInfo, hi]
  have hzr : ∀ w, (zeroValue e).run P w = .ok zv w := run_zero hi hz
  have hsr : ∀ w, (sizeOf e).run P w = .ok sz w := run_size hs
  have h63' : ¬ (9223372036854775807 < ((len : Int) + (n : Int))) := by omega
  have h3' : ¬ (281474976710656 < Builtin.nextslicecap (len + n) c' * i.bytes) := by omega
  simp [Builtin.append_, ht, hu2, run_under hu, run_under hdu, hsr, hl, h1, hti, h63', h3', Question.forced, hold, hnew, hzr, newRow]
  congr 2
  apply Array.ext'
  simp [List.append_assoc]
end Go.Ex
namespace Go.Ex
variable [Val]
set_option linter.unusedSectionVars false
variable {P : Program}

theorem splice_get (C us : List Value) (p i : Nat) (h : p + us.length ≤ C.length) :
    (C.take p ++ us ++ C.drop (p + us.length))[i]? = if i < p then C[i]? else if i < p + us.length then us[i - p]? else C[i]? := by
  have hl : (C.take p).length = p := by simp; omega
  by_cases h1 : i < p
  · rw [if_pos h1, List.append_assoc, List.getElem?_append_left (by omega), List.getElem?_take, if_pos h1]
  · rw [if_neg h1]
    by_cases h2 : i < p + us.length
    · rw [if_pos h2, List.append_assoc, List.getElem?_append_right (by omega), hl, List.getElem?_append_left (by omega)]
    · rw [if_neg h2, List.append_assoc, List.getElem?_append_right (by omega), hl, List.getElem?_append_right (by omega), List.getElem?_drop]
      congr 1
      omega

theorem notInt_ok {u : TypeId} (h : notInt P u = true) : ∃ du, under P u = some du ∧ ∀ k, du ≠ .int k := by
  unfold notInt at h
  split at h
  · cases h
  · rename_i d hd hu
    exact ⟨d, hu, fun k hk => hd k hk⟩
  · cases h

/-- cells are read, in each world of one heap -/
theorem loadN_all {w₀ w : World} {ρ : Rho} {E : XW} (h : Rep w₀ ρ E w) {b r d q o n : Nat} {κ : List XV → R} {res : XV × XW} (hr : ρ b = some (r, d, q)) (hl : loadN n E b o κ = some res) :
    ∃ l us, κ l = some res ∧ l.length = n ∧ VRs ρ l us ∧ (∀ v ∈ us, flatV v = true) ∧ us.length = n ∧ ∀ w', w'.heap = w.heap → (loadCells ⟨r, d + o, none⟩ n).run P w' = .ok us.toArray w' := by
  obtain ⟨e, m, cs, p, k, f, ro, hg, hk⟩ := hCells_some hl
  simp only [cut_some, dropL_eq, takeL_eq] at hk
  have hon : o + n ≤ m := ble_le hk.1
  obtain ⟨hcs, hq, C, lo, hi, h1, h2, h3, h4, _⟩ := h.blk b _ r d q hg hr
  have hm : ((cs.drop o).take n).length = n := by simp; omega
  have h2' := (h3.drop o).take n
  refine ⟨_, _, hk.2, hm, h2', fun v hv => h4.1 v ?_, by rw [← h2'.1, hm], fun w' hw' => ?_⟩
  · exact List.mem_of_mem_drop (List.mem_of_mem_take hv)
  · have hl : ((((C.toList.drop d).take m).drop o).take n).length = n := by rw [← h2'.1, hm]
    have hrun := run_loadCells_list (P := P) (w := w') ⟨r, d + o, none⟩ ((((C.toList.drop d).take m).drop o).take n) (fun j v hj => by
      have hadd : (⟨r, d + o, none⟩ : Addr).add j = ⟨r, d + o + j, none⟩ := by unfold Addr.add; split <;> simp_all
      rw [hadd]
      simp only [List.getElem?_take, List.getElem?_drop] at hj
      have hC : C[d + o + j]? = some v := by
        split at hj
        · split at hj
          · simpa [Nat.add_assoc] using hj
          · cases hj
        · cases hj
      simp [World.cell?, hw', h1, hC])
    rw [hl] at hrun
    exact hrun

theorem newCells_all {w₀ w : World} {ρ : Rho} {E : XW} (hR : Rep w₀ ρ E w) {sz : Nat} {v : XV} {u : Value} (hv : VR ρ v u) {κ : Nat → List XV → R} {res : XV × XW} (h : newCells sz v E κ = some res) :
    ∃ n l us, κ n l = some res ∧ l.length = n * sz ∧ VRs ρ l us ∧ (∀ y ∈ us, flatV y = true) ∧ (∀ w, (Builtin.lenOf u).run P w = .ok n w) ∧ ∀ w', w'.heap = w.heap → (Builtin.firstCells sz n u).run P w' = .ok us.toArray w' := by
  unfold newCells at h
  rcases vStrA_some h with ⟨l, rfl, h0⟩ | h
  · obtain ⟨hs, h2⟩ := cut_some.1 h0
    have hs := beq_eq' hs
    rw [forceN_eq] at h2
    obtain ⟨b, rfl, hb⟩ := hv.strA_inv
    have hlen : l.length = b.size := by
      have := congrArg List.length hb
      simpa using this
    have hvs := atomsL_ok ρ l
    rw [hb] at hvs
    refine ⟨_, _, _, h2, by rw [atomsL_eq, lenNs_eq, hs]; simp, hvs, fun y hy => ?_, fun w => by simp [Builtin.lenOf, lenNs_eq, hlen], fun w' _ => ?_⟩
    · obtain ⟨z, _, rfl⟩ := List.mem_map.1 hy; rfl
    · have hd := extract_data b 0 (lenNs l)
      simp only [List.drop_zero, Nat.sub_zero] at hd
      simp only [Builtin.firstCells, Sem.run_pure]
      congr 1
      apply Array.ext'
      rw [Array.toList_map, hd, lenNs_eq, hlen, List.take_of_length_le (show b.data.toList.length ≤ b.size from Nat.le_refl _)]
  rcases vStrSl_some h with ⟨n, c, rfl, h1⟩ | ⟨b, o, n, c, m, rfl, h1⟩ | ⟨hn, h1⟩
  · obtain ⟨hs, h2⟩ := cut_some.1 h1
    have hs := beq_eq' hs
    obtain ⟨b, rfl, b1, b2⟩ := hv.str_inv
    have hbs : b.size = n := b1
    have hvs := bytesL_ok ρ b.data.toList n (by omega)
    rw [b2] at hvs
    refine ⟨n, _, _, h2, by rw [bytesL_length, hs]; omega, hvs, fun y hy => ?_, fun w => by simp [Builtin.lenOf, hbs], fun w' _ => ?_⟩
    · obtain ⟨z, _, rfl⟩ := List.mem_map.1 hy; rfl
    · have hd := extract_data b 0 n
      simp only [List.drop_zero, Nat.sub_zero] at hd
      simp only [Builtin.firstCells, Sem.run_pure]
      congr 1
      apply Array.ext'
      rw [Array.toList_map, hd]
  · obtain ⟨r, d, q, c', rfl, hρ, _⟩ := hv.slice_inv
    obtain ⟨l, us, h2, hl, hvs, hf, hu, hrun⟩ := loadN_all (P := P) hR hρ h1
    exact ⟨n, l, us, h2, hl, hvs, hf, fun w => by simp [Builtin.lenOf], fun w' hw' => by simpa [Builtin.firstCells] using hrun w' hw'⟩
  · rcases hn with rfl | rfl
    · rw [hv.sliceNil_inv]
      exact ⟨0, [], [], h1, by simp, VRs.nil ρ, by simp, fun w => by simp [Builtin.lenOf], fun w' _ => by simp [Builtin.firstCells]⟩
    · obtain ⟨a, c, rfl, _⟩ := hv.sliceE_inv
      exact ⟨0, [], [], h1, by simp, VRs.nil ρ, by simp, fun w => by simp [Builtin.lenOf], fun w' _ => by simp [Builtin.firstCells, loadCells, loadCellsFrom]⟩

theorem cells_run {w : World} {r p n : Nat} {C : Array Value} {e : TypeId} {fr : Nat × Nat} (h1 : w.heap[r]? = some (.cells C e fr)) (hl : ((C.toList.drop p).take n).length = n) :
    ∀ w' : World, w'.heap = w.heap → (loadCells ⟨r, p, none⟩ n).run P w' = .ok ((C.toList.drop p).take n).toArray w' := by
  intro w' hw'
  have hrun := run_loadCells_list (P := P) (w := w') ⟨r, p, none⟩ ((C.toList.drop p).take n) (fun j v hj => by
    have hadd : (⟨r, p, none⟩ : Addr).add j = ⟨r, p + j, none⟩ := by unfold Addr.add; split <;> simp_all
    rw [hadd]
    simp only [List.getElem?_take, List.getElem?_drop] at hj
    have hC : C[p + j]? = some v := by
      split at hj
      · simpa using hj
      · cases hj
    simp [World.cell?, hw', h1, hC])
  rw [hl] at hrun
  exact hrun

theorem take_drop_take (L : List Value) (q o K : Nat) (h : o + K ≤ q) : ((L.take q).drop o).take K = (L.drop o).take K := by
  apply List.ext_getElem?
  intro j
  simp only [List.getElem?_take, List.getElem?_drop]
  split
  · rw [if_pos (by omega)]
  · rfl

/-- the run of an append that stays in place -/
theorem run_append_stay {t u ty : TypeId} {e : TypeId} {w w' : World} {sz len c' n : Nat} {ts : Array TypeId} {base : Option Addr} {y : Value} {du : TypeDesc} {new : List Value}
    (ht : ts[0]? = some t) (hu2 : ts[1]? = some u) (hu : under P t = some (.slice e)) (hdu : under P u = some du) (hni : ∀ k, du ≠ .int k)
    (hs : size P e = some sz) (hl : (Builtin.lenOf y).run P w = .ok n w) (hle : len + n ≤ c')
    (hnew : (Builtin.firstCells sz n y).run P w = .ok new.toArray w)
    (hst : match base with | some a => (storeCells (a.add (len * sz)) new).run P w = .ok () w' | none => w' = w) :
    (Builtin.append_ ts ty #[.slice base len c', y]).run P w = .ok (.slice base (len + n) c') w' := by
  cases base with
  | none =>
    subst hst
    simp [Builtin.append_, ht, hu2, run_under hu, run_under hdu, run_size hs, hl, hle, hnew]
  | some a =>
    simp [Builtin.append_, ht, hu2, run_under hu, run_under hdu, run_size hs, hl, hle, hnew, hst]

/-- a new block for an append -/
theorem grown {ρ : Rho} {w : World} {e sz k n cap : Nat} {lo : List XV} {l : List XV} {old us : List Value} {zv : Value} {kin : Option Nat} {id : Nat} (hid : ρ id = none)
    (ho : VRs ρ lo old) (hl : VRs ρ l us) (h1 : old.length = k * sz) (h2 : us.length = n * sz) (hz : zv.cells.size = sz) (hcap : k + n ≤ cap) (hfo : ∀ u ∈ old, flatV u = true) (hfu : ∀ u ∈ us, flatV u = true) (hfz : ∀ u ∈ zv.cells.toList, flatV u = true) :
    Blk (ρ.ext id (w.heap.size, 0, cap * sz)) { w with heap := w.heap.push (.cells (old ++ us ++ (Builtin.zeroCells zv.cells (cap - (k + n))).toList).toArray e) } w.heap.size 0 (cap * sz)
      (.cells e ((k + n) * sz) (lo ++ l) false kin 0 false) := by
  have hzl : (Builtin.zeroCells zv.cells (cap - (k + n))).toList = repV zv.cells.toList (cap - (k + n)) := by
    unfold Builtin.zeroCells; rw [range_rep]
  rw [hzl]
  have hk : (k + n) * sz = k * sz + n * sz := Nat.add_mul _ _ _
  have hle : (k + n) * sz ≤ cap * sz := Nat.mul_le_mul_right _ hcap
  have e1 := ho.1
  have e2 := hl.1
  refine ⟨by rw [List.length_append, hk]; omega, hle, _, 0, 0, by simp; rfl, ?_, ?_, ?_, (fun h => by cases h), fun _ => .inl rfl⟩
  · simp [repV_length, hz]
    have : cap = (k + n) + (cap - (k + n)) := by omega
    have h3 : cap * sz = (k + n) * sz + (cap - (k + n)) * sz := by rw [← Nat.add_mul]; congr 1
    omega
  · simp only [List.drop_zero]
    have : (old ++ us ++ repV zv.cells.toList (cap - (k + n))).take ((k + n) * sz) = old ++ us := by
      rw [List.take_append_of_le_length (by simp; omega), List.take_of_length_le (by simp; omega)]
    rw [List.append_assoc] at this
    rw [this]
    exact (ho.append hl).mono (Rho.le_ext hid)
  · refine flat_all ?_
    intro y hy
    simp only [List.mem_toArray, List.mem_append, or_assoc] at hy
    rcases hy with h | h | h
    · exact hfo y h
    · exact hfu y h
    · exact repV_flat hfz _ y h

theorem slice_grown (ρ : Rho) (id r n cap sz : Nat) (h : n ≤ cap) (hs : 0 < sz) : VR (ρ.ext id (r, 0, cap * sz)) (.slice id 0 n n sz) (.slice (some ⟨r, 0, none⟩) n cap) := by
  have := VR.slice (ρ := ρ.ext id (r, 0, cap * sz)) (b := id) (r := r) (d := 0) (q := cap * sz) (o := 0) (n := n) (c := n) (c' := cap) (m := sz) (Rho.ext_same _ _ _) h (fun h => by omega) (fun _ => by omega)
  simpa using this

set_option maxHeartbeats 2000000 in
theorem grow_ok {A : Value → World → Prop} {w₀ w : World} {ρ : Rho} {E : XW} (hR : Rep w₀ ρ E w) {e sz len n b o m cc c' r d q : Nat} {l : List XV} {us : List Value} {zv : Value} {κ : XV → XW → R} {res : XV × XW}
    (hρ : ρ b = some (r, d, q)) (hc2 : m = 0 → c' = cc) (hc3 : m ≠ 0 → o + c' * m ≤ q) (hgt : ¬ len + n ≤ cc) (hvs : VRs ρ l us) (hfu : ∀ u ∈ us, flatV u = true) (hul : us.length = n * sz) (g1 : 0 < sz)
    (hzs : zv.cells.size = sz) (hfz : ∀ u ∈ zv.cells.toList, flatV u = true) (h3 : grow e sz len n b o m l E κ = some res)
    (newRun : ∀ old : List Value, c' < len + n → len + n < 1000000 → (Builtin.firstCells sz len (.slice (some ⟨r, d + o, none⟩) len c')).run P w.drew = .ok old.toArray w.drew →
      ∃ cap, len + n ≤ cap ∧ A (.slice (some ⟨w.heap.size, 0, none⟩) (len + n) cap) (w.drew.alloc (.cells (old ++ us ++ (Builtin.zeroCells zv.cells (cap - (len + n))).toList).toArray e)))
    (stay : len + n ≤ c' → ∀ w', (storeCells ⟨r, d + (o + len * sz), none⟩ us).run P w = .ok () w' → A (.slice (some ⟨r, d + o, none⟩) (len + n) c') w') :
    ∃ v E' ρ' rv w', κ v E' = some res ∧ Ext E.next ρ ρ' ∧ E.next ≤ E'.next ∧ Rep w₀ ρ' E' w' ∧ VR ρ' v rv ∧ A rv w' := by
  unfold grow at h3
  obtain ⟨e', q0, cs, p, k, f, ro, hgb, h4⟩ := hCells_some h3
  obtain ⟨hg1, h5⟩ := cut_some.1 h4
  rw [andB_eq, Bool.and_eq_true] at hg1
  have i1 : o + len * sz ≤ q0 := ble_le hg1.1
  have i2 : len + n < 1000000 := blt_lt hg1.2
  obtain ⟨hcs, hqq, C, lo, hi', w1, w2, w3, w4, w5, w6⟩ := hR.blk b _ r d q hgb hρ
  simp only [appL_eq, takeL_eq, dropL_eq, Nat.add_eq, Nat.mul_eq, Nat.sub_eq, Nat.succ_eq_add_one] at h5
  -- what the old slice holds
  have hCl : C.toList.length = d + q := by simpa using w2
  have hul0 : ((C.toList.drop (d + o)).take (len * sz)).length = len * sz := by simp; omega
  have hv0 : VRs ρ ((cs.drop o).take (len * sz)) ((C.toList.drop (d + o)).take (len * sz)) := by
    have := (w3.drop o).take (len * sz)
    rw [take_drop_take _ _ _ _ i1, List.drop_drop] at this
    exact this
  have hf0 : ∀ u ∈ (C.toList.drop (d + o)).take (len * sz), flatV u = true := fun u hu => w4.1 u (by
    have : ((C.toList.drop d).take q0).drop o = ((C.toList.drop (d + o)).take (q0 - o)) := by rw [List.drop_take, List.drop_drop]
    refine List.mem_of_mem_drop (i := o) ?_
    rw [this]
    refine List.mem_of_mem_take (i := len * sz) ?_
    rw [List.take_take, Nat.min_eq_left (by omega)]
    exact hu)
  have hrun0 := cells_run (P := P) w1 hul0
  have hold : (Builtin.firstCells sz len (.slice (some ⟨r, d + o, none⟩) len c')).run P w.drew = .ok ((C.toList.drop (d + o)).take (len * sz)).toArray w.drew := hrun0 _ rfl
  rw [iff_eq] at h5
  split at h5
  · rename_i hm0
    have hcc := hc2 (beq_eq' hm0)
    obtain ⟨hlim, h6⟩ := newB_some h5
    obtain ⟨cap, hcap, hrun⟩ := newRun _ (by omega) i2 hold
    have hB := grown (ρ := ρ) (w := w.drew) (e := e) (sz := sz) (k := len) (n := n) (cap := cap) (kin := none) (id := E.next) hR.fresh hv0 hvs hul0 hul hzs hcap hf0 hfu hfz
    have hR' := (hR.drew (w.drawn + 1)).new hlim hB
    exact ⟨_, _, _, _, _, h6, Ext.ext _ _ _, Nat.le_succ _, hR', slice_grown ρ E.next w.heap.size (len + n) cap sz hcap g1, hrun⟩
  · rename_i hm0
    have hm0 : m ≠ 0 := fun e => hm0 (by simp [e])
    obtain ⟨hg2, h6⟩ := cut_some.1 h5
    simp only [andB_eq, notB_eq, Bool.and_eq_true, Bool.not_eq_true'] at hg2
    obtain ⟨j1, j2, j3, j4, j5, j6, j7⟩ := hg2
    have j1 := beq_eq' j1
    have j4 : f ≤ o + len * sz := ble_le j4
    have j5 := blt_lt j5
    have j7 := beq_eq' j7
    rw [forceN_eq] at h6
    obtain ⟨hlim, h7⟩ := cut_some.1 h6
    have hlim := blt_lt hlim
    have hroom := hc3 hm0
    rw [j1] at hroom
    have hfz' := w6 j3
    have hkin := kinOk_some j6
    have hgb' := hgb
    have hbk := hR.blk b _ r d q hgb hρ
    by_cases hin : len + n ≤ c'
    · -- in place
      have hmul : (len + n) * sz ≤ c' * sz := Nat.mul_le_mul_right _ hin
      have hadd2 : (len + n) * sz = len * sz + n * sz := Nat.add_mul _ _ _
      have hst := run_stores P r (d + (o + len * sz)) e' lo hi' us 0 C w w1 (by omega) hfu (fun j hj => by omega)
      have hC' : ∀ i, ((C.toList.take (d + (o + len * sz)) ++ us ++ C.toList.drop (d + (o + len * sz) + us.length)))[i]? = if i < d + (o + len * sz) then C.toList[i]? else if i < d + (o + len * sz) + us.length then us[i - (d + (o + len * sz))]? else C.toList[i]? :=
        fun i => splice_get C.toList us _ i (by omega)
      have hC'l : (C.toList.take (d + (o + len * sz)) ++ us ++ C.toList.drop (d + (o + len * sz) + us.length)).length = d + q := by
        simp; omega
      have hfl' : ∀ y ∈ (C.toList.take (d + (o + len * sz)) ++ us ++ C.toList.drop (d + (o + len * sz) + us.length)).toArray, flatV y = true := by
        intro y hy
        simp only [List.mem_toArray, List.mem_append] at hy
        rcases hy with (hy | hy) | hy
        · exact w4.2 j3 y (Array.mem_toList_iff.1 (List.mem_of_mem_take hy))
        · exact hfu y hy
        · exact w4.2 j3 y (Array.mem_toList_iff.1 (List.mem_of_mem_drop hy))
      generalize hLL : C.toList.take (d + (o + len * sz)) ++ us ++ C.toList.drop (d + (o + len * sz) + us.length) = L' at hC' hC'l hfl' hst
      have hrow := setRow_heap w r C L'.toArray e' (lo, hi') w1
      have hR1 := hR.turn (x' := .cells e' (o + len * sz) (cs.take (o + len * sz)) false (some E.next) f false) hgb hρ j3 j5 hkin (w' := w.setRow r L'.toArray)
        (by simp [World.setRow]) (fun q' hq' => by simp only [World.setRow, Array.getElem?_modify]; rw [if_neg (Ne.symm hq')]) rfl rfl rfl
        (by
          refine ⟨by simp; omega, by omega, _, lo, hi', hrow, by simp [hC'l], ?_, flat_all hfl', (fun h => by cases h), fun _ => hfz'⟩
          have e1 := w3.take (o + len * sz)
          have e2 : ((C.toList.drop d).take q0).take (o + len * sz) = (L'.drop d).take (o + len * sz) := by
            apply List.ext_getElem?
            intro j
            simp only [List.getElem?_take, List.getElem?_drop, hC']
            by_cases hj : j < o + len * sz
            · rw [if_pos hj, if_pos hj, if_pos (by omega), if_pos (by omega)]
            · rw [if_neg hj, if_neg hj]
          rw [e2] at e1
          exact e1)
      have hgb2 : ((kill E.heap k).set dep b (some (.cells e' (o + len * sz) (cs.take (o + len * sz)) false (some E.next) f false))).get b = some (.cells e' (o + len * sz) (cs.take (o + len * sz)) false (some E.next) f false) := by
        rw [get_set_dep _ _ _ j5, if_pos rfl]
      have hR2 := hR1.share (d' := d + o) (q' := q - o) (y := .cells e ((len + n) * sz) ((cs.drop o).take (len * sz) ++ l) false (some b) (f - o) false) hlim hgb2 hρ rfl rfl rfl
        (by
          refine ⟨by rw [List.length_append]; have h1 := hv0.1; have h2 := hul0; have h3 := hvs.1; have h4 := hul; have h5 := hadd2; omega, by omega, _, lo, hi', by rw [j7]; exact hrow, by simp [hC'l]; omega, ?_, flat_all hfl', (fun h => by cases h), fun _ => by omega⟩
          have e1 := hv0.append hvs
          have e2 : (C.toList.drop (d + o)).take (len * sz) ++ us = (L'.drop (d + o)).take ((len + n) * sz) := by
            apply List.ext_getElem?
            intro j
            simp only [List.getElem?_take, List.getElem?_drop, hC']
            by_cases hj : j < len * sz
            · rw [List.getElem?_append_left (by rw [hul0]; exact hj), List.getElem?_take, if_pos hj, List.getElem?_drop, if_pos (by omega), if_pos (by omega)]
            · rw [List.getElem?_append_right (by rw [hul0]; omega), hul0]
              by_cases hj2 : j < (len + n) * sz
              · rw [if_pos hj2, if_neg (by omega), if_pos (by omega)]
                congr 1
                omega
              · rw [if_neg hj2, List.getElem?_eq_none (by have h1 := hadd2; have h2 := hul; omega)]
          rw [e2] at e1
          exact e1.mono (Rho.le_ext hR.fresh))
      dsimp only at hR2
      refine ⟨_, _, _, .slice (some ⟨r, d + o, none⟩) (len + n) c', _, h7, Ext.ext _ _ _, Nat.le_succ _, hR2, ?_, stay hin _ hst⟩
      have := VR.slice (ρ := ρ.ext E.next (r, d + o, q - o)) (b := E.next) (r := r) (d := d + o) (q := q - o) (o := 0) (n := len + n) (c := len + n) (c' := c') (m := sz) (Rho.ext_same _ _ _) hin (fun h => by omega) (fun _ => by omega)
      simpa using this
    · -- a new block
      obtain ⟨cap, hcap, hrun⟩ := newRun _ (by omega) i2 hold
      have hRd := hR.drew (w.drawn + 1)
      have hR1 := hRd.turn (x' := .cells e' (o + len * sz) (cs.take (o + len * sz)) false (some E.next) f ro) hgb hρ j3 j5 hkin (w' := w.drew) rfl (fun _ _ => rfl) rfl rfl rfl
        ((hRd.blk b _ r d q hgb hρ).take i1)
      have hB := grown (ρ := ρ) (w := w.drew) (e := e) (sz := sz) (k := len) (n := n) (cap := cap) (kin := some b) (id := E.next) hR.fresh hv0 hvs hul0 hul hzs hcap hf0 hfu hfz
      have hB' : Blk (ρ.ext E.next (w.drew.heap.size, 0, cap * sz)) { w.drew with heap := w.drew.heap.push (.cells ((C.toList.drop (d + o)).take (len * sz) ++ us ++ (Builtin.zeroCells zv.cells (cap - (len + n))).toList).toArray e) } w.drew.heap.size 0 (cap * sz)
          (.cells e ((len + n) * sz) ((cs.drop o).take (len * sz) ++ l) false (some b) (f - o) false) := by
        obtain ⟨b0, b1, C1, lo1, hi1, b2, b3, b4, b5, b6, b7⟩ := hB
        refine ⟨b0, b1, C1, lo1, hi1, b2, b3, b4, b5, (fun h => by cases h), fun _ => ?_⟩
        rcases b7 rfl with h | h
        · exact .inl h
        · exact .inr (by omega)
      rw [show ro = false from j3] at hR1
      have hR2 := hR1.new hlim hB'
      dsimp only at hR2
      exact ⟨_, _, _, _, _, h7, Ext.ext _ _ _, Nat.le_succ _, hR2, slice_grown ρ E.next w.heap.size (len + n) cap sz hcap g1, hrun⟩

set_option maxHeartbeats 1000000 in
theorem append_ok {c : Call} {t u : TypeId} {x y : Operand} (hb : c.callee = .builtin .append) (ht : c.argTypes[0]? = some t) (hu2 : c.argTypes[1]? = some u) (ha : c.args.toList = [x, y]) : EffS P (.call c) (cAppend P t u x y).f := by
  intro s E κ res h w₀ ρ w ev hR hV
  have ha' : c.args = #[x, y] := Array.toList_inj.1 ha
  have hx : VR ρ ((cE x).f s) (ev x) := hV x (by simp [Op.operands, Call.operands, ha'])
  have hy : VR ρ ((cE y).f s) (ev y) := hV y (by simp [Op.operands, Call.operands, ha'])
  unfold cAppend at h
  cases hni : notInt P u with
  | false => rw [hni] at h; split at h <;> first | (cases h; done) | (rename_i h1 h2; cases h2)
  | true =>
    rw [hni] at h
    obtain ⟨du, hdu, hdn⟩ := notInt_ok hni
    split at h
    · rename_i e hu hnn
      rw [be_eta x, be_eta y] at h
      cases hs : size P e with
      | none => rw [hs] at h; cases h
      | some sz =>
        cases hby : bytesOf P e with
        | none => rw [hs, hby] at h; cases h
        | some by_ =>
          cases hz : zeroOf P e with
          | none => rw [hs, hby, hz] at h; cases h
          | some z =>
            rw [hs, hby, hz] at h
            dsimp only at h
            rw [lenC_eq] at h
            cases hg : andB (Nat.blt 0 sz) (andB (Nat.beq z.length sz) (Nat.blt by_ 1000000)) with
            | false => rw [hg] at h; cases h
            | true =>
              rw [hg] at h
              dsimp only at h
              simp only [andB_eq, Bool.and_eq_true] at hg
              obtain ⟨g1, g2, g3⟩ := hg
              have g1 := blt_lt g1
              have g2 := beq_eq' g2
              have g3 := blt_lt g3
              obtain ⟨it, zv, hi, hzv, hvz, hfz⟩ := zeroOf_ok hz
              have hzs : zv.cells.size = sz := by
                have := (hvz ρ).1
                simp at this
                omega
              have hib : it.bytes = by_ := by
                unfold bytesOf at hby
                split at hby
                · rename_i i' hi'
                  have := infoAt_ok hi'
                  rw [hi] at this
                  cases this
                  cases hby; rfl
                · cases hby
              obtain ⟨n, l, us, h1, hl, hvs, hfu, hlen', hfirstA⟩ := newCells_all (P := P) hR hy h
              have hlen := hlen' w
              have hfirst := hfirstA w rfl
              have hul : us.length = n * sz := by rw [← hvs.1, hl]
              -- the same in a world in which a number was drawn
              have hfirst' : (Builtin.firstCells sz n (ev y)).run P w.drew = .ok us.toArray w.drew := by
                exact hfirstA _ rfl
              have fin : ∀ (v : XV) (E' : XW) (ρ' : Rho) (r : Value) (w' : World), κ v E' = some res → Ext E.next ρ ρ' → E.next ≤ E'.next → Rep w₀ ρ' E' w' → VR ρ' v r →
                  (∀ ty, (Builtin.append_ c.argTypes ty #[ev x, ev y]).run P w = .ok r w') →
                  ∃ x E' ρ' v w' n, κ x E' = some res ∧ Ext E.next ρ ρ' ∧ E.next ≤ E'.next ∧ Rep w₀ ρ' E' w' ∧ VR ρ' x v ∧ Runs P ev (.call c) w n w' ∧ (n = .value v ∨ (n = .skip ∧ v = undef)) := by
                intro v E' ρ' r w' k1 k2 k3 k4 k5 k6
                refine ⟨v, E', ρ', r, w', .value r, k1, k2, k3, k4, k5, fun o ho => ?_, .inl rfl⟩
                rw [run_builtin hb ev o ho]
                simp only [builtin, ha', List.map_toArray, List.map_cons, List.map_nil]
                simp [k6]
              have newRun : ∀ (len c' : Nat) (base : Option Addr) (old : List Value), ev x = .slice base len c' → c' < len + n → len + n < 1000000 →
                  (Builtin.firstCells sz len (.slice base len c')).run P w.drew = .ok old.toArray w.drew →
                  ∃ cap, len + n ≤ cap ∧ ∀ ty, (Builtin.append_ c.argTypes ty #[ev x, ev y]).run P w =
                    .ok (.slice (some ⟨w.heap.size, 0, none⟩) (len + n) cap) (w.drew.alloc (.cells (old ++ us ++ (Builtin.zeroCells zv.cells (cap - (len + n))).toList).toArray e)) := by
                intro len c' base old ex hgt hsm hold
                have hsmall : (len + n) * it.bytes ≤ 140737488355328 := by
                  rw [hib]
                  have : (len + n) * by_ ≤ 1000000 * 1000000 := Nat.mul_le_mul (by omega) (by omega)
                  omega
                have key := fun ty => run_append_new (P := P) (ty := ty) (w := w) (base := base) ht hu2 hu hdu hdn hi hzv hs hlen hgt hsmall (by omega) hold hfirst'
                obtain ⟨cap, hc1, hc2⟩ := key 0
                refine ⟨cap, hc1, fun ty => ?_⟩
                rw [ex]
                exact hc2
              -- an append that stays in place and stores nothing
              have stay0 : n = 0 → ∀ (base : Option Addr) (len c' : Nat), ev x = .slice base len c' → len ≤ c' →
                  ∀ ty, (Builtin.append_ c.argTypes ty #[ev x, ev y]).run P w = .ok (.slice base len c') w := by
                intro hn base len c' ex hle ty
                subst hn
                have hus : us = [] := List.eq_nil_of_length_eq_zero (by rw [hul]; simp)
                rw [ex]
                exact run_append_stay (P := P) ht hu2 hu hdu hdn hs hlen (by omega) hfirst (by subst hus; cases base <;> simp [storeCells])
              rcases vSl_some h1 with ⟨b, o, len, cc, m, exx, h2⟩ | ⟨exx, h2⟩ | ⟨exx, h2⟩
              · rw [exx] at hx
                obtain ⟨r, d, q, c', evx, hρ, hc1, hc2, hc3⟩ := id hx.slice_inv
                obtain ⟨hlc, h3⟩ := cut_some.1 h2
                have hlc := ble_le hlc
                rw [iff_eq] at h3
                split at h3
                · rename_i hn
                  exact fin _ _ ρ _ w h3 (Ext.refl _ _) (Nat.le_refl _) hR hx (by rw [evx]; exact fun ty => by have := stay0 (beq_eq' hn) _ _ _ evx (by omega) ty; rwa [evx] at this)
                · rw [iff_eq] at h3
                  split at h3
                  · rename_i hle
                    have hle := ble_le hle
                    have hle' : len + n ≤ cc := hle
                    obtain ⟨E', w', h4, hrun, hR', hE⟩ := storeAt_ok (P := P) hR hρ hl hvs hfu h3
                    refine fin _ E' ρ (.slice (some ⟨r, d + o, none⟩) (len + n) c') w' h4 (Ext.refl _ _) (by omega) hR' (.slice hρ hc1 hc2 hc3) fun ty => ?_
                    rw [evx]
                    refine run_append_stay (P := P) ht hu2 hu hdu hdn hs hlen (by omega) hfirst ?_
                    have hadd : (⟨r, d + o, none⟩ : Addr).add (len * sz) = ⟨r, d + (o + len * sz), none⟩ := by
                      rw [Addr.add_lit, Nat.add_assoc]
                    simp only [hadd]
                    exact hrun
                  · rename_i hgt
                    have hgt : ¬ len + n ≤ cc := fun h => hgt (Nat.ble_eq_true_of_le h)
                    obtain ⟨v, E', ρ', rv, w', k1, k2, k3, k4, k5, k6⟩ := grow_ok (P := P) (A := fun rv w' => ∀ ty, (Builtin.append_ c.argTypes ty #[ev x, ev y]).run P w = .ok rv w') hR hρ hc2 hc3 hgt hvs hfu hul g1 hzs hfz h3
                      (fun old hgt hsm hold => newRun len c' _ old evx hgt hsm hold)
                      (fun hin w' hst ty => by
                        rw [evx]
                        refine run_append_stay (P := P) ht hu2 hu hdu hdn hs hlen hin hfirst ?_
                        have hadd : (⟨r, d + o, none⟩ : Addr).add (len * sz) = ⟨r, d + (o + len * sz), none⟩ := by
                          rw [Addr.add_lit, Nat.add_assoc]
                        simp only [hadd]
                        exact hst)
                    exact fin v E' ρ' rv w' k1 k2 k3 k4 k5 k6
              · rw [exx] at hx
                have evx := hx.sliceNil_inv
                rw [iff_eq] at h2
                split at h2
                · rename_i hn
                  exact fin _ _ ρ _ w h2 (Ext.refl _ _) (Nat.le_refl _) hR .sliceNil (fun ty => stay0 (beq_eq' hn) _ _ _ evx (Nat.le_refl _) ty)
                · rename_i hn
                  have hn : n ≠ 0 := fun e => hn (by simp [e])
                  obtain ⟨hsm, h3⟩ := cut_some.1 h2
                  have hsm := blt_lt hsm
                  obtain ⟨hlim, h4⟩ := newB_some h3
                  obtain ⟨cap, hcap, hrun⟩ := newRun 0 0 none [] evx (by omega) (by omega) (by simp [Builtin.firstCells])
                  have hB := grown (ρ := ρ) (w := w.drew) (e := e) (sz := sz) (k := 0) (n := n) (cap := cap) (kin := none) (id := E.next) hR.fresh (VRs.nil ρ) hvs (by simp) hul hzs hcap (by simp) hfu hfz
                  have hR' := (hR.drew (w.drawn + 1)).new hlim hB
                  simp only [Nat.zero_add, List.nil_append] at hR' hrun h4
                  exact fin _ _ _ _ _ h4 (Ext.ext _ _ _) (Nat.le_succ _) hR' (slice_grown ρ E.next w.heap.size n cap sz (by omega) g1) hrun
              · rw [exx] at hx
                obtain ⟨a, c', evx, _⟩ := id hx.sliceE_inv
                rw [iff_eq] at h2
                split at h2
                · rename_i hn
                  exact fin _ _ ρ _ w h2 (Ext.refl _ _) (Nat.le_refl _) hR hx (by rw [evx]; exact fun ty => by have := stay0 (beq_eq' hn) _ _ _ evx (by omega) ty; rwa [evx] at this)
                · cases h2
    · cases h
end Go.Ex
namespace Go.Ex
variable [Val]
set_option linter.unusedSectionVars false
variable {P : Program}

/-! a string over a block's bytes -/
theorem loadBytes_ok {w : World} {r : Nat} {C : Array Value} {e : TypeId} {fr : Nat × Nat} (h1 : w.heap[r]? = some (.cells C e fr)) : ∀ (ns : List Nat) (o : Nat) (acc : ByteArray),
    (∀ (i n : Nat), ns[i]? = some n → C[o + i]? = some (.int .u8 (n : Int))) → (loadBytes ⟨r, o, none⟩ acc ns.length).run P w = .ok ⟨acc.data ++ (ns.map fun n => UInt8.ofNat n).toArray⟩ w := by
  intro ns
  induction ns with
  | nil => intro o acc _; simp [loadBytes]
  | cons n ns ih =>
    intro o acc h
    have hc : C[o]? = some (.int .u8 (n : Int)) := by simpa using h 0 n rfl
    have hadd : (⟨r, o, none⟩ : Addr).add 1 = ⟨r, o + 1, none⟩ := Addr.add_lit _ _ _
    have := ih (o + 1) (acc.push (UInt8.ofNat n)) (fun i m hi => by
      have := h (i + 1) m (by simpa using hi)
      rwa [show o + (i + 1) = o + 1 + i by omega] at this)
    simp only [List.length_cons, loadBytes, Sem.run_bind]
    have hl : (load ⟨r, o, none⟩).run P w = .ok (.int .u8 (n : Int)) w := by simp [World.cell?, h1, hc]
    rw [hl]
    simp only [Result.andThen_ok, hadd]
    have e8 : (n : Int).toNat.toUInt8 = UInt8.ofNat n := by simp
    rw [e8, this]
    congr 1
    simp [ByteArray.push]

theorem rowAt_one {fits : TypeId → Bool} {e : TypeId} (hs : P.cellsOf e = 1) (hf : fits e = true) (d count off n : Nat) (h : off + n ≤ count) : rowAt P fits (d + 1) e count off n = true := by
  unfold rowAt
  simp only [hs]
  simp [hf, h, Nat.mod_one]

theorem unsafeString_ok {c : Call} {t : TypeId} {x y : Operand} (hb : c.callee = .builtin .unsafeString) (ht : c.argTypes[0]? = some t) (ha : c.args.toList = [x, y]) : EffS P (.call c) (cUnsafeString P t x y).f := by
  intro s E κ res h w₀ ρ w ev hR hV
  have ha' : c.args = #[x, y] := Array.toList_inj.1 ha
  have hx : VR ρ ((cE x).f s) (ev x) := hV x (by simp [Op.operands, Call.operands, ha'])
  have hy : VR ρ ((cE y).f s) (ev y) := hV y (by simp [Op.operands, Call.operands, ha'])
  unfold cUnsafeString at h
  split at h
  · rename_i u hu
    rw [be_eta x, be_eta y] at h
    dsimp only at h
    obtain ⟨k, i, ey, h1⟩ := vInt_some h
    obtain ⟨n, ei, h2⟩ := iNat_some h1
    obtain ⟨hn, h3⟩ := cut_some.1 h2
    have hn := blt_lt hn
    rw [ey, ei] at hy
    have evy := hy.int_inv
    have body : ∀ (p : Option Addr) (ty : TypeId), Builtin.unsafeString_ c.argTypes ty #[.pointer p, .int k (n : Int)] = (do
        let n' ← asInt (.int k (n : Int))
        let some pt := c.argTypes[0]? | stuck "unsafe.String: no argument types"
        if n' < 0 then runtimePanic (.error "unsafe.String: len out of range")
        if n' > IntKind.i64.max then unsupported (.unsafePointer "String: a length above the largest int")
        match p with
        | none =>
          if n' = 0 then pure (.string .empty)
          else runtimePanic (.error "unsafe.String: ptr is nil and len is not zero")
        | some a =>
          if n' = 0 then pure (.string .empty)
          else if ← variablesAt a (← elemOf pt) n'.toNat then do
            let s ← loadBytes a .empty n'.toNat
            freeze a n'.toNat
            pure (.string s)
          else unsupported (.unsafePointer "String: not so many bytes at ptr")) := fun _ _ => rfl
    have hneg : ¬ ((n : Int) < 0) := by omega
    have hmax : ¬ ((n : Int) > IntKind.i64.max) := by
      have : IntKind.i64.max = 9223372036854775807 := by decide
      omega
    have zero : ∀ (p : Option Addr), n = 0 → ∀ ty, (Builtin.unsafeString_ c.argTypes ty #[.pointer p, .int k (n : Int)]).run P w = .ok (.string .empty) w := by
      intro p hn0 ty
      subst hn0
      rw [body]
      cases p <;> simp [ht, asInt, asIntOf]
    rcases vPtrN_some h3 with ⟨b, o, ex, h4⟩ | ⟨ex, h4⟩
    · rw [ex] at hx
      obtain ⟨r, d, q, evx, hρ⟩ := hx.ptr_inv
      rw [iff_eq] at h4
      split at h4
      · rename_i hn0
        refine ⟨_, E, ρ, .string .empty, w, .value _, h4, Ext.refl _ _, Nat.le_refl _, hR, .str rfl rfl, fun op ho => ?_, .inl rfl⟩
        rw [run_builtin hb ev op ho]
        simp only [builtin, ha', List.map_toArray, List.map_cons, List.map_nil, evx, evy]
        simp [zero _ (beq_eq' hn0)]
      · rename_i hn0
        have hn0 : n ≠ 0 := fun e => hn0 (by simp [e])
        obtain ⟨e, m, cs, p, k', f, ro, hg, h5⟩ := hCells_some h4
        obtain ⟨hg2, h6⟩ := cut_some.1 h5
        simp only [andB_eq, notB_eq, Bool.and_eq_true, Bool.not_eq_true'] at hg2
        obtain ⟨j1, j2, j3, j4, j5, j6⟩ := hg2
        have j1 : o + n ≤ m := ble_le j1
        have j2 := blt_lt j2
        have j4 := beq_eq' j4
        simp only [takeL_eq, dropL_eq, maxN_eq, Nat.add_eq] at h6
        have hbk := hR.blk b _ r d q hg hρ
        obtain ⟨hcs, hqq, C, lo, hi, w1, w2, w3, w4, w5, w6⟩ := hbk
        have hv := (w3.drop o).take n
        rw [take_drop_take _ _ _ _ j1, List.drop_drop] at hv
        obtain ⟨ns, xs, eu, h7, hxs⟩ := strX_some h6 hv (by simp; omega)
        have hnl : ns.length = n := by
          have := congrArg List.length eu
          simp at this
          omega
        have hlb := loadBytes_ok (P := P) w1 ns (d + o) .empty (fun i n' hi' => by
          have : ((C.toList.drop (d + o)).take n)[i]? = some (.int .u8 (n' : Int)) := by rw [eu]; simp [hi']
          rw [List.getElem?_take] at this
          split at this
          · simpa using this
          · cases this)
        rw [hnl] at hlb
        have hsh : w.shape? r = some (e, C.size) := by simp [World.shape?, w1]
        have hva : (variablesAt ⟨r, d + o, none⟩ u n).run P w = .ok true w := by
          have hd : ∃ d', P.depth = d' + 1 := ⟨2 * (P.types.size + Made.depth) + 1, rfl⟩
          obtain ⟨d', hd⟩ := hd
          have : liesAt P P.depth e (C.size / P.cellsOf e) (d + o) u n = true := by
            rw [hd]
            unfold liesAt
            rw [hd] at j6 ⊢
            have := rowAt_one (P := P) (fits := (sameLayout P (d' + 1) · u)) j4 j6 d' (C.size / P.cellsOf e) (d + o) n (by rw [j4]; simp; omega)
            rw [this]; rfl
          simp [variablesAt, hsh, this]
        have hR' := hR.turn (x' := .cells e m cs p none (max f (o + n)) ro) hg hρ j5 j2 (kinOk_some j3) (w' := w.freeze ⟨r, d + o, none⟩ n)
          (by simp [World.freeze, hn0]) (fun q' hq' => by
            simp only [World.freeze, if_neg hn0, Array.getElem?_modify]
            rw [if_neg (Ne.symm hq')]) (by simp [World.freeze, hn0]) (by simp [World.freeze, hn0]) (by simp [World.freeze, hn0])
          (by
            refine ⟨hcs, hqq, C, (if lo == hi then (d + o, d + o + n) else (min lo (d + o), max hi (d + o + n))).1, (if lo == hi then (d + o, d + o + n) else (min lo (d + o), max hi (d + o + n))).2, ?_, w2, w3, w4, w5, fun hro => ?_⟩
            · simp only [World.freeze, if_neg hn0, Array.getElem?_modify, if_true, w1]
              rfl
            · right
              split
              · show d + o + n ≤ d + max f (o + n); omega
              · rename_i hlh
                have hlh : lo ≠ hi := fun e => hlh (by simp [e])
                rcases w6 hro with h | h
                · exact absurd h hlh
                · show max hi (d + o + n) ≤ d + max f (o + n); omega)
        dsimp only [XB.kin?] at hR'
        refine ⟨_, _, ρ, .string ⟨(ByteArray.empty).data ++ (ns.map fun n => UInt8.ofNat n).toArray⟩, _, .value _, h7, Ext.refl _ _, Nat.le_refl _, hR', hxs _ (by simp), fun op ho => ?_, .inl rfl⟩
        rw [run_builtin hb ev op ho]
        simp only [builtin, ha', List.map_toArray, List.map_cons, List.map_nil, evx, evy]
        have hel : (elemOf t).run P w = .ok u w := by simp [elemOf, run_under hu]
        have hni : ¬ ((n : Int) = 0) := by omega
        rw [body]
        simp only [Sem.run_bind, asInt, asIntOf, Sem.run_pure, Result.andThen_ok, ht, hneg, if_false, hmax, if_neg hni, hel, Int.toNat_natCast, hva, if_true, hlb, run_freeze]
    · rw [ex] at hx
      obtain ⟨hn0, h5⟩ := cut_some.1 h4
      refine ⟨_, E, ρ, .string .empty, w, .value _, h5, Ext.refl _ _, Nat.le_refl _, hR, .str rfl rfl, fun op ho => ?_, .inl rfl⟩
      rw [run_builtin hb ev op ho]
      simp only [builtin, ha', List.map_toArray, List.map_cons, List.map_nil, hx.ptrNil_inv, evy]
      simp [zero _ (beq_eq' hn0)]
  · cases h
end Go.Ex
