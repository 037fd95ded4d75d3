/- Part of the proof of TopEntries: the executor is sound: slices, structs, maps, new blocks. -/
import Derived.Test.YtcmohdedlclcgaaGreatDoorX03
import Derived.Laws.Tables
set_option linter.unusedVariables false
set_option linter.unusedSimpArgs false
set_option linter.unusedSectionVars false
namespace Go.Ex
variable [Val]
set_option linter.unusedSectionVars false
variable {P : Program}

theorem co_eta (x : Option Operand) : cO x = ⟨(cO x).f⟩ := rfl

/-- a bound as it is known -/
theorem bound_v {ρ : Rho} {s : Sl} {ev : Operand → Value} {x : Option Operand} (hV : ∀ y, x = some y → OpV ρ s ev y) {d : Nat} {κ : Nat → R} {res : XV × XW} (h : (cO x).f s d κ = some res) :
    ∃ n, κ n = some res ∧ ((x = none ∧ n = d) ∨ (x.isSome = true ∧ ∃ k, x.map ev = some (.int k (n : Int)))) := by
  rcases cO_some h with ⟨rfl, h1⟩ | ⟨y, rfl, k, n, e, h1⟩
  · exact ⟨d, h1, .inl ⟨rfl, rfl⟩⟩
  · have := hV y rfl
    unfold OpV at this
    rw [e] at this
    exact ⟨n, h1, .inr ⟨rfl, k, by simp [this.int_inv]⟩⟩

theorem extract_data (b : ByteArray) (l h : Nat) : (b.extract l h).data.toList = (b.data.toList.drop l).take (h - l) := by
  obtain ⟨⟨b⟩⟩ := b
  have := ByteArray.extract_mk b l h
  rw [this]

theorem slice_ok (t : TypeId) (x : Operand) (lo hi mx : Option Operand) : ValS P (.slice t x lo hi mx) (cSlice P t x lo hi mx).f := by
  intro s E κ res h w₀ ρ w ev hR hV
  have hx : VR ρ ((cE x).f s) (ev x) := hV x (by simp [Op.operands])
  have vlo : ∀ y, lo = some y → OpV ρ s ev y := fun y e => hV y (by simp [Op.operands, e])
  have vhi : ∀ y, hi = some y → OpV ρ s ev y := fun y e => hV y (by simp [Op.operands, e])
  have vmx : ∀ y, mx = some y → OpV ρ s ev y := fun y e => hV y (by simp [Op.operands, e])
  unfold cSlice at h
  rw [be_eta x, co_eta lo, co_eta hi, co_eta mx] at h
  dsimp only at h
  split at h
  · cases h
  rename_i hmh
  split at h
  · -- a string
    rename_i hu
    split at h
    · cases h
    · dsimp only at h
      obtain ⟨n, c, e, h1⟩ := vStr_some h
      obtain ⟨hh, h2, ch⟩ := bound_v vhi h1
      obtain ⟨i1, h3⟩ := cut_some.1 h2
      obtain ⟨ll, h4, cl⟩ := bound_v vlo h3
      obtain ⟨i2, h5⟩ := cut_some.1 h4
      replace i1 := ble_le i1
      replace i2 := ble_le i2
      rw [forceN_eq] at h5
      rw [e] at hx
      obtain ⟨b, eb, b1, b2⟩ := hx.str_inv
      have hsz : b.size = n := b1
      refine ⟨_, .string (b.extract ll hh), h5, ?_, fun o ho => ?_⟩
      · have hd := extract_data b ll hh
        refine .str ?_ ?_
        · rw [hd]
          show _ = hh - ll
          simp only [List.length_take, List.length_drop]
          omega
        · rw [hd, codeL_take _ _ (by simp only [List.length_drop]; omega), codeL_drop, b2]
          rfl
      · have hb := run_bounds (P := P) false b.size b.size ll hh b.size (lo.map ev) (hi.map ev) none w (.inl ⟨rfl, rfl⟩)
          (by rcases ch with ⟨rfl, rfl⟩ | ⟨_, k, e⟩
              · exact .inl ⟨rfl, rfl, hsz.symm⟩
              · exact .inr ⟨k, e, by omega⟩)
          (by rcases cl with ⟨rfl, rfl⟩ | ⟨_, k, e⟩
              · exact .inl ⟨rfl, rfl⟩
              · exact .inr ⟨k, e, i2⟩)
        simp [execOp, ho, Instr.sliceAt, Instr.slice, run_under hu, eb, hb]
  · -- a slice
    rename_i el hu
    split at h
    · rename_i sz hs
      dsimp only at h
      rcases vSl_some h with ⟨b, o, n, c, m, e, h1⟩ | ⟨e, h1⟩ | ⟨e, h1⟩
      · obtain ⟨q, h2, cq⟩ := bound_v vmx h1
        obtain ⟨i0, h3⟩ := cut_some.1 h2
        obtain ⟨hh, h4, ch⟩ := bound_v vhi h3
        obtain ⟨i1, h5⟩ := cut_some.1 h4
        obtain ⟨ll, h6, cl⟩ := bound_v vlo h5
        obtain ⟨i2, h7⟩ := cut_some.1 h6
        replace i0 := ble_le i0
        replace i1 := ble_le i1
        replace i2 := ble_le i2
        rw [e] at hx
        obtain ⟨r, d, room, c', ev', hρ, hc1, hc2, hc3⟩ := hx.slice_inv
        -- the real bound
        have hb : ∃ q', q ≤ q' ∧ (mx.isSome = true → q' = q) ∧ (mx = none → q' = c') ∧ (Instr.sliceBounds true n c' (lo.map ev) (hi.map ev) (mx.map ev)).run P w = .ok (ll, hh, q') w := by
          rcases cq with ⟨rfl, rfl⟩ | ⟨hs, k, em⟩
          · refine ⟨c', hc1, by simp, fun _ => rfl, run_bounds true n c' ll hh c' _ _ _ w (.inl ⟨rfl, rfl⟩) ?_ ?_⟩
            · rcases ch with ⟨rfl, rfl⟩ | ⟨_, k, e⟩
              · exact .inl ⟨rfl, rfl, rfl⟩
              · exact .inr ⟨k, e, by omega⟩
            · rcases cl with ⟨rfl, rfl⟩ | ⟨_, k, e⟩
              · exact .inl ⟨rfl, rfl⟩
              · exact .inr ⟨k, e, i2⟩
          · refine ⟨q, Nat.le_refl _, fun _ => rfl, (by rintro rfl; cases hs), run_bounds true n c' ll hh q _ _ _ w (.inr ⟨k, em, by omega⟩) ?_ ?_⟩
            · rcases ch with ⟨rfl, rfl⟩ | ⟨_, k, e⟩
              · rw [hs] at hmh; cases hmh
              · exact .inr ⟨k, e, i1⟩
            · rcases cl with ⟨rfl, rfl⟩ | ⟨_, k, e⟩
              · exact .inl ⟨rfl, rfl⟩
              · exact .inr ⟨k, e, i2⟩
        obtain ⟨q', hq1, hq2, hq3, hb⟩ := hb
        have hrun : ∀ op : Oper, op.op = .slice t x lo hi mx → (execOp ev op).run P w = .ok (.value (.slice (if q' = ll then some ⟨r, d + o, none⟩ else some ⟨r, d + o + ll * sz, none⟩) (hh - ll) (q' - ll))) w := by
          intro op ho
          have hadd : (⟨r, d + o, none⟩ : Addr).add (ll * sz) = ⟨r, d + o + ll * sz, none⟩ := Addr.add_lit _ _ _
          simp [execOp, ho, Instr.sliceAt, Instr.slice, run_under hu, ev', hb, run_size hs, hadd]
        rw [iff_eq] at h7
        split at h7
        · rename_i hql
          have hql := beq_eq' hql
          split at h7
          · have hqq := hq2 rfl
            have e3 : q' = ll := by omega
            refine ⟨_, _, h7, ?_, hrun⟩
            rw [if_pos e3]
            exact .slice hρ (Nat.sub_le_sub_right hq1 _) (fun _ => by rw [hqq]; rfl) (by simp)
          · rw [iff_eq] at h7
            split at h7
            · rename_i hm
              have hm := beq_eq' hm
              have hqc : q' = c := (hq3 rfl).trans (hc2 hm)
              rcases cq with ⟨_, eq⟩ | ⟨hs, _⟩
              · have e3 : q' = ll := by omega
                refine ⟨_, _, h7, ?_, hrun⟩
                rw [if_pos e3]
                exact .slice hρ (Nat.sub_le_sub_right hq1 _) (fun _ => by show q' - ll = q - ll; omega) (by simp)
              · cases hs
            · refine ⟨_, _, h7, ?_, hrun⟩
              have e4 : hh - ll = 0 := by omega
              rw [e4]
              split
              · exact .sliceE _ _ rfl
              · exact .sliceE _ _ rfl
        · rename_i hql
          have hql : q ≠ ll := fun e => hql (by simp [e])
          have e3 : q' ≠ ll := by omega
          split at h7
          · have hqq := hq2 rfl
            refine ⟨_, _, h7, ?_, hrun⟩
            rw [if_neg e3, Nat.add_assoc]
            exact .slice hρ (Nat.sub_le_sub_right hq1 _) (fun _ => by rw [hqq]; rfl) (by simp)
          · rcases cq with ⟨_, eq⟩ | ⟨hs, _⟩
            · have e5 := hq3 rfl
              obtain ⟨hms, h7⟩ := cut_some.1 h7
              rw [orB_eq, Bool.or_eq_true] at hms
              refine ⟨_, _, h7, ?_, hrun⟩
              rw [if_neg e3, Nat.add_assoc]
              refine .slice hρ (Nat.sub_le_sub_right hq1 _) (fun hm => ?_) (fun hm => ?_)
              · have := hc2 hm
                show q' - ll = q - ll
                omega
              · have h8 := hc3 hm
                have hsm : m = sz := by
                  rcases hms with h | h
                  · exact absurd (beq_eq' h) hm
                  · exact beq_eq' h
                have h9 : ll * sz + (q' - ll) * m = q' * m := by
                  rw [← hsm, ← Nat.add_mul]
                  congr 1
                  omega
                show o + ll * sz + (q' - ll) * m ≤ room
                rw [Nat.add_assoc, h9, e5]
                exact h8
            · cases hs
      · obtain ⟨q, h2, cq⟩ := bound_v vmx h1
        obtain ⟨i0, h3⟩ := cut_some.1 h2
        obtain ⟨hh, h4, ch⟩ := bound_v vhi h3
        obtain ⟨i1, h5⟩ := cut_some.1 h4
        obtain ⟨ll, h6, cl⟩ := bound_v vlo h5
        obtain ⟨i2, h7⟩ := cut_some.1 h6
        have i0 := beq_eq' i0
        have i1 := beq_eq' i1
        have i2 := beq_eq' i2
        rw [e] at hx
        have ev' := hx.sliceNil_inv
        have hb := run_bounds (P := P) true 0 0 ll hh q (lo.map ev) (hi.map ev) (mx.map ev) w
          (by rcases cq with ⟨rfl, rfl⟩ | ⟨_, k, e⟩
              · exact .inl ⟨rfl, rfl⟩
              · exact .inr ⟨k, e, by omega⟩)
          (by rcases ch with ⟨rfl, rfl⟩ | ⟨_, k, e⟩
              · cases mx with
                | none => exact .inl ⟨rfl, rfl, rfl⟩
                | some y => simp at hmh
              · exact .inr ⟨k, e, by omega⟩)
          (by rcases cl with ⟨rfl, rfl⟩ | ⟨_, k, e⟩
              · exact .inl ⟨rfl, rfl⟩
              · exact .inr ⟨k, e, by omega⟩)
        refine ⟨_, .slice none 0 0, h7, .sliceNil, fun op ho => ?_⟩
        simp [execOp, ho, Instr.sliceAt, Instr.slice, run_under hu, ev', hb, run_size hs, i0, i1, i2]
      · split at h1
        · cases h1
        · obtain ⟨hh, h4, ch⟩ := bound_v vhi h1
          obtain ⟨i1, h5⟩ := cut_some.1 h4
          obtain ⟨ll, h6, cl⟩ := bound_v vlo h5
          obtain ⟨i2, h7⟩ := cut_some.1 h6
          have i1 := beq_eq' i1
          have i2 := beq_eq' i2
          rw [e] at hx
          obtain ⟨a, c', ev', ha⟩ := hx.sliceE_inv
          have hb := run_bounds (P := P) true 0 c' ll hh c' (lo.map ev) (hi.map ev) none w (.inl ⟨rfl, rfl⟩)
            (by rcases ch with ⟨rfl, rfl⟩ | ⟨_, k, e⟩
                · exact .inl ⟨rfl, rfl, rfl⟩
                · exact .inr ⟨k, e, by omega⟩)
            (by rcases cl with ⟨rfl, rfl⟩ | ⟨_, k, e⟩
                · exact .inl ⟨rfl, rfl⟩
                · exact .inr ⟨k, e, by omega⟩)
          have hadd : a.add (0 * sz) = a := by simp [Addr.add]
          refine ⟨_, .slice (some a) 0 c', h7, .sliceE a c' ha, fun op ho => ?_⟩
          subst i1; subst i2
          simp [execOp, ho, Instr.sliceAt, Instr.slice, run_under hu, ev', hb, run_size hs]
          intro _
          simpa using hadd
    · cases h
  · -- an array
    rename_i n el hu
    split at h
    · rename_i sz hs
      dsimp only at h
      obtain ⟨b, o, e, h1⟩ := vPtr_some h
      obtain ⟨q, h2, cq⟩ := bound_v vmx h1
      obtain ⟨i0, h3⟩ := cut_some.1 h2
      obtain ⟨hh, h4, ch⟩ := bound_v vhi h3
      obtain ⟨i1, h5⟩ := cut_some.1 h4
      obtain ⟨ll, h6, cl⟩ := bound_v vlo h5
      obtain ⟨i2, h7⟩ := cut_some.1 h6
      replace i0 := ble_le i0
      replace i1 := ble_le i1
      replace i2 := ble_le i2
      rw [e] at hx
      obtain ⟨r, d, room, ev', hρ⟩ := hx.ptr_inv
      have hb := run_bounds (P := P) false n n ll hh q (lo.map ev) (hi.map ev) (mx.map ev) w
        (by rcases cq with ⟨rfl, rfl⟩ | ⟨_, k, e⟩
            · exact .inl ⟨rfl, rfl⟩
            · exact .inr ⟨k, e, i0⟩)
        (by rcases ch with ⟨rfl, rfl⟩ | ⟨_, k, e⟩
            · cases mx with
              | none => exact .inl ⟨rfl, rfl, rfl⟩
              | some y => simp at hmh
            · exact .inr ⟨k, e, i1⟩)
        (by rcases cl with ⟨rfl, rfl⟩ | ⟨_, k, e⟩
            · exact .inl ⟨rfl, rfl⟩
            · exact .inr ⟨k, e, i2⟩)
      have hrun : ∀ op : Oper, op.op = .slice t x lo hi mx → (execOp ev op).run P w = .ok (.value (.slice (if q = ll then some ⟨r, d + o, none⟩ else some ⟨r, d + o + ll * sz, none⟩) (hh - ll) (q - ll))) w := by
        intro op ho
        have hadd : (⟨r, d + o, none⟩ : Addr).add (ll * sz) = ⟨r, d + o + ll * sz, none⟩ := Addr.add_lit _ _ _
        simp [execOp, ho, Instr.sliceAt, run_under hu, ev', Instr.sureAddr, hb, run_size hs, hadd]
        split <;> rfl
      rw [iff_eq] at h7
      split at h7
      · rename_i hql
        refine ⟨_, _, h7, ?_, hrun⟩
        rw [if_pos (beq_eq' hql)]
        exact .slice hρ (Nat.le_refl _) (fun _ => rfl) (by simp)
      · rename_i hql
        have hql : q ≠ ll := fun e => hql (by simp [e])
        refine ⟨_, _, h7, ?_, hrun⟩
        rw [if_neg hql, Nat.add_assoc]
        exact .slice hρ (Nat.le_refl _) (fun _ => rfl) (by simp)
    · cases h
  · cases h
end Go.Ex
namespace Go.Ex
variable [Val]
set_option linter.unusedSectionVars false
variable {P : Program}

/-! rows of zero cells -/
def repV (l : List Value) : Nat → List Value
  | 0 => []
  | n + 1 => l ++ repV l n
theorem repV_ok {ρ : Rho} {l : List XV} {us : List Value} (h : VRs ρ l us) (n : Nat) : VRs ρ (repL l n) (repV us n) := by
  induction n with
  | zero => exact VRs.nil ρ
  | succ n ih => rw [repL_succ]; exact h.append ih
theorem repV_flat {us : List Value} (h : ∀ u ∈ us, flatV u = true) (n : Nat) : ∀ u ∈ repV us n, flatV u = true := by
  induction n with
  | zero => simp [repV]
  | succ n ih => intro u hu; rcases List.mem_append.1 hu with hu | hu; exact h u hu; exact ih u hu
theorem repV_length (us : List Value) (n : Nat) : (repV us n).length = n * us.length := by
  induction n with
  | zero => simp [repV]
  | succ n ih => simp only [repV, List.length_append, ih, Nat.succ_mul]; omega
theorem repV_get (us : List Value) (n i : Nat) (h : i < n * us.length) : (repV us n)[i]? = us[i % us.length]? := by
  induction n generalizing i with
  | zero => simp at h
  | succ n ih =>
    simp only [repV]
    by_cases hi : i < us.length
    · rw [List.getElem?_append_left hi, Nat.mod_eq_of_lt hi]
    · have hpos : 0 < us.length := by
        rcases Nat.eq_zero_or_pos us.length with h0 | h0
        · rw [h0] at h; simp at h
        · exact h0
      rw [List.getElem?_append_right (by omega), ih (i - us.length) (by have h' := h; rw [Nat.add_one_mul] at h'; omega)]
      congr 1
      exact (Nat.mod_eq_sub_mod (by omega)).symm
theorem range_rep (z : Array Value) (n : Nat) : ((Array.range (n * z.size)).map fun i => z[i % z.size]!) = (repV z.toList n).toArray := by
  apply Array.ext'
  apply List.ext_getElem?
  intro i
  simp only [Array.toList_map, Array.toList_range, List.getElem?_map]
  by_cases h : i < n * z.size
  · rw [List.getElem?_range h, repV_get _ _ _ (by simpa using h)]
    have hpos : 0 < z.size := by
      rcases Nat.eq_zero_or_pos z.size with h0 | h0
      · rw [h0] at h; simp at h
      · exact h0
    have hm : i % z.size < z.size := Nat.mod_lt _ hpos
    simp [hm]
  · rw [List.getElem?_eq_none (by simpa using h), List.getElem?_eq_none (by rw [repV_length]; simpa using h)]
    rfl

/-! structs, arrays -/
theorem fold_set (vs : List Value) : ∀ (off k : Nat) (cells : Array Value), off + k + vs.length ≤ cells.size →
    ((vs.zipIdx k).foldl (fun (cs : Array Value) (p : Value × Nat) => cs.setIfInBounds (off + p.2) p.1) cells).toList = cells.toList.take (off + k) ++ vs ++ cells.toList.drop (off + k + vs.length) := by
  induction vs with
  | nil => intro off k cells h; simp
  | cons v vs ih =>
    intro off k cells h
    simp only [List.zipIdx_cons, List.foldl_cons]
    rw [ih off (k + 1) _ (by simp at h ⊢; omega)]
    have e := list_seg_step cells.toList (off + k) v vs (by simp at h ⊢; omega)
    simpa [Array.toList_setIfInBounds, Nat.add_assoc] using e

theorem fill_step (vs : Array Value) (off : Nat) (us : List Value) (h : off + vs.size ≤ us.length) :
    (vs.zipIdx.foldl (fun cs (c, j) => cs.setIfInBounds (off + j) c) us.toArray) = (us.take off ++ vs.toList ++ us.drop (off + vs.size)).toArray := by
  apply Array.ext'
  have := fold_set vs.toList off 0 us.toArray (by simpa using h)
  rw [← Array.foldl_toList]
  simp only [Array.toList_zipIdx]
  simpa using this

theorem cFill_ok {ρ : Rho} {s : Sl} {ev : Operand → Value} {place place' : Nat → Option (Nat × Nat)} {tot : Nat} (hp : ∀ i p, place i = some p → place' i = some p) :
    ∀ (parts : List (Nat × Operand)) (cs : List XV) (us : List Value) (κ : List XV → R) (res : XV × XW), (cFill place tot parts).f s cs κ = some res →
    (∀ p ∈ parts, OpV ρ s ev p.2) → cs.length = tot → VRs ρ cs us → (∀ u ∈ us, flatV u = true) →
    ∃ cs' us', κ cs' = some res ∧ cs'.length = tot ∧ VRs ρ cs' us' ∧ (∀ u ∈ us', flatV u = true) ∧ Instr.fill place' us.toArray (parts.map fun p => (p.1, ev p.2)) = some us'.toArray
  | [], cs, us, κ, res, h, _, hl, hv, hf => ⟨cs, us, h, hl, hv, hf, rfl⟩
  | (i, x) :: rest, cs, us, κ, res, h, hV, hl, hv, hf => by
    unfold cFill at h
    rw [be_eta x, show cFill place tot rest = ⟨(cFill place tot rest).f⟩ from rfl] at h
    cases hpl : place i with
    | none => rw [hpl] at h; cases h
    | some p =>
      obtain ⟨off, sz⟩ := p
      rw [hpl] at h
      dsimp only at h
      cases hb : Nat.ble (off + sz) tot with
      | false => rw [hb] at h; cases h
      | true =>
        rw [hb] at h
        dsimp only at h
        have hb := ble_le hb
        have hx : VR ρ ((cE x).f s) (ev x) := hV (i, x) (by simp)
        obtain ⟨n, l, h1, hln, hvl, hfl⟩ := vCells_some hx h
        obtain ⟨hn, h2⟩ := cut_some.1 h1
        have hn := beq_eq' hn
        have hsz : (ev x).cells.size = sz := by
          have := hvl.1
          simp at this
          omega
        have hlen := hv.1
        have hv2 := VRs.of_parts (d := 0) (o := off) (n := tot) (C := us) hl (by rw [List.drop_zero, List.take_of_length_le (by omega)]; exact hv) hvl (by omega)
        have hus : (us.take off ++ (ev x).cells.toList ++ us.drop (off + (ev x).cells.toList.length)).length = tot := by simp; omega
        rw [List.drop_zero, Nat.zero_add, List.take_of_length_le (by rw [hus]; exact Nat.le_refl _)] at hv2
        have hf2 : ∀ u ∈ us.take off ++ (ev x).cells.toList ++ us.drop (off + (ev x).cells.toList.length), flatV u = true := by
          intro u hu
          simp only [List.mem_append] at hu
          rcases hu with (hu | hu) | hu
          · exact hf u (List.mem_of_mem_take hu)
          · exact hfl u hu
          · exact hf u (List.mem_of_mem_drop hu)
        obtain ⟨cs', us', h3, h4, h5, h6, h7⟩ := cFill_ok hp rest _ _ κ res h2 (fun p hp => hV p (by simp [hp])) (by rw [setL_length _ _ _ (by omega)]; exact hl) hv2 hf2
        refine ⟨cs', us', h3, h4, h5, h6, ?_⟩
        simp only [List.map_cons, Instr.fill, hp i _ hpl]
        have hc1 : ¬ ((ev x).cells.size ≠ sz ∨ off + (ev x).cells.size > us.toArray.size) := by simp; omega
        rw [if_neg (by simpa using hc1), fill_step _ _ _ (by omega)]
        simpa using h7

theorem fieldsOk_some : ∀ (fs : List Field), fieldsOk P fs = true → ∃ places, fs.mapM (fun f => (P.info? f.type).map fun i => (f.offset, i.size)) = some places ∧
    ∀ (i : Nat) (f : Field), fs[i]? = some f → ∀ s, size P f.type = some s → places[i]? = some (f.offset, s)
  | [], _ => ⟨[], rfl, by simp⟩
  | f :: fs, h => by
    unfold fieldsOk at h
    split at h
    · rename_i s hs
      obtain ⟨places, h1, h2⟩ := fieldsOk_some fs h
      obtain ⟨i, hi, his⟩ := size_ok hs
      refine ⟨(f.offset, s) :: places, ?_, ?_⟩
      · simp [List.mapM_cons, hi, h1, his]
      · intro j g hg t ht
        cases j with
        | zero => simp at hg; subst hg; rw [hs] at ht; cases ht; rfl
        | succ j => simpa using h2 j g (by simpa using hg) t ht
    · cases h

theorem build_ok (t : TypeId) (parts : Array (Nat × Operand)) : ValS P (.build t parts) (cBuild P t parts.toList).f := by
  intro s E κ res h w₀ ρ w ev hR hV
  have hV' : ∀ p ∈ parts.toList, OpV ρ s ev p.2 := fun p hp => hV p.2 (by simp [Op.operands]; exact ⟨p.1, by simpa using hp⟩)
  have fin : ∀ (n : Nat) (cs : List XV) (us : List Value), κ (.agg n cs) = some res → cs.length = n → VRs ρ cs us → (∀ u ∈ us, flatV u = true) →
      P.built t (parts.toList.map fun p => (p.1, ev p.2)) = some us.toArray → ∃ z v, κ z = some res ∧ VR ρ z v ∧ Runs P ev (.build t parts) w (.value v) w := by
    intro n cs us h1 h2 h3 h4 h5
    refine ⟨_, _, h1, VR.agg' h2 h3 h4, fun o ho => ?_⟩
    have := run_build (P := P) w t (parts.map fun p => (p.1, ev p.2)) us.toArray (by simpa using h5)
    simp [execOp, ho, this]
  unfold cBuild at h
  split at h
  · rename_i z fs hz hu
    obtain ⟨it, zv, hi, hzv, hvz, hfz⟩ := zeroOf_ok hz
    cases hfo : fieldsOk P fs.toList with
    | false => rw [hfo] at h; cases h
    | true =>
      rw [hfo] at h
      dsimp only at h
      rw [lenC_eq] at h
      obtain ⟨places, hp1, hp2⟩ := fieldsOk_some fs.toList hfo
      obtain ⟨cs, us, h1, h2, h3, h4, h5⟩ := cFill_ok (ρ := ρ) (ev := ev) (place' := fun i => places.toArray[i]?) (fun i p hp => by
        unfold fieldPlace at hp
        split at hp
        · rename_i f hf
          split at hp
          · rename_i s' hs'
            cases hp
            have := hp2 i f (by simpa using hf) s' hs'
            simpa using this
          · cases hp
        · cases hp) parts.toList z zv.cells.toList _ _ h hV' rfl (hvz ρ) hfz
      refine fin _ cs us h1 h2 h3 h4 ?_
      unfold Program.built
      simp only [hi, under_ok hu, hzv, hp1]
      simpa using h5
  · rename_i z n e hz hu
    obtain ⟨it, zv, hi, hzv, hvz, hfz⟩ := zeroOf_ok hz
    split at h
    · rename_i sz hs
      obtain ⟨ie, hie, hies⟩ := size_ok hs
      rw [lenC_eq] at h
      obtain ⟨cs, us, h1, h2, h3, h4, h5⟩ := cFill_ok (ρ := ρ) (ev := ev) (place' := fun i => some (i * ie.size, ie.size)) (fun i p hp => by
        cases hp; simp [hies]) parts.toList z zv.cells.toList (fun cs => κ (.agg z.length cs)) _ h hV' rfl (hvz ρ) hfz
      refine fin _ cs us h1 h2 h3 h4 ?_
      unfold Program.built
      simp only [hi, under_ok hu, hzv, hie]
      simpa using h5
    · cases h
  · cases h
end Go.Ex
namespace Go.Ex
variable [Val]
set_option linter.unusedSectionVars false
variable {P : Program}

/-! maps -/
theorem keyIs_some {b : Bool} {i : XV} {x : R} {res : XV × XW} (h : keyIs b i x = some res) : x = some res ∧ (b = true → ∃ k n, i = .int k n) ∧ (b = false → ∃ n c, i = .str n c) := by
  cases b with
  | true => obtain ⟨k, n, e, h1⟩ := vInt_some h; exact ⟨h1, (fun _ => ⟨k, n, e⟩), (fun h => by cases h)⟩
  | false => obtain ⟨k, n, e, h1⟩ := vStr_some h; exact ⟨h1, (fun h => by cases h), (fun _ => ⟨k, n, e⟩)⟩

theorem cKey_ok {t : TypeId} {b : Bool} (h : cKey P t = some b) : (b = true ∧ ∃ k, under P t = some (.int k)) ∨ (b = false ∧ under P t = some .string) := by
  unfold cKey at h
  split at h <;> cases h
  · rename_i k hu; exact .inl ⟨rfl, k, hu⟩
  · rename_i hu; exact .inr ⟨rfl, hu⟩

/-- a key as it is, and its map's keys' type -/
def KeyOk (P : Program) (kt : TypeId) (i : XV) : Prop := (∃ k, under P kt = some (.int k) ∧ ∃ k n, i = .int k n) ∨ (under P kt = some .string ∧ ∃ n c, i = .str n c)

theorem KeyOk.of {kt : TypeId} {b : Bool} {i : XV} (h : cKey P kt = some b) (h1 : b = true → ∃ k n, i = .int k n) (h2 : b = false → ∃ n c, i = .str n c) : KeyOk P kt i := by
  rcases cKey_ok h with ⟨hb, k, hu⟩ | ⟨hb, hu⟩
  · exact .inl ⟨k, hu, h1 hb⟩
  · exact .inr ⟨hu, h2 hb⟩

theorem run_checkKey' {kt : TypeId} {i : XV} (h : KeyOk P kt i) {ρ : Rho} {v : Value} (hv : VR ρ i v) (b : Bool) (n : Nat) (w : World) : (Instr.checkKey b (n + 1) kt v).run P w = .ok () w := by
  rcases h with ⟨k, hu, k', n, rfl⟩ | ⟨hu, n, c, rfl⟩
  · rw [hv.int_inv]; simp [Instr.checkKey, run_under hu]
  · obtain ⟨s, rfl, _⟩ := hv.str_inv; simp [Instr.checkKey, run_under hu]
theorem run_checkKey {kt : TypeId} {i : XV} (h : KeyOk P kt i) {ρ : Rho} {v : Value} (hv : VR ρ i v) (b : Bool) (w : World) : (Instr.checkKey b 10000 kt v).run P w = .ok () w :=
  run_checkKey' h hv b 9999 w

theorem eqKey_ok {kt : TypeId} {i j : XV} (h : KeyOk P kt i) {κ : Bool → R} {res : XV × XW} (he : eqKey i j κ = some res) {ρ : Rho} {u v : Value} (hu : VR ρ i u) (hv : VR ρ j v) :
    ∃ b d, κ b = some res ∧ under P kt = some d ∧ Instr.sameNow d u v = some b := by
  rcases h with ⟨k, ht, k', n, rfl⟩ | ⟨ht, n, c, rfl⟩
  · rcases vKey_some he with ⟨k1, n1, e, h1⟩ | ⟨_, _, e, _⟩
    · cases e
      obtain ⟨k2, n2, rfl, h2⟩ := vInt_some h1
      obtain ⟨hk, h3⟩ := cut_some.1 h2
      have hk := kNum_inj (beq_eq' hk)
      rw [eqX_eq] at h3
      rw [hu.int_inv, hv.int_inv, ← hk]
      exact ⟨_, _, h3, ht, by simp [Instr.sameNow]⟩
    · cases e
  · rcases vKey_some he with ⟨_, _, e, _⟩ | ⟨n1, c1, e, h1⟩
    · cases e
    · cases e
      obtain ⟨m, d, rfl, h2⟩ := vStr_some h1
      obtain ⟨a, rfl, a1, a2⟩ := hu.str_inv
      obtain ⟨b, rfl, b1, b2⟩ := hv.str_inv
      rw [andB_eq, ← str_beq a1 a2 b1 b2, ← beq_toListBytes] at h2
      exact ⟨_, _, h2, ht, rfl⟩

/-- rows of entries -/
def Ents (ρ : Rho) (es : List (XV × XV)) (es' : List MapEntry) : Prop := es.length = es'.length ∧ ∀ (i : Nat) (x : XV × XV) (y : MapEntry), es[i]? = some x → es'[i]? = some y → VR ρ x.1 y.key ∧ VR ρ x.2 y.val

theorem findK_ok {kt : TypeId} {i : XV} (h : KeyOk P kt i) {ρ : Rho} {u : Value} (hu : VR ρ i u) {κ : Nat → XV → R} {ν : Nat → R} {res : XV × XW} :
    ∀ (es : List (XV × XV)) (es' : List MapEntry) (m : Nat), findK i es m κ ν = some res → Ents ρ es es' →
    ∃ d, under P kt = some d ∧ ((∃ n x e, κ n x = some res ∧ m ≤ n ∧ es'[n - m]? = some e ∧ VR ρ x e.val ∧ Instr.sameNow d u e.key = some true ∧ Instr.findNow d u es' m = some (some (n, e.val))) ∨
      (ν (m + es.length) = some res ∧ Instr.findNow d u es' m = some none)) := by
  intro es
  induction es with
  | nil =>
    intro es' m hf he
    have : es' = [] := List.eq_nil_of_length_eq_zero he.1.symm
    subst this
    have hd : ∃ d, under P kt = some d := by
      rcases h with ⟨k, ht, _⟩ | ⟨ht, _⟩ <;> exact ⟨_, ht⟩
    obtain ⟨d, hd⟩ := hd
    exact ⟨d, hd, .inr ⟨hf, rfl⟩⟩
  | cons e es ih =>
    intro es' m hf he
    cases es' with
    | nil => simp [Ents] at he
    | cons e' es' =>
      have h0 := he.2 0 e e' rfl rfl
      change eqKey i e.1 (fun b => iff b (κ m e.2) (findK i es (m + 1) κ ν)) = some res at hf
      obtain ⟨b, d, h1, hd, hs⟩ := eqKey_ok h hf hu h0.1
      rw [iff_eq] at h1
      cases b with
      | true => exact ⟨d, hd, .inl ⟨m, e.2, e', h1, Nat.le_refl _, by simp, h0.2, hs, by simp [Instr.findNow, hs]⟩⟩
      | false =>
        obtain ⟨d', hd', hr⟩ := ih es' (m + 1) h1 ⟨by have := he.1; simpa using this, fun j x y hx hy => he.2 (j + 1) x y (by simpa using hx) (by simpa using hy)⟩
        rw [hd] at hd'; cases hd'
        refine ⟨d, hd, ?_⟩
        rcases hr with ⟨n, x, e2, r1, r2, r3, r4, r5, r6⟩ | ⟨r1, r2⟩
        · refine .inl ⟨n, x, e2, r1, by omega, ?_, r4, r5, by simp [Instr.findNow, hs, r6]⟩
          rw [show n - m = (n - (m + 1)) + 1 by omega]
          simpa using r3
        · exact .inr ⟨by rw [show m + (e :: es).length = m + 1 + es.length by simp; omega]; exact r1, by simp [Instr.findNow, hs, r2]⟩

theorem zeroX_ok {t : TypeId} {z : XV} (h : zeroX P t = some z) : ∃ v, (∀ w, (zeroValue t).run P w = .ok v w) ∧ ∀ ρ, VR ρ z v := by
  unfold zeroX at h
  split at h
  · rename_i i hi
    split at h
    · rename_i v hv
      cases h
      exact ⟨v, run_zero (infoAt_ok hi) hv, fun ρ => ofValue_ok ρ v⟩
    · cases h
  · cases h

theorem lookup_ok (t : TypeId) (x ix : Operand) (ok : Bool) : ValS P (.lookup t x ix ok) (cLookup P t x ix ok).f := by
  intro s E κ res h w₀ ρ w ev hR hV
  have hx : VR ρ ((cE x).f s) (ev x) := hV x (by simp [Op.operands])
  have hi : VR ρ ((cE ix).f s) (ev ix) := hV ix (by simp [Op.operands])
  unfold cLookup at h
  split at h
  · rename_i k e hu
    -- what is found
    have key : ∀ (b : Bool) (z : XV) (κ1 : XV → R) (κ2 : R), cKey P k = some b → zeroX P e = some z →
        keyIs b ((cE ix).f s) (vMap ((cE x).f s) (fun r => oMap (E.heap.get r) fun es _ => findK ((cE ix).f s) es 0 (fun _ v => κ1 v) (fun _ => κ2)) κ2) = some res →
        (∃ y v, κ1 y = some res ∧ VR ρ y v ∧ ∀ o : Oper, o.op = .lookup t x ix ok → (execOp ev o).run P w = .ok (.value (if ok then .tuple #[v, .bool true] else v)) w) ∨
        (∃ v, κ2 = some res ∧ VR ρ z v ∧ ∀ o : Oper, o.op = .lookup t x ix ok → (execOp ev o).run P w = .ok (.value (if ok then .tuple #[v, .bool false] else v)) w) := by
      intro b z κ1 κ2 hb hz h
      obtain ⟨h1, hb1, hb2⟩ := keyIs_some h
      have hk := KeyOk.of hb hb1 hb2
      obtain ⟨zv, hzr, hzv⟩ := zeroX_ok hz
      rcases vMap_some h1 with ⟨m, em, h2⟩ | ⟨em, h2⟩
      · obtain ⟨es, clock, hg, h3⟩ := oMap_some h2
        rw [em] at hx
        obtain ⟨r, q, ex, hρ⟩ := hx.map_inv
        obtain ⟨_, es', he1, he2, he3⟩ := hR.blk m _ r 0 q hg hρ
        obtain ⟨d, hd, hr⟩ := findK_ok hk hi es es'.toList 0 h3 ⟨by simpa using he2, fun i x y hx hy => he3 i x y hx (by simpa using hy)⟩
        rcases hr with ⟨n, y, e1, r1, _, r3, r4, r5, r6⟩ | ⟨r1, r2⟩
        · refine .inl ⟨y, e1.val, r1, r4, fun o ho => ?_⟩
          simp [execOp, ho, Instr.lookup, run_under hu, ex, getObj, Sem.run, he1, run_checkKey hk hi, Instr.findKey, run_under hd, r6]
        · refine .inr ⟨zv, r1, hzv ρ, fun o ho => ?_⟩
          simp [execOp, ho, Instr.lookup, run_under hu, ex, getObj, Sem.run, he1, run_checkKey hk hi, Instr.findKey, run_under hd, r2, hzr]
      · rw [em] at hx
        refine .inr ⟨zv, h2, hzv ρ, fun o ho => ?_⟩
        have hd : ∃ d, under P k = some d := by
          rcases hk with ⟨k, ht, _⟩ | ⟨ht, _⟩ <;> exact ⟨_, ht⟩
        obtain ⟨d, hd⟩ := hd
        simp [execOp, ho, Instr.lookup, run_under hu, hx.mapNil_inv, run_checkKey hk hi, Instr.findKey, run_under hd, Instr.findNow, hzr]
    split at h
    · rename_i b z hb hz
      rw [u2_f] at h
      rcases key b z (fun v => κ (.tuple [v, .bool true])) (κ (.tuple [z, .bool false])) hb hz h with ⟨y, v, h1, h2, h3⟩ | ⟨v, h1, h2, h3⟩
      · exact ⟨_, _, h1, VR.tuple' (VRs.cons h2 (VRs.one (.bool true))), fun o ho => by rw [h3 o ho]; rfl⟩
      · exact ⟨_, _, h1, VR.tuple' (VRs.cons h2 (VRs.one (.bool false))), fun o ho => by rw [h3 o ho]; rfl⟩
    · rename_i b z hb hz
      rw [u2_f] at h
      rcases key b z (fun v => κ v) (κ z) hb hz h with ⟨y, v, h1, h2, h3⟩ | ⟨v, h1, h2, h3⟩
      · exact ⟨_, _, h1, h2, fun o ho => by rw [h3 o ho]; rfl⟩
      · exact ⟨_, _, h1, h2, fun o ho => by rw [h3 o ho]; rfl⟩
    · cases h
  · cases h

/-! builtins that make a value -/
theorem run_builtin {c : Call} {b : Builtin} (hb : c.callee = .builtin b) (ev : Operand → Value) (o : Oper) (ho : o.op = .call c) (w : World) :
    (execOp ev o).run P w = (builtin b c.argTypes o.type (c.args.map fun | .const _ => true | _ => false) (c.args.map ev)).run P w := by
  simp only [execOp, ho, resolve, hb]
  rfl

theorem len_ok {c : Call} {t : TypeId} {x : Operand} (hb : c.callee = .builtin .len) (ht : c.argTypes[0]? = some t) (ha : c.args.toList = [x]) : ValS P (.call c) (cLen P t x).f := by
  intro s E κ res h w₀ ρ w ev hR hV
  have ha' : c.args = #[x] := Array.toList_inj.1 ha
  have hx : VR ρ ((cE x).f s) (ev x) := hV x (by simp [Op.operands, Call.operands, ha'])
  have fin : ∀ n : Nat, κ (.int .i64 (.ofNat n)) = some res → (∀ ty, (Builtin.len_ c.argTypes ty #[ev x]).run P w = .ok (goInt n) w) →
      ∃ z v, κ z = some res ∧ VR ρ z v ∧ Runs P ev (.call c) w (.value v) w := by
    intro n hk hr
    refine ⟨_, _, hk, .int _ _, fun o ho => ?_⟩
    rw [run_builtin hb ev o ho]
    simp only [builtin, ha']
    have := hr o.type
    simp [this, goInt]
  unfold cLen at h
  split at h
  · rename_i hu
    rw [u1_f] at h
    obtain ⟨n, c', e, h1⟩ := vStr_some h
    rw [e] at hx
    obtain ⟨b, eb, b1, _⟩ := hx.str_inv
    refine fin n h1 fun ty => ?_
    have : b.size = n := b1
    simp [Builtin.len_, ht, eb, run_under hu, this]
  · rename_i el hu
    rw [u1_f] at h
    rcases vSl_some h with ⟨b, o, n, c', m, e, h1⟩ | ⟨e, h1⟩ | ⟨e, h1⟩
    · rw [e] at hx
      obtain ⟨r, d, q, c'', ex, _⟩ := hx.slice_inv
      exact fin n h1 fun ty => by simp [Builtin.len_, ht, ex, run_under hu]
    · rw [e] at hx
      exact fin 0 h1 fun ty => by simp [Builtin.len_, ht, hx.sliceNil_inv, run_under hu]
    · rw [e] at hx
      obtain ⟨a, c'', ex, _⟩ := hx.sliceE_inv
      exact fin 0 h1 fun ty => by simp [Builtin.len_, ht, ex, run_under hu]
  · rename_i n el hu
    exact fin n h fun ty => by simp [Builtin.len_, ht, run_under hu]
  · cases h

theorem cap_ok {c : Call} {t : TypeId} {x : Operand} (hb : c.callee = .builtin .cap) (ht : c.argTypes[0]? = some t) (ha : c.args.toList = [x]) : ValS P (.call c) (cCap P t x).f := by
  intro s E κ res h w₀ ρ w ev hR hV
  have ha' : c.args = #[x] := Array.toList_inj.1 ha
  have hx : VR ρ ((cE x).f s) (ev x) := hV x (by simp [Op.operands, Call.operands, ha'])
  unfold cCap at h
  split at h
  · rename_i el hu
    rw [u1_f] at h
    rcases vSl_some h with ⟨b, o, n, c', m, e, h1⟩ | ⟨e, h1⟩ | ⟨e, h1⟩
    · obtain ⟨hm, h2⟩ := cut_some.1 h1
      rw [e] at hx
      obtain ⟨r, d, q, c'', ex, _, _, hc, _⟩ := hx.slice_inv
      refine ⟨_, _, h2, .int _ _, fun o ho => ?_⟩
      rw [run_builtin hb ev o ho]
      simp [builtin, ha', Builtin.cap_, ht, ex, run_under hu, goInt, hc (beq_eq' hm)]
    · rw [e] at hx
      refine ⟨_, _, h1, .int _ _, fun o ho => ?_⟩
      rw [run_builtin hb ev o ho]
      simp [builtin, ha', Builtin.cap_, ht, hx.sliceNil_inv, run_under hu, goInt]
    · cases h1
  · cases h

theorem run_sliceData (ts : Array TypeId) (ty : TypeId) (a : Addr) (n c : Nat) (w : World) (h : c ≠ 0) : (Builtin.unsafeSliceData_ ts ty #[.slice (some a) n c]).run P w = .ok (.pointer (some a)) w := by
  have e : Builtin.unsafeSliceData_ ts ty #[.slice (some a) n c] = (if c ≠ 0 then pure (.pointer (some a)) else do
    if (← viewAt a.block).isSome then pure (.pointer (some a)) else pure (.pointer (some ⟨← newObj (.view a (← elemOf ty)), 0, none⟩))) := rfl
  rw [e, if_pos h]; rfl
theorem run_sliceData_nil (ts : Array TypeId) (ty : TypeId) (n c : Nat) (w : World) : (Builtin.unsafeSliceData_ ts ty #[.slice none n c]).run P w = .ok (.pointer none) w := rfl
theorem sliceData_ok {c : Call} {x : Operand} (hb : c.callee = .builtin .unsafeSliceData) (ha : c.args.toList = [x]) : ValS P (.call c) (cSliceData x).f := by
  intro s E κ res h w₀ ρ w ev hR hV
  have ha' : c.args = #[x] := Array.toList_inj.1 ha
  have hx : VR ρ ((cE x).f s) (ev x) := hV x (by simp [Op.operands, Call.operands, ha'])
  unfold cSliceData at h
  rw [u1_f] at h
  rcases vSl_some h with ⟨b, o, n, c', m, e, h1⟩ | ⟨e, h1⟩ | ⟨e, h1⟩
  · obtain ⟨hm, h2⟩ := cut_some.1 h1
    rw [e] at hx
    obtain ⟨r, d, q, c'', ex, hρ, hc, _⟩ := hx.slice_inv
    have hne : c'' ≠ 0 := by
      rw [notB_eq, Bool.not_eq_true'] at hm
      intro e0
      have : c' = 0 := by omega
      rw [this] at hm
      exact absurd hm (by decide)
    refine ⟨_, _, h2, .ptr hρ, fun o ho => ?_⟩
    rw [run_builtin hb ev o ho]
    simp [builtin, ha', ex, run_sliceData _ _ _ _ _ _ hne]
  · rw [e] at hx
    refine ⟨_, _, h1, .ptrNil, fun o ho => ?_⟩
    rw [run_builtin hb ev o ho]
    simp [builtin, ha', hx.sliceNil_inv, run_sliceData_nil]
  · cases h1

theorem mins_ok {ρ : Rho} {s : Sl} {ev : Operand → Value} {lt : Bool} {w : World} : ∀ (ys : List Operand), (∀ y ∈ ys, OpV ρ s ev y) → ∀ (k : IntKind) (a : Int) (κ : XV → R) (res : XV × XW),
    (cMins lt ys).f s k a κ = some res → ∃ b, κ (.int k b) = some res ∧ ((ys.map ev).foldlM (if lt then Builtin.min2 else Builtin.max2) (.int k a)).run P w = .ok (.int k b) w
  | [], _, k, a, κ, res, h => ⟨a, h, by simp⟩
  | y :: ys, hV, k, a, κ, res, h => by
    have hy : VR ρ ((cE y).f s) (ev y) := hV y (by simp)
    unfold cMins at h
    rw [be_eta y, show cMins lt ys = ⟨(cMins lt ys).f⟩ from rfl] at h
    cases lt with
    | true =>
      dsimp only at h
      obtain ⟨k', b, e, h1⟩ := vInt_some h
      rw [e] at hy
      rw [iff_eq, ltX_eq] at h1
      by_cases hlt : b < a
      · simp only [hlt, decide_true, if_true] at h1
        obtain ⟨r, r1, r2⟩ := mins_ok ys (fun z hz => hV z (by simp [hz])) k b κ res h1
        refine ⟨r, r1, ?_⟩
        simp only [List.map_cons, List.foldlM_cons, hy.int_inv, if_true, Builtin.min2, hlt]
        simpa using r2
      · simp only [hlt, decide_false] at h1
        obtain ⟨r, r1, r2⟩ := mins_ok ys (fun z hz => hV z (by simp [hz])) k a κ res h1
        refine ⟨r, r1, ?_⟩
        simp only [List.map_cons, List.foldlM_cons, hy.int_inv, if_true, Builtin.min2, hlt, if_false]
        simpa using r2
    | false =>
      dsimp only at h
      obtain ⟨k', b, e, h1⟩ := vInt_some h
      rw [e] at hy
      rw [iff_eq, ltX_eq] at h1
      by_cases hlt : a < b
      · simp only [hlt, decide_true, if_true] at h1
        obtain ⟨r, r1, r2⟩ := mins_ok ys (fun z hz => hV z (by simp [hz])) k b κ res h1
        refine ⟨r, r1, ?_⟩
        have : b > a := hlt
        simp only [List.map_cons, List.foldlM_cons, hy.int_inv, Bool.false_eq_true, if_false, Builtin.max2, this, if_true]
        simpa using r2
      · simp only [hlt, decide_false] at h1
        obtain ⟨r, r1, r2⟩ := mins_ok ys (fun z hz => hV z (by simp [hz])) k a κ res h1
        refine ⟨r, r1, ?_⟩
        have : ¬ b > a := hlt
        simp only [List.map_cons, List.foldlM_cons, hy.int_inv, Bool.false_eq_true, if_false, Builtin.max2, this]
        simpa using r2

theorem min_ok {c : Call} {lt : Bool} {x : Operand} {ys : List Operand} (hb : c.callee = .builtin (if lt then .min else .max)) (ha : c.args.toList = x :: ys) : ValS P (.call c) (cMin lt x ys).f := by
  intro s E κ res h w₀ ρ w ev hR hV
  have hmem : ∀ y ∈ x :: ys, OpV ρ s ev y := fun y hy => hV y (by
    have : y ∈ c.args.toList := by rw [ha]; exact hy
    simp [Op.operands, Call.operands]
    exact .inr (by simpa using this))
  have hx : VR ρ ((cE x).f s) (ev x) := hmem x (by simp)
  unfold cMin at h
  rw [be_eta x, show cMins lt ys = ⟨(cMins lt ys).f⟩ from rfl] at h
  dsimp only at h
  obtain ⟨k, a, e, h1⟩ := vInt_some h
  rw [e] at hx
  obtain ⟨b, r1, r2⟩ := mins_ok (P := P) (w := w) ys (fun y hy => hmem y (by simp [hy])) k a κ res h1
  refine ⟨_, _, r1, .int _ _, fun o ho => ?_⟩
  rw [run_builtin hb ev o ho]
  have hm : (c.args.map ev).toList = ev x :: ys.map ev := by simp [ha]
  cases lt with
  | true =>
    simp only [if_true] at r2 ⊢
    simp only [builtin, Builtin.min_, hm, hx.int_inv]
    simp [r2]
  | false =>
    simp only [Bool.false_eq_true, if_false] at r2 ⊢
    simp only [builtin, Builtin.max_, hm, hx.int_inv]
    simp [r2]
end Go.Ex
namespace Go.Ex
variable [Val]
set_option linter.unusedSectionVars false
variable {P : Program}

/-- an operation that makes a block -/
def NewS (P : Program) (op : Op) (f : Sl → (XB → (Nat → XV) → R) → R) : Prop := ∀ (s : Sl) (κ : XB → (Nat → XV) → R) (res : XV × XW), f s κ = some res →
  ∀ (E : XW) (w₀ : World) (ρ : Rho) (w : World) (ev : Operand → Value), Rep w₀ ρ E w → (∀ x ∈ op.operands, OpV ρ s ev x) →
  ∃ x mk o q v, κ x mk = some res ∧ x.kin? = none ∧
    (∀ id, ρ id = none → Blk (ρ.ext id (w.heap.size, 0, q)) { w with heap := w.heap.push o } w.heap.size 0 q x ∧ VR (ρ.ext id (w.heap.size, 0, q)) (mk id) v) ∧
    Runs P ev op w (.value v) { w with heap := w.heap.push o }

theorem NewS.no (op : Op) : NewS P op noA.f := fun _ _ _ h => by cases h

/-- a block of cells -/
theorem cellsB {ρ : Rho} {w : World} {t : TypeId} {n : Nat} {l : List XV} {us : List Value} (hl : l.length = n) (hv : VRs ρ l us) (hf : ∀ u ∈ us, flatV u = true) {id : Nat} (hid : ρ id = none) :
    Blk (ρ.ext id (w.heap.size, 0, us.length)) { w with heap := w.heap.push (.cells us.toArray t) } w.heap.size 0 us.length (.cells t n l true none 0 false) := by
  have h0 := hv.1
  refine ⟨hl, by omega, us.toArray, 0, 0, by simp, by simp, ?_, flat_all fun y hy => hf y (by simpa using hy), fun _ => ⟨rfl, by omega⟩, fun _ => .inl rfl⟩
  rw [List.drop_zero, List.take_of_length_le (by simp; omega)]
  exact hv.mono (Rho.le_ext hid)

theorem ptr_new (ρ : Rho) (id r q : Nat) : VR (ρ.ext id (r, 0, q)) (.ptr id 0) (.pointer (some ⟨r, 0, none⟩)) := by
  have := VR.ptr (ρ := ρ.ext id (r, 0, q)) (b := id) (r := r) (d := 0) (q := q) (o := 0) (Rho.ext_same _ _ _)
  simpa using this
theorem slice_new (ρ : Rho) (id r q n c : Nat) : VR (ρ.ext id (r, 0, q)) (.slice id 0 n c 0) (.slice (some ⟨r, 0, none⟩) n c) := by
  have := VR.slice (ρ := ρ.ext id (r, 0, q)) (b := id) (r := r) (d := 0) (q := q) (o := 0) (n := n) (c := c) (c' := c) (m := 0) (Rho.ext_same _ _ _) (Nat.le_refl _) (fun _ => rfl) (by simp)
  simpa using this

theorem alloc_ok (t : TypeId) : NewS P (.alloc t) (cAlloc P t).f := by
  intro s κ res h E w₀ ρ w ev hR hV
  unfold cAlloc at h
  split at h
  · rename_i z hz
    obtain ⟨it, zv, hi, hzv, hvz, hfz⟩ := zeroOf_ok hz
    rw [lenC_eq] at h
    refine ⟨_, _, .cells zv.cells t, zv.cells.toList.length, .pointer (some ⟨w.heap.size, 0, none⟩), h, rfl, fun id hid => ⟨?_, ptr_new _ _ _ _⟩, fun o ho => ?_⟩
    · have := cellsB (w := w) (t := t) rfl (hvz ρ) hfz hid
      simpa using this
    · simp [execOp, ho, Instr.alloc, run_zero hi hzv, newVar, newRow]
  · cases h

theorem box_ok (t : TypeId) (x : Operand) : NewS P (.box t x) (cBox t x).f := by
  intro s κ res h E w₀ ρ w ev hR hV
  have hx : VR ρ ((cE x).f s) (ev x) := hV x (by simp [Op.operands])
  unfold cBox at h
  rw [be_eta x] at h
  dsimp only at h
  obtain ⟨n, l, h1, hl, hv, hf⟩ := vCells_some hx h
  refine ⟨_, _, .cells (ev x).cells t, (ev x).cells.toList.length, .pointer (some ⟨w.heap.size, 0, none⟩), h1, rfl, fun id hid => ⟨?_, ptr_new _ _ _ _⟩, fun o ho => ?_⟩
  · have := cellsB (w := w) (t := t) hl hv hf hid
    simpa using this
  · simp [execOp, ho, Instr.box, newVar, newRow]

theorem makeMap_ok (t : TypeId) : NewS P (.makeMap t none) (fun _ κ => κ (.map [] 0) fun id => .map id) := by
  intro s κ res h E w₀ ρ w ev hR hV
  refine ⟨_, _, .map #[] 0, 0, .map (some w.heap.size), h, rfl, fun id hid => ⟨⟨rfl, #[], by simp, rfl, by simp⟩, .map (Rho.ext_same _ _ _)⟩, fun o ho => ?_⟩
  simp [execOp, ho, Instr.makeMap]

theorem range_ok (t : TypeId) (x : Operand) : NewS P (.range t x) (cRange P t x).f := by
  intro s κ res h E w₀ ρ w ev hR hV
  have hx : VR ρ ((cE x).f s) (ev x) := hV x (by simp [Op.operands])
  unfold cRange at h
  split at h
  · rename_i hu
    rw [be_eta x] at h
    dsimp only at h
    obtain ⟨n, c, e, h1⟩ := vStr_some h
    rw [e] at hx
    obtain ⟨b, eb, b1, b2⟩ := hx.str_inv
    refine ⟨_, _, .stringIter b 0, 0, .pointer (some ⟨w.heap.size, 0, none⟩), h1, rfl, fun id hid => ⟨⟨rfl, b, by simp, b1, b2⟩, ptr_new _ _ _ _⟩, fun o ho => ?_⟩
    simp [execOp, ho, Instr.range, run_under hu, eb]
  · cases h

theorem buildSlice_ok (t : TypeId) (len : Nat) (parts : Array (Nat × Operand)) : NewS P (.buildSlice t len parts) (cBuildSlice P t len parts.toList).f := by
  intro s κ res h E w₀ ρ w ev hR hV
  have hV' : ∀ p ∈ parts.toList, OpV ρ s ev p.2 := fun p hp => hV p.2 (by simp [Op.operands]; exact ⟨p.1, by simpa using hp⟩)
  unfold cBuildSlice at h
  split at h
  · rename_i e hu
    split at h
    · rename_i sz z hs hz
      obtain ⟨it, zv, hi, hzv, hvz, hfz⟩ := zeroOf_ok hz
      rw [lenC_eq] at h
      cases hb1 : Nat.beq z.length sz with
      | false => rw [hb1] at h; cases h
      | true =>
        cases hb2 : Nat.ble (len * sz) 65536 with
        | false => rw [hb1, hb2] at h; cases h
        | true =>
          rw [hb1, hb2, show cFill (fun i => some (i * sz, sz)) (len * sz) parts.toList = ⟨(cFill (fun i => some (i * sz, sz)) (len * sz) parts.toList).f⟩ from rfl] at h
          dsimp only at h
          have hzl := beq_eq' hb1
          have hle := ble_le hb2
          have hzs : zv.cells.size = sz := by
            have := (hvz ρ).1
            simp at this
            omega
          obtain ⟨cs, us, h1, h2, h3, h4, h5⟩ := cFill_ok (ρ := ρ) (ev := ev) (place' := fun i => some (i * sz, sz)) (fun i p hp => hp) parts.toList (repL z len) (repV zv.cells.toList len) _ _ h hV'
            (by rw [repL_length, hzl]) (repV_ok (hvz ρ) len) (repV_flat hfz len)
          have hul : us.length = len * sz := by rw [← h3.1, h2]
          refine ⟨_, _, .cells us.toArray e, us.length, .slice (some ⟨w.heap.size, 0, none⟩) len len, h1, rfl, fun id hid => ⟨cellsB h2 h3 h4 hid, slice_new _ _ _ _ _ _⟩, fun o ho => ?_⟩
          have hlim : ¬ (len * sz > 2 ^ 24) := by omega
          have h5' : Instr.fill (fun i => some (i * sz, sz)) (repV zv.cells.toList len).toArray (parts.map fun p => (p.1, ev p.2)).toList = some us.toArray := by simpa using h5
          by_cases h0 : len * sz = 0
          · have e0 : repV zv.cells.toList len = [] := List.eq_nil_of_length_eq_zero (by rw [repV_length]; simpa [hzs] using h0)
            have e1 : ∀ f : Nat → Value, (Array.range (len * sz)).map f = (repV zv.cells.toList len).toArray := fun f => by rw [h0, e0]; simp
            simp only [execOp, ho, Instr.buildSlice, Sem.run_bind, run_under hu, Result.andThen_ok, run_size hs, hlim, if_false, e1, h5', if_pos h0, Sem.run_pure]
            simp [newRow]
          · have e1 : ((Array.range (len * sz)).map fun i => zv.cells[i % zv.cells.size]!) = (repV zv.cells.toList len).toArray := by
              rw [← hzs]; exact range_rep zv.cells len
            simp only [execOp, ho, Instr.buildSlice, Sem.run_bind, run_under hu, Result.andThen_ok, run_size hs, hlim, if_false, if_neg h0, run_zero hi hzv, Sem.run_pure, e1, h5']
            simp [newRow]
    · cases h
  · cases h

theorem makeSlice_ok (t : TypeId) (l c : Operand) : NewS P (.makeSlice t l c) (cMakeSlice P t l c).f := by
  intro s κ res h E w₀ ρ w ev hR hV
  have hl : VR ρ ((cE l).f s) (ev l) := hV l (by simp [Op.operands])
  have hc : VR ρ ((cE c).f s) (ev c) := hV c (by simp [Op.operands])
  unfold cMakeSlice at h
  split at h
  · rename_i e hu
    split at h
    · rename_i sz z by_ hs hz hby
      obtain ⟨it, zv, hi, hzv, hvz, hfz⟩ := zeroOf_ok hz
      rw [lenC_eq, be_eta l, be_eta c] at h
      cases hb1 : Nat.beq z.length sz with
      | false => rw [hb1] at h; cases h
      | true =>
        rw [hb1] at h
        dsimp only at h
        obtain ⟨k1, i1, e1, h1⟩ := vInt_some h
        obtain ⟨ln, e2, h2⟩ := iNat_some h1
        obtain ⟨k2, i2, e3, h3⟩ := vInt_some h2
        obtain ⟨cn, e4, h4⟩ := iNat_some h3
        obtain ⟨hg, h5⟩ := cut_some.1 h4
        simp only [andB_eq, Bool.and_eq_true] at hg
        obtain ⟨g1, g2, g3⟩ := hg
        replace g1 := ble_le g1
        replace g2 := blt_lt g2
        replace g3 : cn * by_ < 1000000000 := blt_lt g3
        rw [e1, e2] at hl
        rw [e3, e4] at hc
        have hzl := beq_eq' hb1
        have hzs : zv.cells.size = sz := by
          have := (hvz ρ).1
          simp at this
          omega
        have hib : it.bytes = by_ := by
          unfold bytesOf at hby
          split at hby
          · rename_i i' hi'
            have := infoAt_ok hi'
            rw [hi] at this
            cases this
            cases hby; rfl
          · cases hby
        have hul : (repV zv.cells.toList cn).length = cn * sz := by rw [repV_length]; simp [hzs]
        refine ⟨_, _, .cells (repV zv.cells.toList cn).toArray e, (repV zv.cells.toList cn).length, .slice (some ⟨w.heap.size, 0, none⟩) ln cn, h5, rfl,
          fun id hid => ⟨cellsB (by rw [repL_length, hzl]; rfl) (repV_ok (hvz ρ) cn) (repV_flat hfz cn) hid, slice_new _ _ _ _ _ _⟩, fun o ho => ?_⟩
        have w1 : IntKind.i64.wrap (ln : Int) = ln := by simp [IntKind.wrap, IntKind.bits, IntKind.signed]; omega
        have w2 : IntKind.i64.wrap (cn : Int) = cn := by simp [IntKind.wrap, IntKind.bits, IntKind.signed]; omega
        have t1 : ¬ (((cn : Int) < 0 ∨ (it.bytes : Int) * cn > 2 ^ 48) ∨ (ln : Int) < 0 ∨ (ln : Int) > cn) := by
          rw [hib]
          have : (by_ : Int) * cn = ((cn * by_ : Nat) : Int) := by rw [Nat.mul_comm]; simp
          rw [this]
          omega
        have hti : (typeInfo e).run P w = .ok it w := by simp [typeInfo, hi]
        simp only [execOp, ho, Instr.makeSlice, Sem.run_bind, run_under hu, Result.andThen_ok, hl.int_inv, hc.int_inv, asInt, asIntOf, Sem.run_pure, hti, w1, w2]
        have t2 : ((((decide ((cn : Int) < 0) || decide ((it.bytes : Int) * cn > 2 ^ 48)) || decide ((ln : Int) < 0)) || decide ((ln : Int) > cn))) = false := by
          rw [Bool.eq_false_iff]; intro hh; apply t1; simpa [or_assoc] using hh
        by_cases h0 : cn * sz = 0
        · have e0 : repV zv.cells.toList cn = [] := List.eq_nil_of_length_eq_zero (by rw [hul]; exact h0)
          have e1 : ∀ f : Nat → Value, (Array.range (cn * sz)).map f = (repV zv.cells.toList cn).toArray := fun f => by rw [h0, e0]; simp
          simp only [t2, Bool.false_eq_true, if_false, Sem.run_bind, Sem.run_pure, Result.andThen_ok, run_askRoom, run_size hs, Int.toNat_natCast, e1, if_pos h0]
          simp [newRow]
        · have e1 : ((Array.range (cn * sz)).map fun i => zv.cells[i % zv.cells.size]!) = (repV zv.cells.toList cn).toArray := by
            rw [← hzs]; exact range_rep zv.cells cn
          simp only [t2, Bool.false_eq_true, if_false, Sem.run_bind, Sem.run_pure, Result.andThen_ok, run_askRoom, run_size hs, Int.toNat_natCast, if_neg h0, run_zero hi hzv, e1]
          simp [newRow]
    · cases h
  · cases h

/-! effects -/
/-- an operation that turns the world -/
def EffS (P : Program) (op : Op) (f : Sl → XW → (XV → XW → R) → R) : Prop := ∀ (s : Sl) (E : XW) (κ : XV → XW → R) (res : XV × XW), f s E κ = some res →
  ∀ (w₀ : World) (ρ : Rho) (w : World) (ev : Operand → Value), Rep w₀ ρ E w → (∀ x ∈ op.operands, OpV ρ s ev x) →
  ∃ x E' ρ' v w' n, κ x E' = some res ∧ Ext E.next ρ ρ' ∧ E.next ≤ E'.next ∧ Rep w₀ ρ' E' w' ∧ VR ρ' x v ∧ Runs P ev op w n w' ∧ (n = .value v ∨ (n = .skip ∧ v = undef))

theorem EffS.no (op : Op) : EffS P op noF.f := fun _ _ _ _ h => by cases h

theorem store_ok (t : TypeId) (x y : Operand) : EffS P (.store t x y) (cStore P t x y).f := by
  intro s E κ res h w₀ ρ w ev hR hV
  have hx : VR ρ ((cE x).f s) (ev x) := hV x (by simp [Op.operands])
  have hy : VR ρ ((cE y).f s) (ev y) := hV y (by simp [Op.operands])
  unfold cStore at h
  rw [be_eta x, be_eta y] at h
  cases hs : size P t with
  | none => rw [hs] at h; cases h
  | some sz =>
    rw [hs] at h
    dsimp only at h
    obtain ⟨b, o, e, h1⟩ := vPtr_some h
    obtain ⟨n, l, h2, hl, hv, hf⟩ := vCells_some hy h1
    obtain ⟨hn, h3⟩ := cut_some.1 h2
    have hn := beq_eq' hn
    rw [e] at hx
    obtain ⟨r, d, q, ex, hρ⟩ := hx.ptr_inv
    obtain ⟨E', w', h4, hrun, hR', hE⟩ := storeAt_ok (P := P) hR hρ hl hv hf h3
    have hsz : (ev y).cells.size = sz := by
      have := hv.1
      simp at this
      omega
    refine ⟨_, E', ρ, undef, w', .skip, h4, Ext.refl _ _, by omega, hR', VR.undef, fun op ho => ?_, .inr ⟨rfl, rfl⟩⟩
    simp [execOp, ho, Instr.storeAt, ex, Instr.sureAddr, storeVar, run_size hs, hsz, hrun]

theorem putAt_ok {w₀ w w' : World} {ρ : Rho} {E : XW} (h : Rep w₀ ρ E w) {b r d q : Nat} {x x' : XB} (hb : E.heap.get b = some x) (hr : ρ b = some (r, d, q)) (hro : x.ro? = false) (hk : x.kin? = none) (hbn : b < lim)
    (hs : w'.heap.size = w.heap.size) (ho : ∀ q, q ≠ r → w'.heap[q]? = w.heap[q]?) (ht : w'.tape = w.tape) (hos : w'.os = w.os) (hout : w'.output = w.output)
    (hB : Blk ρ w' r d q x') : Rep w₀ ρ (putAt E b x') w' := by
  have := h.turn hb hr hro hbn (by rw [hk]; intro c hc; cases hc) hs ho ht hos hout hB
  rw [hk, kill_none] at this
  exact this

theorem setPair_eq (e : XV × XV) (n : Nat) (l : List (XV × XV)) : setPair e n l = l.set n e := by
  induction n generalizing l with
  | zero => cases l <;> rfl
  | succ n ih => cases l with
    | nil => rfl
    | cons x t => exact congrArg (x :: ·) (ih t)
theorem snocP_eq (e : XV × XV) (l : List (XV × XV)) : snocP e l = l ++ [e] := by
  induction l with
  | nil => rfl
  | cons x t ih => exact congrArg (x :: ·) ih

theorem run_setObj {w : World} {r : Nat} {es : Array MapEntry} {c : Nat} (h : w.heap[r]? = some (.map es c)) (o : Obj) : (setObj r o).run P w = .ok () { w with heap := w.heap.setIfInBounds r o } := by
  simp [setObj, Sem.run, h]

theorem mapUpdate_any (op : Op) (t : TypeId) (m k x : Operand) (hop : op = .mapUpdate t m k x ∨ op = .insert t m k x) : EffS P op (cMapUpdate P t m k x).f := by
  intro s E κ res h w₀ ρ w ev hR hV
  have hopr : op.operands = #[m, k, x] := by rcases hop with rfl | rfl <;> rfl
  have hm : VR ρ ((cE m).f s) (ev m) := hV m (by simp [hopr])
  have hk : VR ρ ((cE k).f s) (ev k) := hV k (by simp [hopr])
  have hx : VR ρ ((cE x).f s) (ev x) := hV x (by simp [hopr])
  have hex : ∀ (o : Oper), o.op = op → execOp ev o = (do Instr.mapUpdate t (ev m) (ev k) (ev x); pure .skip) := by
    intro o ho; rcases hop with rfl | rfl <;> simp only [execOp, ho]
  unfold cMapUpdate at h
  split at h
  · rename_i kt et hu
    rw [be_eta m, be_eta k, be_eta x] at h
    cases hck : cKey P kt with
    | none => rw [hck] at h; cases h
    | some b =>
      rw [hck] at h
      dsimp only at h
      obtain ⟨h1, hb1, hb2⟩ := keyIs_some h
      have hko := KeyOk.of hck hb1 hb2
      rcases vMap_some h1 with ⟨mb, em, h2⟩ | ⟨_, h2⟩
      · obtain ⟨hlim, h3⟩ := cut_some.1 h2
        replace hlim := blt_lt hlim
        obtain ⟨es, clock, hg, h4⟩ := oMap_some h3
        rw [em] at hm
        obtain ⟨r, q, exm, hρ⟩ := hm.map_inv
        obtain ⟨_, es', he1, he2, he3⟩ := hR.blk mb _ r 0 q hg hρ
        have hr : r < w.heap.size := (Array.getElem?_eq_some_iff.1 he1).1
        obtain ⟨d, hd, hfind⟩ := findK_ok hko hk es es'.toList 0 h4 ⟨by simpa using he2, fun i x y hx hy => he3 i x y hx (by simpa using hy)⟩
        have turn : ∀ (l : List (XV × XV)) (l' : Array MapEntry) (c : Nat), l.length = l'.size → (∀ (i : Nat) (x : XV × XV) (y : MapEntry), l[i]? = some x → l'[i]? = some y → VR ρ x.1 y.key ∧ VR ρ x.2 y.val) →
            Rep w₀ ρ (putAt E mb (.map l c)) { w with heap := w.heap.setIfInBounds r (.map l' c) } := by
          intro l l' c hl hll
          refine putAt_ok hR hg hρ rfl rfl hlim (by simp) (fun q' hq' => ?_) rfl rfl rfl ⟨rfl, l', ?_, hl, hll⟩
          · simp only [Array.getElem?_setIfInBounds_ne (Ne.symm hq')]
          · simp [hr]
        rcases hfind with ⟨n, y, e1, r1, _, r3, r4, r5, r6⟩ | ⟨r1, r2⟩
        · rw [setPair_eq] at r1
          have hn : es'[n]? = some e1 := by simpa using r3
          have hnlt : n < es'.size := (Array.getElem?_eq_some_iff.1 hn).1
          refine ⟨_, _, ρ, undef, { w with heap := w.heap.setIfInBounds r (.map (es'.modify n fun e => { e with key := ev k, val := ev x }) clock) }, .skip, r1, Ext.refl _ _, Nat.le_refl _,
            turn _ _ _ (by simpa using he2) (fun i a b ha hb => ?_), VR.undef, fun o ho => ?_, .inr ⟨rfl, rfl⟩⟩
          · rw [List.getElem?_set] at ha
            rw [Array.getElem?_modify] at hb
            split at ha
            · rename_i hin
              subst hin
              rw [if_pos rfl, hn] at hb
              split at ha
              · cases ha; cases hb; exact ⟨hk, hx⟩
              · cases ha
            · rename_i hin
              rw [if_neg hin] at hb
              exact he3 i a b ha hb
          · have hsame : Instr.sameBits 10000 e1.key (ev k) = true := by
              have key : ∀ (u v : Value), Instr.sameNow d u v = some true → Instr.sameBits 10000 v u = true := by
                intro u v hs
                cases d <;> cases u <;> cases v <;> simp [Instr.sameNow] at hs
                all_goals first
                  | (obtain ⟨rfl, rfl⟩ := hs; unfold Instr.sameBits; simp; done)
                  | (subst hs; unfold Instr.sameBits; simp; done)
                  | (unfold Instr.sameBits
                     rw [beq_toListBytes] at hs ⊢
                     simp at hs ⊢
                     exact hs.symm)
              exact key _ _ r5
            simp only [hex o ho, exm, Instr.mapUpdate, Sem.run_bind, run_under hu, Result.andThen_ok]
            simp [getObj, Sem.run, he1, run_checkKey hko hk, Instr.findKey, run_under hd, r6, hn, Instr.keyThatStays, hsame, run_setObj he1]
        · rw [snocP_eq] at r1
          refine ⟨_, _, ρ, undef, { w with heap := w.heap.setIfInBounds r (.map (es'.push { key := ev k, val := ev x, born := clock }) (clock + 1)) }, .skip, r1, Ext.refl _ _, Nat.le_refl _,
            turn _ _ _ (by simp [he2]) (fun i a b ha hb => ?_), VR.undef, fun o ho => ?_, .inr ⟨rfl, rfl⟩⟩
          · rw [Array.getElem?_push] at hb
            by_cases hi : i < es.length
            · rw [List.getElem?_append_left hi] at ha
              rw [if_neg (by omega)] at hb
              exact he3 i a b ha hb
            · rw [List.getElem?_append_right (by omega)] at ha
              have hi0 : i - es.length = 0 := by
                rcases Nat.eq_zero_or_pos (i - es.length) with h0 | h0
                · exact h0
                · rw [List.getElem?_eq_none (by simp; omega)] at ha; cases ha
              rw [hi0] at ha
              rw [if_pos (by omega)] at hb
              cases ha; cases hb
              exact ⟨hk, hx⟩
          · simp only [hex o ho, exm, Instr.mapUpdate, Sem.run_bind, run_under hu, Result.andThen_ok]
            simp [getObj, Sem.run, he1, run_checkKey hko hk, Instr.findKey, run_under hd, r2, run_setObj he1]
      · cases h2
  · cases h
end Go.Ex
