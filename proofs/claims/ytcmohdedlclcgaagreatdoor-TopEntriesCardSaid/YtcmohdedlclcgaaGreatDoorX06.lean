/- Part of the proof of TopEntries: the executor is sound: calls, regions, code, functions. -/
import Derived.Test.YtcmohdedlclcgaaGreatDoorX05
import Derived.Laws.IdiomStrings
import Derived.Lib.Bytealg
import Derived.Defers
import Derived.Recover
set_option linter.unusedVariables false
set_option linter.unusedSimpArgs false
set_option linter.unusedSectionVars false
namespace Go.Ex
variable [Val]
set_option linter.unusedSectionVars false
variable {P : Program}

theorem bytes_ok {src dst : TypeId} {x : Operand} {b : BF} (hb : cBytes P src dst x = some b) : EffS P (.convert src dst x) b.f := by
  intro s E κ res h w₀ ρ w ev hR hV
  have hx : VR ρ ((cE x).f s) (ev x) := hV x (by simp [Op.operands])
  unfold cBytes at hb
  split at hb
  · rename_i e h1 h2
    rw [be_eta x] at hb
    split at hb
    · rename_i f0 h0 hf0
      cases hf0
      cases hb
      dsimp only at h
      obtain ⟨n, c, ex, h3⟩ := vStr_some h
      obtain ⟨hlim, h4⟩ := newB_some h3
      rw [ex] at hx
      obtain ⟨st, es, b1, b2⟩ := hx.str_inv
      have hrun := run_bytes_of_string (P := P) w src dst e st (under_ok h1) (under_ok h2) (under_ok h0)
      have hcap := grownCap_ge w st.size 0 e
      generalize grownCap w st.size 0 e = cap at hrun hcap
      have hsz : st.size = n := b1
      have hrow : (bytesRow st cap).size = cap := by
        simp [bytesRow]
        have : st.data.size = n := b1
        omega
      have hB : Blk (ρ.ext E.next (w.drew.heap.size, 0, cap)) { w.drew with heap := w.drew.heap.push (.cells (bytesRow st cap) e ((bytesRow st cap).size, (bytesRow st cap).size + 1)) } w.drew.heap.size 0 cap
          (.cells e n (bytesL n c) false none 0 true) := by
        refine ⟨bytesL_length _ _, by omega, bytesRow st cap, (bytesRow st cap).size, (bytesRow st cap).size + 1, (by show (w.heap.push _)[w.heap.size]? = _; simp), by simp [hrow], ?_, ?_, (fun h => by cases h), (fun h => by cases h)⟩
        · have := bytesL_ok (ρ.ext E.next (w.drew.heap.size, 0, cap)) st.data.toList n (by omega)
          rw [b2] at this
          have e2 : ((bytesRow st cap).toList.drop 0).take n = (st.data.toList.take n).map fun b => Value.int .u8 (b.toNat : Int) := by
            rw [List.drop_zero]
            unfold bytesRow
            rw [Array.toList_append, List.take_append_of_le_length (by simp; have : st.data.size = n := b1; omega), Array.toList_map, List.map_take]
          rw [e2]
          exact this
        · refine flat_all ?_
          intro y hy
          unfold bytesRow at hy
          rw [Array.mem_append] at hy
          rcases hy with hy | hy
          · obtain ⟨z, _, rfl⟩ := Array.mem_map.1 hy; rfl
          · rw [Array.mem_replicate] at hy; rw [hy.2]; rfl
      have hR' := (hR.drew (w.drawn + 1)).new hlim hB
      refine ⟨_, _, _, .slice (some ⟨w.heap.size, 0, none⟩) st.size cap, _, .value _, h4, Ext.ext _ _ _, Nat.le_succ _, hR', ?_, fun o ho => ?_, .inl rfl⟩
      rotate_left
      · simp only [execOp, ho, es]
        rw [Sem.run_bind, hrun]
        rfl
      · have := VR.slice (ρ := ρ.ext E.next (w.drew.heap.size, 0, cap)) (b := E.next) (r := w.heap.size) (d := 0) (q := cap) (o := 0) (n := n) (c := n) (c' := cap) (m := 1) (Rho.ext_same _ _ _) (by omega) (fun h => by omega) (fun _ => by omega)
        rw [hsz]
        simpa using this
    · cases hb
  · cases hb

/-! functions without a body -/
theorem Rep.keeps {w₀ w w' : World} {ρ : Rho} {E : XW} (h : Rep w₀ ρ E w) (k : Keeps w w') : Rep w₀ ρ E w' :=
  ⟨Nat.le_trans h.size k.size, fun r hr => (k.old r (Nat.lt_of_lt_of_le hr h.size)).trans (h.old r hr), k.tape.trans h.tape, k.os.trans h.os, k.out.trans h.out, h.ok, h.glob,
    fun b x hb => ⟨(h.next b x hb).1, Nat.lt_of_lt_of_le (h.next b x hb).2 k.size⟩, fun b x r d q hx hr => (h.blk b x r d q hx hr).world (k.old r (h.next b _ hr).2), h.own, h.kin⟩

theorem Rep.good {w₀ w : World} {ρ : Rho} {E : XW} (h : Rep w₀ ρ E w) : Val.G w := Val.stays w₀ w ⟨h.size, h.old, h.tape, h.os, h.out⟩ h.ok

theorem oX_some {o : Option XV} {κ : XV → R} {x : R} {r : XV × XW} (h : oX o κ x = some r) : (∃ v, o = some v ∧ κ v = some r) ∨ (o = none ∧ x = some r) := by
  cases o with
  | none => exact .inr ⟨rfl, h⟩
  | some v => exact .inl ⟨v, rfl, h⟩

structure ExtOK (P : Program) : Prop where
  no : ∀ x w, (callFunc 79 #[x]).run P w = .ok (.value x) w
  mz : ∀ (n : Nat) w, (callFunc 188 #[.int .i64 n]).run P w = ((Extern.BytealgMakeNoZero.makeNoZero #[3] #[82] #[.int .i64 n]).run P w).andThen fun v w' => .ok (.value v) w'
  ix : ∀ s c w, (callFunc 301 #[.string s, .int .u8 c]).run P w = ((Extern.BytealgIndexByte.indexByte #[.string s, .int .u8 c]).run P w).andThen fun v w' => .ok (.value v) w'
  ct : ∀ s c w, (callFunc 181 #[.string s, .int .u8 c]).run P w = ((Extern.BytealgCount.count #[.string s, .int .u8 c]).run P w).andThen fun v w' => .ok (.value v) w'
  op : ∀ o g xs x, Tab.op o = some g → g xs = some x → ∀ (ρ : Rho) (w : World) (ev : Operand → Value), VRs ρ xs (o.operands.toList.map ev) → ∃ v, VR ρ x v ∧ Runs P ev o w (.value v) w
  fn : ∀ f g xs x, Tab.fn f = some g → g xs = some x → ∀ (ρ : Rho) (w : World) (args : Array Value), Val.G w → VRs ρ xs args.toList → Calls P f args w fun e w' => ∃ v, e = .returned v ∧ VR ρ x v ∧ Keeps w w'

/-- a call of a function by its number -/
theorem run_call {c : Call} {f : FuncId} (hc : c.callee = .value (.func f)) {ρ : Rho} {s : Sl} {ev : Operand → Value} (hf : OpV ρ s ev (.func f)) (o : Oper) (ho : o.op = .call c) (w : World) :
    (execOp ev o).run P w = (callFunc f (c.args.map ev)).run P w := by
  have hf' : VR ρ (.func (.func f) [] []) (ev (.func f)) := hf
  obtain ⟨f', c', e, h1, h2⟩ := hf'.func_inv
  have e1 : f' = #[] := Array.eq_empty_of_size_eq_zero (by have := h1.1; simp at this; omega)
  have e2 : c' = #[] := Array.eq_empty_of_size_eq_zero (by have := h2.1; simp at this; omega)
  subst e1; subst e2
  simp [execOp, ho, resolve, hc, Deferred.ofValue, e, invoke]

theorem noEscape_ok (hX : ExtOK P) {c : Call} {x : Operand} (hc : c.callee = .value (.func 79)) (ha : c.args.toList = [x]) : ValS P (.call c) (u1 x fun v _ κ => κ v).f := by
  intro s E κ res h w₀ ρ w ev hR hV
  have ha' : c.args = #[x] := Array.toList_inj.1 ha
  have hx : VR ρ ((cE x).f s) (ev x) := hV x (by simp [Op.operands, Call.operands, hc, ha'])
  rw [u1_f] at h
  refine ⟨_, _, h, hx, fun o ho => ?_⟩
  rw [run_call hc (hV (.func 79) (by simp [Op.operands, Call.operands, hc])) o ho, ha']
  simp [hX.no]

theorem findB_ok (x : UInt8) : ∀ (l : List UInt8) (i : Nat), findB x.toNat l.length (codeL l) i = match l.findIdx? (· == x) with | some j => ((i + j : Nat) : Int) | none => -1 := by
  intro l
  induction l with
  | nil => intro i; rfl
  | cons b l ih =>
    intro i
    have hb : b.toNat < 256 := b.toNat_lt
    have e1 : codeL (b :: l) % 256 = b.toNat := by show (b.toNat + 256 * codeL l) % 256 = _; omega
    have e2 : codeL (b :: l) / 256 = codeL l := by show (b.toNat + 256 * codeL l) / 256 = _; omega
    have h : findB x.toNat (b :: l).length (codeL (b :: l)) i = @Bool.rec (fun _ => Int) (findB x.toNat l.length (codeL (b :: l) / 256) (i + 1)) (.ofNat i) (Nat.beq (codeL (b :: l) % 256) x.toNat) := rfl
    rw [h, brec, e1, e2, ih, List.findIdx?_cons]
    by_cases hbx : b = x
    · subst hbx; simp
    · have h1 : ¬ Nat.beq b.toNat x.toNat = true := fun h => hbx (UInt8.toNat_inj.1 (beq_eq' h))
      have h2 : (b == x) = false := by simp [hbx]
      rw [if_neg h1, h2]
      simp only [Bool.false_eq_true, if_false]
      cases l.findIdx? (· == x) with
      | none => rfl
      | some j =>
        show ((i + 1 + j : Nat) : Int) = ((i + (j + 1) : Nat) : Int)
        congr 1
        omega

theorem firstIdx_eq (s : ByteArray) (x : UInt8) : firstIdx s x = match s.data.toList.findIdx? (· == x) with | some j => ((j : Nat) : Int) | none => -1 := by
  unfold firstIdx
  have hget : ∀ i (h : i < s.data.toList.length), s[i]! = s.data.toList[i] := fun i h => by
    have h' : i < s.size := h
    rw [getElem!_pos s i h']
    rfl
  cases hf : s.data.toList.findIdx? (· == x) with
  | none =>
    have : (List.range s.size).find? (fun i => s[i]! == x) = none := by
      rw [List.find?_eq_none]
      intro i hi
      have hi' : i < s.data.toList.length := by simpa using hi
      rw [hget i hi']
      rw [List.findIdx?_eq_none_iff] at hf
      have := hf _ (List.getElem_mem hi')
      simpa using this
    rw [this]
  | some j =>
    rw [List.findIdx?_eq_some_iff_getElem] at hf
    obtain ⟨hj, h1, h2⟩ := hf
    have : (List.range s.size).find? (fun i => s[i]! == x) = some j := by
      rw [List.find?_range_eq_some]
      refine ⟨?_, ?_, ?_⟩
      · rw [hget j hj]; exact h1
      · simpa using hj
      · intro k hk
        rw [hget k (by omega)]
        have := h2 k hk
        simpa using this
    rw [this]

theorem indexByte_ok (hX : ExtOK P) {c : Call} {x y : Operand} (hc : c.callee = .value (.func 301)) (ha : c.args.toList = [x, y]) :
    ValS P (.call c) (u2 x y fun v u _ κ => vStr v fun n c => vInt u fun k b => cut (Nat.beq (kNum k) 4) (iNat b fun b => cut (Nat.blt b 256) (forceI (findB b n c 0) fun i => κ (.int .i64 i)))).f := by
  intro s E κ res h w₀ ρ w ev hR hV
  have ha' : c.args = #[x, y] := Array.toList_inj.1 ha
  have hx : VR ρ ((cE x).f s) (ev x) := hV x (by simp [Op.operands, Call.operands, hc, ha'])
  have hy : VR ρ ((cE y).f s) (ev y) := hV y (by simp [Op.operands, Call.operands, hc, ha'])
  rw [u2_f] at h
  obtain ⟨n, cd, ex, h1⟩ := vStr_some h
  obtain ⟨k, i, ey, h2⟩ := vInt_some h1
  obtain ⟨hk, h3⟩ := cut_some.1 h2
  obtain ⟨b, ei, h4⟩ := iNat_some h3
  obtain ⟨hb, h5⟩ := cut_some.1 h4
  have hk : k = .u8 := kNum_inj (by rw [beq_eq' hk]; rfl)
  have hb := blt_lt hb
  rw [forceI_eq] at h5
  rw [ex] at hx
  rw [ey, ei, hk] at hy
  obtain ⟨st, es, b1, b2⟩ := hx.str_inv
  refine ⟨_, .int .i64 (firstIdx st (b : Int).toNat.toUInt8), h5, ?_, fun o ho => ?_⟩
  · have e8 : (b : Int).toNat.toUInt8 = UInt8.ofNat b := by simp
    have e9 : (UInt8.ofNat b).toNat = b := by simp; omega
    have := findB_ok (UInt8.ofNat b) st.data.toList 0
    rw [e9, b1, b2] at this
    rw [this, e8, firstIdx_eq]
    simp only [Nat.zero_add]
    exact .int _ _
  · rw [run_call hc (hV (.func 301) (by simp [Op.operands, Call.operands, hc])) o ho, ha']
    simp only [List.map_toArray, List.map_cons, List.map_nil, es, hy.int_inv]
    rw [hX.ix, run_indexByte_string]
    rfl

theorem countB_ok (x : UInt8) : ∀ (l : List UInt8) (k : Nat), countB x.toNat l.length (codeL l) k = k + l.count x := by
  intro l
  induction l with
  | nil => intro i; rfl
  | cons b l ih =>
    intro k
    have hb : b.toNat < 256 := b.toNat_lt
    have e1 : codeL (b :: l) % 256 = b.toNat := by show (b.toNat + 256 * codeL l) % 256 = _; omega
    have e2 : codeL (b :: l) / 256 = codeL l := by show (b.toNat + 256 * codeL l) / 256 = _; omega
    have h : countB x.toNat (b :: l).length (codeL (b :: l)) k = countB x.toNat l.length (codeL (b :: l) / 256) (@Bool.rec (fun _ => Nat) k (k + 1) (Nat.beq (codeL (b :: l) % 256) x.toNat)) := rfl
    rw [h, brec, e1, e2, ih, List.count_cons]
    by_cases hbx : b = x
    · subst hbx; simp; omega
    · have h1 : ¬ Nat.beq b.toNat x.toNat = true := fun h => hbx (UInt8.toNat_inj.1 (beq_eq' h))
      have h2 : (b == x) = false := by simp [hbx]
      rw [if_neg h1, h2]
      simp

theorem count_ok (hX : ExtOK P) {c : Call} {x y : Operand} (hc : c.callee = .value (.func 181)) (ha : c.args.toList = [x, y]) :
    ValS P (.call c) (u2 x y fun v u _ κ => vStr v fun n c => vInt u fun k b => cut (Nat.beq (kNum k) 4) (iNat b fun b => cut (Nat.blt b 256) (forceN (countB b n c 0) fun i => κ (.int .i64 (.ofNat i))))).f := by
  intro s E κ res h w₀ ρ w ev hR hV
  have ha' : c.args = #[x, y] := Array.toList_inj.1 ha
  have hx : VR ρ ((cE x).f s) (ev x) := hV x (by simp [Op.operands, Call.operands, hc, ha'])
  have hy : VR ρ ((cE y).f s) (ev y) := hV y (by simp [Op.operands, Call.operands, hc, ha'])
  rw [u2_f] at h
  obtain ⟨n, cd, ex, h1⟩ := vStr_some h
  obtain ⟨k, i, ey, h2⟩ := vInt_some h1
  obtain ⟨hk, h3⟩ := cut_some.1 h2
  obtain ⟨b, ei, h4⟩ := iNat_some h3
  obtain ⟨hb, h5⟩ := cut_some.1 h4
  have hk : k = .u8 := kNum_inj (by rw [beq_eq' hk]; rfl)
  have hb := blt_lt hb
  rw [forceN_eq] at h5
  rw [ex] at hx
  rw [ey, ei, hk] at hy
  obtain ⟨st, es, b1, b2⟩ := hx.str_inv
  have e8 : (b : Int).toNat.toUInt8 = UInt8.ofNat b := by simp
  have e9 : (UInt8.ofNat b).toNat = b := by simp; omega
  have := countB_ok (UInt8.ofNat b) st.data.toList 0
  rw [e9, b1, b2] at this
  rw [this] at h5
  refine ⟨_, _, h5, .int _ _, fun o ho => ?_⟩
  rw [run_call hc (hV (.func 181) (by simp [Op.operands, Call.operands, hc])) o ho, ha']
  simp only [List.map_toArray, List.map_cons, List.map_nil, es, hy.int_inv]
  rw [hX.ct, Lib.run_countString, e8, Nat.zero_add]
  rfl

theorem digits_flat : ∀ (n t : Nat) (acc : Array Value), (∀ y ∈ acc, flatV y = true) → ∀ y ∈ Extern.BytealgMakeNoZero.digits n t acc, flatV y = true
  | 0, _, _, h => h
  | n + 1, t, acc, h => by
    rw [Extern.BytealgMakeNoZero.digits]
    refine digits_flat n _ _ fun y hy => ?_
    rcases Array.mem_push.1 hy with hy | hy
    · exact h y hy
    · rw [hy]; rfl

theorem run_mkNoZero (t e : TypeId) (ht : P.underlying t = some (.slice e)) (ps : Array TypeId) (n : Nat) (hn : n ≤ 281474976710656) (w : World) :
    ∃ cs : Array Value, (Extern.BytealgMakeNoZero.makeNoZero ps #[t] #[.int .i64 n]).run P w = .ok (.slice (some ⟨w.heap.size, 0, none⟩) n cs.size) (w.drew.drew.alloc (.cells cs e)) ∧ n ≤ cs.size ∧ ∀ y ∈ cs, flatV y = true := by
  have hdef : Extern.BytealgMakeNoZero.makeNoZero ps #[t] #[.int .i64 n] =
      (do
        let .slice elem ← underlying t | stuck "bytealg.MakeNoZero: slice type expected"
        if (n : Int) < 0 || (n : Int) > 2 ^ 48 then runtimePanic (.error "makeslice: len out of range")
        let cap ← choose (.appendCap (n : Int).toNat 0 elem)
        askRoom cap
        let bytes ← choose (.extern "internal/bytealg.MakeNoZero.bytes" 0)
        let a ← newRow elem (Extern.BytealgMakeNoZero.digits cap bytes #[])
        pure (.slice (some a) (n : Int).toNat cap)) := rfl
  refine ⟨Extern.BytealgMakeNoZero.digits (grownCap w n 0 e) ((Question.extern "internal/bytealg.MakeNoZero.bytes" 0).cut (w.tape (w.drawn + 1) (.extern "internal/bytealg.MakeNoZero.bytes" 0))) #[], ?_, ?_, ?_⟩
  · rw [hdef]
    have h1 : ¬ (n : Int) < 0 := by omega
    have h2 : ¬ (281474976710656 : Int) < (n : Int) := by omega
    simp [run_underlying ht, h1, h2, Question.forced, newRow, Lib.size_digits, grownCap]
  · rw [Lib.size_digits]
    simpa using grownCap_ge w n 0 e
  · exact digits_flat _ _ _ (by simp)

theorem repU_ok (ρ : Rho) : ∀ (n : Nat) (us : List Value), us.length = n → (∀ y ∈ us, flatV y = true) → VRs ρ (repL [.unk] n) us
  | 0, us, h, _ => by rw [List.eq_nil_of_length_eq_zero h]; exact VRs.nil ρ
  | n + 1, us, h, hf => by
    cases us with
    | nil => simp at h
    | cons u us =>
      rw [repL_succ]
      exact VRs.cons (.unk (hf u (by simp))) (repU_ok ρ n us (by simpa using h) fun y hy => hf y (by simp [hy]))

theorem makeNoZero_ok (hX : ExtOK P) {c : Call} {x : Operand} (hc : c.callee = .value (.func 188)) (ha : c.args.toList = [x]) {e : TypeId} (hu : under P 82 = some (.slice e)) :
    EffS P (.call c) (fun s w κ => vInt ((cE x).f s) fun k n => cut (Nat.beq (kNum k) 3) (iNat n fun n => cut (Nat.blt n 1000000) (newB (.cells e n (repL [.unk] n) false none 0 false) w fun id w => κ (.slice id 0 n n 1) w))) := by
  intro s E κ res h w₀ ρ w ev hR hV
  have ha' : c.args = #[x] := Array.toList_inj.1 ha
  have hx : VR ρ ((cE x).f s) (ev x) := hV x (by simp [Op.operands, Call.operands, hc, ha'])
  obtain ⟨k, i, ex, h1⟩ := vInt_some h
  obtain ⟨hk, h2⟩ := cut_some.1 h1
  obtain ⟨n, ei, h3⟩ := iNat_some h2
  obtain ⟨hn, h4⟩ := cut_some.1 h3
  obtain ⟨hlim, h5⟩ := newB_some h4
  have hk : k = .i64 := kNum_inj (by rw [beq_eq' hk]; rfl)
  have hn := blt_lt hn
  rw [ex, ei, hk] at hx
  obtain ⟨cs, hrun, hcs, hfl⟩ := run_mkNoZero (P := P) 82 e (under_ok hu) #[3] n (by omega) w
  have hB : Blk (ρ.ext E.next (w.drew.drew.heap.size, 0, cs.size)) { w.drew.drew with heap := w.drew.drew.heap.push (.cells cs e) } w.drew.drew.heap.size 0 cs.size (.cells e n (repL [.unk] n) false none 0 false) := by
    refine ⟨by rw [repL_length]; simp, hcs, cs, 0, 0, (by show (w.heap.push _)[w.heap.size]? = _; simp), by simp, ?_, flat_all hfl, (fun h => by cases h), fun _ => .inl rfl⟩
    rw [List.drop_zero]
    exact repU_ok _ n _ (by simp; omega) (fun y hy => hfl y (Array.mem_toList_iff.1 (List.mem_of_mem_take hy)))
  have hR' := ((hR.drew (w.drawn + 1)).drew (w.drew.drawn + 1)).new hlim hB
  refine ⟨_, _, _, .slice (some ⟨w.heap.size, 0, none⟩) n cs.size, _, .value _, h5, Ext.ext _ _ _, Nat.le_succ _, hR', ?_, fun o ho => ?_, .inl rfl⟩
  · have := VR.slice (ρ := ρ.ext E.next (w.drew.drew.heap.size, 0, cs.size)) (b := E.next) (r := w.heap.size) (d := 0) (q := cs.size) (o := 0) (n := n) (c := n) (c' := cs.size) (m := 1) (Rho.ext_same _ _ _) hcs (fun h => by omega) (fun _ => by omega)
    simpa using this
  · rw [run_call hc (hV (.func 188) (by simp [Op.operands, Call.operands, hc])) o ho, ha']
    simp only [List.map_toArray, List.map_cons, List.map_nil, hx.int_inv]
    rw [hX.mz, hrun]
    rfl
end Go.Ex
namespace Go.Ex
variable [Val]
set_option linter.unusedSectionVars false
variable {P : Program}

/-- what a call's ending is to its continuation -/
def RetOK (w₀ : World) (ρ : Rho) (E : XW) (κ : XV → XW → R) (res : XV × XW) : Ending → World → Prop
  | .returned v, w' => ∃ x E' ρ', κ x E' = some res ∧ Ext E.next ρ ρ' ∧ E.next ≤ E'.next ∧ Rep w₀ ρ' E' w' ∧ VR ρ' x v
  | _, _ => False

/-- calls are as they are known -/
def CallOK (P : Program) (call : Rec) : Prop := ∀ (f : FuncId) (args : List XV) (E : XW) (κ : XV → XW → R) (res : XV × XW), (call f false).f args E κ = some res →
  ∀ (w₀ : World) (ρ : Rho) (w : World) (args' : Array Value), Rep w₀ ρ E w → VRs ρ args args'.toList → Calls P f args' w (RetOK w₀ ρ E κ res)

/-- deferred calls -/
def DefOK (P : Program) (call : Rec) : Prop := ∀ (f : FuncId) (args : List XV) (E : XW) (κ : XV → XW → R) (res : XV × XW), (call f true).f args E κ = some res →
  ∀ (w₀ : World) (ρ : Rho) (w : World) (args' : Array Value), Rep w₀ ρ E w → VRs ρ args args'.toList → CallsD P f args' .returning w (fun e u' w' => u' = .returning ∧ RetOK w₀ ρ E κ res e w')

/-- an operation that turns the world, calls too -/
def WpS (P : Program) (op : Op) (f : Sl → XW → (XV → XW → R) → R) : Prop := ∀ (s : Sl) (E : XW) (κ : XV → XW → R) (res : XV × XW), f s E κ = some res →
  ∀ (w₀ : World) (ρ : Rho) (w : World) (a : Act) (o : Oper), o.op = op → Rep w₀ ρ E w → (∀ x ∈ op.operands, OpV ρ s a.eval x) →
  ∀ (next : Act → World → Prop) (Q : Exit → Act → World → Prop),
    (∀ x E' ρ' v w', κ x E' = some res → Ext E.next ρ ρ' → E.next ≤ E'.next → Rep w₀ ρ' E' w' → VR ρ' x v → next (a.put o.dst v) w') → o.wp P a w next Q

theorem EffS.wp {op : Op} {f : Sl → XW → (XV → XW → R) → R} (h : EffS P op f) : WpS P op f := by
  intro s E κ res hf w₀ ρ w a o ho hR hV next Q hN
  obtain ⟨x, E', ρ', v, w', n, h1, h2, h3, h4, h5, h6, h7⟩ := h s E κ res hf w₀ ρ w a.eval hR hV
  unfold Oper.wp
  rw [h6 o ho]
  rcases h7 with rfl | ⟨rfl, rfl⟩
  · exact hN x E' ρ' v w' h1 h2 h3 h4 h5
  · exact hN x E' ρ' undef w' h1 h2 h3 h4 h5

theorem hasBody_ok {f : FuncId} (h : hasBody P f = true) (args : Array Value) (w : World) : (callFunc f args).run P w = .ok (.enter f args) w := by
  unfold hasBody at h
  split at h
  · rename_i fn hf
    split at h
    · rename_i c hc
      split at h
      · cases h
      · rename_i hn
        have hf' : P.funcs[f]? = some fn := by
          unfold funcAt at hf
          rw [nthT_eq] at hf
          simpa using hf
        have hn' : fn.name ≠ "runtime.NumGoroutine" := by simpa using hn
        simp [callFunc, hf', hn', hc]
    · cases h
  · cases h

theorem fnFunc_some {fn : Fn} {κ : FuncId → R} {r : XV × XW} (h : fnFunc fn κ = some r) : ∃ f, fn = .func f ∧ κ f = some r := by
  cases fn with
  | func f => exact ⟨f, rfl, h⟩
  | method n => cases h
  | methodOf t n => cases h
  | via t p f b => cases h
  | yield l => cases h

theorem target_some {v : XV} {args : List XV} {κ : FuncId → List XV → R} {r : XV × XW} (h : target P v args κ = some r) :
    ∃ f first cap, v = .func (.func f) first cap ∧ hasBody P f = true ∧ κ f (first ++ (args ++ cap)) = some r := by
  unfold target at h
  rcases vFunc_some h with ⟨fn, first, cap, rfl, h1⟩ | ⟨_, h1⟩
  · obtain ⟨f, rfl, h2⟩ := fnFunc_some h1
    obtain ⟨hb, h3⟩ := cut_some.1 h2
    rw [appL_eq, appL_eq] at h3
    exact ⟨f, first, cap, rfl, hb, h3⟩
  · cases h1

theorem call_static {call : Rec} (hC : CallOK P call) {c : Call} {f : FuncId} (hc : c.callee = .value (.func f)) (hb : hasBody P f = true) :
    WpS P (.call c) (fun s w κ => (call f false).f ((cEs c.args.toList).f s) w κ) := by
  intro s E κ res h w₀ ρ w a o ho hR hV next Q hN
  have hargs := cEs_ok (ρ := ρ) (s := s) (ev := a.eval) c.args.toList (fun x hx => hV x (by
    simp only [Op.operands, Call.operands, hc]
    exact Array.mem_append.2 (.inr (Array.mem_toList_iff.1 hx))))
  have hcall := hC f _ E κ res h w₀ ρ w (c.args.map a.eval) hR (by rw [Array.toList_map]; exact hargs)
  unfold Oper.wp
  rw [run_call hc (hV (.func f) (by simp [Op.operands, Call.operands, hc])) o ho, hasBody_ok hb]
  rw [Oper.upon_enter]
  refine hcall.mono fun e w' he => ?_
  cases e with
  | returned v =>
    obtain ⟨x, E', ρ', k1, k2, k3, k4, k5⟩ := he
    exact hN x E' ρ' v w' k1 k2 k3 k4 k5
  | panicked ch => exact he.elim
  | outgrown => exact he.elim

theorem call_dyn {call : Rec} (hC : CallOK P call) {c : Call} {f : Operand} (hc : c.callee = .value f) :
    WpS P (.call c) (fun s w κ => target P ((cE f).f s) ((cEs c.args.toList).f s) fun f args => (call f false).f args w κ) := by
  intro s E κ res h w₀ ρ w a o ho hR hV next Q hN
  have hargs := cEs_ok (ρ := ρ) (s := s) (ev := a.eval) c.args.toList (fun x hx => hV x (by
    simp only [Op.operands, Call.operands, hc]
    exact Array.mem_append.2 (.inr (Array.mem_toList_iff.1 hx))))
  have hf : VR ρ ((cE f).f s) (a.eval f) := hV f (by simp [Op.operands, Call.operands, hc])
  obtain ⟨g, first, cap, e, hb, h1⟩ := target_some h
  rw [e] at hf
  obtain ⟨first', cap', ev', v1, v2⟩ := hf.func_inv
  have hcall := hC g _ E κ res h1 w₀ ρ w (first' ++ c.args.map a.eval ++ cap') hR (by
    have := v1.append (hargs.append v2)
    simpa [List.append_assoc] using this)
  unfold Oper.wp
  have hrun : (execOp a.eval o).run P w = .ok (.enter g (first' ++ c.args.map a.eval ++ cap')) w := by
    simp only [execOp, ho, resolve, hc, Deferred.ofValue, ev', Sem.run_bind, Sem.run_pure, Result.andThen_ok, invoke]
    exact hasBody_ok hb _ w
  rw [hrun, Oper.upon_enter]
  refine hcall.mono fun e w' he => ?_
  cases e with
  | returned v =>
    obtain ⟨x, E', ρ', k1, k2, k3, k4, k5⟩ := he
    exact hN x E' ρ' v w' k1 k2 k3 k4 k5
  | panicked ch => exact he.elim
  | outgrown => exact he.elim

/-- a deferred call, as it is known -/
def DR (P : Program) (ρ : Rho) (d : FuncId × List XV) (d' : Deferred) : Prop := ∃ fv cap args', d'.target = .fn fv cap ∧ (∀ w, (invoke d'.target d'.args).run P w = .ok (.enter d.1 args') w) ∧ VRs ρ d.2 args'.toList

def DfrS (P : Program) (op : Op) (f : Sl → (FuncId → List XV → R) → R) : Prop := ∀ (s : Sl) (κ : FuncId → List XV → R) (res : XV × XW), f s κ = some res →
  ∀ (ρ : Rho) (w : World) (ev : Operand → Value), (∀ x ∈ op.operands, OpV ρ s ev x) → ∃ g args d, κ g args = some res ∧ DR P ρ (g, args) d ∧ Runs P ev op w (.defer d) w

theorem defer_ok {c : Call} {f : Operand} (hc : c.callee = .value f) : DfrS P (.defer c) (fun s κ => target P ((cE f).f s) ((cEs c.args.toList).f s) κ) := by
  intro s κ res h ρ w ev hV
  have hargs := cEs_ok (ρ := ρ) (s := s) (ev := ev) c.args.toList (fun x hx => hV x (by
    simp only [Op.operands, Call.operands, hc]
    exact Array.mem_append.2 (.inr (Array.mem_toList_iff.1 hx))))
  have hf : VR ρ ((cE f).f s) (ev f) := hV f (by simp [Op.operands, Call.operands, hc])
  obtain ⟨g, first, cap, e, hb, h1⟩ := target_some h
  rw [e] at hf
  obtain ⟨first', cap', ev', v1, v2⟩ := hf.func_inv
  refine ⟨g, _, { target := .fn (.func g) cap', args := first' ++ c.args.map ev }, h1, ⟨.func g, cap', first' ++ c.args.map ev ++ cap', rfl, fun w => ?_, ?_⟩, fun o ho => ?_⟩
  · simp only [invoke]
    exact hasBody_ok hb _ w
  · have := v1.append (hargs.append v2)
    simpa [List.append_assoc] using this
  · simp [execOp, ho, resolve, hc, Deferred.ofValue, ev']

/-- what an operation's closure is to it -/
inductive ClOk (P : Program) (op : Op) : Cl → Prop
  | pure {g} : ValS P op (fun s _ κ => κ (g s)) → ClOk P op (.pure g)
  | val {f} : ValS P op f → ClOk P op (.val f)
  | new {f} : NewS P op f → ClOk P op (.new f)
  | eff {f} : WpS P op f → ClOk P op (.eff f)
  | dfr {f} : DfrS P op f → ClOk P op (.dfr f)
  | none : ClOk P op .none

theorem ClOk.ofV {op : Op} {b : BV} (h : ValS P op b.f) : ClOk P op (ofV b) := .val h
theorem ClOk.ofA {op : Op} {b : BA} (h : NewS P op b.f) : ClOk P op (ofA b) := .new h
theorem ClOk.ofF {op : Op} {b : BF} (h : EffS P op b.f) : ClOk P op (ofF b) := .eff h.wp

theorem cExtern_ok (hX : ExtOK P) {c : Call} {f : FuncId} (hc : c.callee = .value (.func f)) : ClOk P (.call c) (cExtern P f c.args.toList) := by
  unfold cExtern
  split
  · rename_i x ha; exact .ofV (noEscape_ok hX hc ha)
  · rename_i x ha
    rw [be_eta x]
    split
    · rename_i e g hu hg
      cases hg
      exact .eff (makeNoZero_ok hX hc ha hu).wp
    · exact .none
  · rename_i x y ha; exact .ofV (indexByte_ok hX hc ha)
  · rename_i x y ha; exact .ofV (count_ok hX hc ha)
  · exact .none

theorem cCall_ok (hX : ExtOK P) {call : Rec} (hC : CallOK P call) {c : Call} {f : Operand} (hc : c.callee = .value f) : ClOk P (.call c) (cCall P call f c.args.toList) := by
  unfold cCall
  split
  · rename_i g
    split
    · rename_i fn hf
      split
      · rename_i hb
        split
        · exact .none
        · exact cExtern_ok hX hc
      · rename_i cd hb
        cases hh : hasBody P g with
        | true => exact .eff (call_static hC hc hh)
        | false => exact .none
    · exact .none
  · exact .eff (call_dyn hC hc)

theorem cBuiltin_ok {c : Call} {b : Builtin} (hc : c.callee = .builtin b) : ClOk P (.call c) (cBuiltin P b c.argTypes c.args.toList) := by
  unfold cBuiltin
  split
  · rename_i t x y ht ha
    split
    · rename_i u hu; exact .ofF (append_ok hc ht hu ha)
    · exact .none
  · rename_i t x y ht ha; exact .ofF (copy_ok hc ht ha)
  · rename_i t x ht ha; exact .ofF (clear_ok hc ht ha)
  · rename_i t x y ht ha; exact .ofF (unsafeString_ok hc ht ha)
  · rename_i t x ht ha; exact .ofV (len_ok hc ht ha)
  · rename_i t x ht ha; exact .ofV (cap_ok hc ht ha)
  · rename_i x ys ha; exact .ofV (min_ok (lt := true) hc ha)
  · rename_i x ys ha; exact .ofV (min_ok (lt := false) hc ha)
  · rename_i x ha; exact .ofV (sliceData_ok hc ha)
  · exact .none

theorem cCl0_ok (hX : ExtOK P) {call : Rec} (hC : CallOK P call) (op : Op) : ClOk P op (cCl0 P call op) := by
  unfold cCl0
  split
  · exact .pure (move_ok _)
  · exact .pure (assign_ok _)
  · exact .ofV (pick_ok _ _ _)
  · exact .ofA (alloc_ok _)
  · exact .ofA (box_ok _ _)
  · exact .ofV (build_ok _ _)
  · exact .ofA (buildSlice_ok _ _ _)
  · exact .ofV (load_ok _ _)
  · exact .ofF (store_ok _ _ _)
  · exact .ofV (nilCheck_ok _)
  · exact .ofV (binOp_ok _ _ _ _ _)
  · exact .ofV (unOp_ok _ _ _)
  · split
    · rename_i b hb; exact .ofF (bytes_ok hb)
    · exact .ofV (conv_ok _ _ _)
  · exact .ofV (iface_ok _ _)
  · exact .ofV (makeFunc_ok _ _ _)
  · exact .new (makeMap_ok _)
  · exact .ofA (makeSlice_ok _ _ _)
  · exact .ofV (slice_ok _ _ _ _ _)
  · exact .ofV (fieldAddr_ok _ _ _)
  · exact .ofV (field_ok _ _ _)
  · exact .ofV (indexAddr_ok _ _ _)
  · exact .ofV (index_ok _ _ _)
  · exact .ofV (lookup_ok _ _ _ _)
  · exact .ofF (mapUpdate_any _ _ _ _ _ (.inl rfl))
  · exact .ofF (mapUpdate_any _ _ _ _ _ (.inr rfl))
  · exact .ofA (range_ok _ _)
  · exact .ofF (next_ok _)
  · exact .ofV (extract_ok _ _)
  · rename_i c
    split
    · rename_i b hb; exact cBuiltin_ok hb
    · rename_i f hf; exact cCall_ok hX hC hf
    · exact .none
  · rename_i c
    split
    · rename_i f hf; exact .dfr (defer_ok hf)
    · exact .none
  · exact .none

theorem hook_ok (hX : ExtOK P) {op : Op} {c : Cl} (hc : ClOk P op c) {g : List XV → Option XV} (hg : Tab.op op = some g) : ClOk P op (hook (cEs op.operands.toList).f g c) := by
  cases hc with
  | val h =>
    refine .val ?_
    intro s E κ res hr w₀ ρ w ev hR hV
    rcases oX_some hr with ⟨v, h1, h2⟩ | ⟨_, h2⟩
    · obtain ⟨u, h3, h4⟩ := hX.op op g _ v hg h1 ρ w ev (cEs_ok (s := s) op.operands.toList fun x hx => hV x (Array.mem_toList_iff.1 hx))
      exact ⟨v, u, h2, h3, h4⟩
    · exact h s E κ res h2 w₀ ρ w ev hR hV
  | pure h => exact .pure h
  | new h => exact .new h
  | eff h => exact .eff h
  | dfr h => exact .dfr h
  | none => exact .none

theorem cCl_ok (hX : ExtOK P) {call : Rec} (hC : CallOK P call) (op : Op) : ClOk P op (cCl P call op) := by
  unfold cCl
  split
  · exact cCl0_ok hX hC op
  · rename_i g hg
    exact hook_ok hX (cCl0_ok hX hC op) hg
end Go.Ex
namespace Go.Ex
variable [Val]
set_option linter.unusedSectionVars false
variable {P : Program}

/-- slots as the temporaries are -/
def TR (ρ : Rho) (t : Sl) (tmps : Array Value) : Prop := ∀ i, i < 256 → VR ρ ((get4 i).f t) (tmps.getD i undef)

def DRs (P : Program) (ρ : Rho) : DS → List Deferred → Prop
  | [], [] => True
  | d :: ds, d' :: ds' => DR P ρ d d' ∧ DRs P ρ ds ds'
  | _, _ => False

structure SR (P : Program) (nt : Nat) (w₀ : World) (ρ : Rho) (t : Sl) (ds : DS) (E : XW) (a : Act) (w : World) : Prop where
  rep : Rep w₀ ρ E w
  tmp : TR ρ t a.tmps
  le : a.tmps.size ≤ 256
  ge : nt ≤ a.tmps.size
  dfr : DRs P ρ ds a.defers

theorem TR.mono {ρ ρ' : Rho} (h : Rho.le ρ ρ') {t : Sl} {tmps : Array Value} (ht : TR ρ t tmps) : TR ρ' t tmps := fun i hi => (ht i hi).mono h
theorem DR.mono {ρ ρ' : Rho} (h : Rho.le ρ ρ') {d : FuncId × List XV} {d' : Deferred} (hd : DR P ρ d d') : DR P ρ' d d' := by
  obtain ⟨fv, cap, args, h1, h2, h3⟩ := hd
  exact ⟨fv, cap, args, h1, h2, h3.mono h⟩
theorem DRs.mono {ρ ρ' : Rho} (h : Rho.le ρ ρ') : ∀ {ds : DS} {ds' : List Deferred}, DRs P ρ ds ds' → DRs P ρ' ds ds'
  | [], [], _ => trivial
  | _ :: _, _ :: _, hd => ⟨hd.1.mono h, DRs.mono h hd.2⟩
  | [], _ :: _, hd => hd.elim
  | _ :: _, [], hd => hd.elim

theorem getB_f (n : Nat) (t : Sl) : (getB n).f t = if n < 256 then (get4 n).f t else undefX := by
  unfold getB
  cases h : Nat.blt n 256 with
  | true => rw [if_pos (blt_lt h)]
  | false =>
    have : ¬ n < 256 := fun h' => by
      have : Nat.blt n 256 = true := by simpa [Nat.blt_eq] using h'
      rw [this] at h; cases h
    rw [if_neg this]

theorem eval_ok {ρ : Rho} {t : Sl} {a : Act} (ht : TR ρ t a.tmps) (hle : a.tmps.size ≤ 256) (hg : ∃ q, ρ 0 = some (0, 0, q)) (x : Operand) : OpV ρ t a.eval x := by
  unfold OpV
  cases x with
  | tmp i =>
    show VR ρ ((getB i).f t) (a.tmps.getD i undef)
    rw [getB_f]
    split
    · rename_i hi; exact ht i hi
    · rename_i hi
      have : a.tmps.getD i undef = undef := by
        rw [Array.getD_eq_getD_getElem?, Array.getElem?_eq_none (by omega)]; try rfl
      rw [this]
      exact VR.undef
  | const v => exact ofValue_ok ρ v
  | global g =>
    show VR ρ ((cE (.global g)).f t) (.pointer (some ⟨g, 0, none⟩))
    cases g with
    | zero =>
      obtain ⟨q, hq⟩ := hg
      have := VR.ptr (ρ := ρ) (b := 0) (r := 0) (d := 0) (q := q) (o := 0) hq
      exact this
    | succ g => exact .bad
  | func f => exact .func _ rfl rfl (by simp) (by simp)

theorem SR.eval {nt : Nat} {w₀ w : World} {ρ : Rho} {t : Sl} {ds : DS} {E : XW} {a : Act} (h : SR P nt w₀ ρ t ds E a w) (x : Operand) : OpV ρ t a.eval x :=
  eval_ok h.tmp h.le h.rep.glob x

theorem put_size (a : Act) (dst : Option Tmp) (v : Value) : (a.put dst v).tmps.size = a.tmps.size := by cases dst <;> simp [Act.put]
theorem put_defers (a : Act) (dst : Option Tmp) (v : Value) : (a.put dst v).defers = a.defers := by cases dst <;> rfl

theorem cDst_ok {nt : Nat} {dst : Option Tmp} {p : BU Sl XV} (hp : cDst nt dst = some p) {ρ : Rho} {t : Sl} {a : Act} (ht : TR ρ t a.tmps) (hle : a.tmps.size ≤ 256) (hge : nt ≤ a.tmps.size) {x : XV} {v : Value} (hv : VR ρ x v) :
    TR ρ (p.f t x) (a.put dst v).tmps := by
  unfold cDst at hp
  split at hp
  · cases hp; exact ht
  · rename_i d
    split at hp
    · rename_i hd
      have hd := blt_lt hd
      cases hp
      intro i hi
      show VR ρ ((get4 i).f ((set4 d).f t x)) ((a.tmps.setIfInBounds d v).getD i undef)
      rw [get_set4 d i (by omega) hi]
      by_cases e : i = d
      · subst e
        rw [if_pos rfl]
        have : (a.tmps.setIfInBounds i v).getD i undef = v := by
          rw [Array.getD_eq_getD_getElem?]; simp; omega
        rw [this]; exact hv
      · rw [if_neg e]
        have : (a.tmps.setIfInBounds d v).getD i undef = a.tmps.getD i undef := by
          rw [Array.getD_eq_getD_getElem?, Array.getD_eq_getD_getElem?, Array.getElem?_setIfInBounds_ne (Ne.symm e)]
        rw [this]; exact ht i hi
    · cases hp

/-- a result is put -/
theorem SR.put {nt : Nat} {w₀ w w' : World} {ρ ρ' : Rho} {t : Sl} {ds : DS} {E E' : XW} {a : Act} (h : SR P nt w₀ ρ t ds E a w) (hx : Ext E.next ρ ρ') (hR : Rep w₀ ρ' E' w') {dst : Option Tmp} {p : BU Sl XV} (hp : cDst nt dst = some p) {x : XV} {v : Value} (hv : VR ρ' x v) :
    SR P nt w₀ ρ' (p.f t x) ds E' (a.put dst v) w' := by
  have hle := h.rep.le hx
  exact ⟨hR, cDst_ok hp (h.tmp.mono hle) h.le h.ge hv, by rw [put_size]; exact h.le, by rw [put_size]; exact h.ge, by rw [put_defers]; exact h.dfr.mono hle⟩

/-! guards -/
def boolV : Value → Option Bool
  | .bool b => some b
  | _ => none
def boolX : XV → Option Bool
  | .bool b => some b
  | _ => none
theorem yield_ok {ρ : Rho} {x : XV} {v : Value} (hv : VR ρ x v) (h1 : x ≠ .unk) (h2 : x ≠ .bad) (h3 : ∀ i, x ≠ .atom i) : boolV v = boolX x := by
  cases hv <;> first | rfl | (exact absurd rfl h1) | (exact absurd rfl h2) | (exact absurd rfl (h3 _))
theorem vWantT_some' {v : XV} {r : XV × XW} {κ : Bool → R} (h : vWantT v κ = some r) : v ≠ .unk ∧ v ≠ .bad ∧ (∀ i, v ≠ .atom i) ∧ κ (boolX v == some true) = some r := by
  cases v <;> first | (have h' : (none : R) = some r := h; cases h'; done) | (refine ⟨by simp, by simp, by simp, ?_⟩; first | exact h | (rename_i b; cases b <;> exact h))
theorem vWantF_some' {v : XV} {r : XV × XW} {κ : Bool → R} (h : vWantF v κ = some r) : v ≠ .unk ∧ v ≠ .bad ∧ (∀ i, v ≠ .atom i) ∧ κ (boolX v == some false) = some r := by
  cases v <;> first | (have h' : (none : R) = some r := h; cases h'; done) | (refine ⟨by simp, by simp, by simp, ?_⟩; first | exact h | (rename_i b; cases b <;> exact h))

theorem cWant_ok {ops : Array Oper} {j : Nat} {want : Bool} {t : Sl} {κ : Bool → R} {res : XV × XW} (h : (cWant ops j want).f t κ = some res) {ρ : Rho} {a : Act} (hv : ∀ d, (ops[j]?).bind (·.dst) = some d → OpV ρ t a.eval (.tmp d)) :
    κ (yielded ops a.tmps j == some want) = some res := by
  unfold cWant at h
  split at h
  · rename_i d hd
    have hx : VR ρ ((getB d).f t) (a.tmps.getD d undef) := hv d hd
    rw [show getB d = ⟨(getB d).f⟩ from rfl] at h
    have hy : yielded ops a.tmps j = boolV (a.tmps.getD d undef) := by
      unfold yielded
      rw [hd, Array.getD_eq_getD_getElem?]
      show (match a.tmps[d]? with | some (.bool b) => some b | _ => none) = _
      cases a.tmps[d]? with
      | none => rfl
      | some v => cases v <;> rfl
    cases want with
    | true =>
      obtain ⟨n1, n2, n3, h1⟩ := vWantT_some' h
      rw [hy, yield_ok hx n1 n2 n3]
      exact h1
    | false =>
      obtain ⟨n1, n2, n3, h1⟩ := vWantF_some' h
      rw [hy, yield_ok hx n1 n2 n3]
      exact h1
  · cases h

theorem wanted_none {o : Oper} {y : Nat → Option Bool} (h : o.guard = none) : Region.wanted o y = true := by simp [Region.wanted, h]
theorem wanted_some {o : Oper} {y : Nat → Option Bool} {j : Nat} {want : Bool} (h : o.guard = some (j, want)) : Region.wanted o y = (y j == some want) := by simp [Region.wanted, h]

/-! regions that are not drawn -/
def OpsS (P : Program) (nt : Nat) (ops : Array Oper) (l : List Nat) (f : Sl → DS → XW → K → R) : Prop := ∀ (t : Sl) (ds : DS) (E : XW) (k : K) (res : XV × XW), f t ds E k = some res →
  ∀ (w₀ : World) (ρ : Rho) (a : Act) (w : World), SR P nt w₀ ρ t ds E a w → ∀ (Q : Exit → Act → World → Prop),
    (∀ t' ds' E' ρ' a' w', k t' ds' E' = some res → Ext E.next ρ ρ' → E.next ≤ E'.next → SR P nt w₀ ρ' t' ds' E' a' w' → Q .normal a' w') → wpOps P ops Q l a w

/-- one operation, whatever comes behind it -/
theorem cOper_step (hX : ExtOK P) {call : Rec} (hC : CallOK P call) {nt : Nat} {ops : Array Oper} {o : Oper} {r : BR} {t : Sl} {ds : DS} {E : XW} {k : K} {res : XV × XW} (h : (cOper P call nt ops o r).f t ds E k = some res)
    {w₀ w : World} {ρ : Rho} {a : Act} (hS : SR P nt w₀ ρ t ds E a w) {next : Act → World → Prop} {Q : Exit → Act → World → Prop}
    (hN : ∀ t' ds' E' ρ' a' w', r.f t' ds' E' k = some res → Ext E.next ρ ρ' → E.next ≤ E'.next → SR P nt w₀ ρ' t' ds' E' a' w' → next a' w') :
    (Region.wanted o (yielded ops a.tmps) = false ∧ next (a.put o.dst undef) w) ∨ (Region.wanted o (yielded ops a.tmps) = true ∧ o.wp P a w next Q) := by
  -- the operation is skipped
  have skip : ∀ p : BU Sl XV, cDst nt o.dst = some p → Region.wanted o (yielded ops a.tmps) = false → r.f (p.f t undefX) ds E k = some res → (Region.wanted o (yielded ops a.tmps) = false ∧ next (a.put o.dst undef) w) ∨ (Region.wanted o (yielded ops a.tmps) = true ∧ o.wp P a w next Q) := by
    intro p hp hw h1
    exact .inl ⟨hw, hN _ _ _ _ _ _ h1 (Ext.refl _ _) (Nat.le_refl _) (hS.put (Ext.refl _ _) hS.rep hp VR.undef)⟩
  have value : ∀ p : BU Sl XV, cDst nt o.dst = some p → Region.wanted o (yielded ops a.tmps) = true → ∀ x v, r.f (p.f t x) ds E k = some res → VR ρ x v → (execOp a.eval o).run P w = .ok (.value v) w → (Region.wanted o (yielded ops a.tmps) = false ∧ next (a.put o.dst undef) w) ∨ (Region.wanted o (yielded ops a.tmps) = true ∧ o.wp P a w next Q) := by
    intro p hp hw x v h1 hv hrun
    refine .inr ⟨hw, ?_⟩
    unfold Oper.wp
    rw [hrun, Oper.upon_value]
    exact hN _ _ _ _ _ _ h1 (Ext.refl _ _) (Nat.le_refl _) (hS.put (Ext.refl _ _) hS.rep hp hv)
  have new : ∀ p : BU Sl XV, cDst nt o.dst = some p → Region.wanted o (yielded ops a.tmps) = true → ∀ f, NewS P o.op f → (f t fun x mk => newB x E fun n w => r.f (p.f t (mk n)) ds w k) = some res → (Region.wanted o (yielded ops a.tmps) = false ∧ next (a.put o.dst undef) w) ∨ (Region.wanted o (yielded ops a.tmps) = true ∧ o.wp P a w next Q) := by
    intro p hp hw f hf h1
    obtain ⟨x, mk, ob, q, v, h2, _, h4, h5⟩ := hf _ _ _ h1 E w₀ ρ w a.eval hS.rep (fun x _ => hS.eval x)
    obtain ⟨hlim, h6⟩ := newB_some h2
    obtain ⟨hB, hv⟩ := h4 E.next hS.rep.fresh
    refine .inr ⟨hw, ?_⟩
    unfold Oper.wp
    rw [h5 o rfl, Oper.upon_value]
    exact hN _ _ _ _ _ _ h6 (Ext.ext _ _ _) (Nat.le_succ _) (hS.put (Ext.ext _ _ _) (hS.rep.new hlim hB) hp hv)
  have eff : ∀ p : BU Sl XV, cDst nt o.dst = some p → Region.wanted o (yielded ops a.tmps) = true → ∀ f, WpS P o.op f → (f t E fun v w => r.f (p.f t v) ds w k) = some res → (Region.wanted o (yielded ops a.tmps) = false ∧ next (a.put o.dst undef) w) ∨ (Region.wanted o (yielded ops a.tmps) = true ∧ o.wp P a w next Q) := by
    intro p hp hw f hf h1
    exact .inr ⟨hw, hf _ _ _ _ h1 w₀ ρ w a o rfl hS.rep (fun x _ => hS.eval x) _ _ fun x E' ρ' v w' k1 k2 k3 k4 k5 => hN _ _ _ _ _ _ k1 k2 k3 (hS.put k2 k4 hp k5)⟩
  have dfr : ∀ p : BU Sl XV, cDst nt o.dst = some p → Region.wanted o (yielded ops a.tmps) = true → ∀ f, DfrS P o.op f → (f t fun fn args => r.f (p.f t undefX) ((fn, args) :: ds) E k) = some res → (Region.wanted o (yielded ops a.tmps) = false ∧ next (a.put o.dst undef) w) ∨ (Region.wanted o (yielded ops a.tmps) = true ∧ o.wp P a w next Q) := by
    intro p hp hw f hf h1
    obtain ⟨g, args, d, k1, k2, k3⟩ := hf _ _ _ h1 ρ w a.eval (fun x _ => hS.eval x)
    refine .inr ⟨hw, ?_⟩
    unfold Oper.wp
    rw [k3 o rfl, Oper.upon_defer]
    have hS1 : SR P nt w₀ ρ t ((g, args) :: ds) E { a with defers := d :: a.defers } w := ⟨hS.rep, hS.tmp, hS.le, hS.ge, ⟨k2, hS.dfr⟩⟩
    exact hN _ _ _ _ _ _ k1 (Ext.refl _ _) (Nat.le_refl _) (hS1.put (Ext.refl _ _) hS.rep hp VR.undef)
  unfold cOper at h
  cases hp : cDst nt o.dst with
  | none => rw [hp] at h; cases h
  | some p =>
    rw [hp] at h
    have hcl := cCl_ok hX hC o.op
    cases hg : o.guard with
    | none =>
      rw [hg] at h
      have hw : Region.wanted o (yielded ops a.tmps) = true := wanted_none hg
      dsimp only at h
      cases hc : cCl P call o.op with
      | none => rw [hc] at h; cases h
      | pure g =>
        rw [hc] at h hcl
        cases hcl with
        | pure hv =>
          obtain ⟨x, v, h1, h2, h3⟩ := hv t E (fun x => r.f (p.f t x) ds E k) res h w₀ ρ w a.eval hS.rep (fun x _ => hS.eval x)
          exact value p hp hw x v h1 h2 (h3 o rfl)
      | val f =>
        rw [hc] at h hcl
        cases hcl with
        | val hv =>
          obtain ⟨x, v, h1, h2, h3⟩ := hv t E (fun x => r.f (p.f t x) ds E k) res h w₀ ρ w a.eval hS.rep (fun x _ => hS.eval x)
          exact value p hp hw x v h1 h2 (h3 o rfl)
      | new f =>
        rw [hc] at h hcl
        cases hcl with
        | new hv => exact new p hp hw f hv h
      | eff f =>
        rw [hc] at h hcl
        cases hcl with
        | eff hv => exact eff p hp hw f hv h
      | dfr f =>
        rw [hc] at h hcl
        cases hcl with
        | dfr hv => exact dfr p hp hw f hv h
    | some gw =>
      obtain ⟨j, want⟩ := gw
      rw [hg] at h
      have hw := fun y => wanted_some (y := y) hg
      have hev : ∀ d, (ops[j]?).bind (·.dst) = some d → OpV ρ t a.eval (.tmp d) := fun d _ => hS.eval _
      dsimp only at h
      rw [show cWant ops j want = ⟨(cWant ops j want).f⟩ from rfl] at h
      cases hc : cCl P call o.op with
      | none => rw [hc] at h; cases h
      | pure g =>
        rw [hc] at h hcl
        dsimp only at h
        have h1 := cWant_ok h hev
        rw [iff_eq, ← hw] at h1
        split at h1
        · rename_i hwt
          cases hcl with
          | pure hv =>
            obtain ⟨x, v, h1, h2, h3⟩ := hv t E (fun x => r.f (p.f t x) ds E k) res h1 w₀ ρ w a.eval hS.rep (fun x _ => hS.eval x)
            exact value p hp hwt x v h1 h2 (h3 o rfl)
        · rename_i hwf; exact skip p hp (by simpa using hwf) h1
      | val f =>
        rw [hc] at h hcl
        dsimp only at h
        have h1 := cWant_ok h hev
        rw [iff_eq, ← hw] at h1
        split at h1
        · rename_i hwt
          cases hcl with
          | val hv =>
            obtain ⟨x, v, h1, h2, h3⟩ := hv t E (fun x => r.f (p.f t x) ds E k) res h1 w₀ ρ w a.eval hS.rep (fun x _ => hS.eval x)
            exact value p hp hwt x v h1 h2 (h3 o rfl)
        · rename_i hwf; exact skip p hp (by simpa using hwf) h1
      | new f =>
        rw [hc] at h hcl
        dsimp only at h
        have h1 := cWant_ok h hev
        rw [iff_eq, ← hw] at h1
        split at h1
        · rename_i hwt
          cases hcl with
          | new hv => exact new p hp hwt f hv h1
        · rename_i hwf; exact skip p hp (by simpa using hwf) h1
      | eff f =>
        rw [hc] at h hcl
        dsimp only at h
        have h1 := cWant_ok h hev
        rw [iff_eq, ← hw] at h1
        split at h1
        · rename_i hwt
          cases hcl with
          | eff hv => exact eff p hp hwt f hv h1
        · rename_i hwf; exact skip p hp (by simpa using hwf) h1
      | dfr f =>
        rw [hc] at h hcl
        dsimp only at h
        have h1 := cWant_ok h hev
        rw [iff_eq, ← hw] at h1
        split at h1
        · rename_i hwt
          cases hcl with
          | dfr hv => exact dfr p hp hwt f hv h1
        · rename_i hwf; exact skip p hp (by simpa using hwf) h1

theorem cOper_ok (hX : ExtOK P) {call : Rec} (hC : CallOK P call) {nt : Nat} {ops : Array Oper} {o : Oper} {i : Nat} (hi : ops[i]? = some o) {rest : List Nat} {r : BR} (hr : OpsS P nt ops rest r.f) : OpsS P nt ops (i :: rest) (cOper P call nt ops o r).f := by
  intro t ds E k res h w₀ ρ a w hS Q hQ
  have := cOper_step hX hC h hS (next := wpOps P ops Q rest) (Q := Q) fun t' ds' E' ρ' a' w' k1 k2 k3 k4 =>
    hr _ _ _ _ _ k1 w₀ ρ' a' w' k4 Q fun t'' ds'' E'' ρ'' a'' w'' m1 m2 m3 m4 => hQ t'' ds'' E'' ρ'' a'' w'' m1 (k2.trans m2 k3) (Nat.le_trans k3 m3) m4
  rcases this with ⟨hw, h1⟩ | ⟨hw, h1⟩
  · simp only [wpOps, hi, hw, Bool.false_eq_true, if_false]
    exact h1
  · simp only [wpOps, hi, hw, if_true]
    exact .inl h1

theorem cOps_ok (hX : ExtOK P) {call : Rec} (hC : CallOK P call) {nt : Nat} {ops : Array Oper} : ∀ (l : List Oper) (i : Nat), ops.toList.drop i = l → OpsS P nt ops (List.range' i l.length) (cOps P call nt ops l).f
  | [], i, _ => by
    intro t ds E k res h w₀ ρ a w hS Q hQ
    exact hQ t ds E ρ a w h (Ext.refl _ _) (Nat.le_refl _) hS
  | o :: l, i, hd => by
    have hi : ops[i]? = some o := by
      have : (ops.toList.drop i)[0]? = some o := by rw [hd]; rfl
      simpa using this
    have hd' : ops.toList.drop (i + 1) = l := by
      rw [← List.tail_drop, hd]; rfl
    rw [List.length_cons, List.range'_succ]
    exact cOper_ok hX hC hi (cOps_ok hX hC l (i + 1) hd')

theorem region_ok (hX : ExtOK P) {call : Rec} (hC : CallOK P call) {nt : Nat} {ops : Array Oper} : OpsS P nt ops (List.range ops.size) (cOps P call nt ops ops.toList).f := by
  have := cOps_ok hX hC (nt := nt) (ops := ops) ops.toList 0 rfl
  rw [List.range_eq_range']
  simpa using this
end Go.Ex
namespace Go.Ex
variable [Val]
set_option linter.unusedSectionVars false
variable {P : Program}

/-- what follows a part of code -/
def KOK (P : Program) (nt : Nat) (w₀ : World) (ρ : Rho) (E : XW) (k : K) (res : XV × XW) (N : Act → World → Prop) : Prop :=
  ∀ t' ds' E' ρ' a' w', k t' ds' E' = some res → Ext E.next ρ ρ' → E.next ≤ E'.next → SR P nt w₀ ρ' t' ds' E' a' w' → N a' w'

theorem KOK.on {nt : Nat} {w₀ : World} {ρ ρ' : Rho} {E E' : XW} {k : K} {res : XV × XW} {N : Act → World → Prop} (h : KOK P nt w₀ ρ E k res N) (hx : Ext E.next ρ ρ') (hn : E.next ≤ E'.next) : KOK P nt w₀ ρ' E' k res N :=
  fun t' ds' E'' ρ'' a' w' k1 k2 k3 k4 => h t' ds' E'' ρ'' a' w' k1 (hx.trans k2 hn) (Nat.le_trans hn k3) k4

def DrawS (P : Program) (nt : Nat) (ops : Array Oper) (f : Sl → DS → XW → K → R) : Prop := ∀ (id : Nat) (t : Sl) (ds : DS) (E : XW) (k : K) (res : XV × XW), f t ds E k = some res →
  ∀ (w₀ : World) (ρ : Rho) (a : Act) (w : World), SR P nt w₀ ρ t ds E a w → ∀ (Q : Exit → Act → World → Prop), KOK P nt w₀ ρ E k res (Q .normal) → (Code.region id ops true).wp P Q a w

def CodeS (P : Program) (nt : Nat) (c : Code) (g : Sl → DS → XW → K → (Nat → K) → K → R) : Prop := ∀ (t : Sl) (ds : DS) (E : XW) (k : K) (e : Nat → K) (r : K) (res : XV × XW), g t ds E k e r = some res →
  ∀ (w₀ : World) (ρ : Rho) (a : Act) (w : World), SR P nt w₀ ρ t ds E a w → ∀ (Q : Exit → Act → World → Prop),
    KOK P nt w₀ ρ E k res (Q .normal) → (∀ i, KOK P nt w₀ ρ E (e i) res (Q (.exit i))) → KOK P nt w₀ ρ E r res (Q .ret) → c.wp P Q a w

/-- a loop of as many rounds as are known -/
theorem wp_loop_n {c : Code} {Q : Exit → Act → World → Prop} (I : Nat → Act → World → Prop)
    (round : ∀ n a w, I n a w → ∃ m, m < n ∧ c.wp P (Exit.then (fun a' w' => I m a' w') Q) a w) (n : Nat) (a : Act) (w : World) (h : I n a w) : (Code.loop c).wp P Q a w := by
  intro b k cs
  have key : ∀ n a w, I n a w → ∃ e a' w', Q e a' w' ∧ Arrives P (lone (b.at a (.code c :: .inLoop c :: k)) cs w) b k cs e a' w' := by
    intro n
    induction n using Nat.strongRecOn with
    | _ n ih =>
      intro a w hI
      obtain ⟨m, hm, hr⟩ := round n a w hI
      obtain ⟨e, a₁, w₁, hq, harr⟩ := hr b (.inLoop c :: k) cs
      cases e with
      | normal =>
        obtain ⟨e₂, a₂, w₂, hq₂, harr₂⟩ := ih m hm a₁ w₁ hq
        exact ⟨e₂, a₂, w₂, hq₂, .of_steps (Steps.trans harr (.one step_inLoop)) harr₂⟩
      | exit id => exact ⟨_, a₁, w₁, hq, .pass (x := .inLoop c) rfl (fun _ _ => .inl (by simp)) harr⟩
      | goto l => exact ⟨_, a₁, w₁, hq, .pass (x := .inLoop c) rfl (fun _ _ => .inl (by simp)) harr⟩
      | ret => exact ⟨_, a₁, w₁, hq, .pass (x := .inLoop c) rfl (fun _ _ => .inl (by simp)) harr⟩
      | panic ch => exact ⟨_, a₁, w₁, hq, .pass (x := .inLoop c) rfl (fun _ _ => .inl (by simp)) harr⟩
      | outgrown => exact ⟨_, a₁, w₁, hq, .pass (x := .inLoop c) rfl (fun _ _ => .inl (by simp)) harr⟩
  obtain ⟨e, a', w', hq, harr⟩ := key n a w h
  exact ⟨e, a', w', hq, .of_steps (.one step_loop) harr⟩

theorem cC_ok (hX : ExtOK P) {call : Rec} (hC : CallOK P call) {nt : Nat} (hD : ∀ ops, DrawS P nt ops (cDraw P call nt ops).f) : ∀ c : Code, CodeS P nt c (cC P call nt c).f := by
  intro c
  induction c with
  | skip =>
    intro t ds E k e r res h w₀ ρ a w hS Q hk he hr
    exact wp_skip (hk t ds E ρ a w h (Ext.refl _ _) (Nat.le_refl _) hS)
  | region id ops d =>
    intro t ds E k e r res h w₀ ρ a w hS Q hk he hr
    cases d with
    | false => exact wp_region (region_ok hX hC t ds E k res h w₀ ρ a w hS Q hk)
    | true => exact hD ops id t ds E k res h w₀ ρ a w hS Q hk
  | seq x y ihx ihy =>
    intro t ds E k e r res h w₀ ρ a w hS Q hk he hr
    refine wp_seq (ihx t ds E _ e r res h w₀ ρ a w hS _ ?_ (fun i => he i) hr)
    intro t' ds' E' ρ' a' w' k1 k2 k3 k4
    exact ihy t' ds' E' k e r res k1 w₀ ρ' a' w' k4 Q (hk.on k2 k3) (fun i => (he i).on k2 k3) (hr.on k2 k3)
  | cond c x y ihx ihy =>
    intro t ds E k e r res h w₀ ρ a w hS Q hk he hr
    change vIf ((cE c).f t) ((cC P call nt x).f t ds E k e r) ((cC P call nt y).f t ds E k e r) = some res at h
    obtain ⟨b, hb, h1⟩ := vIf_some h
    have hv : VR ρ ((cE c).f t) (a.eval c) := hS.eval c
    rw [hb] at hv
    refine wp_cond (t := b) hv.bool_inv ?_
    cases b with
    | true => exact ihx t ds E k e r res h1 w₀ ρ a w hS Q hk he hr
    | false => exact ihy t ds E k e r res h1 w₀ ρ a w hS Q hk he hr
  | block id x ih =>
    intro t ds E k e r res h w₀ ρ a w hS Q hk he hr
    refine wp_block (ih t ds E k _ r res h w₀ ρ a w hS _ hk ?_ hr)
    intro i t' ds' E' ρ' a' w' k1 k2 k3 k4
    have k1' : iff (Nat.beq i id) (k t' ds' E') (e i t' ds' E') = some res := k1
    rw [iff_eq] at k1'
    show if i = id then Q .normal a' w' else Q (.exit i) a' w'
    split at k1'
    · rename_i hi
      rw [if_pos (beq_eq' hi)]
      exact hk t' ds' E' ρ' a' w' k1' k2 k3 k4
    · rename_i hi
      rw [if_neg (fun e => hi (by simp [e]))]
      exact he i t' ds' E' ρ' a' w' k1' k2 k3 k4
  | loop x ih =>
    intro t ds E k e r res h w₀ ρ a w hS Q hk he hr
    refine wp_loop_n (fun n a' w' => ∃ t' ds' E' ρ', loopF (cC P call nt x).f n t' ds' E' k e r = some res ∧ Ext E.next ρ ρ' ∧ E.next ≤ E'.next ∧ SR P nt w₀ ρ' t' ds' E' a' w') ?_ 10000 a w ⟨t, ds, E, ρ, h, Ext.refl _ _, Nat.le_refl _, hS⟩
    rintro n a' w' ⟨t', ds', E', ρ', h1, h2, h3, h4⟩
    cases n with
    | zero => cases h1
    | succ n =>
      refine ⟨n, Nat.lt_succ_self n, ih t' ds' E' (fun t ds w => loopF (cC P call nt x).f n t ds w k e r) e r res h1 w₀ ρ' a' w' h4 _ ?_ (fun i => (he i).on h2 h3) (hr.on h2 h3)⟩
      intro t'' ds'' E'' ρ'' a'' w'' k1 k2 k3 k4
      exact ⟨t'', ds'', E'', ρ'', k1, h2.trans k2 h3, Nat.le_trans h3 k3, k4⟩
  | rangeFunc f ps x y ihx ihy => intro t ds E k e r res h; cases h
  | exit id =>
    intro t ds E k e r res h w₀ ρ a w hS Q hk he hr
    exact wp_exit (he id t ds E ρ a w h (Ext.refl _ _) (Nat.le_refl _) hS)
  | scope x ih => intro t ds E k e r res h; cases h
  | label l =>
    intro t ds E k e r res h w₀ ρ a w hS Q hk he hr
    exact wp_label (hk t ds E ρ a w h (Ext.refl _ _) (Nat.le_refl _) hS)
  | goto l => intro t ds E k e r res h; cases h
  | ret =>
    intro t ds E k e r res h w₀ ρ a w hS Q hk he hr
    exact wp_ret (hr t ds E ρ a w h (Ext.refl _ _) (Nat.le_refl _) hS)
  | refuse s => intro t ds E k e r res h; cases h

/-! arguments, results -/
theorem layC_ok : ∀ (n i : Nat) (l : List XV) (t : Sl) (κ : Sl → R) (res : XV × XW), (layC n i).f l t κ = some res → i + n ≤ 256 →
    ∃ t', κ t' = some res ∧ l.length ≤ n ∧ ∀ j, j < 256 → (get4 j).f t' = if i ≤ j ∧ j < i + l.length then (l[j - i]?).getD undefX else (get4 j).f t
  | 0, i, l, t, κ, res, h, _ => by
    cases l with
    | nil => exact ⟨t, h, Nat.le_refl _, fun j _ => by rw [if_neg (by simp <;> omega)]⟩
    | cons x l => cases h
  | n + 1, i, l, t, κ, res, h, hi => by
    cases l with
    | nil => exact ⟨t, h, Nat.zero_le _, fun j _ => by rw [if_neg (by simp <;> omega)]⟩
    | cons x l =>
      obtain ⟨t', h1, h2, h3⟩ := layC_ok n (i + 1) l ((set4 i).f t x) κ res h (by omega)
      refine ⟨t', h1, by simpa using h2, fun j hj => ?_⟩
      rw [h3 j hj, get_set4 i j (by omega) hj]
      by_cases h4 : j = i
      · subst h4
        rw [if_neg (by omega), if_pos rfl, if_pos ⟨Nat.le_refl _, by simp⟩]
        simp
      · by_cases h5 : i + 1 ≤ j ∧ j < i + 1 + l.length
        · rw [if_pos h5, if_pos ⟨by omega, by simp; omega⟩]
          rw [show j - i = (j - (i + 1)) + 1 by omega, List.getElem?_cons_succ]
        · rw [if_neg h5, if_neg h4, if_neg (by simp; omega)]

theorem emptySl_get (j : Nat) (hj : j < 256) : (get4 j).f emptySl = undefX := by
  have key : ∀ j : Fin 256, (get4 j.1).f emptySl = undefX := by
    intro ⟨j, hj⟩
    show (gUp (j / 16 % 16) (gUp (j % 16) ⟨fun x => x⟩)).f emptySl = undefX
    rw [gUp_f, gUp_f]
    have h1 : ∀ d, N4.nth emptySl d = N4.nth emptySl 0 := by
      intro d
      match d with
      | 0 | 1 | 2 | 3 | 4 | 5 | 6 | 7 | 8 | 9 | 10 | 11 | 12 | 13 | 14 => rfl
      | _ + 15 => rfl
    rw [h1]
    have h2 : ∀ d, N4.nth (N4.nth emptySl 0) d = undefX := by
      intro d
      match d with
      | 0 | 1 | 2 | 3 | 4 | 5 | 6 | 7 | 8 | 9 | 10 | 11 | 12 | 13 | 14 => rfl
      | _ + 15 => rfl
    exact h2 _
  exact key ⟨j, hj⟩

/-- the slots at a call's start -/
theorem start_ok {fn : Func} {ρ : Rho} {args : List XV} {args' : Array Value} (hv : VRs ρ args args'.toList) (hn : args.length ≤ fn.ntmps) (hb : fn.ntmps ≤ 256) {t : Sl}
    (ht : ∀ j, j < 256 → (get4 j).f t = if 0 ≤ j ∧ j < 0 + args.length then (args[j - 0]?).getD undefX else (get4 j).f emptySl) :
    TR ρ t (args' ++ Array.replicate (fn.ntmps - args'.size) undef) ∧ (args' ++ Array.replicate (fn.ntmps - args'.size) undef).size = fn.ntmps := by
  have hl : args'.size = args.length := by rw [hv.1]; simp
  have hsz : (args' ++ Array.replicate (fn.ntmps - args'.size) undef).size = fn.ntmps := by simp; omega
  refine ⟨fun j hj => ?_, hsz⟩
  rw [ht j hj]
  by_cases h : j < args.length
  · rw [if_pos ⟨Nat.zero_le _, by omega⟩]
    obtain ⟨y, hy, hvr⟩ := hv.get (i := j) (x := args[j]) (by simp [h])
    have hy' : args'[j]? = some y := by simpa using hy
    have : (args' ++ Array.replicate (fn.ntmps - args'.size) undef).getD j undef = y := by
      rw [Array.getD_eq_getD_getElem?, Array.getElem?_append_left (by omega), hy']; rfl
    rw [this]
    simpa [h] using hvr
  · rw [if_neg (by omega), emptySl_get j hj]
    have : (args' ++ Array.replicate (fn.ntmps - args'.size) undef).getD j undef = undef := by
      rw [Array.getD_eq_getD_getElem?, Array.getElem?_append_right (by omega), Array.getElem?_replicate]
      split <;> rfl
    rw [this]
    exact VR.undef

theorem load_addr {t : TypeId} {x : Operand} {s : Sl} {E : XW} {κ : XV → R} {res : XV × XW} (h : (cLoad P t x).f s E κ = some res) {w₀ w : World} {ρ : Rho} (hR : Rep w₀ ρ E w) {u : Value} (hx : VR ρ ((cE x).f s) u) :
    ∃ y v, κ y = some res ∧ VR ρ y v ∧ (do loadVar t (← asAddr u)).run P w = .ok v w := by
  unfold cLoad at h
  split at h
  · rename_i n ha hn
    rw [u1_f] at h
    obtain ⟨b, o, hp, h⟩ := vPtr_some h
    rw [hp] at hx
    obtain ⟨r, d, q, he, hρ⟩ := hx.ptr_inv
    obtain ⟨l, us, hk, hl, hv, hf, hu, hrun⟩ := loadN_ok (P := P) hR hρ h
    refine ⟨_, .agg us.toArray, hk, VR.agg' hl hv hf, ?_⟩
    simp [he, asAddr, loadVar, run_agg ha, run_size hn, hrun]
  · rename_i n ha hn
    rw [u1_f] at h
    obtain ⟨b, o, hp, h⟩ := vPtr_some h
    rw [hp] at hx
    obtain ⟨r, d, q, he, hρ⟩ := hx.ptr_inv
    obtain ⟨y, v, hk, hv, hf, hrun⟩ := load1_ok (P := P) hR hρ h
    refine ⟨y, v, hk, hv, ?_⟩
    simp only [he, asAddr, loadVar, Sem.run_bind, Sem.run_pure, Result.andThen_ok, run_agg ha, hrun, Bool.false_eq_true, if_false]
  · cases h

/-- the results, one by one -/
def resOf (tmps : Array Value) : ResultVar → Sem Value
  | .tmp t => pure (tmps.getD t undef)
  | .cell a t => do loadVar t (← asAddr (tmps.getD a undef))

theorem cRess_ok {ρ : Rho} {s : Sl} {tmps : Array Value} (ht : ∀ i, VR ρ ((getB i).f s) (tmps.getD i undef)) {w₀ w : World} {E : XW} (hR : Rep w₀ ρ E w) : ∀ (rs : List ResultVar) (κ : List XV → R) (res : XV × XW),
    (cRess P rs).f s E κ = some res → ∃ vs us, κ vs = some res ∧ VRs ρ vs us ∧ vs.length = rs.length ∧ (rs.mapM (resOf tmps)).run P w = .ok us w
  | [], κ, res, h => ⟨[], [], h, VRs.nil ρ, rfl, rfl⟩
  | .tmp t :: rs, κ, res, h => by
    unfold cRess at h
    rw [show getB t = ⟨(getB t).f⟩ from rfl, show cRess P rs = ⟨(cRess P rs).f⟩ from rfl] at h
    dsimp only at h
    obtain ⟨vs, us, h1, h2, h3, h4⟩ := cRess_ok ht hR rs _ res h
    refine ⟨_, _, h1, VRs.cons (ht t) h2, by simp [h3], ?_⟩
    simp [List.mapM_cons, resOf, h4]
  | .cell a t :: rs, κ, res, h => by
    unfold cRess at h
    rw [show cLoad P t (.tmp a) = ⟨(cLoad P t (.tmp a)).f⟩ from rfl, show cRess P rs = ⟨(cRess P rs).f⟩ from rfl] at h
    dsimp only at h
    obtain ⟨y, v, h0, hv, hrun⟩ := load_addr h hR (ht a)
    obtain ⟨vs, us, h1, h2, h3, h4⟩ := cRess_ok ht hR rs _ res h0
    refine ⟨_, _, h1, VRs.cons hv h2, by simp [h3], ?_⟩
    simp only [List.mapM_cons, resOf, Sem.run_bind] at hrun ⊢
    rw [hrun]
    simp [h4]

theorem tup_ok {ρ : Rho} {rs : List ResultVar} {vs : List XV} {us : List Value} (hv : VRs ρ vs us) (hl : vs.length = rs.length) {κ : XV → R} {res : XV × XW} (h : tup rs vs κ = some res) :
    ∃ x, κ x = some res ∧ VR ρ x (if h : us.toArray.size = 1 then us.toArray[0] else .tuple us.toArray) := by
  unfold tup at h
  split at h
  · rename_i r
    obtain ⟨x, hx, h1⟩ := nthO_some h
    obtain ⟨y, hy, hvr⟩ := hv.get hx
    have hl' : us.toArray.size = 1 := by
      have h1 := hv.1
      have h2 : vs.length = 1 := hl
      simp; omega
    refine ⟨x, h1, ?_⟩
    rw [dif_pos hl']
    have : us.toArray[0] = y := by
      have : us[0]? = some y := hy
      simpa using List.getElem_of_getElem? this |>.2
    rw [this]; exact hvr
  · rename_i hne
    refine ⟨_, h, ?_⟩
    have hl' : ¬ us.toArray.size = 1 := by
      intro e
      have e' : us.length = 1 := by simpa using e
      have h1 := hv.1
      have h2 : rs.length = 1 := by omega
      match rs, h2, hne with
      | [r], _, hne => exact hne r rfl
    rw [dif_neg hl']
    exact VR.tuple' hv

theorem results_ok {fn : Func} {ρ : Rho} {s : Sl} {tmps : Array Value} (ht : ∀ i, VR ρ ((getB i).f s) (tmps.getD i undef)) {w₀ w : World} {E : XW} (hR : Rep w₀ ρ E w) {κ : XV → R} {res : XV × XW}
    (h : ((cRess P fn.results.toList).f s E fun vs => tup fn.results.toList vs κ) = some res) : ∃ x v, κ x = some res ∧ VR ρ x v ∧ (results fn tmps).run P w = .ok v w := by
  obtain ⟨vs, us, h1, h2, h3, h4⟩ := cRess_ok ht hR fn.results.toList _ res h
  obtain ⟨x, h5, h6⟩ := tup_ok h2 h3 h1
  refine ⟨x, _, h5, h6, ?_⟩
  have hdef : results fn tmps = (do
      let vs ← fn.results.mapM (resOf tmps)
      pure (if h : vs.size = 1 then vs[0] else .tuple vs)) := by
    unfold results
    congr 1
  rw [hdef, Array.mapM_eq_mapM_toList]
  simp only [Sem.run_bind, Sem.run_map, h4, Result.andThen_ok, Sem.run_pure]
end Go.Ex
namespace Go.Ex
variable [Val]
set_option linter.unusedSectionVars false
variable {P : Program}

theorem slots_all {ρ : Rho} {t : Sl} {tmps : Array Value} (ht : TR ρ t tmps) (hle : tmps.size ≤ 256) (i : Nat) : VR ρ ((getB i).f t) (tmps.getD i undef) := by
  rw [getB_f]
  split
  · rename_i hi; exact ht i hi
  · rename_i hi
    have : tmps.getD i undef = undef := by
      rw [Array.getD_eq_getD_getElem?, Array.getElem?_eq_none (by omega)]; try rfl
    rw [this]
    exact VR.undef

/-- what a call does at its end -/
theorem leave_ok {call : Rec} (hD : DefOK P call) {fn : Func} {tmps : Array Value} (hle : tmps.size ≤ 256) {t : Sl} {κ : XV → XW → R} {res : XV × XW} {w₀ : World} {ρ₀ : Rho} {E₀ : XW} :
    ∀ (ds : DS) (ds' : List Deferred) (E : XW) (ρ : Rho) (w : World), undefer call ds E (fun E => (cRess P fn.results.toList).f t E fun vs => tup fn.results.toList vs fun v => κ v E) = some res →
    TR ρ t tmps → DRs P ρ ds ds' → Rep w₀ ρ E w → Ext E₀.next ρ₀ ρ → E₀.next ≤ E.next → Leaves P fn tmps (RetOK w₀ ρ₀ E₀ κ res) ds' .returning w
  | [], [], E, ρ, w, h, ht, _, hR, hx, hn => by
    obtain ⟨x, v, h1, h2, h3⟩ := results_ok (P := P) (fn := fn) (slots_all ht hle) hR (κ := fun v => κ v E) h
    exact ⟨v, h3, x, E, ρ, h1, hx, hn, hR, h2⟩
  | d :: ds, d' :: ds', E, ρ, w, h, ht, hd, hR, hx, hn => by
    obtain ⟨⟨fv, cap, args', e1, e2, e3⟩, hds⟩ := hd
    have h1 : (call d.1 true).f d.2 E (fun _ E => undefer call ds E (fun E => (cRess P fn.results.toList).f t E fun vs => tup fn.results.toList vs fun v => κ v E)) = some res := h
    have hcall := hD d.1 d.2 E _ res h1 w₀ ρ w args' hR e3
    refine ⟨by simp, fv, cap, d.1, args', e1, e2 w, hcall.mono ?_⟩
    rintro e u' w' ⟨rfl, he⟩
    cases e with
    | returned v =>
      obtain ⟨x, E', ρ', k1, k2, k3, k4, k5⟩ := he
      have hmono := hR.le k2
      exact leave_ok hD hle ds ds' E' ρ' w' k1 (ht.mono hmono) (hds.mono hmono) k4 (hx.trans k2 hn) (Nat.le_trans hn k3)
    | panicked ch => exact he.elim
    | outgrown => exact he.elim
  | [], _ :: _, _, _, _, _, _, hd, _, _, _ => hd.elim
  | _ :: _, [], _, _, _, _, _, hd, _, _, _ => hd.elim

theorem funcAt_ok {f : FuncId} {fn : Func} (h : funcAt P f = some fn) : P.funcs[f]? = some fn := by
  unfold funcAt at h
  rw [nthT_eq] at h
  simpa using h

theorem fits_ok {fn : Func} (h : fits fn = true) : fn.ntmps ≤ 256 ∧ fn.params.size + fn.nfree ≤ fn.ntmps := by
  unfold fits at h
  rw [Bool.and_eq_true] at h
  exact ⟨ble_le h.1, ble_le h.2⟩

/-- a call of a known function -/
theorem cF_ok (hX : ExtOK P) {call : Rec} (hC : CallOK P call) (hD : DefOK P call) (hW : ∀ nt ops, DrawS P nt ops (cDraw P call nt ops).f) (f : FuncId) (args : List XV) (E : XW) (κ : XV → XW → R) (res : XV × XW)
    (h : (cF P call f).f args E κ = some res) (w₀ : World) (ρ : Rho) (w : World) (args' : Array Value) (hR : Rep w₀ ρ E w) (hv : VRs ρ args args'.toList) : Calls P f args' w (RetOK w₀ ρ E κ res) := by
  unfold cF at h
  cases hf : funcAt P f with
  | none => rw [hf] at h; cases h
  | some fn =>
    rw [hf] at h
    dsimp only at h
    cases hfit : fits fn with
    | false => rw [hfit] at h; cases h
    | true =>
      cases hb : fn.body with
      | none => rw [hfit, hb] at h; cases h
      | some c =>
        rw [hfit, hb] at h
        dsimp only at h
        obtain ⟨hn1, hn2⟩ := fits_ok hfit
        obtain ⟨t, h1, h2, h3⟩ := layC_ok _ _ _ _ _ res h (by omega)
        obtain ⟨hT, hsz⟩ := start_ok (fn := fn) hv (by omega) hn1 h3
        refine calls_of_wp_defers (funcAt_ok hf) hb ?_
        have hS : SR P fn.ntmps w₀ ρ t [] E { tmps := args' ++ Array.replicate (fn.ntmps - args'.size) undef, defers := [] } w := ⟨hR, hT, by rw [hsz]; exact hn1, by rw [hsz]; exact Nat.le_refl _, trivial⟩
        have fin : KOK P fn.ntmps w₀ ρ E (fun t ds w => undefer call ds w fun w => (cRess P fn.results.toList).f t w fun vs => tup fn.results.toList vs fun v => κ v w) res (fun a w => Leaves P fn a.tmps (RetOK w₀ ρ E κ res) a.defers .returning w) := by
          intro t' ds' E' ρ' a' w' k1 k2 k3 k4
          exact leave_ok hD k4.le ds' a'.defers E' ρ' w' k1 k4.tmp k4.dfr k4.rep k2 k3
        exact cC_ok hX hC (hW fn.ntmps) c t [] E _ _ _ res h1 w₀ ρ _ w hS _ fin (fun i => by intro t' ds' E' ρ' a' w' k1; cases k1) fin

/-! deferred functions -/
theorem noCall_ok : CallOK P (fun _ _ => ⟨fun _ _ _ => none⟩) := by intro f args E κ res h; cases h

def CodeD (P : Program) (nt : Nat) (c : Code) (g : Sl → DS → XW → K → R) : Prop := ∀ (t : Sl) (ds : DS) (E : XW) (k : K) (res : XV × XW), g t ds E k = some res →
  ∀ (w₀ : World) (ρ : Rho) (a : Act) (c₀ : Frame) (cs : List Frame) (w : World), c₀.mode = .returning → SR P nt w₀ ρ t ds E a w → ∀ (Q : Exit → Act → List Frame → World → Prop),
    KOK P nt w₀ ρ E k res (fun a w => Q .normal a (c₀ :: cs) w) → c.wpS P Q a (c₀ :: cs) w

theorem isRecover_ok {o : Oper} (h : isRecover o.op = true) (ev : Operand → Value) (w : World) : (execOp ev o).run P w = .ok .recover w := by
  have : ∃ c, o.op = .call c ∧ c.callee = .builtin .recover := by
    unfold isRecover at h
    split at h
    · rename_i heq; exact ⟨_, heq, rfl⟩
    · cases h
  obtain ⟨c, ho, hc⟩ := this
  rw [run_builtin hc ev o ho]
  rfl

theorem cOpsD_ok (hX : ExtOK P) {nt : Nat} {ops : Array Oper} : ∀ (l : List Oper) (i : Nat), ops.toList.drop i = l → ∀ (t : Sl) (ds : DS) (E : XW) (k : K) (res : XV × XW), (cOpsD P nt ops l).f t ds E k = some res →
    ∀ (w₀ : World) (ρ : Rho) (a : Act) (c₀ : Frame) (cs : List Frame) (w : World), c₀.mode = .returning → SR P nt w₀ ρ t ds E a w → ∀ (Q : Exit → Act → List Frame → World → Prop),
    KOK P nt w₀ ρ E k res (fun a w => Q .normal a (c₀ :: cs) w) → wpOpsS P ops Q (List.range' i l.length) a (c₀ :: cs) w
  | [], i, _, t, ds, E, k, res, h, w₀, ρ, a, c₀, cs, w, hm, hS, Q, hQ => hQ t ds E ρ a w h (Ext.refl _ _) (Nat.le_refl _) hS
  | o :: l, i, hd, t, ds, E, k, res, h, w₀, ρ, a, c₀, cs, w, hm, hS, Q, hQ => by
    have hi : ops[i]? = some o := by
      have : (ops.toList.drop i)[0]? = some o := by rw [hd]; rfl
      simpa using this
    have hd' : ops.toList.drop (i + 1) = l := by
      rw [← List.tail_drop, hd]; rfl
    rw [List.length_cons, List.range'_succ]
    change (cOperD P nt ops o (cOpsD P nt ops l)).f t ds E k = some res at h
    unfold cOperD at h
    cases hr : isRecover o.op with
    | true =>
      rw [hr] at h
      cases hg : o.guard with
      | some g => rw [hg] at h; cases h
      | none =>
        rw [hg] at h
        dsimp only at h
        cases hp : cDst nt o.dst with
        | none => rw [hp] at h; cases h
        | some p =>
          rw [hp] at h
          dsimp only at h
          have hrec : recoverD (c₀ :: cs) = none := by simp [recoverD, hm]
          simp only [wpOpsS, hi, wanted_none hg, if_true, isRecover_ok hr, hrec]
          exact cOpsD_ok hX l (i + 1) hd' _ _ _ _ res h w₀ ρ _ c₀ cs w hm (hS.put (Ext.refl _ _) hS.rep hp .nilIface) Q hQ
    | false =>
      rw [hr] at h
      have := cOper_step hX noCall_ok h hS (next := fun a w => wpOpsS P ops Q (List.range' (i + 1) l.length) a (c₀ :: cs) w) (Q := fun e a w => Q e a (c₀ :: cs) w) fun t' ds' E' ρ' a' w' k1 k2 k3 k4 =>
        cOpsD_ok hX l (i + 1) hd' _ _ _ _ res k1 w₀ ρ' a' c₀ cs w' hm k4 Q (hQ.on k2 k3)
      rcases this with ⟨hw, h1⟩ | ⟨hw, h1⟩
      · simp only [wpOpsS, hi, hw, Bool.false_eq_true, if_false]
        exact h1
      · simp only [wpOpsS, hi, hw, if_true]
        unfold Oper.wp at h1
        split
        · rename_i w' hrun
          rw [hrun] at h1
          exact h1.elim
        · exact h1

theorem cD_ok (hX : ExtOK P) {nt : Nat} : ∀ c : Code, CodeD P nt c (cD P nt c).f := by
  intro c
  induction c with
  | skip =>
    intro t ds E k res h w₀ ρ a c₀ cs w hm hS Q hQ
    exact wpS_of_wp (wp_skip (hQ t ds E ρ a w h (Ext.refl _ _) (Nat.le_refl _) hS))
  | region id ops d =>
    intro t ds E k res h w₀ ρ a c₀ cs w hm hS Q hQ
    cases d with
    | true => cases h
    | false =>
      refine wpS_region ?_
      have := cOpsD_ok hX (nt := nt) (ops := ops) ops.toList 0 rfl t ds E k res h w₀ ρ a c₀ cs w hm hS Q hQ
      rw [List.range_eq_range']
      simpa using this
  | seq x y ihx ihy =>
    intro t ds E k res h w₀ ρ a c₀ cs w hm hS Q hQ
    refine wpS_seq (ihx t ds E _ res h w₀ ρ a c₀ cs w hm hS _ ?_)
    intro t' ds' E' ρ' a' w' k1 k2 k3 k4
    exact ihy t' ds' E' k res k1 w₀ ρ' a' c₀ cs w' hm k4 Q (hQ.on k2 k3)
  | cond c x y ihx ihy =>
    intro t ds E k res h w₀ ρ a c₀ cs w hm hS Q hQ
    change vIf ((cE c).f t) ((cD P nt x).f t ds E k) ((cD P nt y).f t ds E k) = some res at h
    obtain ⟨b, hb, h1⟩ := vIf_some h
    have hv : VR ρ ((cE c).f t) (a.eval c) := hS.eval c
    rw [hb] at hv
    refine wpS_cond (t := b) hv.bool_inv ?_
    cases b with
    | true => exact ihx t ds E k res h1 w₀ ρ a c₀ cs w hm hS Q hQ
    | false => exact ihy t ds E k res h1 w₀ ρ a c₀ cs w hm hS Q hQ
  | _ => intro t ds E k res h; cases h

theorem cFD_ok (hX : ExtOK P) (f : FuncId) (args : List XV) (E : XW) (κ : XV → XW → R) (res : XV × XW)
    (h : (cFD P f).f args E κ = some res) (w₀ : World) (ρ : Rho) (w : World) (args' : Array Value) (hR : Rep w₀ ρ E w) (hv : VRs ρ args args'.toList) :
    CallsD P f args' .returning w (fun e u' w' => u' = .returning ∧ RetOK w₀ ρ E κ res e w') := by
  unfold cFD at h
  cases hf : funcAt P f with
  | none => rw [hf] at h; cases h
  | some fn =>
    rw [hf] at h
    dsimp only at h
    cases hfit : fits fn with
    | false => rw [hfit] at h; cases h
    | true =>
      cases hb : fn.body with
      | none => rw [hfit, hb] at h; cases h
      | some c =>
        rw [hfit, hb] at h
        dsimp only at h
        obtain ⟨hn1, hn2⟩ := fits_ok hfit
        obtain ⟨t, h1, h2, h3⟩ := layC_ok _ _ _ _ _ res h (by omega)
        obtain ⟨hT, hsz⟩ := start_ok (fn := fn) hv (by omega) hn1 h3
        refine callsD_of_wpS (funcAt_ok hf) hb fun c₀ cs hm => ?_
        have hS : SR P fn.ntmps w₀ ρ t [] E { tmps := args' ++ Array.replicate (fn.ntmps - args'.size) undef, defers := [] } w := ⟨hR, hT, by rw [hsz]; exact hn1, by rw [hsz]; exact Nat.le_refl _, trivial⟩
        refine cD_ok hX c t [] E _ res h1 w₀ ρ _ c₀ cs w hm hS _ ?_
        intro t' ds' E' ρ' a' w' k1 k2 k3 k4
        cases ds' with
        | cons d ds' => cases k1
        | nil =>
          have hd : a'.defers = [] := by
            have := k4.dfr
            cases hdd : a'.defers with
            | nil => rfl
            | cons d ds => rw [hdd] at this; exact this.elim
          obtain ⟨x, v, m1, m2, m3⟩ := results_ok (P := P) (fn := fn) (slots_all k4.tmp k4.le) k4.rep (κ := fun v => κ v E') k1
          have hc : ({ c₀ with mode := .returning } : Frame) = c₀ := by
            cases c₀; cases hm; rfl
          exact ⟨hd, .returning, by rw [hc], v, m3, rfl, x, E', ρ', m1, k2, k3, k4.rep, m2⟩

theorem cFT_ok (hX : ExtOK P) {call : Rec} (hC : CallOK P call) (hD : DefOK P call) (hW : ∀ nt ops, DrawS P nt ops (cDraw P call nt ops).f) (f : FuncId) (args : List XV) (E : XW) (κ : XV → XW → R) (res : XV × XW)
    (h : (cFT P call f).f args E κ = some res) (w₀ : World) (ρ : Rho) (w : World) (args' : Array Value) (hR : Rep w₀ ρ E w) (hv : VRs ρ args args'.toList) : Calls P f args' w (RetOK w₀ ρ E κ res) := by
  unfold cFT at h
  split at h
  · exact cF_ok hX hC hD hW f args E κ res h w₀ ρ w args' hR hv
  · rename_i g hg
    rcases oX_some h with ⟨v, h1, h2⟩ | ⟨_, h2⟩
    · refine (hX.fn f g args v hg h1 ρ w args' hR.good hv).mono ?_
      rintro e w' ⟨u, rfl, h3, h4⟩
      exact ⟨v, E, ρ, h2, Ext.refl _ _, Nat.le_refl _, hR.keeps h4, h3⟩
    · cases h2

/-- the calls of a program, as deep as n -/
theorem callN_ok (hX : ExtOK P) (T : Nat) (hW : ∀ call, CallOK P call → ∀ nt ops, DrawS P nt ops (cDraw P call nt ops).f) : ∀ n, CallOK P (callN P T n) ∧ DefOK P (callN P T n) := by
  intro n
  induction n with
  | zero => exact ⟨(fun f args E κ res h => by cases h), (fun f args E κ res h => by cases h)⟩
  | succ n ih =>
    obtain ⟨hC, hD⟩ := ih
    have e : ∀ f d, callN P T (n + 1) f d = @Bool.rec (fun _ => BFn) (callN P T n f d) (@Bool.rec (fun _ => BFn) (cFT P (callN P T n) f) (cFD P f) d) (Nat.beq (levOf T f) n) := fun _ _ => rfl
    constructor
    · intro f args E κ res h
      rw [e] at h
      cases hb : Nat.beq (levOf T f) n with
      | false => rw [hb] at h; exact hC f args E κ res h
      | true => rw [hb] at h; exact cFT_ok hX hC hD (hW _ hC) f args E κ res h
    · intro f args E κ res h
      rw [e] at h
      cases hb : Nat.beq (levOf T f) n with
      | false => rw [hb] at h; exact hD f args E κ res h
      | true => rw [hb] at h; exact cFD_ok hX f args E κ res h
end Go.Ex
