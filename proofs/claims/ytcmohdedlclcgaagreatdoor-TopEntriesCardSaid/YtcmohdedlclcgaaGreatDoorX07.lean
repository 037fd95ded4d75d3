/- Part of the proof of TopEntries: the executor is sound: rows of a drawn region. -/
import Derived.Test.YtcmohdedlclcgaaGreatDoorX06
import Derived.Orders
set_option linter.unusedVariables false
set_option linter.unusedSimpArgs false
set_option linter.unusedSectionVars false
namespace Go.Ex
variable [Val]
set_option linter.unusedSectionVars false
variable {P : Program}

/-! masks -/
theorem hasBit_eq (m i : Nat) : hasBit m i = m.testBit i := by
  have h : hasBit m i = Nat.beq ((m >>> i) % 2) 1 := rfl
  rw [h, Nat.testBit_eq_decide_div_mod_eq, Nat.shiftRight_eq_div_pow, Bool.eq_iff_iff]
  simp [Nat.beq_eq]
theorem hasBit_lor (c i j : Nat) : hasBit (Nat.lor c (Nat.pow 2 i)) j = (hasBit c j || decide (i = j)) := by
  rw [hasBit_eq, hasBit_eq]
  show (c ||| 2 ^ i).testBit j = _
  rw [Nat.testBit_or, Nat.testBit_two_pow]
theorem hasBit_or (a b j : Nat) : hasBit (Nat.lor a b) j = (hasBit a j || hasBit b j) := by
  rw [hasBit_eq, hasBit_eq, hasBit_eq]
  show (a ||| b).testBit j = _
  rw [Nat.testBit_or]
theorem hasBit_zero (j : Nat) : hasBit 0 j = false := by rw [hasBit_eq]; simp
theorem subM_iff (a b : Nat) : subM a b = true ↔ ∀ j, hasBit a j = true → hasBit b j = true := by
  constructor
  · intro h j hj
    have h' : a &&& b = a := beq_eq' h
    rw [hasBit_eq] at hj ⊢
    rw [← h', Nat.testBit_and, Bool.and_eq_true] at hj
    exact hj.2
  · intro h
    have : a &&& b = a := by
      apply Nat.eq_of_testBit_eq
      intro j
      rw [Nat.testBit_and]
      have := h j
      rw [hasBit_eq, hasBit_eq] at this
      cases ha : a.testBit j with
      | false => rfl
      | true => rw [this ha]; rfl
    show Nat.beq (a &&& b) a = true
    rw [this]
    exact Nat.beq_refl a

/-- an edge that binds in each order -/
def anyB (e : Edge) : Bool := match e.ground with
  | .textOnly _ => false
  | .gcOnly _ => false
  | _ => true
theorem anyB_binds {e : Edge} (h : anyB e = true) (md : Region.Mode) : Region.binds md e = true := by
  unfold anyB at h
  unfold Region.binds
  split <;> simp_all
theorem dmask_iff (es : List Edge) (j : Nat) : hasBit (dmask es) j = true ↔ ∃ e ∈ es, anyB e = true ∧ e.on = j := by
  induction es with
  | nil => simp [dmask, hasBit_zero]
  | cons e es ih =>
    have hc : (anyB e = true ∧ dmask (e :: es) = Nat.lor (Nat.pow 2 e.on) (dmask es)) ∨ (anyB e = false ∧ dmask (e :: es) = dmask es) := by
      unfold anyB
      cases hg : e.ground <;> simp [dmask, hg]
    rcases hc with ⟨h1, h2⟩ | ⟨h1, h2⟩
    · rw [h2, hasBit_or]
      have : hasBit (Nat.pow 2 e.on) j = decide (e.on = j) := by rw [hasBit_eq]; show (2 ^ e.on).testBit j = _; rw [Nat.testBit_two_pow]
      rw [this, Bool.or_eq_true, ih]
      constructor
      · rintro (h | ⟨e', h3, h4, h5⟩)
        · exact ⟨e, by simp, h1, by simpa using h⟩
        · exact ⟨e', by simp [h3], h4, h5⟩
      · rintro ⟨e', h3, h4, h5⟩
        rcases List.mem_cons.1 h3 with rfl | h3
        · exact .inl (by simpa using h5)
        · exact .inr ⟨e', h3, h4, h5⟩
    · rw [h2, ih]
      constructor
      · rintro ⟨e', h3, h4, h5⟩; exact ⟨e', by simp [h3], h4, h5⟩
      · rintro ⟨e', h3, h4, h5⟩
        rcases List.mem_cons.1 h3 with rfl | h3
        · rw [h1] at h4; cases h4
        · exact ⟨e', h3, h4, h5⟩

/-! sameness -/
theorem eqNs_ok : ∀ (l m : List Nat), eqNs l m = true → l = m
  | [], [], _ => rfl
  | [], _ :: _, h => by cases h
  | _ :: _, [], h => by cases h
  | a :: l, b :: m, h => by
    have h' : (@Bool.rec (fun _ => Bool) false (eqNs l m) (Nat.beq a b)) = true := h
    cases hb : Nat.beq a b with
    | false => rw [hb] at h'; cases h'
    | true =>
      rw [hb] at h'
      rw [beq_eq' hb, eqNs_ok l m h']
theorem sameF_some {v u : XV} {x : R} {r : XV × XW} (h : sameF v u x = some r) : v = u ∧ x = some r := by
  cases v <;> first | (have h' : (none : R) = some r := h; cases h'; done) | skip
  · obtain ⟨b, rfl, h1⟩ := vBool_some h
    obtain ⟨h2, h3⟩ := cut_some.1 h1
    rw [eqB_eq, beq_iff_eq] at h2
    exact ⟨by rw [h2], h3⟩
  · obtain ⟨k, n, rfl, h1⟩ := vInt_some h
    obtain ⟨h2, h3⟩ := cut_some.1 h1
    rw [andB_eq, Bool.and_eq_true, eqX_eq, beq_iff_eq] at h2
    exact ⟨by rw [kNum_inj (beq_eq' h2.1), h2.2], h3⟩
  · obtain ⟨n, c, rfl, h1⟩ := vStr_some h
    obtain ⟨h2, h3⟩ := cut_some.1 h1
    rw [andB_eq, Bool.and_eq_true] at h2
    exact ⟨by rw [beq_eq' h2.1, beq_eq' h2.2], h3⟩
  · obtain ⟨n, c, rfl, h1⟩ := vPtr_some h
    obtain ⟨h2, h3⟩ := cut_some.1 h1
    rw [andB_eq, Bool.and_eq_true] at h2
    exact ⟨by rw [beq_eq' h2.1, beq_eq' h2.2], h3⟩
  · rcases vPtrN_some h with ⟨_, _, _, h1⟩ | ⟨rfl, h1⟩
    · cases h1
    · exact ⟨rfl, h1⟩
  · rcases vSl_some h with ⟨b, o, n, c, m, rfl, h1⟩ | ⟨_, h1⟩ | ⟨_, h1⟩
    · obtain ⟨h2, h3⟩ := cut_some.1 h1
      simp only [andB_eq, Bool.and_eq_true] at h2
      obtain ⟨a1, a2, a3, a4, a5⟩ := h2
      exact ⟨by rw [beq_eq' a1, beq_eq' a2, beq_eq' a3, beq_eq' a4, beq_eq' a5], h3⟩
    · cases h1
    · cases h1
  · rcases vSl_some h with ⟨b, o, n, c, m, _, h1⟩ | ⟨rfl, h1⟩ | ⟨_, h1⟩
    · cases h1
    · exact ⟨rfl, h1⟩
    · cases h1
  · rcases vMap_some h with ⟨m, rfl, h1⟩ | ⟨_, h1⟩
    · obtain ⟨h2, h3⟩ := cut_some.1 h1
      exact ⟨by rw [beq_eq' h2], h3⟩
    · cases h1
  · rcases vMap_some h with ⟨m, _, h1⟩ | ⟨rfl, h1⟩
    · cases h1
    · exact ⟨rfl, h1⟩
  · rcases vFunc_some h with ⟨_, _, _, _, h1⟩ | ⟨rfl, h1⟩
    · cases h1
    · exact ⟨rfl, h1⟩
  · rcases vIface_some h with ⟨_, _, _, h1⟩ | ⟨rfl, h1⟩
    · cases h1
    · exact ⟨rfl, h1⟩
  · obtain ⟨i1, rfl, h1⟩ := vAtom_some h
    obtain ⟨h2, h3⟩ := cut_some.1 h1
    exact ⟨by rw [beq_eq' h2], h3⟩
  · rcases vStrA_some h with ⟨l1, rfl, h1⟩ | h1
    · obtain ⟨h2, h3⟩ := cut_some.1 h1
      exact ⟨by rw [eqNs_ok _ _ h2], h3⟩
    · cases h1
theorem sameL_some : ∀ (vs us : List XV) (x : R) (r : XV × XW), sameL vs us x = some r → vs = us ∧ x = some r
  | [], [], x, r, h => ⟨rfl, h⟩
  | [], _ :: _, x, r, h => by cases h
  | _ :: _, [], x, r, h => by cases h
  | v :: vs, u :: us, x, r, h => by
    have h' : sameF v u (sameL vs us x) = some r := h
    obtain ⟨rfl, h1⟩ := sameF_some h'
    obtain ⟨rfl, h2⟩ := sameL_some vs us x r h1
    exact ⟨rfl, h2⟩
theorem same_some {v u : XV} {x : R} {r : XV × XW} (h : same v u x = some r) : v = u ∧ x = some r := by
  cases v with
  | agg n cs =>
    obtain ⟨m, es, rfl, h1⟩ := vAgg_some (v := u) (κ := fun n1 cs1 => cut (Nat.beq n n1) (sameL cs cs1 x)) h
    obtain ⟨h2, h3⟩ := cut_some.1 h1
    obtain ⟨rfl, h4⟩ := sameL_some _ _ _ _ h3
    exact ⟨by rw [beq_eq' h2], h4⟩
  | tuple vs =>
    obtain ⟨us, rfl, h1⟩ := vTuple_some (v := u) (κ := fun vs1 => sameL vs vs1 x) h
    obtain ⟨rfl, h4⟩ := sameL_some _ _ _ _ h1
    exact ⟨rfl, h4⟩
  | _ => exact sameF_some h

theorem bindX_some {a : R} {κ : XV → XW → R} {r : XV × XW} (h : bindX a κ = some r) : ∃ x w, a = some (x, w) ∧ κ x w = some r := by
  cases a with
  | none => cases h
  | some p => obtain ⟨x, w⟩ := p; exact ⟨x, w, rfl, h⟩

theorem memN_false {n : Nat} {l : List Nat} (h : memN n l = false) : n ∉ l := by
  induction l with
  | nil => simp
  | cons m ms ih =>
    have h' : orB (Nat.beq n m) (memN n ms) = false := h
    rw [orB_eq, Bool.or_eq_false_iff] at h'
    intro hm
    rcases List.mem_cons.1 hm with rfl | hm
    · rw [Nat.beq_refl] at h'; cases h'.1
    · exact ih h'.2 hm

/-! one operation's row -/
/-- the temporaries that an operation looks at are as they are known -/
def LooksV (ρ : Rho) (t : Sl) (a : Act) (ops : Array Oper) (o : Oper) : Prop := ∀ x ∈ looks ops o, VR ρ ((getB x).f t) (a.tmps.getD x undef)

theorem tmpsOf_mem {l : List Operand} {x : Tmp} (h : Operand.tmp x ∈ l) : x ∈ tmpsOf l := by
  induction l with
  | nil => simp at h
  | cons y l ih =>
    rcases List.mem_cons.1 h with rfl | h2
    · simp [tmpsOf]
    · cases y <;> simp [tmpsOf, ih h2]

theorem looks_op {ops : Array Oper} {o : Oper} {x : Tmp} (h : Operand.tmp x ∈ o.op.operands.toList) : x ∈ looks ops o := by
  have := tmpsOf_mem h
  unfold looks
  split
  · exact this
  · split
    · simp [this]
    · exact this
theorem looks_guard {ops : Array Oper} {o : Oper} {j : Nat} {want : Bool} {d : Tmp} (hg : o.guard = some (j, want)) (hd : (ops[j]?).bind (·.dst) = some d) : d ∈ looks ops o := by
  unfold looks
  rw [hg]
  simp only [hd]
  simp

theorem LooksV.op {ρ : Rho} {t : Sl} {a : Act} {ops : Array Oper} {o : Oper} (h : LooksV ρ t a ops o) (hg : ∃ q, ρ 0 = some (0, 0, q)) : ∀ x ∈ o.op.operands, OpV ρ t a.eval x := by
  intro x hx
  cases x with
  | tmp i => exact h i (looks_op (Array.mem_toList_iff.2 hx))
  | const v => exact ofValue_ok ρ v
  | global g =>
    show VR ρ ((cE (.global g)).f t) (.pointer (some ⟨g, 0, none⟩))
    cases g with
    | zero =>
      obtain ⟨q, hq⟩ := hg
      exact VR.ptr (ρ := ρ) (b := 0) (r := 0) (d := 0) (q := q) (o := 0) hq
    | succ g => exact .bad
  | func f => exact .func _ rfl rfl (by simp) (by simp)

/-- the guard, as it is known -/
theorem guard_ok {ops : Array Oper} {o : Oper} {t : Sl} {κ : Bool → R} {res : XV × XW} (h : (guardB ops o.guard).f t κ = some res) {ρ : Rho} {a : Act} (hl : LooksV ρ t a ops o) :
    κ (Region.wanted o (yielded ops a.tmps)) = some res := by
  cases hg : o.guard with
  | none => rw [hg] at h; rw [wanted_none hg]; exact h
  | some gw =>
    obtain ⟨j, want⟩ := gw
    rw [hg] at h
    rw [wanted_some hg]
    exact cWant_ok h fun d hd => hl d (looks_guard hg hd)

/-- a block of a value that is a new one -/
def idOf : XV → Option Nat
  | .ptr b _ => some b
  | .slice b _ _ _ _ => some b
  | .map b => some b
  | _ => none
end Go.Ex
namespace Go.Ex
variable [Val]
set_option linter.unusedSectionVars false
variable {P : Program}

/-- an operation that looks at its operands alone -/
def Dep (op : Op) (f : Sl → XW → (XV → R) → R) : Prop := ∀ (t t' : Sl) (E E' : XW) (κ : XV → R), (∀ x ∈ op.operands, (cE x).f t = (cE x).f t') → f t E κ = f t' E' κ

theorem dep_no (op : Op) : Dep op noV.f := fun _ _ _ _ _ _ => rfl
theorem dep_u1 {op : Op} {x : Operand} {k : XV → XW → (XV → R) → R} (hx : x ∈ op.operands) (hk : ∀ v E E' κ, k v E κ = k v E' κ) : Dep op (u1 x k).f := fun t t' E E' κ h => by
  rw [u1_f, u1_f, h x hx, hk]
theorem dep_u2 {op : Op} {x y : Operand} {k : XV → XV → XW → (XV → R) → R} (hx : x ∈ op.operands) (hy : y ∈ op.operands) (hk : ∀ v u E E' κ, k v u E κ = k v u E' κ) : Dep op (u2 x y k).f := fun t t' E E' κ h => by
  rw [u2_f, u2_f, h x hx, h y hy, hk]
theorem dep_Es {t t' : Sl} : ∀ (l : List Operand), (∀ x ∈ l, (cE x).f t = (cE x).f t') → (cEs l).f t = (cEs l).f t'
  | [], _ => rfl
  | x :: xs, h => by
    show (cE x).f t :: (cEs xs).f t = (cE x).f t' :: (cEs xs).f t'
    rw [h x (by simp), dep_Es xs fun y hy => h y (by simp [hy])]
theorem dep_O {t t' : Sl} {x : Option Operand} (h : ∀ y, x = some y → (cE y).f t = (cE y).f t') : (cO x).f t = (cO x).f t' := by
  cases x with
  | none => rfl
  | some y =>
    funext d κ
    show vInt ((cE y).f t) (fun _ i => iNat i κ) = vInt ((cE y).f t') (fun _ i => iNat i κ)
    rw [h y rfl]
theorem dep_fill {place : Nat → Option (Nat × Nat)} {tot : Nat} {t t' : Sl} : ∀ (l : List (Nat × Operand)), (∀ p ∈ l, (cE p.2).f t = (cE p.2).f t') → ∀ cs κ, (cFill place tot l).f t cs κ = (cFill place tot l).f t' cs κ
  | [], _, _, _ => rfl
  | (i, x) :: rest, h, cs, κ => by
    unfold cFill
    rw [be_eta x, show cFill place tot rest = ⟨(cFill place tot rest).f⟩ from rfl]
    split
    · rfl
    · rename_i off sz hp
      cases hb : Nat.ble (off + sz) tot with
      | false => rfl
      | true =>
        dsimp only
        rw [h (i, x) (by simp)]
        congr 1
        funext n l
        rw [dep_fill rest fun p hp => h p (by simp [hp])]

theorem dep_bin (op : BinOp) (t yt : TypeId) (x y : Operand) : Dep (.binOp op t x y yt) (cBin P op t x y).f := by
  intro s s' E E' κ h
  have hx := h x (by simp [Op.operands])
  have hy := h y (by simp [Op.operands])
  unfold cBin
  rw [be_eta x, be_eta y]
  split
  · split
    · dsimp only; rename_i h1 _ _; simp_all
    · dsimp only; simp_all
    · rfl
  · split
    · dsimp only; simp_all
    · rfl
  · split
    · unfold cCmp
      rw [be_eta x, be_eta y, show cEq P 60 t = ⟨(cEq P 60 t).f⟩ from rfl]
      dsimp only
      split
      · split
        · dsimp only; rw [hx, hy]
        · dsimp only; rw [hx, hy]
      · split
        · rfl
        · dsimp only; rw [hx, hy]
      · split
        · rfl
        · dsimp only; rw [hx, hy]
      all_goals first | rfl | (dsimp only; rw [hx, hy])
    · rfl

theorem dep_slice (t : TypeId) (x : Operand) (lo hi mx : Option Operand) : Dep (.slice t x lo hi mx) (cSlice P t x lo hi mx).f := by
  intro s s' E E' κ h
  have hx := h x (by simp [Op.operands])
  have hlo := dep_O (x := lo) (fun y e => h y (by simp [Op.operands, e]))
  have hhi := dep_O (x := hi) (fun y e => h y (by simp [Op.operands, e]))
  have hmx := dep_O (x := mx) (fun y e => h y (by simp [Op.operands, e]))
  unfold cSlice
  rw [be_eta x, co_eta lo, co_eta hi, co_eta mx]
  dsimp only
  split
  · rfl
  · split
    · split
      · rfl
      · dsimp only; rw [hx, hlo, hhi]
    · split
      · dsimp only; rw [hx, hlo, hhi, hmx]
      · rfl
    · split
      · dsimp only; rw [hx, hlo, hhi, hmx]
      · rfl
    · rfl

theorem dep_build (t : TypeId) (parts : Array (Nat × Operand)) : Dep (.build t parts) (cBuild P t parts.toList).f := by
  intro s s' E E' κ h
  have hp : ∀ p ∈ parts.toList, (cE p.2).f s = (cE p.2).f s' := fun p hp => h p.2 (by simp [Op.operands]; exact ⟨p.1, by simpa using hp⟩)
  unfold cBuild
  split
  · rename_i z fs hz hu
    cases hfo : fieldsOk P fs.toList with
    | false => rfl
    | true => exact dep_fill _ hp _ _
  · split
    · exact dep_fill _ hp _ _
    · rfl
  · rfl

theorem dep_mins {lt : Bool} {t t' : Sl} : ∀ (ys : List Operand), (∀ y ∈ ys, (cE y).f t = (cE y).f t') → ∀ k a κ, (cMins lt ys).f t k a κ = (cMins lt ys).f t' k a κ
  | [], _, _, _, _ => rfl
  | y :: ys, h, k, a, κ => by
    unfold cMins
    rw [be_eta y, show cMins lt ys = ⟨(cMins lt ys).f⟩ from rfl]
    have ih := dep_mins (lt := lt) ys fun z hz => h z (by simp [hz])
    cases lt with
    | true =>
      dsimp only
      rw [h y (by simp)]
      congr 1
      funext k' b
      rw [ih, ih]
    | false =>
      dsimp only
      rw [h y (by simp)]
      congr 1
      funext k' b
      rw [ih, ih]

theorem call_mem {c : Call} {x : Operand} (h : x ∈ c.args.toList) : x ∈ (Op.call c).operands := by
  simp only [Op.operands, Call.operands]
  exact Array.mem_append.2 (.inr (Array.mem_toList_iff.1 h))

theorem val_inj {b : BV} {f : Sl → XW → (XV → R) → R} (h : ofV b = .val f) : f = b.f := by
  obtain ⟨g⟩ := b; cases h; rfl

theorem dep_pick (c x y : Operand) : Dep (.pick c x y) (cPick c x y).f := by
  intro s s' E E' κ h
  have h1 := h c (by simp [Op.operands])
  have h2 := h x (by simp [Op.operands])
  have h3 := h y (by simp [Op.operands])
  unfold cPick
  rw [be_eta c, be_eta x, be_eta y]
  dsimp only
  rw [h1, h2, h3]
theorem dep_func (fn : Fn) (f c : Array Operand) : Dep (.makeFunc fn f c) (cFunc fn f.toList c.toList).f := by
  intro s s' E E' κ h
  show κ (.func fn ((cEs f.toList).f s) ((cEs c.toList).f s)) = κ (.func fn ((cEs f.toList).f s') ((cEs c.toList).f s'))
  rw [dep_Es f.toList fun x hx => h x (by simp [Op.operands, Array.mem_toList_iff.1 hx]),
    dep_Es c.toList fun x hx => h x (by simp [Op.operands, Array.mem_toList_iff.1 hx])]
theorem dep_un (op : UnOp) (t : TypeId) (x : Operand) : Dep (.unOp op t x) (cUn op x).f := by
  cases op <;> first | exact dep_no _ | exact dep_u1 (by simp [Op.operands]) fun _ _ _ _ => rfl
theorem dep_iface (t : TypeId) (x : Operand) : Dep (.makeInterface t x) (cIface P t x).f := by
  unfold cIface
  split <;> first | exact dep_no _ | exact dep_u1 (by simp [Op.operands]) fun _ _ _ _ => rfl
theorem dep_fieldAddr (s : TypeId) (x : Operand) (f : Nat) : Dep (.fieldAddr s x f) (cFieldAddr P s x f).f := by
  unfold cFieldAddr
  split <;> first | exact dep_no _ | exact dep_u1 (by simp [Op.operands]) fun _ _ _ _ => rfl
theorem dep_field (t : TypeId) (x : Operand) (f : Nat) : Dep (.field t x f) (cField P t x f).f := by
  unfold cField
  split
  · split
    · rw [show ∀ fd : Field, cPart P fd.type fd.offset = ⟨(cPart P fd.type fd.offset).f⟩ from fun _ => rfl]
      exact dep_u1 (by simp [Op.operands]) fun _ _ _ _ => rfl
    · exact dep_no _
  · exact dep_no _
theorem dep_indexAddr (t : TypeId) (x ix : Operand) : Dep (.indexAddr t x ix) (cIndexAddr P t x ix).f := by
  unfold cIndexAddr
  split
  · split <;> first | exact dep_no _ | exact dep_u2 (by simp [Op.operands]) (by simp [Op.operands]) fun _ _ _ _ _ => rfl
  · split <;> first | exact dep_no _ | exact dep_u2 (by simp [Op.operands]) (by simp [Op.operands]) fun _ _ _ _ _ => rfl
  · exact dep_no _
theorem dep_index (t : TypeId) (x ix : Operand) : Dep (.index t x ix) (cIndex P t x ix).f := by
  unfold cIndex
  split
  · split <;> first | exact dep_no _ | exact dep_u2 (by simp [Op.operands]) (by simp [Op.operands]) fun _ _ _ _ _ => rfl
  · exact dep_u2 (by simp [Op.operands]) (by simp [Op.operands]) fun _ _ _ _ _ => rfl
  · exact dep_no _
theorem dep_len {op : Op} {t : TypeId} {x : Operand} (hx : x ∈ op.operands) : Dep op (cLen P t x).f := by
  unfold cLen
  split
  · exact dep_u1 hx fun _ _ _ _ => rfl
  · exact dep_u1 hx fun _ _ _ _ => rfl
  · exact fun _ _ _ _ _ _ => rfl
  · exact dep_no _
theorem dep_cap {op : Op} {t : TypeId} {x : Operand} (hx : x ∈ op.operands) : Dep op (cCap P t x).f := by
  unfold cCap
  split
  · exact dep_u1 hx fun _ _ _ _ => rfl
  · exact dep_no _
theorem dep_min {op : Op} {lt : Bool} {x : Operand} {ys : List Operand} (hx : ∀ y ∈ x :: ys, y ∈ op.operands) : Dep op (cMin lt x ys).f := by
  intro s s' E E' κ h
  unfold cMin
  rw [be_eta x, show cMins lt ys = ⟨(cMins lt ys).f⟩ from rfl]
  dsimp only
  rw [h x (hx x (by simp))]
  congr 1
  funext k a
  exact dep_mins ys (fun y hy => h y (hx y (by simp [hy]))) _ _ _

theorem dep_builtin {c : Call} {b : Builtin} {ts : Array TypeId} {f : Sl → XW → (XV → R) → R} (h : cBuiltin P b ts c.args.toList = .val f) : Dep (.call c) f := by
  have hm : ∀ x ∈ c.args.toList, x ∈ (Op.call c).operands := fun x hx => call_mem hx
  generalize c.args.toList = args at h hm
  unfold cBuiltin at h
  split at h
  · split at h <;> cases h
  · cases h
  · cases h
  · cases h
  · rw [val_inj h]; exact dep_len (hm _ (by simp))
  · rw [val_inj h]; exact dep_cap (hm _ (by simp))
  · rw [val_inj h]; exact dep_min hm
  · rw [val_inj h]; exact dep_min hm
  · rw [val_inj h]; exact dep_u1 (hm _ (by simp)) fun _ _ _ _ => rfl
  · cases h
theorem dep_extern {c : Call} {g : FuncId} {f : Sl → XW → (XV → R) → R} (h : cExtern P g c.args.toList = .val f) : Dep (.call c) f := by
  have hm : ∀ x ∈ c.args.toList, x ∈ (Op.call c).operands := fun x hx => call_mem hx
  generalize c.args.toList = args at h hm
  unfold cExtern at h
  split at h
  · rw [val_inj h]; exact dep_u1 (hm _ (by simp)) fun _ _ _ _ => rfl
  · split at h <;> cases h
  · rw [val_inj h]; exact dep_u2 (hm _ (by simp)) (hm _ (by simp)) fun _ _ _ _ _ => rfl
  · rw [val_inj h]; exact dep_u2 (hm _ (by simp)) (hm _ (by simp)) fun _ _ _ _ _ => rfl
  · cases h
theorem dep_call {call : Rec} {c : Call} {x : Operand} {f : Sl → XW → (XV → R) → R} (h : cCall P call x c.args.toList = .val f) : Dep (.call c) f := by
  unfold cCall at h
  split at h
  · split at h
    · split at h
      · split at h
        · cases h
        · exact dep_extern h
      · split at h <;> cases h
    · cases h
  · cases h

theorem cCl0_dep {call : Rec} {op : Op} {f : Sl → XW → (XV → R) → R} (h : cCl0 P call op = .val f) (hr : readsH op = false) : Dep op f := by
  unfold cCl0 at h
  split at h
  all_goals first | (cases h; done) | (cases hr; done) | skip
  · rw [val_inj h]; exact dep_pick _ _ _
  · rw [val_inj h]; exact dep_build _ _
  · rw [val_inj h]; exact dep_u1 (by simp [Op.operands]) fun _ _ _ _ => rfl
  · rw [val_inj h]; exact dep_bin _ _ _ _ _
  · rw [val_inj h]; exact dep_un _ _ _
  · rw [val_inj h]; exact dep_iface _ _
  · rw [val_inj h]; exact dep_func _ _ _
  · rw [val_inj h]; exact dep_slice _ _ _ _ _
  · rw [val_inj h]; exact dep_fieldAddr _ _ _
  · rw [val_inj h]; exact dep_field _ _ _
  · rw [val_inj h]; exact dep_indexAddr _ _ _
  · rw [val_inj h]; exact dep_index _ _ _
  · rw [val_inj h]; exact dep_u1 (by simp [Op.operands]) fun _ _ _ _ => rfl
  · split at h
    · exact dep_builtin h
    · exact dep_call h
    · cases h
  · split at h
    · cases h
    · cases h

theorem ofV_nep {b : BV} {g : Sl → XV} (h : ofV b = .pure g) : False := by obtain ⟨_⟩ := b; cases h
theorem ofA_nep {b : BA} {g : Sl → XV} (h : ofA b = .pure g) : False := by obtain ⟨_⟩ := b; cases h
theorem ofF_nep {b : BF} {g : Sl → XV} (h : ofF b = .pure g) : False := by obtain ⟨_⟩ := b; cases h
theorem builtin_nep {b : Builtin} {ts : Array TypeId} {args : List Operand} {g : Sl → XV} (h : cBuiltin P b ts args = .pure g) : False := by
  unfold cBuiltin at h
  split at h
  · split at h
    · exact ofF_nep h
    · cases h
  all_goals first | exact ofF_nep h | exact ofV_nep h | cases h
theorem extern_nep {f : FuncId} {args : List Operand} {g : Sl → XV} (h : cExtern P f args = .pure g) : False := by
  unfold cExtern at h
  split at h
  · exact ofV_nep h
  · split at h <;> cases h
  · exact ofV_nep h
  · exact ofV_nep h
  · cases h
theorem call_nep {call : Rec} {x : Operand} {args : List Operand} {g : Sl → XV} (h : cCall P call x args = .pure g) : False := by
  unfold cCall at h
  split at h
  · split at h
    · split at h
      · split at h
        · cases h
        · exact extern_nep h
      · split at h <;> cases h
    · cases h
  · cases h

theorem cCl0_depP {call : Rec} {op : Op} {g : Sl → XV} (h : cCl0 P call op = .pure g) : ∀ t t' : Sl, (∀ x ∈ op.operands, (cE x).f t = (cE x).f t') → g t = g t' := by
  have key : ∀ x : Operand, ofE (cE x) = .pure g → g = (cE x).f := by
    intro x hx; rw [be_eta x] at hx; cases hx; rfl
  intro t t' ht
  unfold cCl0 at h
  split at h
  · rw [key _ h]; exact ht _ (by simp [Op.operands])
  · rw [key _ h]; exact ht _ (by simp [Op.operands])
  all_goals first | exact (ofV_nep h).elim | exact (ofA_nep h).elim | exact (ofF_nep h).elim | (cases h; done) | skip
  · split at h
    · exact (ofF_nep h).elim
    · exact (ofV_nep h).elim
  · split at h
    · exact (builtin_nep h).elim
    · exact (call_nep h).elim
    · cases h
  · split at h
    · cases h
    · cases h

/-- the slots that an operand shows are those of its tmps -/
theorem cE_look {x : Operand} {t t' : Sl} (h : ∀ d, x = .tmp d → (getB d).f t = (getB d).f t') : (cE x).f t = (cE x).f t' := by
  cases x with
  | tmp d => exact h d rfl
  | global g => cases g <;> rfl
  | _ => rfl

theorem cCl_dep {call : Rec} {op : Op} {f : Sl → XW → (XV → R) → R} (h : cCl P call op = .val f) (hr : readsH op = false) : Dep op f := by
  unfold cCl at h
  split at h
  · exact cCl0_dep h hr
  · rename_i g hg
    cases hc : cCl0 P call op with
    | val f0 =>
      rw [hc] at h
      cases h
      intro t t' E E' κ ht
      show oX (g ((cEs op.operands.toList).f t)) κ (f0 t E κ) = oX (g ((cEs op.operands.toList).f t')) κ (f0 t' E' κ)
      rw [dep_Es op.operands.toList fun x hx => ht x (Array.mem_toList_iff.1 hx), cCl0_dep hc hr t t' E E' κ ht]
    | _ => rw [hc] at h; cases h
theorem cCl_depP {call : Rec} {op : Op} {g : Sl → XV} (h : cCl P call op = .pure g) : ∀ t t' : Sl, (∀ x ∈ op.operands, (cE x).f t = (cE x).f t') → g t = g t' := by
  unfold cCl at h
  split at h
  · exact cCl0_depP h
  · cases hc : cCl0 P call op with
    | pure f0 => rw [hc] at h; cases h; exact cCl0_depP hc
    | _ => rw [hc] at h; cases h
end Go.Ex
namespace Go.Ex
variable [Val]
set_option linter.unusedSectionVars false
variable {P : Program}

/-! a new block comes to its reader, whatever the world -/
def NewC (f : Sl → (XB → (Nat → XV) → R) → R) : Prop := ∀ (t : Sl) (κ : XB → (Nat → XV) → R) (res : XV × XW), f t κ = some res → ∃ x mk, κ x mk = some res

theorem vCells_c {v : XV} {κ : Nat → List XV → R} {r : XV × XW} (h : vCells v κ = some r) : ∃ n l, κ n l = some r := by
  cases v <;> first | (have h' : (none : R) = some r := h; cases h'; done) | exact ⟨_, _, h⟩
theorem fill_c {place : Nat → Option (Nat × Nat)} {tot : Nat} {t : Sl} : ∀ (l : List (Nat × Operand)) (cs : List XV) (κ : List XV → R) (res : XV × XW), (cFill place tot l).f t cs κ = some res → ∃ cs', κ cs' = some res
  | [], cs, κ, res, h => ⟨cs, h⟩
  | (i, x) :: rest, cs, κ, res, h => by
    unfold cFill at h
    rw [be_eta x, show cFill place tot rest = ⟨(cFill place tot rest).f⟩ from rfl] at h
    split at h
    · cases h
    · rename_i off sz hp
      cases hb : Nat.ble (off + sz) tot with
      | false => rw [hb] at h; cases h
      | true =>
        rw [hb] at h
        obtain ⟨n, l, h1⟩ := vCells_c (v := (cE x).f t) (κ := fun n l => cut (Nat.beq n sz) ((cFill place tot rest).f t (setL l off cs) κ)) h
        obtain ⟨_, h2⟩ := cut_some.1 h1
        exact fill_c rest _ _ _ h2

theorem newC_no : NewC noA.f := fun _ _ _ h => by cases h
theorem newC_alloc (t : TypeId) : NewC (cAlloc P t).f := by
  intro s κ res h
  unfold cAlloc at h
  split at h
  · exact ⟨_, _, h⟩
  · cases h
theorem newC_box (t : TypeId) (x : Operand) : NewC (cBox t x).f := by
  intro s κ res h
  unfold cBox at h
  rw [be_eta x] at h
  obtain ⟨n, l, h1⟩ := vCells_c (κ := fun n l => κ (.cells t n l true none 0 false) fun id => .ptr id 0) h
  exact ⟨_, _, h1⟩
theorem newC_buildSlice (t : TypeId) (len : Nat) (parts : List (Nat × Operand)) : NewC (cBuildSlice P t len parts).f := by
  intro s κ res h
  unfold cBuildSlice at h
  split at h
  · split at h
    · rename_i sz z _ _
      rw [show cFill (fun i => some (i * sz, sz)) (len * sz) parts = ⟨(cFill (fun i => some (i * sz, sz)) (len * sz) parts).f⟩ from rfl] at h
      split at h
      · rename_i he
        cases he
        obtain ⟨cs, h1⟩ := fill_c _ _ _ _ h
        exact ⟨_, _, h1⟩
      · cases h
    · cases h
  · cases h
theorem newC_makeSlice (t : TypeId) (l c : Operand) : NewC (cMakeSlice P t l c).f := by
  intro s κ res h
  unfold cMakeSlice at h
  rw [be_eta l, be_eta c] at h
  split at h
  · split at h
    · split at h
      · rename_i h1 h2
        cases h1; cases h2
        obtain ⟨_, n, _, h1⟩ := vInt_some h
        obtain ⟨_, _, h2⟩ := iNat_some h1
        obtain ⟨_, n, _, h3⟩ := vInt_some h2
        obtain ⟨_, _, h4⟩ := iNat_some h3
        obtain ⟨_, h5⟩ := cut_some.1 h4
        exact ⟨_, _, h5⟩
      · cases h
    · cases h
  · cases h
theorem newC_range (t : TypeId) (x : Operand) : NewC (cRange P t x).f := by
  intro s κ res h
  unfold cRange at h
  rw [be_eta x] at h
  split at h
  · obtain ⟨_, _, _, h1⟩ := vStr_some h
    exact ⟨_, _, h1⟩
  · cases h

theorem new_inj {b : BA} {f : Sl → (XB → (Nat → XV) → R) → R} (h : ofA b = .new f) : f = b.f := by
  obtain ⟨g⟩ := b; cases h; rfl
theorem ofV_nen {b : BV} {f : Sl → (XB → (Nat → XV) → R) → R} (h : ofV b = .new f) : False := by obtain ⟨_⟩ := b; cases h
theorem ofE_nen {b : BE} {f : Sl → (XB → (Nat → XV) → R) → R} (h : ofE b = .new f) : False := by obtain ⟨_⟩ := b; cases h
theorem ofF_nen {b : BF} {f : Sl → (XB → (Nat → XV) → R) → R} (h : ofF b = .new f) : False := by obtain ⟨_⟩ := b; cases h
theorem builtin_nen {b : Builtin} {ts : Array TypeId} {args : List Operand} {f : Sl → (XB → (Nat → XV) → R) → R} (h : cBuiltin P b ts args = .new f) : False := by
  unfold cBuiltin at h
  split at h
  · split at h
    · exact ofF_nen h
    · cases h
  all_goals first | exact ofF_nen h | exact ofV_nen h | cases h
theorem extern_nen {g : FuncId} {args : List Operand} {f : Sl → (XB → (Nat → XV) → R) → R} (h : cExtern P g args = .new f) : False := by
  unfold cExtern at h
  split at h
  · exact ofV_nen h
  · split at h <;> cases h
  · exact ofV_nen h
  · exact ofV_nen h
  · cases h
theorem call_nen {call : Rec} {x : Operand} {args : List Operand} {f : Sl → (XB → (Nat → XV) → R) → R} (h : cCall P call x args = .new f) : False := by
  unfold cCall at h
  split at h
  · split at h
    · split at h
      · split at h
        · cases h
        · exact extern_nen h
      · split at h <;> cases h
    · cases h
  · cases h
theorem cCl0_new {call : Rec} {op : Op} {f : Sl → (XB → (Nat → XV) → R) → R} (h : cCl0 P call op = .new f) : NewC f := by
  unfold cCl0 at h
  split at h
  all_goals first | exact (ofV_nen h).elim | exact (ofE_nen h).elim | exact (ofF_nen h).elim | skip
  · rw [new_inj h]; exact newC_alloc _
  · rw [new_inj h]; exact newC_box _ _
  · rw [new_inj h]; exact newC_buildSlice _ _ _
  · split at h
    · exact (ofF_nen h).elim
    · exact (ofV_nen h).elim
  · cases h; exact fun _ _ _ h => ⟨_, _, h⟩
  · rw [new_inj h]; exact newC_makeSlice _ _ _
  · rw [new_inj h]; exact newC_range _ _
  · split at h
    · exact (builtin_nen h).elim
    · exact (call_nen h).elim
    · cases h
  · split at h
    · cases h
    · cases h
  · cases h

theorem cCl_new {call : Rec} {op : Op} {f : Sl → (XB → (Nat → XV) → R) → R} (h : cCl P call op = .new f) : NewC f := by
  unfold cCl at h
  split at h
  · exact cCl0_new h
  · cases hc : cCl0 P call op with
    | new f0 => rw [hc] at h; cases h; exact cCl0_new hc
    | _ => rw [hc] at h; cases h
/-! the guard depends on its slot alone -/
def SameL (ops : Array Oper) (o : Oper) (t t' : Sl) : Prop := ∀ x ∈ looks ops o, (getB x).f t = (getB x).f t'

theorem SameL.ops {ops : Array Oper} {o : Oper} {t t' : Sl} (h : SameL ops o t t') : ∀ x ∈ o.op.operands, (cE x).f t = (cE x).f t' := by
  intro x hx
  refine cE_look fun d hd => ?_
  subst hd
  exact h d (looks_op (Array.mem_toList_iff.2 hx))

theorem guard_pure {ops : Array Oper} {o : Oper} {t : Sl} {κ : Bool → R} {res : XV × XW} (h : (guardB ops o.guard).f t κ = some res) :
    ∃ b, κ b = some res ∧ ∀ t', SameL ops o t t' → ∀ κ' : Bool → R, (guardB ops o.guard).f t' κ' = κ' b := by
  cases hg : o.guard with
  | none => rw [hg] at h; exact ⟨true, h, fun _ _ _ => rfl⟩
  | some gw =>
    obtain ⟨j, want⟩ := gw
    rw [hg] at h
    show ∃ b, κ b = some res ∧ ∀ t', SameL ops o t t' → ∀ κ' : Bool → R, (cWant ops j want).f t' κ' = κ' b
    have h' : (cWant ops j want).f t κ = some res := h
    clear h
    unfold cWant at h' ⊢
    cases hd : (ops[j]?).bind (·.dst) with
    | none => rw [hd] at h'; cases h'
    | some d =>
      rw [hd] at h'
      have e : getB d = ⟨(getB d).f⟩ := rfl
      dsimp only at h' ⊢
      rw [e] at h' ⊢
      cases want with
      | true =>
        obtain ⟨n1, n2, n3, h1⟩ := vWantT_some' h'
        refine ⟨_, h1, fun t' ht κ' => ?_⟩
        show vWantT ((getB d).f t') κ' = _
        rw [← ht d (looks_guard hg hd)]
        revert n1 n2 n3
        generalize (getB d).f t = v
        intro n1 n2 n3
        cases v <;> first | (exact absurd rfl n1) | (exact absurd rfl n2) | (exact absurd rfl (n3 _)) | rfl | (rename_i b; cases b <;> rfl)
      | false =>
        obtain ⟨n1, n2, n3, h1⟩ := vWantF_some' h'
        refine ⟨_, h1, fun t' ht κ' => ?_⟩
        show vWantF ((getB d).f t') κ' = _
        rw [← ht d (looks_guard hg hd)]
        revert n1 n2 n3
        generalize (getB d).f t = v
        intro n1 n2 n3
        cases v <;> first | (exact absurd rfl n1) | (exact absurd rfl n2) | (exact absurd rfl (n3 _)) | rfl | (rename_i b; cases b <;> rfl)
end Go.Ex
namespace Go.Ex
variable [Val]
set_option linter.unusedSectionVars false
variable {P : Program}

/-! one operation of a drawn region -/
def Step (P : Program) (ops : Array Oper) (o : Oper) (a : Act) (w : World) (next : Act → World → Prop) (Q : Exit → Act → World → Prop) : Prop :=
  (Region.wanted o (yielded ops a.tmps) = false ∧ next (a.put o.dst undef) w) ∨ (Region.wanted o (yielded ops a.tmps) = true ∧ o.wp P a w next Q)

theorem Step.wpOp {ops : Array Oper} {o : Oper} {i : Nat} (hi : ops[i]? = some o) {a : Act} {w : World} {next : Act → World → Prop} {Q : Exit → Act → World → Prop} (h : Step P ops o a w next Q) : wpOp P ops Q i next a w := by
  unfold Go.wpOp
  rw [hi]
  dsimp only
  rcases h with ⟨h1, h2⟩ | ⟨h1, h2⟩
  · rw [h1]; exact h2
  · rw [if_pos h1]; exact .inl h2

/-- it yields x and turns nothing -/
def Plain (P : Program) (ops : Array Oper) (o : Oper) (x : XV) (t : Sl) (E : XW) : Prop := ∀ w₀ ρ a w, Rep w₀ ρ E w → LooksV ρ t a ops o → ∀ (next : Act → World → Prop) (Q : Exit → Act → World → Prop),
  (∀ v, VR ρ x v → next (a.put o.dst v) w) → Step P ops o a w next Q

/-- it makes the block id -/
def Fresh (P : Program) (ops : Array Oper) (o : Oper) (x : XV) (id : Nat) (t : Sl) (E : XW) : Prop := ∀ w₀ ρ a w, Rep w₀ ρ E w → LooksV ρ t a ops o → ρ id = none → ∀ (next : Act → World → Prop) (Q : Exit → Act → World → Prop),
  (∀ q v w', Rep w₀ (ρ.ext id (w.heap.size, 0, q)) E w' → VR (ρ.ext id (w.heap.size, 0, q)) x v → next (a.put o.dst v) w') → Step P ops o a w next Q

noncomputable def isNew (P : Program) (call : Rec) (o : Oper) : Bool := match cCl P call o.op with
  | .new _ => true
  | _ => false

def slotIs (o : Oper) (t : Sl) (x : XV) : Prop := ∀ d, o.dst = some d → (getB d).f t = x

/-- what a row is to its operation -/
structure RowOK (P : Program) (call : Rec) (nt : Nat) (ops : Array Oper) (i : Nat) (o : Oper) (r : Row) : Prop where
  i : r.i = i
  d : r.d = dmask o.after.toList
  p : cDst nt o.dst = some ⟨r.p⟩
  ef : r.e = true → ∀ t E κ res, r.ef t E κ = some res → ∀ w₀ ρ a w, Rep w₀ ρ E w → LooksV ρ t a ops o → ∀ (next : Act → World → Prop) (Q : Exit → Act → World → Prop),
    (∀ x E' ρ' v w', κ x E' = some res → Ext E.next ρ ρ' → E.next ≤ E'.next → Rep w₀ ρ' E' w' → VR ρ' x v → next (a.put o.dst v) w') → Step P ops o a w next Q
  ev : r.e = false → ∀ t E x E', r.ev t E = some (x, E') →
    ((E' = E ∧ (isNew P call o = true → idOf x = none)) ∨ (∃ b, E.next < lim ∧ E' = ⟨E.heap.set dep E.next (some b), E.next + 1⟩ ∧ idOf x = some E.next ∧ isNew P call o = true)) ∧
    (r.c = false → isNew P call o = false ∧ ∀ t', SameL ops o t t' → ∀ E'', Plain P ops o x t' E'')
  ck : r.e = false → r.c = true → ∀ t E seen κ res, r.ck t E seen κ = some res → (∃ seen', κ seen' = some res) ∧
    ∃ x, slotIs o t x ∧ (Plain P ops o x t E ∨ ∃ id d, o.dst = some d ∧ isNew P call o = true ∧ idOf x = some id ∧ id < E.next ∧ Fresh P ops o x id t E)

/-! the steps -/
theorem step_skip {ops : Array Oper} {o : Oper} {ρ : Rho} {a : Act} {w : World} {next : Act → World → Prop} {Q : Exit → Act → World → Prop} (hw : Region.wanted o (yielded ops a.tmps) = false)
    (hN : ∀ v, VR ρ undefX v → next (a.put o.dst v) w) : Step P ops o a w next Q := .inl ⟨hw, hN _ VR.undef⟩

theorem step_value {ops : Array Oper} {o : Oper} {a : Act} {w : World} {next : Act → World → Prop} {Q : Exit → Act → World → Prop} (hw : Region.wanted o (yielded ops a.tmps) = true) {v : Value} (hr : Runs P a.eval o.op w (.value v) w)
    (hN : next (a.put o.dst v) w) : Step P ops o a w next Q := by
  refine .inr ⟨hw, ?_⟩
  unfold Oper.wp
  rw [hr o rfl, Oper.upon_value]
  exact hN

/-- a value's operation, its guard too -/
theorem plain_val {ops : Array Oper} {o : Oper} {f : Sl → XW → (XV → R) → R} (hv : ValS P o.op f) {t : Sl} {E : XW} {b : Bool} {x : XV} {e e0 : XW} (hgt : ∀ κ' : Bool → R, (guardB ops o.guard).f t κ' = κ' b)
    (h : iff b (f t E fun v => some (v, e0)) (some (undefX, e0)) = some (x, e)) : Plain P ops o x t E := by
  intro w₀ ρ a w hR hL next Q hN
  have hw : Region.wanted o (yielded ops a.tmps) = b := by
    have h1 := guard_ok (ops := ops) (o := o) (t := t) (κ := fun c => some (.bool c, E)) (res := (.bool b, E)) (hgt _) hL
    simpa using h1
  rw [iff_eq] at h
  cases b with
  | false =>
    have h' : some (undefX, e0) = some (x, e) := h
    cases h'
    exact step_skip hw hN
  | true =>
    have h' : f t E (fun v => some (v, e0)) = some (x, e) := h
    obtain ⟨y, v, h1, h2, h3⟩ := hv t E _ _ h' w₀ ρ w a.eval hR (hL.op hR.glob)
    cases h1
    exact step_value hw h3 (hN v h2)

theorem kinNone_eq {k : Option Nat} (h : kinNone k = true) : k = none := by
  cases k with
  | none => rfl
  | some n => cases h
theorem notB_t {b : Bool} (h : notB b = true) : b = false := by cases b with
  | false => rfl
  | true => cases h

theorem ckA_k {E : XW} {v : XV} {κ : List Nat → R} {seen : List Nat} {y : XB} {mk : Nat → XV} {res : XV × XW}
    (h : (vId v fun id => cut (andB (Nat.blt id E.next) (notB (memN id seen))) (same (mk id) v (oCells (some y) fun e m cs p k f r => hCells E id fun e' m' cs' p' k' f' r' =>
        cut (andB (Nat.beq e e') (andB (Nat.beq m m') (andB (eqB p p') (andB (kinNone k) (andB (kinNone k') (andB (Nat.beq f f') (andB (notB r) (notB r')))))))) (sameL cs cs' (κ (id :: seen)))))) = some res) :
    ∃ id, idOf v = some id ∧ id < E.next ∧ mk id = v ∧ E.heap.get id = some y ∧ κ (id :: seen) = some res := by
  obtain ⟨id, h1, hid⟩ := vId_some h
  obtain ⟨h2, h3⟩ := cut_some.1 h1
  obtain ⟨h4, h5⟩ := same_some h3
  rw [andB_eq, Bool.and_eq_true] at h2
  refine ⟨id, ?_, blt_lt h2.1, h4, ?_⟩
  · rcases hid with ⟨o, rfl⟩ | ⟨o, n, c, m, rfl⟩ | rfl <;> rfl
  · cases y with
    | cells e m cs p k f r =>
      obtain ⟨e', m', cs', p', k', f', r', h6, h7⟩ := hCells_some (E := E) (b := id) (κ := fun e' m' cs' p' k' f' r' =>
        cut (andB (Nat.beq e e') (andB (Nat.beq m m') (andB (eqB p p') (andB (kinNone k) (andB (kinNone k') (andB (Nat.beq f f') (andB (notB r) (notB r')))))))) (sameL cs cs' (κ (id :: seen)))) h5
      obtain ⟨h8, h9⟩ := cut_some.1 h7
      obtain ⟨h10, h11⟩ := sameL_some _ _ _ _ h9
      simp only [andB_eq, Bool.and_eq_true] at h8
      obtain ⟨a1, a2, a3, a4, a5, a6, a7, a8⟩ := h8
      rw [eqB_eq, beq_iff_eq] at a3
      have b1 := beq_eq' a1
      have b2 := beq_eq' a2
      have b6 := beq_eq' a6
      have b4 := kinNone_eq a4
      have b5 := kinNone_eq a5
      have b7 := notB_t a7
      have b8 := notB_t a8
      subst b1 b2 b6 b4 b5 b7 b8 a3 h10
      exact ⟨h6, h11⟩
    | map es c => cases h5
    | iter n c p => cases h5

theorem fresh_new {ops : Array Oper} {o : Oper} {f : Sl → (XB → (Nat → XV) → R) → R} (hv : NewS P o.op f) {t : Sl} {E : XW} {x : XV} {id : Nat} (hgt : ∀ κ' : Bool → R, (guardB ops o.guard).f t κ' = κ' true)
    {κ : XB → (Nat → XV) → R} {res : XV × XW} (h : f t κ = some res) (hk : ∀ y mk, κ y mk = some res → id < E.next ∧ mk id = x ∧ E.heap.get id = some y) : Fresh P ops o x id t E := by
  intro w₀ ρ a w hR hL hid next Q hN
  have hw : Region.wanted o (yielded ops a.tmps) = true := by
    have h1 := guard_ok (ops := ops) (o := o) (t := t) (κ := fun c => some (.bool c, E)) (res := (.bool true, E)) (hgt _) hL
    simpa using h1
  obtain ⟨y, mk, ob, q, v, h1, _, h3, h4⟩ := hv t κ res h E w₀ ρ w a.eval hR (hL.op hR.glob)
  obtain ⟨k1, k2, k3⟩ := hk y mk h1
  obtain ⟨h5, h6⟩ := h3 id hid
  refine .inr ⟨hw, ?_⟩
  unfold Oper.wp
  rw [h4 o rfl, Oper.upon_value]
  exact hN q v _ (hR.made hid k1 k3 h5) (k2 ▸ h6)
end Go.Ex
namespace Go.Ex
variable [Val]
set_option linter.unusedSectionVars false
variable {P : Program}

theorem SameL.refl (ops : Array Oper) (o : Oper) (t : Sl) : SameL ops o t t := fun _ _ => rfl

/-- a slot's value is what another is -/
theorem slotOf_none {dst : Option Tmp} (h : slotOf dst = none) : dst = none := by
  cases dst with
  | none => rfl
  | some d => cases h
theorem slotOf_some {dst : Option Tmp} {s : BE} (h : slotOf dst = some s) : ∃ d, dst = some d ∧ s.f = (getB d).f := by
  cases dst with
  | none => cases h
  | some d => cases h; exact ⟨d, rfl, rfl⟩

/-- a value's evaluation, told again at another time -/
theorem ev_val {ops : Array Oper} {o : Oper} {f : Sl → XW → (XV → R) → R} {t : Sl} {E E' : XW} {x : XV}
    (h : (bindX ((guardB ops o.guard).f t fun b => iff b (f t E fun v => some (v, E)) (some (undefX, E))) fun v _ => some (v, E)) = some (x, E')) :
    E' = E ∧ ∃ b e, (∀ t', SameL ops o t t' → ∀ κ' : Bool → R, (guardB ops o.guard).f t' κ' = κ' b) ∧ iff b (f t E fun v => some (v, E)) (some (undefX, E)) = some (x, e) := by
  obtain ⟨y, e, h1, h2⟩ := bindX_some h
  cases h2
  obtain ⟨b, h3, h4⟩ := guard_pure h1
  exact ⟨rfl, b, e, h4, h3⟩

theorem row_ok (hX : ExtOK P) {call : Rec} (hC : CallOK P call) {nt : Nat} {ops : Array Oper} {i : Nat} {o : Oper} {r : Row} (h : cRow P call nt ops i o = some r) : RowOK P call nt ops i o r := by
  unfold cRow at h
  cases hp : cDst nt o.dst with
  | none => rw [hp] at h; cases h
  | some p =>
    rw [hp, show guardB ops o.guard = ⟨(guardB ops o.guard).f⟩ from rfl] at h
    have hcl := cCl_ok hX hC o.op
    cases hc : cCl P call o.op with
    | none => rw [hc] at h; cases h
    | dfr f => rw [hc] at h; cases h
    | pure g =>
      rw [hc] at h hcl
      have hnew : isNew P call o = false := by unfold isNew; simp only [hc]
      cases hcl with
      | pure hv =>
        cases ha : isAssign o.op with
        | true =>
          dsimp only at h
          rw [ha] at h
          cases h
          refine ⟨rfl, rfl, hp, ?_, (fun h => by cases h), (fun h => by cases h)⟩
          intro _ t E κ res h w₀ ρ a w hR hL next Q hN
          have h1 := guard_ok (ops := ops) (o := o) h hL
          rw [iff_eq] at h1
          split at h1
          · rename_i hw
            obtain ⟨x, v, h2, h3, h4⟩ := hv t E (fun x => κ x E) res h1 w₀ ρ w a.eval hR (hL.op hR.glob)
            exact step_value hw h4 (hN _ _ _ _ _ h2 (Ext.refl _ _) (Nat.le_refl _) hR h3)
          · rename_i hw
            exact step_skip (by simpa using hw) fun v hv => hN _ _ _ _ _ h1 (Ext.refl _ _) (Nat.le_refl _) hR hv
        | false =>
          dsimp only at h
          rw [ha] at h
          cases h
          refine ⟨rfl, rfl, hp, (fun h => by cases h), ?_, fun _ h => by cases h⟩
          intro _ t E x E' h
          dsimp only at h
          obtain ⟨b, h1, h2⟩ := guard_pure h
          have hE : E' = E := by
            rw [iff_eq] at h1
            split at h1 <;> (cases h1; rfl)
          refine ⟨.inl ⟨hE, fun h => by rw [hnew] at h; cases h⟩, fun _ => ⟨hnew, fun t' ht E'' => ?_⟩⟩
          have hd := cCl_depP hc t t' ht.ops
          refine plain_val (f := fun s _ κ => κ (g s)) hv (b := b) (e := E') (e0 := E) (h2 t' ht) ?_
          rw [← hd]
          exact h1
    | val f =>
      rw [hc] at h hcl
      have hnew : isNew P call o = false := by unfold isNew; simp only [hc]
      cases hcl with
      | val hv =>
        cases hr : readsH o.op with
        | false =>
          dsimp only at h
          rw [hr] at h
          cases h
          refine ⟨rfl, rfl, hp, (fun h => by cases h), ?_, fun _ h => by cases h⟩
          intro _ t E x E' h
          obtain ⟨hE, b, e, h2, h1⟩ := ev_val h
          refine ⟨.inl ⟨hE, fun h => by rw [hnew] at h; cases h⟩, fun _ => ⟨hnew, fun t' ht E'' => ?_⟩⟩
          refine plain_val hv (b := b) (e := e) (e0 := E) (h2 t' ht) ?_
          rw [← cCl_dep hc hr t t' E E'' _ ht.ops]
          exact h1
        | true =>
          dsimp only at h
          rw [hr] at h
          cases h
          refine ⟨rfl, rfl, hp, (fun h => by cases h), ?_, ?_⟩
          · intro _ t E x E' h
            obtain ⟨hE, _⟩ := ev_val h
            exact ⟨.inl ⟨hE, fun h => by rw [hnew] at h; cases h⟩, fun h => by cases h⟩
          · intro _ _ t E seen κ res h
            cases hs : slotOf o.dst with
            | none =>
              dsimp only at h
              rw [hs] at h
              have h' : (bindX (bindX ((guardB ops o.guard).f t fun b => iff b (f t E fun v => some (v, E)) (some (undefX, E))) fun v _ => some (v, E)) fun _ _ => κ seen) = some res := h
              obtain ⟨x, e, h1, h2⟩ := bindX_some h'
              obtain ⟨hE, b, e, h3, h4⟩ := ev_val h1
              exact ⟨⟨_, h2⟩, x, (fun d hd => by rw [slotOf_none hs] at hd; cases hd), .inl (plain_val hv (h3 t (SameL.refl _ _ _)) h4)⟩
            | some s =>
              dsimp only at h
              rw [hs] at h
              have h' : (bindX (bindX ((guardB ops o.guard).f t fun b => iff b (f t E fun v => some (v, E)) (some (undefX, E))) fun v _ => some (v, E)) fun v _ => same v (s.f t) (κ seen)) = some res := h
              obtain ⟨x, e, h1, h2⟩ := bindX_some h'
              obtain ⟨hE, b, e, h3, h4⟩ := ev_val h1
              obtain ⟨h5, h6⟩ := same_some h2
              obtain ⟨d, hd, hsf⟩ := slotOf_some hs
              refine ⟨⟨_, h6⟩, x, (fun d' hd' => ?_), .inl (plain_val hv (h3 t (SameL.refl _ _ _)) h4)⟩
              rw [hd] at hd'; cases hd'
              rw [h5, hsf]
    | new f =>
      rw [hc] at h hcl
      have hnew : isNew P call o = true := by unfold isNew; simp only [hc]
      cases hcl with
      | new hv =>
        dsimp only at h
        cases h
        refine ⟨rfl, rfl, hp, (fun h => by cases h), ?_, ?_⟩
        · intro _ t E x E' h
          obtain ⟨b, h1, h2⟩ := guard_pure h
          refine ⟨?_, fun h => by cases h⟩
          rw [iff_eq] at h1
          split at h1
          · obtain ⟨y, mk, h3⟩ := cCl_new hc _ _ _ h1
            obtain ⟨h4, h5⟩ := newB_some h3
            obtain ⟨n', h6, h7⟩ := vId_some h5
            obtain ⟨h8, h9⟩ := cut_some.1 h6
            have hn := beq_eq' h8
            cases h9
            refine .inr ⟨y, h4, rfl, ?_, hnew⟩
            have : idOf (mk E.next) = some n' := by rcases h7 with ⟨o, h7⟩ | ⟨o, n, c, m, h7⟩ | h7 <;> (rw [h7]; rfl)
            rw [this, ← hn]
          · cases h1
            exact .inl ⟨rfl, fun _ => rfl⟩
        · intro _ _ t E seen κ res h
          cases hs : slotOf o.dst with
          | none => dsimp only at h; rw [hs] at h; cases h
          | some s =>
            dsimp only at h
            rw [hs] at h
            obtain ⟨d, hd, hsf⟩ := slotOf_some hs
            obtain ⟨b, h1, h2⟩ := guard_pure h
            have hgt := h2 t (SameL.refl _ _ _)
            have hsl : slotIs o t (s.f t) := fun d' hd' => by rw [hd] at hd'; cases hd'; rw [hsf]
            cases b with
            | false =>
              have h1' : same undefX (s.f t) (κ seen) = some res := h1
              obtain ⟨h3, h4⟩ := same_some h1'
              refine ⟨⟨_, h4⟩, s.f t, hsl, .inl ?_⟩
              intro w₀ ρ a w hR hL next Q hN
              have hw : Region.wanted o (yielded ops a.tmps) = false := by
                have h1 := guard_ok (ops := ops) (o := o) (t := t) (κ := fun c => some (.bool c, E)) (res := (.bool false, E)) (hgt _) hL
                simpa using h1
              rw [← h3] at hN
              exact step_skip hw hN
            | true =>
              have h1' := h1
              obtain ⟨y, mk, h3⟩ := cCl_new hc _ _ _ h1
              obtain ⟨id, k1, k2, k3, k4, k5⟩ := ckA_k h3
              refine ⟨⟨_, k5⟩, s.f t, hsl, .inr ⟨id, d, hd, hnew, k1, k2, ?_⟩⟩
              refine fresh_new hv hgt h1' fun y' mk' h' => ?_
              obtain ⟨id', m1, m2, m3, m4, m5⟩ := ckA_k h'
              rw [k1] at m1; cases m1
              exact ⟨m2, m3, m4⟩
    | eff f =>
      rw [hc] at h hcl
      cases hcl with
      | eff hv =>
        dsimp only at h
        cases h
        refine ⟨rfl, rfl, hp, ?_, (fun h => by cases h), (fun h => by cases h)⟩
        intro _ t E κ res h w₀ ρ a w hR hL next Q hN
        have h1 := guard_ok (ops := ops) (o := o) h hL
        rw [iff_eq] at h1
        split at h1
        · rename_i hw
          exact .inr ⟨hw, hv _ _ _ _ h1 w₀ ρ w a o rfl hR (hL.op hR.glob) next Q hN⟩
        · rename_i hw
          exact step_skip (by simpa using hw) fun v hv => hN _ _ _ _ _ h1 (Ext.refl _ _) (Nat.le_refl _) hR hv
end Go.Ex
namespace Go.Ex
variable [Val]
set_option linter.unusedSectionVars false
variable {P : Program}

/-! what is looked at once, ahead of all -/
theorem cRows_ok (hX : ExtOK P) {call : Rec} (hC : CallOK P call) {nt : Nat} {ops : Array Oper} : ∀ (l : List Oper) (i : Nat) (rows : List Row), ops.toList.drop i = l → cRows P call nt ops i l = some rows →
    (∀ r ∈ rows, ∃ o, ops[r.i]? = some o ∧ cRow P call nt ops r.i o = some r) ∧ ∀ j o, i ≤ j → ops[j]? = some o → ∃ r ∈ rows, cRow P call nt ops j o = some r
  | [], i, rows, hd, h => by
    cases h
    refine ⟨by simp, fun j o hj ho => ?_⟩
    have h1 : ops.toList.length ≤ i := List.drop_eq_nil_iff.1 hd
    have h2 := (Array.getElem?_eq_some_iff.1 ho).1
    simp at h1
    omega
  | o :: l, i, rows, hd, h => by
    have hi : ops[i]? = some o := by
      have : (ops.toList.drop i)[0]? = some o := by rw [hd]; rfl
      rw [List.getElem?_drop] at this
      simpa using this
    have hd' : ops.toList.drop (i + 1) = l := by
      rw [← List.drop_drop, hd]; rfl
    unfold cRows at h
    split at h
    · rename_i r rs h1 h2
      cases h
      obtain ⟨k1, k2⟩ := cRows_ok hX hC l (i + 1) rs hd' h2
      have hri := (row_ok hX hC h1).i
      refine ⟨fun r' hr' => ?_, fun j o' hj ho' => ?_⟩
      · rcases List.mem_cons.1 hr' with rfl | hr'
        · rw [hri]; exact ⟨o, hi, h1⟩
        · exact k1 r' hr'
      · rcases Nat.lt_or_ge i j with hlt | hge
        · obtain ⟨r', m1, m2⟩ := k2 j o' hlt ho'
          exact ⟨r', List.mem_cons_of_mem _ m1, m2⟩
        · have : j = i := by omega
          subst this
          rw [hi] at ho'; cases ho'
          exact ⟨r, by simp, h1⟩
    · cases h

theorem bit_pow (j k : Nat) : hasBit (Nat.pow 2 j) k = decide (j = k) := by
  rw [hasBit_eq]; show (2 ^ j).testBit k = _; rw [Nat.testBit_two_pow]

theorem down_sub {S : Nat → Prop} : ∀ (rs : List Row) (m : Nat), (∀ r ∈ rs, S r.i → ∀ k, hasBit r.d k = true → S k) → (∀ k, hasBit m k = true → S k) → ∀ k, hasBit (down rs m) k = true → S k
  | [], m, _, hm => hm
  | r :: rs, m, hS, hm => by
    unfold down
    cases hb : hasBit m r.i with
    | false => exact down_sub rs m (fun r' h => hS r' (List.mem_cons_of_mem _ h)) hm
    | true =>
      refine down_sub rs _ (fun r' h => hS r' (List.mem_cons_of_mem _ h)) fun k hk => ?_
      rw [hasBit_or, Bool.or_eq_true] at hk
      rcases hk with hk | hk
      · exact hS r (by simp) (hm _ hb) k hk
      · exact hm k hk
theorem down_sup : ∀ (rs : List Row) (m k : Nat), hasBit m k = true → hasBit (down rs m) k = true
  | [], _, _, h => h
  | r :: rs, m, k, h => by
    unfold down
    cases hb : hasBit m r.i with
    | false => exact down_sup rs m k h
    | true => exact down_sup rs _ k (by rw [hasBit_or, h, Bool.or_true])

theorem ahead_ok {rev : List Row} {i j : Nat} : ∀ (rs : List Row), aheadOf i j (effs rev rs) = true → ∃ r ∈ rs, r.e = true ∧ r.i = j ∧ (i = j ∨ hasBit (down rev (Nat.pow 2 j)) i = true)
  | [], h => by cases h
  | r :: rs, h => by
    unfold effs at h
    cases he : r.e with
    | false =>
      rw [he] at h
      obtain ⟨r', k1, k2⟩ := ahead_ok rs h
      exact ⟨r', List.mem_cons_of_mem _ k1, k2⟩
    | true =>
      rw [he] at h
      dsimp only at h
      unfold aheadOf at h
      cases hj : Nat.beq j r.i with
      | false =>
        rw [hj] at h
        obtain ⟨r', k1, k2⟩ := ahead_ok rs h
        exact ⟨r', List.mem_cons_of_mem _ k1, k2⟩
      | true =>
        rw [hj] at h
        have hji := beq_eq' hj
        refine ⟨r, by simp, he, hji.symm, ?_⟩
        rw [Bool.or_eq_true] at h
        rcases h with h | h
        · exact .inl (beq_eq' h)
        · rw [hji]; exact .inr h

theorem looksOk_ok {W : Nat} {es : List (Nat × Nat)} {i d : Nat} : ∀ (l : List Nat), looksOk W es i d l = true → ∀ t ∈ l, ∀ k, wrOf W t = k + 1 → hasBit d k = true ∨ aheadOf i k es = true
  | [], _, _, ht, _, _ => by cases ht
  | t' :: ts, h, t, ht, k, hk => by
    unfold looksOk at h
    split at h
    · rename_i h0
      rcases List.mem_cons.1 ht with rfl | ht
      · rw [h0] at hk; cases hk
      · exact looksOk_ok ts h t ht k hk
    · rename_i j hj
      split at h
      · rename_i hb
        rcases List.mem_cons.1 ht with rfl | ht
        · rw [hj] at hk; cases hk
          rw [Bool.or_eq_true] at hb; exact hb
        · exact looksOk_ok ts h t ht k hk
      · cases h

theorem dstOk_ok {W i : Nat} {t : Tmp} (h : dstOk W i (some t) = true) : wrOf W t = i + 1 := beq_eq' h

theorem drawOk_ok {W : Nat} {es : List (Nat × Nat)} {ops : Array Oper} : ∀ (l : List Oper) (i : Nat), ops.toList.drop i = l → drawOk W es ops i l = true →
    ∀ j o, i ≤ j → ops[j]? = some o → onsOk j o.after.toList = true ∧ dstOk W j o.dst = true ∧ looksOk W es j (dmask o.after.toList) (looks ops o) = true
  | [], i, hd, _ => by
    intro j o hj ho
    have h1 : ops.toList.length ≤ i := List.drop_eq_nil_iff.1 hd
    have h2 := (Array.getElem?_eq_some_iff.1 ho).1
    simp at h1
    omega
  | o :: l, i, hd, h => by
    have hi : ops[i]? = some o := by
      have : (ops.toList.drop i)[0]? = some o := by rw [hd]; rfl
      rw [List.getElem?_drop] at this
      simpa using this
    have hd' : ops.toList.drop (i + 1) = l := by
      rw [← List.drop_drop, hd]; rfl
    unfold drawOk at h
    split at h
    · rename_i h1 h2 h3
      intro j o' hj ho'
      rcases Nat.lt_or_ge i j with hlt | hge
      · exact drawOk_ok l (i + 1) hd' h j o' hlt ho'
      · have : j = i := by omega
        subst this
        rw [hi] at ho'; cases ho'
        exact ⟨h1, h2, h3⟩
    · cases h

/-- what is known of a drawn region -/
structure Stat (P : Program) (call : Rec) (nt : Nat) (ops : Array Oper) (rows : List Row) : Prop where
  row : ∀ r ∈ rows, ∃ o, ops[r.i]? = some o ∧ cRow P call nt ops r.i o = some r
  all : ∀ j o, ops[j]? = some o → ∃ r ∈ rows, cRow P call nt ops j o = some r
  ok : ∀ j o r, cRow P call nt ops j o = some r → RowOK P call nt ops j o r
  dst1 : ∀ (j j' : Nat) (o o' : Oper) (t : Tmp), ops[j]? = some o → ops[j']? = some o' → o.dst = some t → o'.dst = some t → j = j'
  lk : ∀ (i k : Nat) (o o' : Oper) (x : Tmp), ops[i]? = some o → ops[k]? = some o' → x ∈ looks ops o → o'.dst = some x →
    hasBit (dmask o.after.toList) k = true ∨ ∃ r, cRow P call nt ops k o' = some r ∧ r.e = true ∧ (i = k ∨ ∀ S : Nat → Prop, (∀ j o, ops[j]? = some o → S j → ∀ l, hasBit (dmask o.after.toList) l = true → S l) → S k → S i)
  ons : ∀ j o, ops[j]? = some o → onsOk j o.after.toList = true

theorem stat_ok (hX : ExtOK P) {call : Rec} (hC : CallOK P call) {nt : Nat} {ops : Array Oper} {rows : List Row} (hr : cRows P call nt ops 0 ops.toList = some rows)
    (hd : drawOk (mkW ops.toList 0) (effs rows.reverse rows) ops 0 ops.toList = true) : Stat P call nt ops rows := by
  obtain ⟨h1, h2⟩ := cRows_ok hX hC _ 0 rows rfl hr
  have h3 := drawOk_ok _ 0 rfl hd
  have hok : ∀ j o r, cRow P call nt ops j o = some r → RowOK P call nt ops j o r := fun _ _ _ h => row_ok hX hC h
  have hw : ∀ (j : Nat) (o : Oper) (t : Tmp), ops[j]? = some o → o.dst = some t → wrOf (mkW ops.toList 0) t = j + 1 := by
    intro j o t hj ht
    have := (h3 j o (Nat.zero_le _) hj).2.1
    rw [ht] at this
    exact dstOk_ok this
  refine ⟨h1, fun j o hj => h2 j o (Nat.zero_le _) hj, hok, ?_, ?_, fun j o hj => (h3 j o (Nat.zero_le _) hj).1⟩
  · intro j j' o o' t hj hj' ht ht'
    have e1 := hw j o t hj ht
    have e2 := hw j' o' t hj' ht'
    omega
  · intro i k o o' x hi hk hx ht
    have := looksOk_ok _ (h3 i o (Nat.zero_le _) hi).2.2 x hx k (hw k o' x hk ht)
    rcases this with h | h
    · exact .inl h
    · right
      obtain ⟨r, m1, m2, m3, m4⟩ := ahead_ok rows h
      obtain ⟨o2, m5, m6⟩ := h1 r m1
      rw [m3] at m5 m6
      rw [hk] at m5; cases m5
      refine ⟨r, m6, m2, m4.imp id fun m4 S hS hk => ?_⟩
      refine down_sub (S := S) rows.reverse _ (fun r' hr' hs l hl => ?_) (fun l hl => ?_) i m4
      · obtain ⟨o3, n1, n2⟩ := h1 r' (List.mem_reverse.1 hr')
        rw [(hok _ _ _ n2).d] at hl
        exact hS _ o3 n1 hs l hl
      · rw [bit_pow] at hl
        simp at hl
        rw [← hl]; exact hk
end Go.Ex
