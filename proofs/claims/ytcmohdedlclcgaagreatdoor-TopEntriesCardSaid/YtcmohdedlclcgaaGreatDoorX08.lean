/- Part of the proof of TopEntries: the executor is sound: drawn regions. -/
import Derived.Test.YtcmohdedlclcgaaGreatDoorX07
import Derived.Laws.Externs
set_option linter.unusedVariables false
set_option linter.unusedSimpArgs false
set_option linter.unusedSectionVars false
namespace Go.Ex
variable [Val]
set_option linter.unusedSectionVars false
variable {P : Program}

theorem getB_put {nt : Nat} (hnt : nt ≤ 256) {dst : Option Tmp} {p : BU Sl XV} (hp : cDst nt dst = some p) (t : Sl) (x : XV) (y : Nat) :
    (getB y).f (p.f t x) = if dst = some y then x else (getB y).f t := by
  unfold cDst at hp
  split at hp
  · cases hp; simp
  · rename_i d
    split at hp
    · rename_i hd
      have hd := blt_lt hd
      cases hp
      rw [getB_f, getB_f]
      by_cases hy : y < 256
      · rw [if_pos hy, if_pos hy]
        show (get4 y).f ((set4 d).f t x) = _
        rw [get_set4 d y (by omega) hy]
        by_cases e : y = d
        · subst e; rw [if_pos rfl, if_pos rfl]
        · rw [if_neg e, if_neg (by simpa using Ne.symm e)]
      · rw [if_neg hy, if_neg hy, if_neg (fun h => by cases h; omega)]
    · cases hp
theorem dst_lt {nt : Nat} {dst : Option Tmp} {p : BU Sl XV} (hp : cDst nt dst = some p) {d : Tmp} (hd : dst = some d) : d < nt := by
  subst hd
  unfold cDst at hp
  dsimp only at hp
  split at hp
  · rename_i h; exact blt_lt h
  · cases hp
theorem put_getD {nt : Nat} {dst : Option Tmp} {p : BU Sl XV} (hp : cDst nt dst = some p) {a : Act} (hge : nt ≤ a.tmps.size) (v : Value) (y : Nat) :
    (a.put dst v).tmps.getD y undef = if dst = some y then v else a.tmps.getD y undef := by
  cases hd : dst with
  | none => rw [if_neg (by simp)]; rfl
  | some d =>
    have hlt := dst_lt hp hd
    have hlt2 : Nat.lt d a.tmps.size := Nat.lt_of_lt_of_le hlt hge
    show (a.tmps.setIfInBounds d v).getD y undef = _
    by_cases e : d = y
    · subst e
      rw [if_pos rfl, Array.getD_eq_getD_getElem?, Array.getElem?_setIfInBounds_self_of_lt hlt2]; rfl
    · rw [if_neg (by simpa using e), Array.getD_eq_getD_getElem?, Array.getD_eq_getD_getElem?, Array.getElem?_setIfInBounds_ne e]

theorem LooksV.same {ρ : Rho} {t t' : Sl} {a : Act} {ops : Array Oper} {o : Oper} (hs : SameL ops o t t') (h : LooksV ρ t' a ops o) : LooksV ρ t a ops o := fun x hx => by
  rw [hs x hx]; exact h x hx
theorem Plain.same {ops : Array Oper} {o : Oper} {x : XV} {t t' : Sl} {E : XW} (hs : SameL ops o t t') (h : Plain P ops o x t E) : Plain P ops o x t' E := fun w₀ ρ a w hR hL => h w₀ ρ a w hR (hL.same hs)

/-- the known run has listed c, the real one L; m is what the real one has listed for sure -/
structure Inv (P : Program) (call : Rec) (nt : Nat) (ops : Array Oper) (w₀ : World) (ρ₀ : Rho) (n₀ : Nat) (ds : DS) (c m : Nat) (T : Sl) (E : XW) (L : Array Bool) (ρ : Rho) (a : Act) (w : World) : Prop where
  rep : Rep w₀ ρ E w
  ext : Ext n₀ ρ₀ ρ
  nx : n₀ ≤ E.next
  le : a.tmps.size ≤ 256
  ge : nt ≤ a.tmps.size
  dfr : DRs P ρ ds a.defers
  agree : ∀ y, (∀ j o, ops[j]? = some o → hasBit c j = true → L.getD j false = false → o.dst ≠ some y) → VR ρ ((getB y).f T) (a.tmps.getD y undef)
  sub : ∀ j, L.getD j false = true → hasBit c j = true
  size : L.size = ops.size
  frc : ∀ j, hasBit m j = true → L.getD j false = true
  cl : ∀ j o, ops[j]? = some o → L.getD j false = true → ∀ k, hasBit (dmask o.after.toList) k = true → L.getD k false = true
  cC : ∀ j o, ops[j]? = some o → hasBit c j = true → ∀ k, hasBit (dmask o.after.toList) k = true → hasBit c k = true
  effC : ∀ j o r, ops[j]? = some o → cRow P call nt ops j o = some r → r.e = true → hasBit c j = true → hasBit m j = true
  pers : ∀ j o r, ops[j]? = some o → cRow P call nt ops j o = some r → r.e = false → r.c = false → hasBit c j = true → L.getD j false = false → ∃ x, slotIs o T x ∧ ∀ E', Plain P ops o x T E'
  nw : ∀ j o d id, ops[j]? = some o → isNew P call o = true → hasBit c j = true → L.getD j false = false → o.dst = some d → idOf ((getB d).f T) = some id → ρ id = none ∧ id < E.next ∧ n₀ ≤ id
  inj : ∀ j j' o o' d d' id, ops[j]? = some o → ops[j']? = some o' → isNew P call o = true → isNew P call o' = true → hasBit c j = true → hasBit c j' = true → L.getD j false = false → L.getD j' false = false →
    o.dst = some d → o'.dst = some d' → idOf ((getB d).f T) = some id → idOf ((getB d').f T) = some id → j = j'

variable {call : Rec} {nt : Nat} {ops : Array Oper} {rows : List Row} {w₀ : World} {ρ₀ : Rho} {n₀ : Nat} {ds : DS} {c m : Nat} {T : Sl} {E : XW} {L : Array Bool} {ρ : Rho} {a : Act} {w : World}

/-- one more operation, that turns nothing, is listed in the known run -/
theorem Inv.add (hS : Stat P call nt ops rows) (h : Inv P call nt ops w₀ ρ₀ n₀ ds c m T E L ρ a w) {j : Nat} {o : Oper} {r : Row} (hj : ops[j]? = some o) (hr : cRow P call nt ops j o = some r) (he : r.e = false)
    (hc : hasBit c j = false) (hd : ∀ k, hasBit r.d k = true → hasBit c k = true) {x : XV} {E' : XW} (hev : r.ev T E = some (x, E')) :
    Inv P call nt ops w₀ ρ₀ n₀ ds (Nat.lor c (Nat.pow 2 j)) m (r.p T x) E' L ρ a w := by
  have R := hS.ok _ _ _ hr
  have hnt : nt ≤ 256 := Nat.le_trans h.ge h.le
  have hg := fun y => getB_put hnt R.p T x y
  dsimp only at hg
  obtain ⟨hE, hpl⟩ := R.ev he T E x E' hev
  rw [R.d] at hd
  have hcl : L.getD j false = false := by
    cases hl : L.getD j false with
    | false => rfl
    | true => rw [h.sub j hl] at hc; cases hc
  have hbit : ∀ k, hasBit (Nat.lor c (Nat.pow 2 j)) k = true ↔ hasBit c k = true ∨ j = k := fun k => by rw [hasBit_lor, Bool.or_eq_true, decide_eq_true_eq]
  -- no other operation that is listed looks at its slot
  have hsame : ∀ i oi, ops[i]? = some oi → (hasBit c i = true ∨ i = j) → SameL ops oi T (r.p T x) := by
    intro i oi hi hci y hy
    rw [hg, if_neg]
    intro hdy
    rcases hS.lk i j oi o y hi hj hy hdy with h1 | ⟨r', h1, h2, _⟩
    · rcases hci with hci | rfl
      · rw [h.cC i oi hi hci j h1] at hc; cases hc
      · rw [hj] at hi; cases hi
        rw [hd _ h1] at hc; cases hc
    · rw [hr] at h1; cases h1; rw [he] at h2; cases h2
  have hslot : ∀ i oi d, ops[i]? = some oi → i ≠ j → oi.dst = some d → (getB d).f (r.p T x) = (getB d).f T := by
    intro i oi d hi hij hdi
    rw [hg, if_neg]
    intro hdy
    exact hij (hS.dst1 i j oi o d hi hj hdi hdy)
  have hrep : Rep w₀ ρ E' w := by
    rcases hE with ⟨rfl, _⟩ | ⟨b, k1, rfl, _⟩
    · exact h.rep
    · exact h.rep.plan b k1
  have hnext : E.next ≤ E'.next := by
    rcases hE with ⟨rfl, _⟩ | ⟨b, k1, rfl, _⟩
    · exact Nat.le_refl _
    · exact Nat.le_succ _
  have hself : ∀ d id, o.dst = some d → isNew P call o = true → idOf ((getB d).f (r.p T x)) = some id → id = E.next ∧ E.next < E'.next := by
    intro d id hdd hn hid
    rw [hg, if_pos hdd] at hid
    rcases hE with ⟨rfl, k1⟩ | ⟨b, k1, rfl, k2, _⟩
    · rw [k1 hn] at hid; cases hid
    · rw [k2] at hid; cases hid; exact ⟨rfl, Nat.lt_succ_self _⟩
  refine ⟨hrep, h.ext, Nat.le_trans h.nx hnext, h.le, h.ge, h.dfr, ?_, ?_, h.size, h.frc, h.cl, ?_, ?_, ?_, ?_, ?_⟩
  · intro y hy
    have h1 : o.dst ≠ some y := hy j o hj ((hbit j).2 (.inr rfl)) hcl
    rw [hg, if_neg h1]
    exact h.agree y fun k ok hk hck hlk => hy k ok hk ((hbit k).2 (.inl hck)) hlk
  · intro k hk; exact (hbit k).2 (.inl (h.sub k hk))
  · intro k ok hk hck l hl
    rcases (hbit k).1 hck with hck | rfl
    · exact (hbit l).2 (.inl (h.cC k ok hk hck l hl))
    · rw [hj] at hk; cases hk; exact (hbit l).2 (.inl (hd l hl))
  · intro k ok rk hk hrk hek hck
    rcases (hbit k).1 hck with hck | rfl
    · exact h.effC k ok rk hk hrk hek hck
    · rw [hj] at hk; cases hk; rw [hr] at hrk; cases hrk; rw [he] at hek; cases hek
  · intro k ok rk hk hrk hek hcc hck hlk
    by_cases hkj : k = j
    · subst hkj
      rw [hj] at hk; cases hk; rw [hr] at hrk; cases hrk
      refine ⟨x, fun d hdd => by rw [hg, if_pos hdd], fun E'' => ?_⟩
      exact (hpl hcc).2 _ (hsame k o hj (.inr rfl)) E''
    · have hck' : hasBit c k = true := ((hbit k).1 hck).resolve_right (fun e => hkj e.symm)
      obtain ⟨y, k1, k2⟩ := h.pers k ok rk hk hrk hek hcc hck' hlk
      exact ⟨y, fun d hdd => by rw [hslot k ok d hk hkj hdd]; exact k1 d hdd, fun E'' => (k2 E'').same (hsame k ok hk (.inl hck'))⟩
  · intro k ok d id hk hn hck hlk hdd hid
    by_cases hkj : k = j
    · subst hkj
      rw [hj] at hk; cases hk
      obtain ⟨rfl, k2⟩ := hself d id hdd hn hid
      exact ⟨h.rep.fresh, k2, h.nx⟩
    · have hck' : hasBit c k = true := ((hbit k).1 hck).resolve_right (fun e => hkj e.symm)
      rw [hslot k ok d hk hkj hdd] at hid
      obtain ⟨k1, k2, k3⟩ := h.nw k ok d id hk hn hck' hlk hdd hid
      exact ⟨k1, Nat.lt_of_lt_of_le k2 hnext, k3⟩
  · intro k k' ok ok' d d' id hk hk' hn hn' hck hck' hlk hlk' hdd hdd' hid hid'
    by_cases hkj : k = j
    · by_cases hkj' : k' = j
      · rw [hkj, hkj']
      · exfalso
        subst hkj
        rw [hj] at hk; cases hk
        have hc' : hasBit c k' = true := ((hbit k').1 hck').resolve_right (fun e => hkj' e.symm)
        rw [hslot k' ok' d' hk' hkj' hdd'] at hid'
        obtain ⟨rfl, _⟩ := hself d id hdd hn hid
        exact Nat.lt_irrefl _ (h.nw k' ok' d' _ hk' hn' hc' hlk' hdd' hid').2.1
    · have hck1 : hasBit c k = true := ((hbit k).1 hck).resolve_right (fun e => hkj e.symm)
      rw [hslot k ok d hk hkj hdd] at hid
      by_cases hkj' : k' = j
      · exfalso
        subst hkj'
        rw [hj] at hk'; cases hk'
        obtain ⟨rfl, _⟩ := hself d' id hdd' hn' hid'
        exact Nat.lt_irrefl _ (h.nw k ok d _ hk hn hck1 hlk hdd hid).2.1
      · have hck1' : hasBit c k' = true := ((hbit k').1 hck').resolve_right (fun e => hkj' e.symm)
        rw [hslot k' ok' d' hk' hkj' hdd'] at hid'
        exact h.inj k k' ok ok' d d' id hk hk' hn hn' hck1 hck1' hlk hlk' hdd hdd' hid hid'
end Go.Ex
namespace Go.Ex
variable [Val]
set_option linter.unusedSectionVars false
variable {P : Program} {call : Rec} {nt : Nat} {ops : Array Oper} {rows : List Row} {w₀ : World} {ρ₀ : Rho} {n₀ : Nat} {ds : DS} {m : Nat} {L : Array Bool} {ρ : Rho} {a : Act} {w : World}

theorem news_cons {r : Row} {l : List Row} {T : Sl} {E : XW} {κ : Sl → XW → R} : (cNews (r :: l)).f T E κ = bindX (r.ev T E) fun v w => (cNews l).f (r.p T v) w κ := rfl

theorem scan_ok (hS : Stat P call nt ops rows) : ∀ (rs : List Row), (∀ r ∈ rs, ∃ o, ops[r.i]? = some o ∧ cRow P call nt ops r.i o = some r) → ∀ (c : Nat) (T : Sl) (E : XW) (κ : Sl → XW → R) (res : XV × XW),
    Inv P call nt ops w₀ ρ₀ n₀ ds c m T E L ρ a w → (cNews (scan rs c).l).f T E κ = some res → ∃ T' E', κ T' E' = some res ∧ Inv P call nt ops w₀ ρ₀ n₀ ds (scan rs c).c m T' E' L ρ a w
  | [], _, c, T, E, κ, res, hI, h => ⟨T, E, h, hI⟩
  | r :: rs, hr, c, T, E, κ, res, hI, h => by
    have hr' : ∀ r ∈ rs, ∃ o, ops[r.i]? = some o ∧ cRow P call nt ops r.i o = some r := fun r' h => hr r' (List.mem_cons_of_mem _ h)
    unfold scan at h ⊢
    cases hb : (r.e || hasBit c r.i || !(subM r.d c)) with
    | true =>
      rw [hb] at h
      exact scan_ok hS rs hr' c T E κ res hI h
    | false =>
      rw [hb] at h
      dsimp only at h ⊢
      simp only [Bool.or_eq_false_iff, Bool.not_eq_false'] at hb
      obtain ⟨⟨he, hc⟩, hd⟩ := hb
      obtain ⟨o, ho, hro⟩ := hr r (by simp)
      rw [news_cons] at h
      obtain ⟨x, E', h1, h2⟩ := bindX_some h
      exact scan_ok hS rs hr' _ _ _ κ res (hI.add hS ho hro he hc ((subM_iff _ _).1 hd) h1) h2

/-- an operation that looks at the heap, looked at again -/
def Chk (P : Program) (call : Rec) (ops : Array Oper) (o : Oper) (T : Sl) (E : XW) : Prop :=
  ∃ x, slotIs o T x ∧ (Plain P ops o x T E ∨ ∃ id d, o.dst = some d ∧ isNew P call o = true ∧ idOf x = some id ∧ id < E.next ∧ Fresh P ops o x id T E)

theorem cRow_ec {i : Nat} {o : Oper} {r : Row} (h : cRow P call nt ops i o = some r) (he : r.e = true) : r.c = false := by
  unfold cRow at h
  split at h
  · split at h
    · split at h
      · cases h; rfl
      · cases h; cases he
    · split at h
      · cases h; cases he
      · cases h; cases he
    · cases h; cases he
    · cases h; rfl
    · cases h
  · cases h

theorem cks_ok (hS : Stat P call nt ops rows) {c : Nat} {T : Sl} {E : XW} : ∀ (rs : List Row), (∀ r ∈ rs, ∃ o, ops[r.i]? = some o ∧ cRow P call nt ops r.i o = some r) → ∀ (seen : List Nat) (κ : List Nat → R) (res : XV × XW),
    (cCks c m rs).f T E seen κ = some res → (∃ seen', κ seen' = some res) ∧ ∀ r ∈ rs, r.e = false → r.c = true → hasBit c r.i = true → hasBit m r.i = false → ∀ o, ops[r.i]? = some o → Chk P call ops o T E
  | [], _, seen, κ, res, h => ⟨⟨seen, h⟩, by simp⟩
  | r :: rs, hr, seen, κ, res, h => by
    have hr' : ∀ r ∈ rs, ∃ o, ops[r.i]? = some o ∧ cRow P call nt ops r.i o = some r := fun r' h => hr r' (List.mem_cons_of_mem _ h)
    obtain ⟨o, ho, hro⟩ := hr r (by simp)
    have R := hS.ok _ _ _ hro
    cases hc : r.c with
    | false =>
      have h' : (cCks c m rs).f T E seen κ = some res := by
        obtain ⟨i, d, e, c', ev, ck, ef, p⟩ := r
        cases hc
        exact h
      obtain ⟨h1, h2⟩ := cks_ok hS rs hr' seen κ res h'
      refine ⟨h1, fun r' hr'' he hcc hb hm o' ho' => ?_⟩
      rcases List.mem_cons.1 hr'' with rfl | hr''
      · rw [hc] at hcc; cases hcc
      · exact h2 r' hr'' he hcc hb hm o' ho'
    | true =>
      cases hb : (hasBit c r.i && !(hasBit m r.i)) with
      | false =>
        have h' : (cCks c m rs).f T E seen κ = some res := by
          obtain ⟨i, d, e, c', ev, ck, ef, p⟩ := r
          cases hc
          dsimp only at hb
          unfold cCks at h
          dsimp only at h
          rw [hb] at h
          exact h
        obtain ⟨h1, h2⟩ := cks_ok hS rs hr' seen κ res h'
        refine ⟨h1, fun r' hr'' he hcc hb' hm o' ho' => ?_⟩
        rcases List.mem_cons.1 hr'' with rfl | hr''
        · rw [hb', hm] at hb; cases hb
        · exact h2 r' hr'' he hcc hb' hm o' ho'
      | true =>
        have h' : r.ck T E seen (fun seen => (cCks c m rs).f T E seen κ) = some res := by
          obtain ⟨i, d, e, c', ev, ck, ef, p⟩ := r
          cases hc
          dsimp only at hb
          unfold cCks at h
          dsimp only at h
          rw [hb] at h
          exact h
        cases he : r.e with
        | true =>
          -- an effect is not looked at again
          exfalso
          have : r.c = false := cRow_ec hro he
          rw [hc] at this; cases this
        | false =>
          obtain ⟨⟨seen', k1⟩, k2⟩ := R.ck he hc T E seen _ res h'
          obtain ⟨h1, h2⟩ := cks_ok hS rs hr' seen' κ res k1
          refine ⟨h1, fun r' hr'' he' hcc hb' hm o' ho' => ?_⟩
          rcases List.mem_cons.1 hr'' with rfl | hr''
          · rw [ho] at ho'; cases ho'; exact k2
          · exact h2 r' hr'' he' hcc hb' hm o' ho'
end Go.Ex
namespace Go.Ex
variable [Val]
set_option linter.unusedSectionVars false
variable {P : Program} {call : Rec} {nt : Nat} {ops : Array Oper} {rows : List Row} {w₀ : World} {ρ₀ : Rho} {n₀ : Nat} {ds : DS} {c m : Nat} {T : Sl} {E : XW} {L : Array Bool} {ρ : Rho} {a : Act} {w : World}

theorem bool_split (b : Bool) : b = true ∨ b = false := by cases b <;> simp

/-- what a ready operation looks at is as it is known -/
theorem Inv.looksV (hS : Stat P call nt ops rows) (h : Inv P call nt ops w₀ ρ₀ n₀ ds c m T E L ρ a w) {i : Nat} {o : Oper} (hi : ops[i]? = some o) (hd : ∀ k, hasBit (dmask o.after.toList) k = true → L.getD k false = true) : LooksV ρ T a ops o := by
  intro y hy
  refine h.agree y fun k ok hk hck hlk hdy => ?_
  rcases hS.lk i k o ok y hi hk hy hdy with h1 | ⟨r', h1, h2, _⟩
  · rw [hd k h1] at hlk; cases hlk
  · rw [h.frc k (h.effC k ok r' hk h1 h2 hck)] at hlk; cases hlk

theorem set_self {i : Nat} (h : i < L.size) : (L.setIfInBounds i true).getD i false = true := by
  rw [Array.getD_eq_getD_getElem?, Array.getElem?_setIfInBounds_self_of_lt h]; rfl
theorem set_iff {i j : Nat} (h : i < L.size) : (L.setIfInBounds i true).getD j false = true ↔ i = j ∨ L.getD j false = true := by
  by_cases e : i = j
  · subst e; simp [set_self h]
  · rw [getD_set_ne false e]; simp [e]
theorem set_false {i j : Nat} (h : i < L.size) (hj : (L.setIfInBounds i true).getD j false = false) : i ≠ j ∧ L.getD j false = false := by
  by_cases e : i = j
  · subst e; rw [set_self h] at hj; cases hj
  · rw [getD_set_ne false e] at hj; exact ⟨e, hj⟩

/-- the real run lists an operation that the known run has listed -/
theorem Inv.listed (hS : Stat P call nt ops rows) (h : Inv P call nt ops w₀ ρ₀ n₀ ds c m T E L ρ a w) {i : Nat} {o : Oper} {r : Row} (hi : ops[i]? = some o) (hr : cRow P call nt ops i o = some r) (hci : hasBit c i = true)
    (hd : ∀ k, hasBit (dmask o.after.toList) k = true → L.getD k false = true) {ρ' : Rho} {w' : World} {x : XV} {v : Value} (hx : slotIs o T x) (hv : VR ρ' x v) (hR : Rep w₀ ρ' E w') (hle : Rho.le ρ ρ') (hext : Ext n₀ ρ₀ ρ')
    (hnw : ∀ j oj d id, j ≠ i → ops[j]? = some oj → isNew P call oj = true → hasBit c j = true → L.getD j false = false → oj.dst = some d → idOf ((getB d).f T) = some id → ρ' id = none) :
    Inv P call nt ops w₀ ρ₀ n₀ ds c m T E (L.setIfInBounds i true) ρ' (a.put o.dst v) w' := by
  have R := hS.ok _ _ _ hr
  have hsz : i < L.size := by rw [h.size]; exact (Array.getElem?_eq_some_iff.1 hi).1
  refine ⟨hR, hext, h.nx, by rw [put_size]; exact h.le, by rw [put_size]; exact h.ge, by rw [put_defers]; exact h.dfr.mono hle, ?_, ?_, by rw [Array.size_setIfInBounds]; exact h.size, ?_, ?_, h.cC, h.effC, ?_, ?_, ?_⟩
  · intro y hy
    rw [put_getD R.p h.ge]
    by_cases hdy : o.dst = some y
    · rw [if_pos hdy, hx y hdy]; exact hv
    · rw [if_neg hdy]
      refine (h.agree y fun k ok hk hck hlk => ?_).mono hle
      by_cases e : i = k
      · subst e; rw [hi] at hk; cases hk; exact hdy
      · exact hy k ok hk hck (by rw [getD_set_ne false e]; exact hlk)
  · intro j hj
    rcases (set_iff hsz).1 hj with rfl | hj
    · exact hci
    · exact h.sub j hj
  · intro j hj; exact (set_iff hsz).2 (.inr (h.frc j hj))
  · intro j oj hj hlj k hk
    rcases (set_iff hsz).1 hlj with rfl | hlj
    · rw [hi] at hj; cases hj; exact (set_iff hsz).2 (.inr (hd k hk))
    · exact (set_iff hsz).2 (.inr (h.cl j oj hj hlj k hk))
  · intro j oj rj hj hrj hej hcc hcj hlj
    exact h.pers j oj rj hj hrj hej hcc hcj (set_false hsz hlj).2
  · intro j oj d id hj hn hcj hlj hdd hid
    obtain ⟨e, hlj⟩ := set_false hsz hlj
    obtain ⟨_, k2, k3⟩ := h.nw j oj d id hj hn hcj hlj hdd hid
    exact ⟨hnw j oj d id (Ne.symm e) hj hn hcj hlj hdd hid, k2, k3⟩
  · intro j j' oj oj' d d' id hj hj' hn hn' hcj hcj' hlj hlj' hdd hdd' hid hid'
    exact h.inj j j' oj oj' d d' id hj hj' hn hn' hcj hcj' (set_false hsz hlj).2 (set_false hsz hlj').2 hdd hdd' hid hid'

/-- the real run comes to an operation that the known run has listed -/
theorem Inv.step (hS : Stat P call nt ops rows) (h : Inv P call nt ops w₀ ρ₀ n₀ ds c m T E L ρ a w) (hck : ∀ r ∈ rows, r.e = false → r.c = true → hasBit c r.i = true → hasBit m r.i = false → ∀ o, ops[r.i]? = some o → Chk P call ops o T E)
    {i : Nat} {o : Oper} (hi : ops[i]? = some o) (hci : hasBit c i = true) (hli : L.getD i false = false)
    (hd : ∀ k, hasBit (dmask o.after.toList) k = true → L.getD k false = true) {next : Act → World → Prop} {Q : Exit → Act → World → Prop}
    (hN : ∀ a' w' ρ', Inv P call nt ops w₀ ρ₀ n₀ ds c m T E (L.setIfInBounds i true) ρ' a' w' → next a' w') : Step P ops o a w next Q := by
  obtain ⟨r, hrm, hr⟩ := hS.all i o hi
  have R := hS.ok _ _ _ hr
  have hL := h.looksV hS hi hd
  have hmi : hasBit m i = false := by
    rcases bool_split (hasBit m i) with h1 | h1
    · rw [h.frc i h1] at hli; cases hli
    · exact h1
  have he : r.e = false := by
    rcases bool_split r.e with h1 | h1
    · rw [h.effC i o r hi hr h1 hci] at hmi; cases hmi
    · exact h1
  have plain : ∀ x, slotIs o T x → Plain P ops o x T E → Step P ops o a w next Q := by
    intro x hx hp
    refine hp w₀ ρ a w h.rep hL next Q fun v hv => hN _ _ ρ ?_
    exact h.listed hS hi hr hci hd hx hv h.rep (fun _ _ h => h) h.ext fun j oj d id _ hj hn hcj hlj hdd hid => (h.nw j oj d id hj hn hcj hlj hdd hid).1
  rcases bool_split r.c with hc | hc
  · have hri := R.i
    obtain ⟨x, hx, hp⟩ := hck r hrm he hc (by rw [hri]; exact hci) (by rw [hri]; exact hmi) o (by rw [hri]; exact hi)
    rcases hp with hp | ⟨id, d, hdd, hn, hid, hlt, hp⟩
    · exact plain x hx hp
    · have hid' : idOf ((getB d).f T) = some id := by rw [hx d hdd]; exact hid
      obtain ⟨k1, k2, k3⟩ := h.nw i o d id hi hn hci hli hdd hid'
      refine hp w₀ ρ a w h.rep hL k1 next Q fun q v w' hR hv => hN _ _ (ρ.ext id (w.heap.size, 0, q)) ?_
      refine h.listed hS hi hr hci hd hx hv hR (Rho.le_ext k1) ?_ ?_
      · intro b hb
        have : b ≠ id := by omega
        unfold Rho.ext
        rw [if_neg this]; exact h.ext b hb
      · intro j oj d' id' hji hj hnj hcj hlj hdj hidj
        have hne : id' ≠ id := fun e => hji (h.inj j i oj o d' d id hj hi hnj hn hcj hci hlj hli hdj hdd (e ▸ hidj) hid')
        unfold Rho.ext
        rw [if_neg hne]
        exact (h.nw j oj d' id' hj hnj hcj hlj hdj hidj).1
  · obtain ⟨x, hx, hp⟩ := h.pers i o r hi hr he hc hci hli
    exact plain x hx (hp E)

/-- the real run comes to the next effect -/
theorem Inv.eff (hS : Stat P call nt ops rows) (h : Inv P call nt ops w₀ ρ₀ n₀ ds c m T E L ρ a w) {i : Nat} {o : Oper} {r : Row} (hi : ops[i]? = some o) (hr : cRow P call nt ops i o = some r) (he : r.e = true) (hci : hasBit c i = false)
    (hd : ∀ k, hasBit (dmask o.after.toList) k = true → L.getD k false = true) {κ : XV → XW → R} {res : XV × XW} (hf : r.ef T E κ = some res) {next : Act → World → Prop} {Q : Exit → Act → World → Prop}
    (hN : ∀ x E' a' w' ρ', κ x E' = some res → Inv P call nt ops w₀ ρ₀ n₀ ds (Nat.lor c (Nat.pow 2 i)) (down rows.reverse (Nat.lor m (Nat.pow 2 i))) (r.p T x) E' (L.setIfInBounds i true) ρ' a' w' → next a' w') : Step P ops o a w next Q := by
  have R := hS.ok _ _ _ hr
  have hL := h.looksV hS hi hd
  have hnt : nt ≤ 256 := Nat.le_trans h.ge h.le
  have hsz : i < L.size := by rw [h.size]; exact (Array.getElem?_eq_some_iff.1 hi).1
  have hbit : ∀ k, hasBit (Nat.lor c (Nat.pow 2 i)) k = true ↔ hasBit c k = true ∨ i = k := fun k => by rw [hasBit_lor, Bool.or_eq_true, decide_eq_true_eq]
  refine R.ef he T E κ res hf w₀ ρ a w h.rep hL next Q fun x E' ρ' v w' k1 k2 k3 k4 k5 => hN x E' _ _ ρ' k1 ?_
  have hle := h.rep.le k2
  have hg := fun y => getB_put hnt R.p T x y
  dsimp only at hg
  have hslot : ∀ j oj d, ops[j]? = some oj → j ≠ i → oj.dst = some d → (getB d).f (r.p T x) = (getB d).f T := by
    intro j oj d hj hji hdj
    rw [hg, if_neg]
    intro hdy
    exact hji (hS.dst1 j i oj o d hj hi hdj hdy)
  have hcl : ∀ j oj, ops[j]? = some oj → (L.setIfInBounds i true).getD j false = true → ∀ k, hasBit (dmask oj.after.toList) k = true → (L.setIfInBounds i true).getD k false = true := by
    intro j oj hj hlj k hk
    rcases (set_iff hsz).1 hlj with rfl | hlj
    · rw [hi] at hj; cases hj; exact (set_iff hsz).2 (.inr (hd k hk))
    · exact (set_iff hsz).2 (.inr (h.cl j oj hj hlj k hk))
  have hin : ∀ k, (hasBit (Nat.lor c (Nat.pow 2 i)) k = true) → (L.setIfInBounds i true).getD k false = false → k ≠ i ∧ hasBit c k = true ∧ L.getD k false = false := by
    intro k hck hlk
    obtain ⟨e, hlk⟩ := set_false hsz hlk
    exact ⟨Ne.symm e, ((hbit k).1 hck).resolve_right e, hlk⟩
  refine ⟨k4, h.ext.trans k2 h.nx, Nat.le_trans h.nx k3, by rw [put_size]; exact h.le, by rw [put_size]; exact h.ge, by rw [put_defers]; exact h.dfr.mono hle, ?_, ?_, by rw [Array.size_setIfInBounds]; exact h.size, ?_, hcl, ?_, ?_, ?_, ?_, ?_⟩
  · intro y hy
    rw [put_getD R.p h.ge, hg]
    by_cases hdy : o.dst = some y
    · rw [if_pos hdy, if_pos hdy]; exact k5
    · rw [if_neg hdy, if_neg hdy]
      refine (h.agree y fun k ok hk hck hlk => ?_).mono hle
      by_cases e : i = k
      · subst e; rw [hi] at hk; cases hk; exact hdy
      · exact hy k ok hk ((hbit k).2 (.inl hck)) (by rw [getD_set_ne false e]; exact hlk)
  · intro j hj
    rcases (set_iff hsz).1 hj with rfl | hj
    · exact (hbit _).2 (.inr rfl)
    · exact (hbit _).2 (.inl (h.sub j hj))
  · intro j hj
    refine down_sub (S := fun j => (L.setIfInBounds i true).getD j false = true) rows.reverse _ (fun r' hr' hs k hk => ?_) (fun k hk => ?_) j hj
    · obtain ⟨o', n1, n2⟩ := hS.row r' (List.mem_reverse.1 hr')
      rw [(hS.ok _ _ _ n2).d] at hk
      exact hcl _ o' n1 hs k hk
    · rw [hasBit_lor, Bool.or_eq_true, decide_eq_true_eq] at hk
      rcases hk with hk | rfl
      · exact (set_iff hsz).2 (.inr (h.frc k hk))
      · exact set_self hsz
  · intro k ok hk hck l hl
    rcases (hbit k).1 hck with hck | rfl
    · exact (hbit l).2 (.inl (h.cC k ok hk hck l hl))
    · rw [hi] at hk; cases hk; exact (hbit l).2 (.inl (h.sub l (hd l hl)))
  · intro k ok rk hk hrk hek hck
    refine down_sup _ _ _ ?_
    rw [hasBit_lor, Bool.or_eq_true, decide_eq_true_eq]
    rcases (hbit k).1 hck with hck | rfl
    · exact .inl (h.effC k ok rk hk hrk hek hck)
    · exact .inr rfl
  · intro k ok rk hk hrk hek hcc hck hlk
    have hlk' := hlk
    obtain ⟨hki, hck, hlk⟩ := hin k hck hlk
    obtain ⟨y, q1, q2⟩ := h.pers k ok rk hk hrk hek hcc hck hlk
    refine ⟨y, fun d hdd => by rw [hslot k ok d hk hki hdd]; exact q1 d hdd, fun E'' => (q2 E'').same fun z hz => ?_⟩
    rw [hg, if_neg]
    intro hdz
    rcases hS.lk k i ok o z hk hi hz hdz with h1 | ⟨r', h1, h2, h3⟩
    · rw [h.cC k ok hk hck i h1] at hci; cases hci
    · rcases h3 with h3 | h3
      · exact hki h3
      · rw [h3 (fun j => (L.setIfInBounds i true).getD j false = true) hcl (set_self hsz)] at hlk'; cases hlk'
  · intro k ok d id hk hn hck hlk hdd hid
    obtain ⟨hki, hck, hlk⟩ := hin k hck hlk
    rw [hslot k ok d hk hki hdd] at hid
    obtain ⟨q1, q2, q3⟩ := h.nw k ok d id hk hn hck hlk hdd hid
    exact ⟨(k2 id q2).trans q1, Nat.lt_of_lt_of_le q2 k3, q3⟩
  · intro k k' ok ok' d d' id hk hk' hn hn' hck hck' hlk hlk' hdd hdd' hid hid'
    obtain ⟨hki, hck, hlk⟩ := hin k hck hlk
    obtain ⟨hki', hck', hlk'⟩ := hin k' hck' hlk'
    rw [hslot k ok d hk hki hdd] at hid
    rw [hslot k' ok' d' hk' hki' hdd'] at hid'
    exact h.inj k k' ok ok' d d' id hk hk' hn hn' hck hck' hlk hlk' hdd hdd' hid hid'
end Go.Ex
namespace Go.Ex
variable [Val]
set_option linter.unusedSectionVars false
variable {P : Program} {call : Rec} {nt : Nat} {ops : Array Oper} {rows : List Row} {w₀ : World} {ρ₀ : Rho} {n₀ : Nat} {ds : DS} {c m : Nat} {T : Sl} {E : XW} {L : Array Bool} {ρ : Rho} {a : Act} {w : World}

/-! an order ends only when all is listed -/
theorem ons_lt {i : Nat} : ∀ (es : List Edge), onsOk i es = true → ∀ e ∈ es, (∀ g, e.ground ≠ .gcOnly g) → e.on < i
  | [], _, _, he, _ => by cases he
  | e' :: es, h, e, he, hg => by
    unfold onsOk at h
    rcases List.mem_cons.1 he with rfl | he
    · split at h
      · rename_i g hgg; exact absurd hgg (hg g)
      · split at h
        · rename_i hb; exact blt_lt hb
        · cases h
    · split at h
      · exact ons_lt es h e he hg
      · split at h
        · exact ons_lt es h e he hg
        · cases h

theorem getD_tf {i : Nat} (hi : i < L.size) : L.getD i true = L.getD i false := by
  rw [Array.getD_eq_getD_getElem?, Array.getD_eq_getD_getElem?, Array.getElem?_eq_getElem hi]; rfl

theorem gmask_of : ∀ (es : List Edge) (e : Edge), e ∈ es → Region.binds .gc e = true → hasBit (gmask es) e.on = true
  | [], _, he, _ => by cases he
  | e' :: es, e, he, hb => by
    unfold gmask
    rcases List.mem_cons.1 he with rfl | he
    · split
      · rename_i g hg; unfold Region.binds at hb; rw [hg] at hb; cases hb
      · rw [hasBit_or, bit_pow]; simp
    · have ih := gmask_of es e he hb
      split
      · exact ih
      · rw [hasBit_or, ih, Bool.or_true]

theorem gcRound_sub {S : Nat → Prop} (hS : ∀ i o, ops[i]? = some o → (∀ k, hasBit (gmask o.after.toList) k = true → S k) → S i) : ∀ (l : List Oper) (i m : Nat), ops.toList.drop i = l → (∀ k, hasBit m k = true → S k) → ∀ k, hasBit (gcRound l i m) k = true → S k
  | [], _, _, _, hm => hm
  | o :: l, i, m, hd, hm => by
    have hi : ops[i]? = some o := by
      have : (ops.toList.drop i)[0]? = some o := by rw [hd]; rfl
      rw [List.getElem?_drop] at this
      simpa using this
    have hd' : ops.toList.drop (i + 1) = l := by
      rw [← List.drop_drop, hd]; rfl
    unfold gcRound
    split
    · rename_i hs
      refine gcRound_sub hS l (i + 1) _ hd' fun k hk => ?_
      rw [hasBit_lor, Bool.or_eq_true, decide_eq_true_eq] at hk
      rcases hk with hk | rfl
      · exact hm k hk
      · exact hS i o hi fun k hk => hm k ((subM_iff _ _).1 hs k hk)
    · exact gcRound_sub hS l (i + 1) _ hd' hm
theorem gcRounds_sub {S : Nat → Prop} (hS : ∀ i o, ops[i]? = some o → (∀ k, hasBit (gmask o.after.toList) k = true → S k) → S i) : ∀ (n m : Nat), (∀ k, hasBit m k = true → S k) → ∀ k, hasBit (gcRounds ops.toList n m) k = true → S k
  | 0, _, hm => hm
  | n + 1, m, hm => gcRounds_sub hS n _ (gcRound_sub hS _ 0 m rfl hm)
theorem allBits_ok {m : Nat} : ∀ (l : List Oper) (i : Nat), allBits l i m = true → ∀ j, i ≤ j → j < i + l.length → hasBit m j = true
  | [], i, _, j, h1, h2 => by simp at h2; omega
  | o :: l, i, h, j, h1, h2 => by
    unfold allBits at h
    split at h
    · rename_i hb
      rcases Nat.lt_or_ge i j with hlt | hge
      · exact allBits_ok l (i + 1) h j hlt (by simp at h2 ⊢; omega)
      · have : j = i := by omega
        rw [this]; exact hb
    · cases h
theorem anyGc_no : ∀ (l : List Oper), anyGc l = false → ∀ o ∈ l, hasGc o.after.toList = false
  | [], _, _, ho => by cases ho
  | o' :: l, h, o, ho => by
    unfold anyGc at h
    split at h
    · cases h
    · rename_i hb
      rcases List.mem_cons.1 ho with rfl | ho
      · exact hb
      · exact anyGc_no l h o ho
theorem hasGc_no : ∀ (es : List Edge), hasGc es = false → ∀ e ∈ es, ∀ g, e.ground ≠ .gcOnly g
  | [], _, _, he, _ => by cases he
  | e' :: es, h, e, he, g => by
    unfold hasGc at h
    split at h
    · cases h
    · rename_i hb
      rcases List.mem_cons.1 he with rfl | he
      · exact fun hh => hb g hh
      · exact hasGc_no es h e he g

/-- nothing is ready: all is listed -/
theorem all_listed (hS : Stat P call nt ops rows) (hgc : gcOk ops.toList = true) (hsz : L.size = ops.size) (md : Region.Mode) (hr : Region.ready md ops L = []) : ∀ i, i < ops.size → L.getD i false = true := by
  have key : ∀ i o, ops[i]? = some o → (∀ e ∈ o.after, Region.binds md e = true → L.getD e.on false = true) → L.getD i false = true := by
    intro i o hi h
    rcases bool_split (L.getD i false) with h1 | h1
    · exact h1
    · have hlt : i < L.size := by rw [hsz]; exact (Array.getElem?_eq_some_iff.1 hi).1
      have : i ∈ Region.ready md ops L := mem_ready.2 ⟨by rw [getD_tf hlt]; exact h1, o, hi, h⟩
      rw [hr] at this; cases this
  have low : (∀ i o, ops[i]? = some o → ∀ e ∈ o.after, Region.binds md e = true → e.on < i) → ∀ i, i < ops.size → L.getD i false = true := by
    intro hlow i
    induction i using Nat.strongRecOn with
    | _ i ih =>
      intro hi
      have ho : ops[i]? = some ops[i] := Array.getElem?_eq_getElem hi
      exact key i _ ho fun e he hb => ih e.on (hlow i _ ho e he hb) (Nat.lt_trans (hlow i _ ho e he hb) hi)
  by_cases hmd : md = .gc
  · subst hmd
    unfold gcOk at hgc
    split at hgc
    · rename_i hno
      refine low fun i o hi e he hb => ?_
      have ho : o ∈ ops.toList := by
        rw [Array.mem_toList_iff]; exact Array.mem_of_getElem? hi
      exact ons_lt _ (hS.ons i o hi) e (Array.mem_toList_iff.2 he) (hasGc_no _ (anyGc_no _ hno o ho) e (Array.mem_toList_iff.2 he))
    · intro i hi
      refine gcRounds_sub (ops := ops) (S := fun i => L.getD i false = true) (fun i o hi h => key i o hi fun e he hb => h e.on (gmask_of _ e (Array.mem_toList_iff.2 he) hb)) 3 0 (fun k hk => by rw [hasBit_zero] at hk; cases hk) i ?_
      exact allBits_ok _ 0 hgc i (Nat.zero_le _) (by simpa using hi)
  · refine low fun i o hi e he hb => ons_lt _ (hS.ons i o hi) e (Array.mem_toList_iff.2 he) fun g hg => ?_
    unfold Region.binds at hb
    rw [hg] at hb
    simp at hb
    exact hmd hb

/-! what is left unlisted -/
def left (L : Array Bool) : Nat := L.toList.count false
theorem left_set {i : Nat} (hi : i < L.size) (h : L.getD i false = false) : left (L.setIfInBounds i true) + 1 = left L := by
  unfold left
  rw [Array.toList_setIfInBounds]
  have hg : L[i] = false := by
    rw [Array.getD_eq_getD_getElem?, Array.getElem?_eq_getElem hi] at h; exact h
  have hi' : i < L.toList.length := by simpa using hi
  rw [List.count_set hi']
  have : L.toList[i] = false := by simpa using hg
  have hpos : 0 < L.toList.count false := List.count_pos_iff.2 (this ▸ List.getElem_mem hi')
  rw [this]
  simp only [beq_self_eq_true, if_true]
  have e : (true == false) = false := rfl
  simp only [e, Bool.false_eq_true, if_false]
  omega
theorem left_zero (h : left L = 0) : ∀ i, i < L.size → L.getD i false = true := by
  intro i hi
  rcases bool_split (L.getD i false) with h1 | h1
  · exact h1
  · have := left_set hi h1; omega
end Go.Ex
namespace Go.Ex
variable [Val]
set_option linter.unusedSectionVars false
variable {P : Program} {call : Rec} {nt : Nat} {ops : Array Oper} {rows : List Row} {w₀ : World} {ρ₀ : Rho} {n₀ : Nat} {ds : DS} {c m : Nat} {T : Sl} {E : XW} {L : Array Bool} {ρ : Rho} {a : Act} {w : World}

theorem readyR_iff {c : Nat} {r : Row} : ∀ (rs : List Row), r ∈ readyR c rs ↔ r ∈ rs ∧ hasBit c r.i = false ∧ subM r.d c = true
  | [] => by simp [readyR]
  | r' :: rs => by
    unfold readyR
    have ih := readyR_iff (c := c) (r := r) rs
    split
    · rename_i hb
      rw [ih, List.mem_cons]
      constructor
      · rintro ⟨h1, h2⟩; exact ⟨.inr h1, h2⟩
      · rintro ⟨rfl | h1, h2, h3⟩
        · rw [h2, h3] at hb; cases hb
        · exact ⟨h1, h2, h3⟩
    · rename_i hb
      simp only [Bool.or_eq_false_iff, Bool.not_eq_false'] at hb
      rw [List.mem_cons, ih, List.mem_cons]
      constructor
      · rintro (rfl | ⟨h1, h2⟩)
        · exact ⟨.inl rfl, hb⟩
        · exact ⟨.inr h1, h2⟩
      · rintro ⟨rfl | h1, h2⟩
        · exact .inl rfl
        · exact .inr ⟨h1, h2⟩

/-- what the known run does behind a stage -/
def Cont (rows : List Row) (ds : DS) (k : K) (res : XV × XW) (c m : Nat) (T : Sl) (E : XW) : Prop :=
  (readyR c rows = [] ∧ k T ds E = some res) ∨
  ∃ r sf, readyR c rows = [r] ∧ r.e = true ∧ r.ef T E (fun v w => (cStage rows rows.reverse sf (Nat.lor c (Nat.pow 2 r.i)) (down rows.reverse (Nat.lor m (Nat.pow 2 r.i)))).f (r.p T v) ds w k) = some res

def Chks (P : Program) (call : Rec) (ops : Array Oper) (rows : List Row) (c m : Nat) (T : Sl) (E : XW) : Prop :=
  ∀ r ∈ rows, r.e = false → r.c = true → hasBit c r.i = true → hasBit m r.i = false → ∀ o, ops[r.i]? = some o → Chk P call ops o T E

theorem stage_ok (hS : Stat P call nt ops rows) {k : K} {res : XV × XW} {sf : Nat} (hI : Inv P call nt ops w₀ ρ₀ n₀ ds c m T E L ρ a w) (h : (cStage rows rows.reverse sf c m).f T ds E k = some res) :
    ∃ c' T' E', Inv P call nt ops w₀ ρ₀ n₀ ds c' m T' E' L ρ a w ∧ Chks P call ops rows c' m T' E' ∧ Cont rows ds k res c' m T' E' := by
  cases sf with
  | zero => cases h
  | succ sf =>
    unfold cStage at h
    rw [show scan rows c = ⟨(scan rows c).c, (scan rows c).l⟩ from rfl] at h
    dsimp only at h
    rw [show cNews (scan rows c).l = ⟨(cNews (scan rows c).l).f⟩ from rfl, show cCks (scan rows c).c m rows = ⟨(cCks (scan rows c).c m rows).f⟩ from rfl] at h
    cases hrd : readyR (scan rows c).c rows with
    | nil =>
      rw [hrd] at h
      dsimp only at h
      cases hal : allIn (scan rows c).c rows with
      | false => rw [hal] at h; cases h
      | true =>
        rw [hal] at h
        obtain ⟨T', E', h1, h2⟩ := scan_ok hS rows hS.row c T E _ res hI h
        obtain ⟨⟨_, h3⟩, h4⟩ := cks_ok hS (m := m) rows hS.row _ _ _ h1
        exact ⟨_, T', E', h2, h4, .inl ⟨hrd, h3⟩⟩
    | cons r rest =>
      cases rest with
      | cons _ _ => rw [hrd] at h; cases h
      | nil =>
        rw [hrd] at h
        dsimp only at h
        cases he : r.e with
        | false =>
          obtain ⟨i, d, e, c', ev, ck, ef, p⟩ := r
          cases he
          cases h
        | true =>
          have h' : (cNews (scan rows c).l).f T E (fun t w => (cCks (scan rows c).c m rows).f t w [] fun _ => r.ef t w fun v w => (cStage rows rows.reverse sf (Nat.lor (scan rows c).c (Nat.pow 2 r.i)) (down rows.reverse (Nat.lor m (Nat.pow 2 r.i)))).f (r.p t v) ds w k) = some res := by
            obtain ⟨i, d, e, c', ev, ck, ef, p⟩ := r
            cases he
            exact h
          obtain ⟨T', E', h1, h2⟩ := scan_ok hS rows hS.row c T E _ res hI h'
          obtain ⟨⟨_, h3⟩, h4⟩ := cks_ok hS (m := m) rows hS.row _ _ _ h1
          exact ⟨_, T', E', h2, h4, .inr ⟨r, sf, hrd, he, h3⟩⟩

/-- all is listed -/
theorem fin_ok (hS : Stat P call nt ops rows) {k : K} {res : XV × XW} (hI : Inv P call nt ops w₀ ρ₀ n₀ ds c m T E L ρ a w) (hC : Cont rows ds k res c m T E) (hall : ∀ i, i < ops.size → L.getD i false = true) {N : Act → World → Prop}
    (hQ : ∀ t' ds' E' ρ' a' w', k t' ds' E' = some res → Ext n₀ ρ₀ ρ' → n₀ ≤ E'.next → SR P nt w₀ ρ' t' ds' E' a' w' → N a' w') : N a w := by
  rcases hC with ⟨_, hk⟩ | ⟨r, sf, hrd, _, _⟩
  · refine hQ T ds E ρ a w hk hI.ext hI.nx ⟨hI.rep, fun i hi => ?_, hI.le, hI.ge, hI.dfr⟩
    have := hI.agree i fun j o hj _ hlj _ => by
      rw [hall j (Array.getElem?_eq_some_iff.1 hj).1] at hlj; cases hlj
    rw [getB_f, if_pos hi] at this
    exact this
  · exfalso
    have hr : r ∈ readyR c rows := by rw [hrd]; simp
    obtain ⟨h1, h2, _⟩ := (readyR_iff rows).1 hr
    obtain ⟨o, ho, _⟩ := hS.row r h1
    rw [hI.sub _ (hall r.i (Array.getElem?_eq_some_iff.1 ho).1)] at h2; cases h2

theorem mid_ok (hS : Stat P call nt ops rows) (hgc : gcOk ops.toList = true) {k : K} {res : XV × XW} {Q : Exit → Act → World → Prop}
    (hQ : ∀ t' ds' E' ρ' a' w', k t' ds' E' = some res → Ext n₀ ρ₀ ρ' → n₀ ≤ E'.next → SR P nt w₀ ρ' t' ds' E' a' w' → Q .normal a' w') (md : Region.Mode) :
    ∀ (n : Nat) (c m : Nat) (T : Sl) (E : XW) (L : Array Bool) (ρ : Rho) (a : Act) (w : World), Inv P call nt ops w₀ ρ₀ n₀ ds c m T E L ρ a w → Chks P call ops rows c m T E → Cont rows ds k res c m T E → left L ≤ n → wpAny P md ops Q n L a w
  | 0, c, m, T, E, L, ρ, a, w, hI, hK, hC, hn => by
    have hall : ∀ i, i < ops.size → L.getD i false = true := fun i hi => left_zero (by omega) i (by rw [hI.size]; exact hi)
    refine ⟨?_, fin_ok hS hI hC hall hQ⟩
    cases hr : Region.ready md ops L with
    | nil => rfl
    | cons x xs =>
      exfalso
      have hx : x ∈ Region.ready md ops L := by rw [hr]; simp
      obtain ⟨h1, o, h2, _⟩ := mem_ready.1 hx
      have hlt := (Array.getElem?_eq_some_iff.1 h2).1
      rw [getD_tf (by rw [hI.size]; exact hlt), hall x hlt] at h1; cases h1
  | n + 1, c, m, T, E, L, ρ, a, w, hI, hK, hC, hn => by
    refine ⟨fun hr => fin_ok hS hI hC (all_listed hS hgc hI.size md hr) hQ, fun i hi => ?_⟩
    obtain ⟨h1, o, ho, hd⟩ := mem_ready.1 hi
    have hlt : i < L.size := by rw [hI.size]; exact (Array.getElem?_eq_some_iff.1 ho).1
    rw [getD_tf hlt] at h1
    have hleft : left (L.setIfInBounds i true) ≤ n := by have := left_set hlt h1; omega
    have hdep : ∀ l, hasBit (dmask o.after.toList) l = true → L.getD l false = true := by
      intro l hl
      obtain ⟨e, he, hb, rfl⟩ := (dmask_iff _ _).1 hl
      exact hd e (Array.mem_toList_iff.1 he) (anyB_binds hb md)
    refine Step.wpOp ho ?_
    rcases bool_split (hasBit c i) with hci | hci
    · exact hI.step hS hK ho hci h1 hdep fun a' w' ρ' hI' => mid_ok hS hgc hQ md n c m T E _ ρ' a' w' hI' hK hC hleft
    · -- it is the next effect
      obtain ⟨r, hrm, hr⟩ := hS.all i o ho
      have R := hS.ok _ _ _ hr
      have hrr : r ∈ readyR c rows := by
        refine (readyR_iff rows).2 ⟨hrm, by rw [R.i]; exact hci, (subM_iff _ _).2 fun l hl => ?_⟩
        rw [R.d] at hl
        exact hI.sub l (hdep l hl)
      rcases hC with ⟨hrd, _⟩ | ⟨r', sf, hrd, he, hf⟩
      · rw [hrd] at hrr; cases hrr
      · rw [hrd] at hrr
        simp at hrr
        subst hrr
        rw [R.i] at hf
        refine hI.eff hS ho hr he hci hdep hf fun x E' a' w' ρ' hk hI' => ?_
        obtain ⟨c', T', E'', k1, k2, k3⟩ := stage_ok hS hI' hk
        exact mid_ok hS hgc hQ md n _ _ _ _ _ ρ' a' w' k1 k2 k3 hleft

theorem cDraw_ok (hX : ExtOK P) {call : Rec} (hC : CallOK P call) (nt : Nat) (ops : Array Oper) : DrawS P nt ops (cDraw P call nt ops).f := by
  intro id t ds E k res h w₀ ρ a w hSR Q hQ
  unfold cDraw at h
  split at h
  · rename_i rows hrows
    split at h
    · rename_i hdr
      split at h
      · rename_i hgc
        have hS := stat_ok hX hC hrows hdr
        have hI : Inv P call nt ops w₀ ρ E.next ds 0 0 t E (Array.replicate ops.size false) ρ a { w with drawn := w.drawn + 1 } := by
          have hno : ∀ j, (Array.replicate ops.size false).getD j false = true → False := by
            intro j hj
            rw [Array.getD_eq_getD_getElem?, Array.getElem?_replicate] at hj
            split at hj <;> cases hj
          have h0 : ∀ j, hasBit 0 j = true → False := fun j hj => by rw [hasBit_zero] at hj; cases hj
          refine ⟨hSR.rep.drew _, Ext.refl _ _, Nat.le_refl _, hSR.le, hSR.ge, hSR.dfr, fun y _ => ?_, fun j hj => (hno j hj).elim, by simp, fun j hj => (h0 j hj).elim, fun j o _ hj => (hno j hj).elim,
            fun j o _ hj => (h0 j hj).elim, fun j o r _ _ _ hj => (h0 j hj).elim, fun j o r _ _ _ _ hj => (h0 j hj).elim, fun j o d id _ _ hj => (h0 j hj).elim, fun j j' o o' d d' id _ _ _ _ hj => (h0 j hj).elim⟩
          exact hSR.eval (.tmp y)
        obtain ⟨c', T', E', k1, k2, k3⟩ := stage_ok hS hI h
        have hleft : left (Array.replicate ops.size false) ≤ ops.size := by
          unfold left
          exact Nat.le_trans (List.count_le_length ..) (by simp)
        have hany : ∀ md t', wpOps P ops Q (Region.linearise md ops t') a { w with drawn := w.drawn + 1 } := fun md t' =>
          wpAny_sound ops.size t' _ a _ (mid_ok hS hgc (fun t' ds' E' ρ' a' w' q1 q2 q3 q4 => hQ t' ds' E' ρ' a' w' q1 q2 q3 q4) md ops.size _ _ _ _ _ _ _ _ k1 k2 k3 hleft)
        refine wp_region_draw fun t' => ?_
        unfold Region.schedule
        split
        · exact hany _ _
        · exact hany _ _
      · cases h
    · cases h
  · cases h
end Go.Ex
namespace Go.Ex
variable [Val]
set_option linter.unusedSectionVars false
variable {P : Program}

/-- the executor is sound -/
theorem exec_ok (hX : ExtOK P) (T n : Nat) : CallOK P (callN P T n) := (callN_ok hX T (fun _ hC nt ops => cDraw_ok hX hC nt ops) n).1

/-- a run that the executor comes through -/
theorem exec_calls (hX : ExtOK P) {T n : Nat} {f : FuncId} {args : List XV} {E : XW} {κ : XV → XW → R} (h : ((callN P T n f false).f args E κ).isSome = true) {w₀ w : World} {ρ : Rho} {args' : Array Value} (hR : Rep w₀ ρ E w) (hv : VRs ρ args args'.toList) :
    ∃ res, (callN P T n f false).f args E κ = some res ∧ Calls P f args' w (RetOK w₀ ρ E κ res) := by
  obtain ⟨res, hres⟩ := Option.isSome_iff_exists.1 h
  exact ⟨res, hres, exec_ok hX T n f args E κ res hres w₀ ρ w args' hR hv⟩
end Go.Ex
