/- Part of the proof of TopEntries: the law's walk: TopEntries returns true. -/
import Derived.Test.YtcmohdedlclcgaaGreatDoorX19
import Derived.Test.YtcmohdedlclcgaaGreatDoorX18
import Derived.Test.YtcmohdedlclcgaaGreatDoorX20
import Derived.Test.YtcmohdedlclcgaaGreatDoorX21
import Derived.Test.YtcmohdedlclcgaaGreatDoorX22
set_option linter.unusedVariables false
set_option linter.unusedSimpArgs false
set_option linter.unusedSectionVars false
open Go.Proofs
namespace Go.Ex

/-- an entry behind the list's being laid in a lane -/
def Pth.newE (p : Pth) (e : Nat → Ent) (k : Nat) : Ent := if k < 6 ∧ k / 2 = p.t then (if k % 2 < p.n then e (20 + k % 2) else .zero) else e k
def Pth.new (p : Pth) (pk : Pkt) : Pkt := { n := pk.n, rdy := pk.rdy, e := p.newE pk.e }
/-- a path is a packet's and a list's -/
structure POK (p : Pth) (pk : Pkt) : Prop where
  t : p.t < 3
  n : p.n < 4
  em : ∀ k b, p.em k = some b → (b = true ↔ pk.e k = .zero)
  may : ∀ k, 20 ≤ k → k < 22 → k - 20 < p.n → (p.bad = 0 ∨ k ≤ p.bad) → ((pk.e k).may ↔ k ≠ p.bad)
  enc : p.bad = 0 → (p.enc = true ↔ (p.new pk).may)
  x : pk.x = sealS (p.new pk)
  R : pk.R
theorem Ent.zero_R : Ent.zero.R := ⟨by decide, by decide⟩
theorem POK.newR {p : Pth} {pk : Pkt} (h : POK p pk) : (p.new pk).R := by
  refine ⟨h.R.n, fun k => ?_⟩
  show (p.newE pk.e k).R
  unfold Pth.newE
  split
  · split
    · exact h.R.e _
    · exact Ent.zero_R
  · exact h.R.e _
@[reducible] noncomputable def pthVal (p : Pth) (pk : Pkt) : Val := valN Tryz.prog w8 noD p.Q noL p.F pk.n (pktU pk) (pktU_flat pk)
theorem pth_tab (p : Pth) (pk : Pkt) : (pthVal p pk).toTab = pthT Tryz.prog p := rfl

theorem ans7x_some {n b k : Nat} {xs : List XV} {x : XV} (h : ans7' n b k xs = some x) : 20 ≤ k ∧ k < 22 ∧ k - 20 < n ∧ (b = 0 ∨ k ≤ b) ∧ xs = [.agg 6 (entA k)] ∧ x = (if k = b then e30X else okX) := by
  letI := liveV
  unfold ans7' at h
  cases hb : (Nat.ble 20 k && (Nat.blt k 22 && (Nat.blt (Nat.sub k 20) n && (Nat.beq b 0 || Nat.ble k b)))) with
  | false => rw [hb] at h; cases h
  | true =>
    rw [hb] at h
    dsimp only at h
    simp only [Bool.and_eq_true, Bool.or_eq_true] at hb
    obtain ⟨a1, a2, a3, a4⟩ := hb
    obtain ⟨h1, h2⟩ := ansL_some h
    refine ⟨Nat.le_of_ble_eq_true a1, Nat.le_of_ble_eq_true a2, Nat.le_of_ble_eq_true a3, ?_, h1, ?_⟩
    · rcases a4 with a | a
      · exact .inl (Nat.eq_of_beq_eq_true a)
      · exact .inr (Nat.le_of_ble_eq_true a)
    · rw [h2]
      cases hq : Nat.beq k b with
      | true => rw [if_pos (Nat.eq_of_beq_eq_true hq)]
      | false => rw [if_neg (beq_false hq)]
theorem ans7x_ex {n b : Nat} {xs : List XV} {x : XV} (h : ans7' n b (entK xs) xs = some x) : ∃ k, 20 ≤ k ∧ k < 22 ∧ k - 20 < n ∧ (b = 0 ∨ k ≤ b) ∧ xs = [.agg 6 (entA k)] ∧ x = (if k = b then e30X else okX) := ⟨_, ans7x_some h⟩
theorem em_lt {p : Pth} {k : Nat} {b : Bool} (h : p.em k = some b) : k < 25 := by
  unfold Pth.em at h
  split at h
  · rename_i hb
    rw [Bool.and_eq_true] at hb
    have : k < 6 := Nat.le_of_ble_eq_true hb.1
    omega
  · rename_i hb _
    simp only [Bool.and_eq_true] at hb
    have : k < 22 := Nat.le_of_ble_eq_true hb.2.1
    omega
  · cases h
theorem ansQ_some {p : Pth} {k : Nat} {x y r : XV} (h : ansQ p k x y = some r) : ∃ e, p.em k = some e ∧ x = .agg 6 (entA k) ∧ ((y = zerX ∧ r = .bool (!e)) ∨ (y = .agg 6 (entA k) ∧ r = .bool false)) := by
  letI := liveV
  unfold ansQ at h
  split at h
  · rename_i e he h1 h2
    cases h
    have := isL_ok _ _ h1
    have h3 := isL_ok _ _ h2
    cases this; cases h3
    refine ⟨e, he, rfl, .inl ⟨rfl, ?_⟩⟩
    cases e <;> rfl
  · rename_i e he h1 h2 _
    cases h
    have := isL_ok _ _ h1
    have h3 := isL_ok _ _ h2
    cases this; cases h3
    exact ⟨e, he, rfl, .inr ⟨rfl, rfl⟩⟩
  · cases h
theorem ansQ_ex {p : Pth} {x y r : XV} (h : ansQ p (entK [x]) x y = some r) : ∃ k e, p.em k = some e ∧ x = .agg 6 (entA k) ∧ ((y = zerX ∧ r = .bool (!e)) ∨ (y = .agg 6 (entA k) ∧ r = .bool false)) := ⟨_, ansQ_some h⟩

theorem zerX_inv [Val] {ρ : Rho} {v : Value} (h2 : VR ρ zerX v) : v = Ent.zero.val := by
  obtain ⟨cs, rfl, _, _, h3, _⟩ := h2.agg_inv
  have hl : cs.toList.length = 6 := h3.1.symm
  unfold Ent.val
  congr 1
  apply Array.toList_inj.1
  match hcs : cs.toList, hl with
  | [a, b, c, d, f, g], _ =>
    rw [hcs] at h3
    have g1 := (h3.2 0 _ a rfl rfl).int_inv
    have g2 := (h3.2 1 _ b rfl rfl).int_inv
    have g3 := (h3.2 2 _ c rfl rfl).int_inv
    have g4 := (h3.2 3 _ d rfl rfl).int_inv
    have g5 := (h3.2 4 _ f rfl rfl).int_inv
    obtain ⟨s, g6, g7, _⟩ := (h3.2 5 _ g rfl rfl).str_inv
    have : s = .empty := by
      cases s with | mk d =>
      have : d = #[] := by
        apply Array.eq_empty_of_size_eq_zero
        simpa using g7
      rw [this]; rfl
    rw [g1, g2, g3, g4, g5, g6, this]
    rfl

theorem pth_str {p : Pth} {pk : Pkt} (h : POK p pk) : @StrOK Tryz.prog p.Q (pthVal p pk) := by
  letI := pthVal p pk
  intro b t xs x hu hq ρ w u v xo yo hv
  unfold Pth.Q at hq
  split at hq
  · rename_i a c
    split at hq
    · rename_i ht
      have ht := Nat.eq_of_beq_eq_true ht
      subst ht
      obtain ⟨k, e, he, rfl, hy⟩ := ansQ_ex hq
      have hk := em_lt he
      have hem := h.em k e he
      obtain ⟨h1, h2⟩ : VR ρ (.agg 6 (entA k)) u ∧ VR ρ c v := ⟨hv.head, hv.tail.head⟩
      have e1 := entA_inv hk h1
      rcases hy with ⟨rfl, rfl⟩ | ⟨rfl, rfl⟩
      · have e2 := zerX_inv h2
        rw [e1, e2]
        refine ⟨_, VR.bool _, ?_⟩
        rw [ent_cmp (want := false) rfl (pk.e k) .zero xo yo w]
        congr 2
        rw [eqB_want]
        cases e with
        | true => simp [hem.1 rfl]
        | false =>
          have : ¬ pk.e k = .zero := fun hz => by have := hem.2 hz; cases this
          simp [this]
      · have e2 := entA_inv hk h2
        rw [e1, e2]
        refine ⟨_, VR.bool _, ?_⟩
        rw [ent_cmp (want := false) rfl (pk.e k) (pk.e k) xo yo w]
        congr 2
        rw [eqB_want]
        simp
    · cases hq
  · cases hq
end Go.Ex
open Go.Proofs
namespace Go.Ex

theorem entsV_add (e : Nat → Ent) : ∀ (m k n : Nat), entsV e k (m + n) = entsV e k m ++ entsV e (k + m) n
  | 0, k, n => by simp [entsV]
  | m + 1, k, n => by
    rw [show m + 1 + n = (m + n) + 1 by omega]
    show (e k).cells ++ entsV e (k + 1) (m + n) = ((e k).cells ++ entsV e (k + 1) m) ++ entsV e (k + (m + 1)) n
    rw [entsV_add e m (k + 1) n, List.append_assoc, show k + 1 + m = k + (m + 1) by omega]
theorem entsV_congr {e e' : Nat → Ent} : ∀ (m k : Nat), (∀ i, k ≤ i → i < k + m → e i = e' i) → entsV e k m = entsV e' k m
  | 0, _, _ => rfl
  | m + 1, k, h => by
    show (e k).cells ++ entsV e (k + 1) m = (e' k).cells ++ entsV e' (k + 1) m
    rw [h k (Nat.le_refl _) (by omega), entsV_congr m (k + 1) fun i h1 h2 => h i (by omega) (by omega)]

section
variable {p : Pth} {pk : Pkt}
theorem slot_rows {ρ : Rho} (i : Nat) (hi : i < 2) : @VRs (pthVal p pk) ρ (p.slot i) (if i < p.n then pk.e (20 + i) else Ent.zero).cells := by
  letI := pthVal p pk
  unfold Pth.slot
  cases hb : Nat.blt i p.n with
  | true =>
    have hlt : i < p.n := Nat.le_of_ble_eq_true hb
    rw [if_pos hlt]
    exact entA_rows (k := 20 + i) (by omega)
  | false =>
    rw [if_neg (by have := blt_false hb; omega)]
    exact VRs.cons (.int _ _) (VRs.cons (.int _ _) (VRs.cons (.int _ _) (VRs.cons (.int _ _) (VRs.cons (.int _ _) (VRs.one (.str rfl rfl))))))
theorem lane_rows {ρ : Rho} (a : Nat) (ha : a < 3) : @VRs (pthVal p pk) ρ (p.lane a) (entsV (p.newE pk.e) (2 * a) 2) := by
  letI := pthVal p pk
  unfold Pth.lane
  cases hb : Nat.beq a p.t with
  | true =>
    have hat := Nat.eq_of_beq_eq_true hb
    have e0 : p.newE pk.e (2 * a) = if 0 < p.n then pk.e (20 + 0) else Ent.zero := by
      unfold Pth.newE
      rw [if_pos (by omega), show 2 * a % 2 = 0 by omega]
    have e1 : p.newE pk.e (2 * a + 1) = if 1 < p.n then pk.e (20 + 1) else Ent.zero := by
      unfold Pth.newE
      rw [if_pos (by omega), show (2 * a + 1) % 2 = 1 by omega]
    show VRs ρ (appL (p.slot 1) (p.slot 0)) ((p.newE pk.e (2 * a)).cells ++ ((p.newE pk.e (2 * a + 1)).cells ++ []))
    rw [appL_eq, e0, e1, List.append_nil]
    exact (slot_rows 0 (by decide)).append (slot_rows 1 (by decide))
  | false =>
    have hat := beq_false hb
    rw [entsV_congr (e := p.newE pk.e) (e' := pk.e) 2 (2 * a) fun i h1 h2 => by
      unfold Pth.newE
      rw [if_neg (by omega)]]
    exact entsA_rows 2 (2 * a) (by omega)
noncomputable def Pth.pktL (p : Pth) : List XV := appL (appL (appL (appL (appL (appL (entsA 12 6) (numsA 35 2)) (entsA 6 6)) (appL (appL (p.lane 2) (p.lane 1)) (p.lane 0))) (numsA 33 2)) [uaX 0]) (numsA 0 32)
theorem pth_rows {ρ : Rho} : @VRs (pthVal p pk) ρ p.pktL (p.new pk).cells := by
  letI := pthVal p pk
  have hr : VR ρ (uaX 0) (.bool pk.rdy) := atomIs (sig_U _ _ 0 (by decide))
  have e : entsV (p.newE pk.e) 0 12 = (entsV (p.newE pk.e) 0 2 ++ (entsV (p.newE pk.e) 2 2 ++ entsV (p.newE pk.e) 4 2)) ++ entsV pk.e 6 6 := by
    rw [show 12 = 2 + (2 + (2 + 6)) from rfl, entsV_add, entsV_add, entsV_add, List.append_assoc, List.append_assoc]
    rw [entsV_congr (e := p.newE pk.e) (e' := pk.e) 6 (0 + 2 + 2 + 2) fun i h1 h2 => by
      unfold Pth.newE
      rw [if_neg (by omega)]]
  have e12 : entsV (p.newE pk.e) 12 6 = entsV pk.e 12 6 := entsV_congr 6 12 fun i h1 h2 => by
    unfold Pth.newE
    rw [if_neg (by omega)]
  unfold Pth.pktL Pkt.cells Pth.new
  simp only [appL_eq]
  rw [e, e12]
  simp only [List.append_assoc]
  refine (numsA_rows 32 0 (by decide) fun i _ h => rfl).append ((VRs.one hr).append ((numsA_rows 2 33 (by decide) fun i h1 h2 => rfl).append ?_))
  exact (lane_rows 0 (by decide)).append ((lane_rows 1 (by decide)).append ((lane_rows 2 (by decide)).append ((entsA_rows 6 6 (by decide)).append ((numsA_rows 2 35 (by decide) fun i h1 h2 => rfl).append (entsA_rows 6 12 (by decide))))))

theorem all_append {l m : List XV} {f : XV → Bool} (h1 : l.all f = true) (h2 : m.all f = true) : (l ++ m).all f = true := by rw [List.all_append, h1, h2]; rfl
theorem entsA_flat : ∀ (m k : Nat), (entsA k m).all isFlat = true
  | 0, _ => rfl
  | m + 1, k => by
    show (appL (entsA (Nat.succ k) m) (entA k)).all isFlat = true
    rw [appL_eq]
    exact all_append rfl (entsA_flat m (Nat.succ k))
theorem numsA_flat : ∀ (m k : Nat), (numsA k m).all isFlat = true
  | 0, _ => rfl
  | m + 1, k => by
    show (isFlat (nuN k 6) && (numsA (Nat.succ k) m).all isFlat) = true
    rw [numsA_flat m]; rfl
theorem slot_flat (i : Nat) : (p.slot i).all isFlat = true := by
  unfold Pth.slot
  split <;> rfl
theorem lane_flat (a : Nat) : (p.lane a).all isFlat = true := by
  unfold Pth.lane
  split
  · rw [appL_eq]; exact all_append (slot_flat 0) (slot_flat 1)
  · exact entsA_flat _ _
theorem pktL_flat : p.pktL.all isFlat = true := by
  unfold Pth.pktL
  simp only [appL_eq]
  exact all_append (numsA_flat _ _) (all_append rfl (all_append (numsA_flat _ _) (all_append (all_append (lane_flat 0) (all_append (lane_flat 1) (lane_flat 2))) (all_append (entsA_flat _ _) (all_append (numsA_flat _ _) (entsA_flat _ _))))))
theorem entsV_len (e : Nat → Ent) : ∀ (m k : Nat), (entsV e k m).length = 6 * m
  | 0, _ => rfl
  | m + 1, k => by
    show ((e k).cells ++ entsV e (k + 1) m).length = _
    rw [List.length_append, entsV_len e m (k + 1)]
    show 6 + 6 * m = 6 * (m + 1)
    omega
theorem numsV_len (n : Nat → Nat) : ∀ (m k : Nat), (numsV n k m).length = m
  | 0, _ => rfl
  | m + 1, k => by
    show (numsV n (k + 1) m).length + 1 = _
    rw [numsV_len n m (k + 1)]
theorem cells_len (q : Pkt) : q.cells.length = 145 := by
  unfold Pkt.cells
  simp [entsV_len, numsV_len]
theorem pth_val {ρ : Rho} : @VR (pthVal p pk) ρ p.pkt (p.new pk).val := by
  letI := pthVal p pk
  have hrows : VRs ρ p.pktL (p.new pk).cells := pth_rows
  exact VR.agg' (hrows.1.trans (cells_len _)) hrows (pkt_flat _)
theorem pth_inv {ρ : Rho} {v : Value} (h : @VR (pthVal p pk) ρ p.pkt v) : v = (p.new pk).val := by
  have hrows : @VRs (pthVal p pk) ρ p.pktL (p.new pk).cells := pth_rows
  refine agg_inj h hrows.1 fun i x y z hx hz hy => ?_
  exact flat_unique (List.all_eq_true.1 pktL_flat x (List.mem_of_getElem? hx)) hy (hrows.2 i x z hx hz)
end

/-- packet.Encode of a packet that may not be -/
@[reducible] noncomputable def badVal (pk : Pkt) : Val := valN Tryz.prog w8 noD noQ' noL badF pk.n (pktU pk) (pktU_flat pk)
theorem bad_tab (pk : Pkt) : (badVal pk).toTab = badT Tryz.prog := rfl
theorem pBad_calls {pk : Pkt} (hR : pk.R) (h : ¬ pk.may) {w : World} (hw : Tens w) : Calls Tryz.prog 9 #[pk.val] w fun x w' => ∃ v, x = .returned v ∧ v = .tuple #[.string .empty, .int .i64 52] ∧ Keeps w w' := by
  have hr0 : ∀ ρ, @VR (badVal pk) ρ (uaX 0) (.bool pk.rdy) := fun ρ => atomIs (sig_U _ _ 0 (by decide))
  have hX : @ExtOK (badVal pk) Tryz.prog := by
    refine @ext_ok (badVal pk) (fun o g xs x ho hg ρ w ev hv => opN_ok (pc_num hR) (fun b i k n r hd => by cases hd) (fun b t xs x _ hq => by cases hq) (fun i x hl => by cases hl) ho hg hv) ?_
    intro f g xs x hf hg ρ w args hw hv
    letI := badVal pk
    have hf : badF f = some g := hf
    unfold badF at hf
    split at hf
    · cases hf
      obtain ⟨rfl, rfl⟩ := ansL_some hg
      obtain ⟨u, hu, h1⟩ := hv.single
      have : args = #[pk.val] := Array.toList_inj.1 (by rw [hu, pkt_inv (hr0 ρ) (fun _ _ _ => rfl) flat_ua h1])
      subst this
      refine (pcheck_calls pk hR hw 52 (.inr ⟨h, rfl⟩)).mono ?_
      rintro o w' ⟨v, rfl, rfl, hk⟩
      exact ⟨_, rfl, VR.int _ _, hk⟩
    · cases hf
  have hrun : ((@callN (badVal pk).toTab Tryz.prog levB 12 9 false).f [pktX (uaX 0)] E1 (kIs [.str 0 0, errX])).isSome = true := by
    rw [bad_tab]; exact bad_run
  refine run_of (V := badVal pk) hX hrun (@E1_rep (badVal pk) w hw hw.pos) (@VRs.one (badVal pk) _ _ _ (pkt_val (hr0 ρ0) fun j h1 h2 => rfl)) ?_
  intro x E' ρ' v r hx hv
  rw [@kIs_some _ _ _ _ (badVal pk) hx] at hv
  obtain ⟨a, b, rfl, h1, h2⟩ := @tuple2 (badVal pk) _ _ _ _ hv
  obtain ⟨s, e1, a1, a2⟩ := @VR.str_inv (badVal pk) _ _ _ _ h1
  rw [e1, @VR.int_inv (badVal pk) _ _ _ _ h2, str_inj a1 a2 (b := .empty) rfl rfl]
  rfl

theorem pth_fn {p : Pth} {pk : Pkt} (h : POK p pk) : ∀ f g xs x, (pthVal p pk).fn f = some g → g xs = some x → ∀ (ρ : Rho) (w : World) (args : Array Value), Tens w → @VRs (pthVal p pk) ρ xs args.toList →
    Calls Tryz.prog f args w fun e w' => ∃ v, e = .returned v ∧ @VR (pthVal p pk) ρ x v ∧ Keeps w w' := by
  intro f g xs x hf hg ρ w args hw hv
  letI := pthVal p pk
  have hS : VR ρ (uaX 500) (.string (sealS (p.new pk))) := by
    rw [← h.x]
    exact atomIs (sig_U _ _ 500 (by decide))
  have hf : p.F f = some g := hf
  unfold Pth.F at hf
  split at hf
  · cases hf
    obtain ⟨rfl, rfl⟩ := ansL_some hg
    have : args = #[] := Array.toList_inj.1 (List.eq_nil_of_length_eq_zero hv.1.symm)
    subst this
    refine (live_calls hw).mono ?_
    rintro o w' ⟨v, rfl, rfl, hk⟩
    exact ⟨_, rfl, VR.bool _, hk⟩
  · cases hf
    have hg : ans7' p.n p.bad (entK xs) xs = some x := hg
    obtain ⟨k, k1, k2, k3, k4, rfl, rfl⟩ := ans7x_ex hg
    obtain ⟨u, hu, h1⟩ := hv.single
    have : args = #[(pk.e k).val] := Array.toList_inj.1 (by rw [hu, entA_inv (by omega) h1])
    subst this
    have hm := h.may k k1 k2 k3 k4
    refine (check_calls (pk.e k) (h.R.e k) hw).mono ?_
    rintro o w' ⟨v, rfl, rfl, hkp⟩
    refine ⟨_, rfl, ?_, hkp⟩
    by_cases hkb : k = p.bad
    · rw [if_pos hkb, if_neg (fun hmay => hm.1 hmay hkb)]
      exact VR.int _ _
    · rw [if_neg hkb, if_pos (hm.2 hkb)]
      exact VR.int _ _
  · cases hf
    dsimp only at hg
    split at hg
    · rename_i hb
      have hb := Nat.eq_of_beq_eq_true hb
      obtain ⟨rfl, rfl⟩ := ansL_some hg
      obtain ⟨u, hu, h1⟩ := hv.single
      have : args = #[(p.new pk).val] := Array.toList_inj.1 (by rw [hu, pth_inv h1])
      subst this
      have he := h.enc hb
      cases hq : p.enc with
      | true =>
        refine (pEnc_calls h.newR (he.1 hq) hw).mono ?_
        rintro o w' ⟨v, rfl, rfl, hk⟩
        exact ⟨_, rfl, tuple2_mk hS (VR.int _ _), hk⟩
      | false =>
        refine (pBad_calls h.newR (fun hm => by rw [he.2 hm] at hq; cases hq) hw).mono ?_
        rintro o w' ⟨v, rfl, rfl, hk⟩
        exact ⟨_, rfl, tuple2_mk (VR.str rfl rfl) (VR.int _ _), hk⟩
    · cases hg
  · cases hf
    dsimp only at hg
    split at hg
    · rename_i hb
      rw [Bool.and_eq_true] at hb
      obtain ⟨rfl, rfl⟩ := ansL_some hg
      obtain ⟨u, hu, h1⟩ := hv.single
      have : args = #[.string (sealS (p.new pk))] := Array.toList_inj.1 (by rw [hu, flat_unique rfl h1 hS])
      subst this
      have he := h.enc (Nat.eq_of_beq_eq_true hb.1)
      refine (pDec_calls h.newR (he.1 hb.2) hw).mono ?_
      rintro o w' ⟨v, rfl, rfl, hk⟩
      exact ⟨_, rfl, tuple2_mk pth_val (VR.int _ _), hk⟩
    · cases hg
  · cases hf
theorem pth_ext {p : Pth} {pk : Pkt} (h : POK p pk) : @ExtOK (pthVal p pk) Tryz.prog :=
  @ext_ok (pthVal p pk) (fun o g xs x ho hg ρ w ev hv => opN_ok (pc_num h.R) (fun b i k n r hd => by cases hd) (pth_str h) (fun i x hl => by cases hl) ho hg hv) (pth_fn h)
end Go.Ex
open Go.Proofs
namespace Go.Ex

def b2 (b : Bool) : Nat := match b with
  | true => 1
  | false => 0
def mB (a b c d : Bool) : Nat := b2 a + 2 * b2 b + 4 * b2 c + 8 * b2 d
theorem mB_ok (a b c d : Bool) : mB a b c d < 16 ∧ bitB (mB a b c d) 0 = a ∧ bitB (mB a b c d) 1 = b ∧ bitB (mB a b c d) 2 = c ∧ bitB (mB a b c d) 3 = d := by
  revert a b c d; decide
def oB (a b : Bool) : Nat := b2 a + 2 * b2 b
theorem oB_ok (a b : Bool) : oB a b < 4 ∧ bitB (oB a b) 0 = a ∧ bitB (oB a b) 1 = b := by
  revert a b; decide
theorem oB1_ok (a : Bool) : oB a false < 2 ∧ bitB (oB a false) 0 = a := by
  revert a; decide

/-- is entry k empty? -/
noncomputable def Pkt.z (pk : Pkt) (k : Nat) : Bool := decide (pk.e k = .zero)
theorem z_iff (pk : Pkt) (k : Nat) : pk.z k = true ↔ pk.e k = .zero := by unfold Pkt.z; simp
def l0 (t : Nat) : Nat := if t = 0 then 1 else 0
def l1 (t : Nat) : Nat := if t = 2 then 1 else 2
noncomputable def mOf (pk : Pkt) (t : Nat) : Nat := mB (pk.z (2 * l0 t)) (pk.z (2 * l0 t + 1)) (pk.z (2 * l1 t)) (pk.z (2 * l1 t + 1))
theorem mOf_ok (pk : Pkt) {t : Nat} (ht : t < 3) {k : Nat} (hk : k < 6) (hkt : k / 2 ≠ t) : bitB (mOf pk t) (Nat.add (Nat.mul 2 (otherL t (Nat.div k 2))) (Nat.mod k 2)) = pk.z k := by
  obtain ⟨_, h0, h1, h2, h3⟩ := mB_ok (pk.z (2 * l0 t)) (pk.z (2 * l0 t + 1)) (pk.z (2 * l1 t)) (pk.z (2 * l1 t + 1))
  have ht3 : t = 0 ∨ t = 1 ∨ t = 2 := by omega
  have hk6 : k = 0 ∨ k = 1 ∨ k = 2 ∨ k = 3 ∨ k = 4 ∨ k = 5 := by omega
  rcases ht3 with rfl | rfl | rfl <;> rcases hk6 with rfl | rfl | rfl | rfl | rfl | rfl <;> first | (exact absurd rfl hkt) | exact h0 | exact h1 | exact h2 | exact h3
/-- the list's entries' bits -/
noncomputable def oOf (pk : Pkt) (n : Nat) : Nat := match n with
  | 0 => 0
  | 1 => oB (pk.z 20) false
  | _ => oB (pk.z 20) (pk.z 21)
theorem oOf_ok (pk : Pkt) {n k : Nat} (h1 : 20 ≤ k) (h2 : k < 22) (h3 : k - 20 < n) : bitB (oOf pk n) (Nat.sub k 20) = pk.z k := by
  match n, h3 with
  | 0, h3 => omega
  | 1, h3 =>
    have : k = 20 := by omega
    subst this
    exact (oB1_ok _).2
  | n + 2, h3 =>
    have : k = 20 ∨ k = 21 := by omega
    rcases this with rfl | rfl
    · exact (oB_ok (pk.z 20) (pk.z 21)).2.1
    · exact (oB_ok (pk.z 20) (pk.z 21)).2.2

/-- the packet's name for a list of shape s in tenant t's lane -/
def base (t s : Nat) : Pth := ⟨t, s, 0, 0, 0, true⟩
def named (pk : Pkt) (t s : Nat) : Pkt := { pk with x := sealS ((base t s).new pk) }

theorem em_inv {p : Pth} {k : Nat} {b : Bool} (h : p.em k = some b) :
    (k < 6 ∧ k / 2 ≠ p.t ∧ p.enc = true ∧ p.bad = 0 ∧ b = bitB p.m (Nat.add (Nat.mul 2 (otherL p.t (Nat.div k 2))) (Nat.mod k 2))) ∨
    (20 ≤ k ∧ k < 22 ∧ k - 20 < p.n ∧ (p.bad = 0 ∨ k < p.bad) ∧ b = bitB p.o (Nat.sub k 20)) := by
  unfold Pth.em at h
  split at h
  · rename_i hb
    cases h
    simp only [Bool.and_eq_true] at hb
    obtain ⟨a, c, d, f⟩ := hb
    refine .inl ⟨Nat.le_of_ble_eq_true a, ?_, d, Nat.eq_of_beq_eq_true f, rfl⟩
    intro e
    have e : Nat.div k 2 = p.t := e
    rw [e] at c
    have : Nat.beq p.t p.t = true := Nat.beq_refl _
    rw [this] at c
    cases c
  · rename_i hb _
    cases h
    simp only [Bool.and_eq_true, Bool.or_eq_true] at hb
    obtain ⟨a, c, d, f⟩ := hb
    refine .inr ⟨Nat.le_of_ble_eq_true a, Nat.le_of_ble_eq_true c, Nat.le_of_ble_eq_true d, ?_, rfl⟩
    rcases f with f | f
    · exact .inl (Nat.eq_of_beq_eq_true f)
    · exact .inr (Nat.le_of_ble_eq_true f)
  · cases h

/-- each packet and list has a path that is run -/
theorem path_of (pk : Pkt) (hR : pk.R) {t s : Nat} (ht : t < 3) (hs : s < 5) (e : TypeId) (k c : Nat) : ∃ p : Pth, p.t = t ∧ p.s = s ∧ POK p (named pk t s) ∧ (runF p e k c).isSome = true := by
  have hR' : (named pk t s).R := ⟨hR.n, hR.e⟩
  have ht3 : t = 0 ∨ t = 1 ∨ t = 2 := by omega
  have hs5 : s = 0 ∨ s = 1 ∨ s = 2 ∨ s = 3 ∨ s = 4 := by omega
  have hn4 : Nat.sub s 1 < 4 := by rcases hs5 with rfl | rfl | rfl | rfl | rfl <;> decide
  have hz : ∀ i, (named pk t s).z i = pk.z i := fun _ => rfl
  by_cases hA : 1 ≤ s - 1 ∧ ¬ (pk.e 20).may
  · refine ⟨⟨t, s, 0, 0, 20, true⟩, rfl, rfl, ⟨ht, hn4, ?_, ?_, (fun h => by cases h), rfl, hR'⟩, ?_⟩
    · intro i b h
      rcases em_inv h with ⟨_, _, _, h, _⟩ | ⟨h1, _, _, h | h, _⟩
      · cases h
      · cases h
      · have h : i < 20 := h; omega
    · intro i h1 h2 h3 h4
      have h4 : i ≤ 20 := by
        rcases h4 with h4 | h4
        · cases h4
        · exact h4
      have : i = 20 := by omega
      subst this
      exact ⟨fun h => absurd h hA.2, fun h => absurd rfl h⟩
    · have := upto_ok (upto_ok (b20_run e k c) t ht) (s - 2) (by omega)
      have hs2 : s - 2 + 2 = s := by omega
      simp only [hs2] at this
      exact this
  by_cases hB : 2 ≤ s - 1 ∧ ¬ (pk.e 21).may
  · have h20 : (pk.e 20).may := Classical.byContradiction fun h => hA ⟨by omega, h⟩
    refine ⟨⟨t, s, oB (pk.z 20) false, 0, 21, true⟩, rfl, rfl, ⟨ht, hn4, ?_, ?_, (fun h => by cases h), rfl, hR'⟩, ?_⟩
    · intro i b h
      rcases em_inv h with ⟨_, _, _, h, _⟩ | ⟨h1, _, _, h | h, hb⟩
      · cases h
      · cases h
      · have h : i < 21 := h
        have : i = 20 := by omega
        subst this
        rw [hb]
        have : bitB (oB (pk.z 20) false) (Nat.sub 20 20) = pk.z 20 := (oB1_ok _).2
        rw [this]
        exact z_iff pk 20
    · intro i h1 h2 h3 h4
      have : i = 20 ∨ i = 21 := by omega
      rcases this with rfl | rfl
      · exact ⟨(fun _ h => by cases h), fun _ => h20⟩
      · exact ⟨fun h => absurd h hB.2, fun h => absurd rfl h⟩
    · have := upto_ok (upto_ok (upto_ok (b21_run e k c) t ht) (s - 3) (by omega)) (oB (pk.z 20) false) (oB1_ok _).1
      have hs2 : s - 3 + 3 = s := by omega
      simp only [hs2] at this
      exact this
  have hmay : ∀ i, 20 ≤ i → i < 22 → i - 20 < s - 1 → (pk.e i).may := by
    intro i h1 h2 h3
    have : i = 20 ∨ i = 21 := by omega
    rcases this with rfl | rfl
    · exact Classical.byContradiction fun h => hA ⟨by omega, h⟩
    · exact Classical.byContradiction fun h => hB ⟨by omega, h⟩
  by_cases hC : ((base t s).new pk).may
  · refine ⟨⟨t, s, oOf pk (Nat.sub s 1), mOf pk t, 0, true⟩, rfl, rfl, ⟨ht, hn4, ?_, ?_, fun _ => ⟨fun _ => hC, fun _ => rfl⟩, rfl, hR'⟩, ?_⟩
    · intro i b h
      rcases em_inv h with ⟨h1, h2, _, _, hb⟩ | ⟨h1, h2, h3, _, hb⟩
      · rw [hb]
        have := mOf_ok pk ht h1 h2
        rw [this]
        exact z_iff pk i
      · rw [hb]
        have hh : bitB (oOf pk (Nat.sub s 1)) (Nat.sub i 20) = pk.z i := oOf_ok pk h1 h2 h3
        show bitB (oOf pk (Nat.sub s 1)) (Nat.sub i 20) = true ↔ _
        rw [hh]
        exact z_iff pk i
    · intro i h1 h2 h3 _
      exact ⟨(fun _ h => by have h : i = 0 := h; omega), fun _ => hmay i h1 h2 h3⟩
    · have hm : mOf pk t < 16 := (mB_ok _ _ _ _).1
      rcases hs5 with rfl | rfl | rfl | rfl | rfl
      · rcases ht3 with rfl | rfl | rfl
        · exact upto_ok (upto_ok (main0_run0 e k c) 0 (by decide)) _ hm
        · exact upto_ok (upto_ok (main1_run0 e k c) 0 (by decide)) _ hm
        · exact upto_ok (upto_ok (main2_run0 e k c) 0 (by decide)) _ hm
      · rcases ht3 with rfl | rfl | rfl
        · exact upto_ok (upto_ok (main0_run0 e k c) 1 (by decide)) _ hm
        · exact upto_ok (upto_ok (main1_run0 e k c) 1 (by decide)) _ hm
        · exact upto_ok (upto_ok (main2_run0 e k c) 1 (by decide)) _ hm
      · rcases ht3 with rfl | rfl | rfl
        · exact upto_ok (upto_ok (main0_run2 e k c) _ (oB1_ok (pk.z 20)).1) _ hm
        · exact upto_ok (upto_ok (main1_run2 e k c) _ (oB1_ok (pk.z 20)).1) _ hm
        · exact upto_ok (upto_ok (main2_run2 e k c) _ (oB1_ok (pk.z 20)).1) _ hm
      · rcases ht3 with rfl | rfl | rfl
        · exact upto_ok (upto_ok (main0_run3 e k c) _ (oB_ok (pk.z 20) (pk.z 21)).1) _ hm
        · exact upto_ok (upto_ok (main1_run3 e k c) _ (oB_ok (pk.z 20) (pk.z 21)).1) _ hm
        · exact upto_ok (upto_ok (main2_run3 e k c) _ (oB_ok (pk.z 20) (pk.z 21)).1) _ hm
      · rcases ht3 with rfl | rfl | rfl
        · exact upto_ok (upto_ok (main0_run4 e k c) _ (oB_ok (pk.z 20) (pk.z 21)).1) _ hm
        · exact upto_ok (upto_ok (main1_run4 e k c) _ (oB_ok (pk.z 20) (pk.z 21)).1) _ hm
        · exact upto_ok (upto_ok (main2_run4 e k c) _ (oB_ok (pk.z 20) (pk.z 21)).1) _ hm
  · refine ⟨⟨t, s, oOf pk (Nat.sub s 1), 0, 0, false⟩, rfl, rfl, ⟨ht, hn4, ?_, ?_, fun _ => ⟨(fun h => by cases h), fun h => absurd h hC⟩, rfl, hR'⟩, ?_⟩
    · intro i b h
      rcases em_inv h with ⟨_, _, h, _, hb⟩ | ⟨h1, h2, h3, _, hb⟩
      · cases h
      · rw [hb]
        have hh : bitB (oOf pk (Nat.sub s 1)) (Nat.sub i 20) = pk.z i := oOf_ok pk h1 h2 h3
        show bitB (oOf pk (Nat.sub s 1)) (Nat.sub i 20) = true ↔ _
        rw [hh]
        exact z_iff pk i
    · intro i h1 h2 h3 _
      exact ⟨(fun _ h => by have h : i = 0 := h; omega), fun _ => hmay i h1 h2 h3⟩
    · rcases hs5 with rfl | rfl | rfl | rfl | rfl
      · exact upto_ok (upto_ok (err_run0 e k c) t ht) 0 (by decide)
      · exact upto_ok (upto_ok (err_run0 e k c) t ht) 1 (by decide)
      · exact upto_ok (upto_ok (err_run2 e k c) t ht) _ (oB1_ok (pk.z 20)).1
      · exact upto_ok (upto_ok (upto_ok (err_run3 e k c) t ht) 0 (by decide)) _ (oB_ok (pk.z 20) (pk.z 21)).1
      · exact upto_ok (upto_ok (upto_ok (err_run3 e k c) t ht) 1 (by decide)) _ (oB_ok (pk.z 20) (pk.z 21)).1
end Go.Ex
open Go.Proofs
namespace Go.Ex

/-- a list of entries, as it came in -/
inductive ListIs (w : World) (a b : Ent) : Nat → Value → Prop
  | nil : ListIs w a b 0 (.slice none 0 0)
  | empty (ad : Addr) (c : Nat) : ad.spot = none → ListIs w a b 1 (.slice (some ad) 0 c)
  | one (ad : Addr) (c : Nat) {C : Array Value} {e : TypeId} {fz : Nat × Nat} : ad.spot = none → w.heap[ad.block]? = some (.cells C e fz) → (C.toList.drop ad.off).take 6 = a.cells → ListIs w a b 2 (.slice (some ad) 1 c)
  | two (ad : Addr) (c : Nat) {C : Array Value} {e : TypeId} {fz : Nat × Nat} : ad.spot = none → w.heap[ad.block]? = some (.cells C e fz) → (C.toList.drop ad.off).take 12 = a.cells ++ b.cells → ListIs w a b 3 (.slice (some ad) 2 c)
  | more (ad : Addr) (n c : Nat) {C : Array Value} {e : TypeId} {fz : Nat × Nat} : ad.spot = none → w.heap[ad.block]? = some (.cells C e fz) → (C.toList.drop ad.off).take 12 = a.cells ++ b.cells → ListIs w a b 4 (.slice (some ad) (n + 3) c)

/-- a read block beside nothing known -/
def ρL (r d q : Nat) : Rho := fun b => if b = 0 then some (0, 0, 20) else if b = 1 then some (r, d, q) else none
theorem list_rep [Val] {w : World} (hG : Val.G w) (h0 : 0 < w.heap.size) {r d N : Nat} {C : Array Value} {e : TypeId} {fz : Nat × Nat} {cs : List XV} {us : List Value}
    (hC : w.heap[r]? = some (.cells C e fz)) (hus : (C.toList.drop d).take N = us) (hN : us.length = N) (hpos : 0 < N) (hcs : cs.length = N)
    (hv : ∀ ρ, VRs ρ cs us) (hf : ∀ u ∈ us, flatV u = true) :
    Rep w (ρL r d (C.size - d)) ⟨(Tr.nil : Tr XB).set dep 1 (some (.cells e N cs false none 0 true)), 20⟩ w := by
  have hr : r < w.heap.size := (Array.getElem?_eq_some_iff.1 hC).1
  have hlen : N ≤ C.size - d := by
    rw [← hus] at hN
    simp at hN
    omega
  have hd : d + (C.size - d) = C.size := by omega
  have hρ : ∀ b x, ρL r d (C.size - d) b = some x → (b = 0 ∧ x = (0, 0, 20)) ∨ (b = 1 ∧ x = (r, d, C.size - d)) := by
    intro b x hb
    unfold ρL at hb
    split at hb
    · rename_i h; cases hb; exact .inl ⟨h, rfl⟩
    · split at hb
      · rename_i h; cases hb; exact .inr ⟨h, rfl⟩
      · cases hb
  have hg : ∀ b, ((Tr.nil : Tr XB).set dep 1 (some (.cells e N cs false none 0 true))).get b = if b = 1 then some (.cells e N cs false none 0 true) else none := by
    intro b
    rw [get_set_dep _ _ _ (by decide)]
    rfl
  refine ⟨Nat.le_refl _, fun _ _ => rfl, rfl, rfl, rfl, hG, ⟨20, rfl⟩, ?_, ?_, ?_, ?_⟩
  · intro b x hb
    rcases hρ b x hb with ⟨rfl, rfl⟩ | ⟨rfl, rfl⟩
    · exact ⟨by show 0 < 20; decide, h0⟩
    · exact ⟨by show 1 < 20; decide, hr⟩
  · intro b x r' d' q' hx hb
    rw [hg] at hx
    split at hx
    · rename_i h1
      subst h1
      cases hx
      rcases hρ 1 _ hb with ⟨h, _⟩ | ⟨_, h⟩
      · cases h
      · cases h
        refine ⟨hcs, hlen, C, fz.1, fz.2, hC, by omega, ?_, ⟨?_, fun h => by cases h⟩, (fun h => by cases h), fun h => by cases h⟩
        · rw [hus]; exact hv _
        · rw [hus]; exact hf
    · cases hx
  · intro b x r' d' q' hx hb hro
    rw [hg] at hx
    split at hx
    · cases hx; cases hro
    · cases hx
  · intro b b' x x' r' d' d'' q' q'' hne hx hx' _ _
    rw [hg] at hx hx'
    split at hx
    · rename_i h1
      split at hx'
      · rename_i h2; exact absurd (h1.trans h2.symm) hne
      · cases hx'
    · cases hx

theorem ent_cells_flat (e : Ent) : ∀ u ∈ e.cells, flatV u = true := by
  intro v hv
  simp only [Ent.cells, List.mem_cons, List.not_mem_nil, or_false] at hv
  rcases hv with rfl | rfl | rfl | rfl | rfl | rfl <;> rfl

theorem rows1 (p : Pth) (pk : Pkt) (ρ : Rho) : @VRs (pthVal p pk) ρ (entA 20) (pk.e 20).cells := entA_rows (k := 20) (by decide)
theorem rows2 (p : Pth) (pk : Pkt) (ρ : Rho) : @VRs (pthVal p pk) ρ (entA 20 ++ entA 21) ((pk.e 20).cells ++ (pk.e 21).cells) :=
  @VRs.append (pthVal p pk) ρ _ _ _ _ (entA_rows (k := 20) (by decide)) (entA_rows (k := 21) (by decide))
/-- the law's own walk, a tenant's lane -/
theorem in_calls (pk : Pkt) (hR : pk.R) {t : Nat} (ht : t < 3) {s : Nat} {lv : Value} {w : World} (hw : Tens w) (hl : ListIs w (pk.e 20) (pk.e 21) s lv) :
    Calls Tryz.prog 3 #[pk.val, .int .i64 (t : Int), lv] w fun x w' => ∃ v, x = .returned v ∧ v = .bool true ∧ Keeps w w' := by
  have main : ∀ (p : Pth) (e : TypeId) (k c : Nat) (ρ : Rho), p.t = t → POK p (named pk t s) → (runF p e k c).isSome = true → @Rep (pthVal p (named pk t s)) w ρ (p.E e) w → @VR (pthVal p (named pk t s)) ρ (p.list k c) lv →
      Calls Tryz.prog 3 #[pk.val, .int .i64 (t : Int), lv] w fun x w' => ∃ v, x = .returned v ∧ v = .bool true ∧ Keeps w w' := by
    intro p e k c ρ hpt hP hrun hRep hlv
    have hrun' : ((@callN (pthVal p (named pk t s)).toTab Tryz.prog levF 7 3 false).f (p.args k c) (p.E e) (kOne (.bool true))).isSome = true := by
      rw [pth_tab]; exact hrun
    have hr : @VR (pthVal p (named pk t s)) ρ (uaX 0) (.bool (named pk t s).rdy) := atomIs (sig_U _ _ 0 (by decide))
    have hpk : @VR (pthVal p (named pk t s)) ρ (pktX (uaX 0)) (named pk t s).val := pkt_val hr fun _ _ _ => rfl
    have hti : @VR (pthVal p (named pk t s)) ρ (.int .i64 (.ofNat p.t)) (.int .i64 (t : Int)) := by
      rw [hpt]; exact @VR.int (pthVal p (named pk t s)) _ _ _
    refine run_of (V := pthVal p (named pk t s)) (pth_ext hP) hrun' hRep (args := #[pk.val, .int .i64 (t : Int), lv]) (@VRs.cons (pthVal p (named pk t s)) _ _ _ _ _ hpk (@VRs.cons (pthVal p (named pk t s)) _ _ _ _ _ hti (@VRs.one (pthVal p (named pk t s)) _ _ _ hlv))) ?_
    intro x E' ρ' v r hx hv
    have := (@same_some (pthVal p (named pk t s)) _ _ _ _ hx).1
    subst this
    exact @VR.bool_inv (pthVal p (named pk t s)) _ _ _ hv
  cases hl with
  | nil =>
    obtain ⟨p, h1, h2, hP, hrun⟩ := path_of pk hR ht (s := 0) (by decide) 0 0 0
    refine main p 0 0 0 ρ0 h1 hP hrun ?_ ?_
    · have : p.E 0 = E1 := by unfold Pth.E; rw [h2]; rfl
      rw [this]
      exact @E1_rep (pthVal p (named pk t 0)) w hw hw.pos
    · have : p.list 0 0 = .sliceNil := by unfold Pth.list; rw [h2]; rfl
      rw [this]
      exact @VR.sliceNil (pthVal p (named pk t 0)) _
  | empty ad c hs =>
    obtain ⟨p, h1, h2, hP, hrun⟩ := path_of pk hR ht (s := 1) (by decide) 0 0 0
    refine main p 0 0 0 ρ0 h1 hP hrun ?_ ?_
    · have : p.E 0 = E1 := by unfold Pth.E; rw [h2]; rfl
      rw [this]
      exact @E1_rep (pthVal p (named pk t 1)) w hw hw.pos
    · have : p.list 0 0 = .sliceE := by unfold Pth.list; rw [h2]; rfl
      rw [this]
      exact @VR.sliceE (pthVal p (named pk t 1)) _ ad c hs
  | @one ad c C e fz hs hC hu =>
    obtain ⟨p, h1, h2, hP, hrun⟩ := path_of pk hR ht (s := 2) (by decide) e 0 c
    letI := pthVal p (named pk t 2)
    have hc : p.cells = entA 20 := by unfold Pth.cells; rw [h2]; rfl
    have hE : p.E e = ⟨(Tr.nil : Tr XB).set dep 1 (some (.cells e 6 (entA 20) false none 0 true)), 20⟩ := by unfold Pth.E; rw [h2, hc]; rfl
    refine main p e 0 c (ρL ad.block ad.off (C.size - ad.off)) h1 hP hrun ?_ ?_
    · rw [hE]
      exact list_rep hw hw.pos hC hu rfl (by decide) rfl (fun ρ => rows1 p (named pk t 2) ρ) (ent_cells_flat _)
    · have : p.list 0 c = .slice 1 0 1 c 0 := by unfold Pth.list; rw [h2]; rfl
      rw [this]
      have ha : ad = ⟨ad.block, ad.off + 0, none⟩ := by cases ad; cases hs; rfl
      rw [ha]
      exact VR.slice rfl (Nat.le_refl _) (fun _ => rfl) (fun h => absurd rfl h)
  | @two ad c C e fz hs hC hu =>
    obtain ⟨p, h1, h2, hP, hrun⟩ := path_of pk hR ht (s := 3) (by decide) e 0 c
    letI := pthVal p (named pk t 3)
    have hc : p.cells = entA 20 ++ entA 21 := by unfold Pth.cells; rw [h2]; exact appL_eq _ _
    have hE : p.E e = ⟨(Tr.nil : Tr XB).set dep 1 (some (.cells e 12 (entA 20 ++ entA 21) false none 0 true)), 20⟩ := by unfold Pth.E; rw [h2, hc]; rfl
    refine main p e 0 c (ρL ad.block ad.off (C.size - ad.off)) h1 hP hrun ?_ ?_
    · rw [hE]
      exact list_rep hw hw.pos hC hu rfl (by decide) rfl (fun ρ => rows2 p (named pk t 3) ρ) (fun u hu => by
        rcases List.mem_append.1 hu with h | h
        · exact ent_cells_flat _ u h
        · exact ent_cells_flat _ u h)
    · have : p.list 0 c = .slice 1 0 2 c 0 := by unfold Pth.list; rw [h2]; rfl
      rw [this]
      have ha : ad = ⟨ad.block, ad.off + 0, none⟩ := by cases ad; cases hs; rfl
      rw [ha]
      exact VR.slice rfl (Nat.le_refl _) (fun _ => rfl) (fun h => absurd rfl h)
  | @more ad n c C e fz hs hC hu =>
    obtain ⟨p, h1, h2, hP, hrun⟩ := path_of pk hR ht (s := 4) (by decide) e n c
    letI := pthVal p (named pk t 4)
    have hc : p.cells = entA 20 ++ entA 21 := by unfold Pth.cells; rw [h2]; exact appL_eq _ _
    have hE : p.E e = ⟨(Tr.nil : Tr XB).set dep 1 (some (.cells e 12 (entA 20 ++ entA 21) false none 0 true)), 20⟩ := by unfold Pth.E; rw [h2, hc]; rfl
    refine main p e n c (ρL ad.block ad.off (C.size - ad.off)) h1 hP hrun ?_ ?_
    · rw [hE]
      exact list_rep hw hw.pos hC hu rfl (by decide) rfl (fun ρ => rows2 p (named pk t 4) ρ) (fun u hu => by
        rcases List.mem_append.1 hu with h | h
        · exact ent_cells_flat _ u h
        · exact ent_cells_flat _ u h)
    · have : p.list n c = .slice 1 0 (n + 3) c 0 := by unfold Pth.list; rw [h2]; rfl
      rw [this]
      have ha : ad = ⟨ad.block, ad.off + 0, none⟩ := by cases ad; cases hs; rfl
      rw [ha]
      exact VR.slice rfl (Nat.le_refl _) (fun _ => rfl) (fun h => absurd rfl h)

/-- a tenant that there is none of -/
@[reducible] noncomputable def outVal (pk : Pkt) (neg : Bool) : Val := valN Tryz.prog w8 (outD neg) noQ' noL outF pk.n (pktU pk) (pktU_flat pk)
theorem out_tab (pk : Pkt) (neg : Bool) : (outVal pk neg).toTab = outT Tryz.prog neg := rfl
theorem out_calls (pk : Pkt) (hR : pk.R) {t : Int} (ht : t < 0 ∨ 2 < t) {lv : Value} (hlv : flatV lv = true) {w : World} (hw : Tens w) :
    Calls Tryz.prog 3 #[pk.val, .int .i64 t, lv] w fun x w' => ∃ v, x = .returned v ∧ v = .bool true ∧ Keeps w w' := by
  let pk' : Pkt := { pk with y := t }
  have hR' : pk'.R := ⟨hR.n, hR.e⟩
  let neg : Bool := decide (t < 0)
  have hy : sigN pk'.n (pktU pk') (Nat.add textFrom 501) = .int .i64 t := sig_U _ _ 501 (by decide)
  have hD : DecOK (outD neg) pk'.n (pktU pk') := by
    intro b i k n r h
    unfold outD at h
    split at h
    · split at h
      · rename_i hi
        cases h
        rw [Nat.eq_of_beq_eq_true hi, hy]
        exact ⟨t, rfl, rfl⟩
      · cases h
    · split at h
      · rename_i hi
        cases h
        rw [Bool.and_eq_true] at hi
        rw [Nat.eq_of_beq_eq_true hi.1, hy]
        refine ⟨t, rfl, ?_⟩
        have hn : neg = false := by
          have := hi.2
          cases hq : neg with
          | true => rw [hq] at this; cases this
          | false => rfl
        have : ¬ t < 0 := of_decide_eq_false hn
        have h2 : 2 < t := by omega
        simp only [cmpI, Option.some.injEq]
        exact decide_eq_true h2
      · cases h
    · cases h
  have hX : @ExtOK (outVal pk' neg) Tryz.prog := by
    refine @ext_ok (outVal pk' neg) (fun o g xs x ho hg ρ w ev hv => opN_ok (pc_num hR') hD (fun b t xs x _ hq => by cases hq) (fun i x hl => by cases hl) ho hg hv) ?_
    intro f g xs x hf hg ρ w args hw hv
    letI := outVal pk' neg
    have hf : outF f = some g := hf
    unfold outF at hf
    split at hf
    · cases hf
      obtain ⟨rfl, rfl⟩ := ansL_some hg
      have : args = #[] := Array.toList_inj.1 (List.eq_nil_of_length_eq_zero hv.1.symm)
      subst this
      refine (live_calls hw).mono ?_
      rintro o w' ⟨v, rfl, rfl, hk⟩
      exact ⟨_, rfl, VR.bool _, hk⟩
    · cases hf
  have hrun : ((@callN (outVal pk' neg).toTab Tryz.prog levF 7 3 false).f [pktX (uaX 0), uaX 501, .unk] E1 (kOne (.bool true))).isSome = true := by
    rw [out_tab]; exact out_run neg
  have hr : @VR (outVal pk' neg) ρ0 (uaX 0) (.bool pk'.rdy) := atomIs (sig_U _ _ 0 (by decide))
  have hpk : @VR (outVal pk' neg) ρ0 (pktX (uaX 0)) pk'.val := pkt_val hr fun _ _ _ => rfl
  have hti : @VR (outVal pk' neg) ρ0 (uaX 501) (.int .i64 t) := atomIs hy
  have hlv' : @VR (outVal pk' neg) ρ0 .unk lv := @VR.unk (outVal pk' neg) _ _ hlv
  refine run_of (V := outVal pk' neg) hX hrun (@E1_rep (outVal pk' neg) w hw hw.pos) (args := #[pk.val, .int .i64 t, lv]) (@VRs.cons (outVal pk' neg) _ _ _ _ _ hpk (@VRs.cons (outVal pk' neg) _ _ _ _ _ hti (@VRs.one (outVal pk' neg) _ _ _ hlv'))) ?_
  intro x E' ρ' v r hx hv
  have := (@same_some (outVal pk' neg) _ _ _ _ hx).1
  subst this
  exact @VR.bool_inv (outVal pk' neg) _ _ _ hv

/-- congresstop.TopEntries -/
theorem entries_calls (pk : Pkt) (hR : pk.R) (t : Int) {s : Nat} {lv : Value} {w : World} (hw : Tens w) (hl : ListIs w (pk.e 20) (pk.e 21) s lv) :
    Calls Tryz.prog 3 #[pk.val, .int .i64 t, lv] w fun x w' => ∃ v, x = .returned v ∧ v = .bool true ∧ Keeps w w' := by
  by_cases ht : 0 ≤ t ∧ t ≤ 2
  · obtain ⟨n, rfl⟩ : ∃ n : Nat, t = (n : Int) := ⟨t.toNat, by omega⟩
    exact in_calls pk hR (by omega) hw hl
  · refine out_calls pk hR (by omega) ?_ hw
    cases hl <;> rfl
end Go.Ex
