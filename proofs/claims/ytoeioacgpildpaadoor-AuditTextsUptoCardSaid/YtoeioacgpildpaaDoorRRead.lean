/- The document's Read and Text, in plain words. -/
import Derived.Test.YtoeioacgpildpaaDoorReadPlain
set_option linter.unusedVariables false
set_option linter.unusedSimpArgs false
namespace Go.Proofs.YtoeioacgpildpaaDoor
open Go.Proofs Go.Shelf Go.RowKit Go.Proofs.YtoeioacgpildpaaDoorW.PrintWords Go.Proofs.YtoeioacgpildpaaDoorW.PrintLast Go.Proofs.YtoeioacgpildpaaDoorW.PrintMore
open Go.Proofs.YtoeioacgpildpaaDoor.P (S27 k27 z27 rd_T27)
def readR (o : Option (List S27)) : List S27 × Bool := match o with | some xs => (xs, true) | none => ([], false)
theorem rread_l0 (l : List UInt8) (hl : l.length ≤ 1000000000) (o : Option (List S27)) (ho : IsRead l o) : ∀ (n i f : Nat) (xs : List S27), i + n = l.length → f ≤ i → (∀ x ∈ xs, FitsR x) → l = textR xs ++ l.drop f → f = (textR xs).length → (10 : UInt8) ∉ (l.drop f).take (i - f) →
    Ev (fun k => P.congressref20_Read.l0 k (bsA l) xs (f : Int) (i : Int)) (readR o)
  | 0, i, f, xs, hi, hf, hx, ht, hfl, hn => by
    have hxl := textR_length xs
    by_cases hfe : f = l.length
    · have htx : textR xs = l := by rw [hfe, List.drop_length, List.append_nil] at ht; exact ht.symm
      have hO := isRead_text ho hx htx
      have hC : Ev (fun k => P.congressref20_Check.f k xs) (checkL xs) := Ev.of (fun k => P.congressref20_Check.mono _ k) (rcheck_f xs (by omega))
      refine Ev.step (f := fun k => (P.congressref20_Check.f k xs).bind fun t227 => (if t227 = true then (some (xs, true)) else (some (([] : List S27), false)))) (fun k => by rw [P.congressref20_Read.l0, bsA_size, if_neg (by omega), if_pos (by omega)]) ?_
      refine Ev.bind hC ?_
      cases hq : checkL xs with
      | true => rw [hq, if_pos rfl] at hO; rw [hO]; exact ev_pos rfl (Ev.now _)
      | false => rw [hq, if_neg Bool.false_ne_true] at hO; rw [hO]; exact ev_neg Bool.false_ne_true (Ev.now _)
    · have hne : l.drop f ≠ [] := by
        intro h
        have := congrArg List.length h
        rw [List.length_drop, List.length_nil] at this
        omega
      rw [List.take_of_length_le (by rw [List.length_drop]; omega)] at hn
      have hO := isRead_fail ho (text_fail2 hx ht hn hne)
      rw [hO]
      exact Ev.step (f := fun _ => some (([] : List S27), false)) (fun k => by rw [P.congressref20_Read.l0, bsA_size, if_neg (by omega), if_neg (by omega)]) (Ev.now _)
  | n + 1, i, f, xs, hi, hf, hx, ht, hfl, hn => by
    have hxl := textR_length xs
    have hw : wrap64 ((i : Int) + 1) = ((i + 1 : Nat) : Int) := by unfold wrap64; omega
    have hb := bt_nat (bsA l) i (by rw [bsA_size]; omega)
    rw [bsA_data] at hb
    have hd : l.drop i = l.getD i 0 :: l.drop (i + 1) := by
      rw [List.drop_eq_getElem_cons (by omega), List.getD_eq_getElem?_getD, List.getElem?_eq_getElem (by omega)]; rfl
    have hsp : l.drop f = (l.drop f).take (i - f) ++ l.getD i 0 :: l.drop (i + 1) := by
      have h2 : (l.drop f).drop (i - f) = l.drop i := by rw [List.drop_drop]; congr 1; omega
      rw [← hd, ← h2, List.take_append_drop]
    have htk : (l.drop f).take (i + 1 - f) = (l.drop f).take (i - f) ++ [l.getD i 0] := by
      have hpl : ((l.drop f).take (i - f)).length = i - f := by rw [List.length_take, List.length_drop]; omega
      have e1 : i + 1 - f = ((l.drop f).take (i - f) ++ [l.getD i 0]).length := by rw [List.length_append, hpl, List.length_singleton]; omega
      conv => lhs; rw [hsp, e1]
      rw [show (l.drop f).take (i - f) ++ l.getD i 0 :: l.drop (i + 1) = ((l.drop f).take (i - f) ++ [l.getD i 0]) ++ l.drop (i + 1) from by simp, List.take_left]
    obtain ⟨p, hp⟩ : ∃ p, (l.drop f).take (i - f) = p := ⟨_, rfl⟩
    rw [hp] at hn hsp htk
    by_cases h10 : l.getD i 0 = 10
    · have h10' : ((l.getD i 0).toNat : Int) = 10 := by rw [h10]; rfl
      rw [h10] at hsp htk
      have hc : cut1 10 (l.drop f) = (p, l.drop (i + 1), true) := by rw [hsp]; exact cut1_at10 hn
      obtain ⟨o1, ho1⟩ := isParse_ex (p ++ [10])
      have hpl : (p ++ [10]).length ≤ 1000000000 := by rw [← htk, List.length_take, List.length_drop]; omega
      have EP := rparse_ev (p ++ [10]) hpl o1 ho1
      have hex : (bsA l).extract f (i + 1) = bsA (p ++ [10]) := by rw [extract_bs, bsA_data, htk]
      refine Ev.step (f := fun k => (P.congressref20_Parse.f k (bsA (p ++ [10]))).bind fun bt228 => (if bt228.2.2.2.2 = true then (if xs.length < 3518437208883 then (P.congressref20_Read.l0 k (bsA l) (xs ++ [(⟨bt228.1, bt228.2.1, bt228.2.2.1, bt228.2.2.2.1⟩ : S27)]) ((i + 1 : Nat) : Int) ((i + 1 : Nat) : Int)) else (none)) else (some (([] : List S27), false)))) (fun k => by
        rw [P.congressref20_Read.l0, bsA_size, if_pos (by omega), if_pos (by omega), hb, if_pos h10', if_pos (by omega), hw, if_pos (by omega), if_pos (by omega), Int.toNat_natCast, Int.toNat_natCast, hex]) ?_
      refine Ev.bind EP ?_
      cases o1 with
      | none =>
        have hO := isRead_fail ho (text_fail hx ht hc ho1)
        rw [hO]
        exact ev_neg Bool.false_ne_true (Ev.now _)
      | some y =>
        refine ev_pos rfl (ev_pos (by omega) ?_)
        have ht2 : textR (xs ++ [y]) = textR xs ++ (p ++ [10]) := by rw [textR_snoc, ho1.2]
        have hpf : p.length = i - f := by rw [← hp, List.length_take, List.length_drop]; omega
        refine rread_l0 l hl o ho n (i + 1) (i + 1) (xs ++ [y]) (by omega) (Nat.le_refl _) ?_ ?_ ?_ ?_
        · intro z hz
          rcases List.mem_append.1 hz with h | h
          · exact hx z h
          · rw [List.mem_singleton] at h; rw [h]; exact ho1.1
        · rw [ht2]
          conv => lhs; rw [ht, hsp]
          simp
        · rw [ht2, List.length_append, List.length_append, List.length_singleton, hpf]
          omega
        · rw [Nat.sub_self, List.take_zero]
          simp
    · have h10' : ¬ ((l.getD i 0).toNat : Int) = 10 := fun e => h10 (UInt8.toNat_inj.1 (by show (l.getD i 0).toNat = 10; omega))
      refine Ev.step (f := fun k => P.congressref20_Read.l0 k (bsA l) xs (f : Int) ((i + 1 : Nat) : Int)) (fun k => by
        rw [P.congressref20_Read.l0, bsA_size, if_pos (by omega), if_pos (by omega), hb, if_neg h10', hw]) ?_
      refine rread_l0 l hl o ho n (i + 1) f xs (by omega) (by omega) hx ht hfl ?_
      rw [htk]
      intro h
      rcases List.mem_append.1 h with h | h
      · exact hn h
      · rw [List.mem_singleton] at h; exact h10 h.symm
theorem rread_ev (l : List UInt8) (hl : l.length ≤ 1000000000) (o : Option (List S27)) (ho : IsRead l o) : Ev (fun k => P.congressref20_Read.f k (bsA l)) (readR o) := by
  have := rread_l0 l hl o ho l.length 0 0 [] (Nat.zero_add _) (Nat.le_refl _) (fun x hx => (List.not_mem_nil hx).elim) (by rw [textR_nil, List.drop_zero, List.nil_append]) rfl (by simp)
  exact this
theorem rline_ev (x : S27) (h : FitsR x) : Ev (fun k => P.congressref20_Line.f k x.f0 x.f1 x.f2 x.f3) (bsA (lineR x)) := by
  obtain ⟨h0, h1, h2, h3, h4, h5, h6⟩ := h
  have := line_ev x.f0.toNat x.f1.toNat x.f3 x.f2 (by omega) (by omega) h4 h5 h6
  have g0 : ((x.f0.toNat : Nat) : Int) = x.f0 := by omega
  have g1 : ((x.f1.toNat : Nat) : Int) = x.f1 := by omega
  rw [g0, g1] at this
  exact this
theorem rtext_l0 (l : List S27) (hf : ∀ x ∈ l, FitsR x) (hl : (textR l).length ≤ 140737488355328) : ∀ (n i : Nat), i + n = l.length →
    Ev (fun k => P.congressref20_Text.l0 k l (bsA (textR (l.take i))) (i : Int)) (bsA (textR l))
  | 0, i, hi => by
    rw [List.take_of_length_le (by omega)]
    exact Ev.step (f := fun _ => some (bsA (textR l))) (fun k => by rw [P.congressref20_Text.l0, if_neg (by omega)]) (Ev.now _)
  | n + 1, i, hi => by
    have hll := textR_length l
    have hw : wrap64 ((i : Int) + 1) = ((i + 1 : Nat) : Int) := by unfold wrap64; omega
    have hm : l.getD i z27 ∈ l := by
      rw [List.getD_eq_getElem?_getD, List.getElem?_eq_getElem (by omega)]
      exact List.getElem_mem _
    have EL := rline_ev _ (hf _ hm)
    have htk := textR_take (l := l) (i := i) (by omega)
    have hle := textR_le l (i + 1)
    rw [htk, List.length_append] at hle
    refine Ev.step (f := fun k => (P.congressref20_Line.f k (l.getD i z27).f0 (l.getD i z27).f1 (l.getD i z27).f2 (l.getD i z27).f3).bind fun t238 => (if (bsA (textR (l.take i))).size + t238.size ≤ 9223372036854775807 then (P.congressref20_Text.l0 k l (bsA (textR (l.take i)) ++ t238) ((i + 1 : Nat) : Int)) else (none))) (fun k => by
      rw [P.congressref20_Text.l0, if_pos (by omega), if_pos (by omega), rd_nat, hw]) ?_
    refine Ev.bind EL (ev_pos (by rw [bsA_size, bsA_size]; omega) ?_)
    rw [bsA_app, ← htk]
    exact rtext_l0 l hf hl n (i + 1) (by omega)
theorem rtext_ev (l : List S27) (hf : ∀ x ∈ l, FitsR x) (hl : (textR l).length ≤ 140737488355328) : Ev (fun k => P.congressref20_Text.f k l) (bsA (textR l)) := rtext_l0 l hf hl l.length 0 (Nat.zero_add _)
end Go.Proofs.YtoeioacgpildpaaDoor
