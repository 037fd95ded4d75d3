-- Written by a program of this session (wip/pprint.sh), out of the translation's own print. Not trusted: Lean checks it.
import Derived.Test.YtoeioacgpildpaaDoorP0
import Derived.Test.YtoeioacgpildpaaDoorP4
import Derived.Test.YtoeioacgpildpaaDoorQuoted
namespace Go.Proofs.YtoeioacgpildpaaDoor.P
open Go.RowKit Go.Proofs.YtoeioacgpildpaaDoorW.PrintWords Go.Proofs.YtoeioacgpildpaaDoorW.PrintLast Go.Proofs.YtoeioacgpildpaaDoorW.PrintMore
attribute [local go_sem] max2_int min2_int max_two min_two max_three min_three max_four min_four   -- for this text's walks alone
set_option linter.unusedVariables false
set_option linter.unusedSimpArgs false

/-! ### congressref20_Line: function 22 -/
def congressref20_Line.f (k : Nat) (a0_0 : Int) (a0_1 : Int) (a0_2 : ByteArray) (a0_3 : Int) : Option (ByteArray) := (congressref20_Digits.f k a0_0).bind fun t182 => (if t182.size + 1 ≤ 9223372036854775807 then ((congressref20_Digits.f k (IntKind.u64.wrap (a0_1))).bind fun t183 => (if (t182 ++ (⟨#[32]⟩ : ByteArray)).size + t183.size ≤ 9223372036854775807 then (if ((t182 ++ (⟨#[32]⟩ : ByteArray)) ++ t183).size + 1 ≤ 9223372036854775807 then ((congressref20_Signed.f k a0_3).bind fun t184 => (if (((t182 ++ (⟨#[32]⟩ : ByteArray)) ++ t183) ++ (⟨#[32]⟩ : ByteArray)).size + t184.size ≤ 9223372036854775807 then (if ((((t182 ++ (⟨#[32]⟩ : ByteArray)) ++ t183) ++ (⟨#[32]⟩ : ByteArray)) ++ t184).size + 2 ≤ 9223372036854775807 then ((congressref20_Quoted.f k a0_2).bind fun t185 => (if (((((t182 ++ (⟨#[32]⟩ : ByteArray)) ++ t183) ++ (⟨#[32]⟩ : ByteArray)) ++ t184) ++ (⟨#[32, 34]⟩ : ByteArray)).size + t185.size ≤ 9223372036854775807 then (if ((((((t182 ++ (⟨#[32]⟩ : ByteArray)) ++ t183) ++ (⟨#[32]⟩ : ByteArray)) ++ t184) ++ (⟨#[32, 34]⟩ : ByteArray)) ++ t185).size + 2 ≤ 9223372036854775807 then (some (((((((t182 ++ (⟨#[32]⟩ : ByteArray)) ++ t183) ++ (⟨#[32]⟩ : ByteArray)) ++ t184) ++ (⟨#[32, 34]⟩ : ByteArray)) ++ t185) ++ (⟨#[34, 10]⟩ : ByteArray))) else (none)) else (none))) else (none)) else (none))) else (none)) else (none))) else (none))
theorem congressref20_Line.mono : ∀ a0 a1 a2 a3 k, LeO (congressref20_Line.f k a0 a1 a2 a3) (congressref20_Line.f (k + 1) a0 a1 a2 a3) := by
  intro a0 a1 a2 a3 k
  unfold congressref20_Line.f
  repeat' first
      | (with_reducible exact congressref20_Digits.mono _ _)
      | (with_reducible exact congressref20_Quoted.mono _ _)
      | (with_reducible exact congressref20_Signed.mono _ _)
      | (with_reducible exact LeO.refl _)
      | (with_reducible exact LeO.none _)
      | (with_reducible refine LeO.ite ?_ ?_)
      | (with_reducible refine LeO.bind ?_ (fun _ => ?_))
      | exact congressref20_Digits.mono _ _
      | exact congressref20_Quoted.mono _ _
      | exact congressref20_Signed.mono _ _
      | exact LeO.none _
      | refine LeO.ite ?_ ?_
      | refine LeO.bind ?_ (fun _ => ?_)
def congressref20_Line.T1 : Bool × List (List Nat × List Nat) := (true, [([], []), ([0], [0]), ([1], [1]), ([2], [2]), ([], []), ([4], [4]), ([5], [5]), ([6, 2], [6]), ([3, 7], [3, 7]), ([8], [8]), ([], []), ([10], [10]), ([11, 7], [11]), ([9, 12], [9, 12]), ([13], [13]), ([], []), ([15], [15]), ([16, 12], [16]), ([14, 17], [14, 17]), ([18], [18]), ([19, 17, 0, 1, 2, 3, 4, 5, 6, 7, 8, 9, 10, 11, 12, 13, 14, 15, 16, 17, 18, 19], [19])])
def congressref20_Line.B1 : List Nat := [0, 1, 3, 7, 0, 16, 48, 119, 255, 511, 0, 1024, 3319, 8191, 16383, 0, 32768, 105719, 262143, 524287, 1048575]
theorem congressref20_Line.tab1 : rtab .any (opsOf Tryd.f22 1) = congressref20_Line.T1 := by kernel_rfl
theorem congressref20_Line.bits1 : waitsOk congressref20_Line.T1.2 congressref20_Line.B1 = true := by kernel_rfl
set_option maxHeartbeats 8000000 in
set_option maxRecDepth 100000 in
theorem congressref20_Line.calls (k : Nat) (a0_0 : Int) (a0_1 : Int) (a0_2 : ByteArray) (a0_3 : Int) (r : ByteArray) (w : World) (h : congressref20_Line.f k a0_0 a0_1 a0_2 a0_3 = some r) :
    Calls Tryd.prog 22 #[.agg #[.int .u64 a0_0, .int .u32 a0_1, .string a0_2, .int .i64 a0_3]] w fun e w' => e = .returned (.string r) ∧ Below w.heap.size w w' := by
  have hu27 := Tryd.underlying27
  have HB := Aside0.mk (Below.refl w.heap.size w)
  have H : ((congressref20_Digits.f k a0_0).bind fun t182 => (if t182.size + 1 ≤ 9223372036854775807 then ((congressref20_Digits.f k (IntKind.u64.wrap (a0_1))).bind fun t183 => (if (t182 ++ (⟨#[32]⟩ : ByteArray)).size + t183.size ≤ 9223372036854775807 then (if ((t182 ++ (⟨#[32]⟩ : ByteArray)) ++ t183).size + 1 ≤ 9223372036854775807 then ((congressref20_Signed.f k a0_3).bind fun t184 => (if (((t182 ++ (⟨#[32]⟩ : ByteArray)) ++ t183) ++ (⟨#[32]⟩ : ByteArray)).size + t184.size ≤ 9223372036854775807 then (if ((((t182 ++ (⟨#[32]⟩ : ByteArray)) ++ t183) ++ (⟨#[32]⟩ : ByteArray)) ++ t184).size + 2 ≤ 9223372036854775807 then ((congressref20_Quoted.f k a0_2).bind fun t185 => (if (((((t182 ++ (⟨#[32]⟩ : ByteArray)) ++ t183) ++ (⟨#[32]⟩ : ByteArray)) ++ t184) ++ (⟨#[32, 34]⟩ : ByteArray)).size + t185.size ≤ 9223372036854775807 then (if ((((((t182 ++ (⟨#[32]⟩ : ByteArray)) ++ t183) ++ (⟨#[32]⟩ : ByteArray)) ++ t184) ++ (⟨#[32, 34]⟩ : ByteArray)) ++ t185).size + 2 ≤ 9223372036854775807 then (some (((((((t182 ++ (⟨#[32]⟩ : ByteArray)) ++ t183) ++ (⟨#[32]⟩ : ByteArray)) ++ t184) ++ (⟨#[32, 34]⟩ : ByteArray)) ++ t185) ++ (⟨#[34, 10]⟩ : ByteArray))) else (none)) else (none))) else (none)) else (none))) else (none)) else (none))) else (none))) = some r := h
  clear h
  replace H := Option.bind_eq_some_iff.mp H
  obtain ⟨t182, A20, H⟩ := H
  replace H : (if t182.size + 1 ≤ 9223372036854775807 then ((congressref20_Digits.f k (IntKind.u64.wrap (a0_1))).bind fun t183 => (if (t182 ++ (⟨#[32]⟩ : ByteArray)).size + t183.size ≤ 9223372036854775807 then (if ((t182 ++ (⟨#[32]⟩ : ByteArray)) ++ t183).size + 1 ≤ 9223372036854775807 then ((congressref20_Signed.f k a0_3).bind fun t184 => (if (((t182 ++ (⟨#[32]⟩ : ByteArray)) ++ t183) ++ (⟨#[32]⟩ : ByteArray)).size + t184.size ≤ 9223372036854775807 then (if ((((t182 ++ (⟨#[32]⟩ : ByteArray)) ++ t183) ++ (⟨#[32]⟩ : ByteArray)) ++ t184).size + 2 ≤ 9223372036854775807 then ((congressref20_Quoted.f k a0_2).bind fun t185 => (if (((((t182 ++ (⟨#[32]⟩ : ByteArray)) ++ t183) ++ (⟨#[32]⟩ : ByteArray)) ++ t184) ++ (⟨#[32, 34]⟩ : ByteArray)).size + t185.size ≤ 9223372036854775807 then (if ((((((t182 ++ (⟨#[32]⟩ : ByteArray)) ++ t183) ++ (⟨#[32]⟩ : ByteArray)) ++ t184) ++ (⟨#[32, 34]⟩ : ByteArray)) ++ t185).size + 2 ≤ 9223372036854775807 then (some (((((((t182 ++ (⟨#[32]⟩ : ByteArray)) ++ t183) ++ (⟨#[32]⟩ : ByteArray)) ++ t184) ++ (⟨#[32, 34]⟩ : ByteArray)) ++ t185) ++ (⟨#[34, 10]⟩ : ByteArray))) else (none)) else (none))) else (none)) else (none))) else (none)) else (none))) else (none)) = some r := H
  have A2 := Aside0.mk A20
  clear A20
  by_cases c3 : t182.size + 1 ≤ 9223372036854775807
  · rw [if_pos c3] at H
    have c3b0 := eq_true c3
    have c3b1 : decide (t182.size + 1 ≤ 9223372036854775807) = true := decide_eq_true c3
    try have c3b2 : (9223372036854775807 < t182.size + 1) = False := eq_false (Nat.not_lt.2 c3)
    replace H := Option.bind_eq_some_iff.mp H
    obtain ⟨t183, A40, H⟩ := H
    replace H : (if (t182 ++ (⟨#[32]⟩ : ByteArray)).size + t183.size ≤ 9223372036854775807 then (if ((t182 ++ (⟨#[32]⟩ : ByteArray)) ++ t183).size + 1 ≤ 9223372036854775807 then ((congressref20_Signed.f k a0_3).bind fun t184 => (if (((t182 ++ (⟨#[32]⟩ : ByteArray)) ++ t183) ++ (⟨#[32]⟩ : ByteArray)).size + t184.size ≤ 9223372036854775807 then (if ((((t182 ++ (⟨#[32]⟩ : ByteArray)) ++ t183) ++ (⟨#[32]⟩ : ByteArray)) ++ t184).size + 2 ≤ 9223372036854775807 then ((congressref20_Quoted.f k a0_2).bind fun t185 => (if (((((t182 ++ (⟨#[32]⟩ : ByteArray)) ++ t183) ++ (⟨#[32]⟩ : ByteArray)) ++ t184) ++ (⟨#[32, 34]⟩ : ByteArray)).size + t185.size ≤ 9223372036854775807 then (if ((((((t182 ++ (⟨#[32]⟩ : ByteArray)) ++ t183) ++ (⟨#[32]⟩ : ByteArray)) ++ t184) ++ (⟨#[32, 34]⟩ : ByteArray)) ++ t185).size + 2 ≤ 9223372036854775807 then (some (((((((t182 ++ (⟨#[32]⟩ : ByteArray)) ++ t183) ++ (⟨#[32]⟩ : ByteArray)) ++ t184) ++ (⟨#[32, 34]⟩ : ByteArray)) ++ t185) ++ (⟨#[34, 10]⟩ : ByteArray))) else (none)) else (none))) else (none)) else (none))) else (none)) else (none)) = some r := H
    have A4 := Aside0.mk A40
    clear A40
    by_cases c5 : (t182 ++ (⟨#[32]⟩ : ByteArray)).size + t183.size ≤ 9223372036854775807
    · rw [if_pos c5] at H
      have c5b0 := eq_true c5
      have c5b1 : decide ((t182 ++ (⟨#[32]⟩ : ByteArray)).size + t183.size ≤ 9223372036854775807) = true := decide_eq_true c5
      try have c5b2 : (9223372036854775807 < (t182 ++ (⟨#[32]⟩ : ByteArray)).size + t183.size) = False := eq_false (Nat.not_lt.2 c5)
      by_cases c6 : ((t182 ++ (⟨#[32]⟩ : ByteArray)) ++ t183).size + 1 ≤ 9223372036854775807
      · rw [if_pos c6] at H
        have c6b0 := eq_true c6
        have c6b1 : decide (((t182 ++ (⟨#[32]⟩ : ByteArray)) ++ t183).size + 1 ≤ 9223372036854775807) = true := decide_eq_true c6
        try have c6b2 : (9223372036854775807 < ((t182 ++ (⟨#[32]⟩ : ByteArray)) ++ t183).size + 1) = False := eq_false (Nat.not_lt.2 c6)
        replace H := Option.bind_eq_some_iff.mp H
        obtain ⟨t184, A70, H⟩ := H
        replace H : (if (((t182 ++ (⟨#[32]⟩ : ByteArray)) ++ t183) ++ (⟨#[32]⟩ : ByteArray)).size + t184.size ≤ 9223372036854775807 then (if ((((t182 ++ (⟨#[32]⟩ : ByteArray)) ++ t183) ++ (⟨#[32]⟩ : ByteArray)) ++ t184).size + 2 ≤ 9223372036854775807 then ((congressref20_Quoted.f k a0_2).bind fun t185 => (if (((((t182 ++ (⟨#[32]⟩ : ByteArray)) ++ t183) ++ (⟨#[32]⟩ : ByteArray)) ++ t184) ++ (⟨#[32, 34]⟩ : ByteArray)).size + t185.size ≤ 9223372036854775807 then (if ((((((t182 ++ (⟨#[32]⟩ : ByteArray)) ++ t183) ++ (⟨#[32]⟩ : ByteArray)) ++ t184) ++ (⟨#[32, 34]⟩ : ByteArray)) ++ t185).size + 2 ≤ 9223372036854775807 then (some (((((((t182 ++ (⟨#[32]⟩ : ByteArray)) ++ t183) ++ (⟨#[32]⟩ : ByteArray)) ++ t184) ++ (⟨#[32, 34]⟩ : ByteArray)) ++ t185) ++ (⟨#[34, 10]⟩ : ByteArray))) else (none)) else (none))) else (none)) else (none)) = some r := H
        have A7 := Aside0.mk A70
        clear A70
        by_cases c8 : (((t182 ++ (⟨#[32]⟩ : ByteArray)) ++ t183) ++ (⟨#[32]⟩ : ByteArray)).size + t184.size ≤ 9223372036854775807
        · rw [if_pos c8] at H
          have c8b0 := eq_true c8
          have c8b1 : decide ((((t182 ++ (⟨#[32]⟩ : ByteArray)) ++ t183) ++ (⟨#[32]⟩ : ByteArray)).size + t184.size ≤ 9223372036854775807) = true := decide_eq_true c8
          try have c8b2 : (9223372036854775807 < (((t182 ++ (⟨#[32]⟩ : ByteArray)) ++ t183) ++ (⟨#[32]⟩ : ByteArray)).size + t184.size) = False := eq_false (Nat.not_lt.2 c8)
          by_cases c9 : ((((t182 ++ (⟨#[32]⟩ : ByteArray)) ++ t183) ++ (⟨#[32]⟩ : ByteArray)) ++ t184).size + 2 ≤ 9223372036854775807
          · rw [if_pos c9] at H
            have c9b0 := eq_true c9
            have c9b1 : decide (((((t182 ++ (⟨#[32]⟩ : ByteArray)) ++ t183) ++ (⟨#[32]⟩ : ByteArray)) ++ t184).size + 2 ≤ 9223372036854775807) = true := decide_eq_true c9
            try have c9b2 : (9223372036854775807 < ((((t182 ++ (⟨#[32]⟩ : ByteArray)) ++ t183) ++ (⟨#[32]⟩ : ByteArray)) ++ t184).size + 2) = False := eq_false (Nat.not_lt.2 c9)
            replace H := Option.bind_eq_some_iff.mp H
            obtain ⟨t185, A100, H⟩ := H
            replace H : (if (((((t182 ++ (⟨#[32]⟩ : ByteArray)) ++ t183) ++ (⟨#[32]⟩ : ByteArray)) ++ t184) ++ (⟨#[32, 34]⟩ : ByteArray)).size + t185.size ≤ 9223372036854775807 then (if ((((((t182 ++ (⟨#[32]⟩ : ByteArray)) ++ t183) ++ (⟨#[32]⟩ : ByteArray)) ++ t184) ++ (⟨#[32, 34]⟩ : ByteArray)) ++ t185).size + 2 ≤ 9223372036854775807 then (some (((((((t182 ++ (⟨#[32]⟩ : ByteArray)) ++ t183) ++ (⟨#[32]⟩ : ByteArray)) ++ t184) ++ (⟨#[32, 34]⟩ : ByteArray)) ++ t185) ++ (⟨#[34, 10]⟩ : ByteArray))) else (none)) else (none)) = some r := H
            have A10 := Aside0.mk A100
            clear A100
            by_cases c11 : (((((t182 ++ (⟨#[32]⟩ : ByteArray)) ++ t183) ++ (⟨#[32]⟩ : ByteArray)) ++ t184) ++ (⟨#[32, 34]⟩ : ByteArray)).size + t185.size ≤ 9223372036854775807
            · rw [if_pos c11] at H
              have c11b0 := eq_true c11
              have c11b1 : decide ((((((t182 ++ (⟨#[32]⟩ : ByteArray)) ++ t183) ++ (⟨#[32]⟩ : ByteArray)) ++ t184) ++ (⟨#[32, 34]⟩ : ByteArray)).size + t185.size ≤ 9223372036854775807) = true := decide_eq_true c11
              try have c11b2 : (9223372036854775807 < (((((t182 ++ (⟨#[32]⟩ : ByteArray)) ++ t183) ++ (⟨#[32]⟩ : ByteArray)) ++ t184) ++ (⟨#[32, 34]⟩ : ByteArray)).size + t185.size) = False := eq_false (Nat.not_lt.2 c11)
              by_cases c12 : ((((((t182 ++ (⟨#[32]⟩ : ByteArray)) ++ t183) ++ (⟨#[32]⟩ : ByteArray)) ++ t184) ++ (⟨#[32, 34]⟩ : ByteArray)) ++ t185).size + 2 ≤ 9223372036854775807
              · rw [if_pos c12] at H
                have c12b0 := eq_true c12
                have c12b1 : decide (((((((t182 ++ (⟨#[32]⟩ : ByteArray)) ++ t183) ++ (⟨#[32]⟩ : ByteArray)) ++ t184) ++ (⟨#[32, 34]⟩ : ByteArray)) ++ t185).size + 2 ≤ 9223372036854775807) = true := decide_eq_true c12
                try have c12b2 : (9223372036854775807 < ((((((t182 ++ (⟨#[32]⟩ : ByteArray)) ++ t183) ++ (⟨#[32]⟩ : ByteArray)) ++ t184) ++ (⟨#[32, 34]⟩ : ByteArray)) ++ t185).size + 2) = False := eq_false (Nat.not_lt.2 c12)
                obtain rfl := Option.some.inj H
                have c5b2z := c5b2
                simp only [ByteArray.size_append, sz1, sz2] at c5b2z
                have c6b2z := c6b2
                simp only [ByteArray.size_append, sz1, sz2] at c6b2z
                have c8b2z := c8b2
                simp only [ByteArray.size_append, sz1, sz2] at c8b2z
                have c9b2z := c9b2
                simp only [ByteArray.size_append, sz1, sz2] at c9b2z
                have c11b2z := c11b2
                simp only [ByteArray.size_append, sz1, sz2] at c11b2z
                have c12b2z := c12b2
                simp only [ByteArray.size_append, sz1, sz2] at c12b2z
                go_enter Tryd.func22, Tryd.ntmps22
                try go_wp2_with (first | ((with_reducible refine gate_dst (N := 1) rfl ?_); refine box_event ?hg (N := 1) ?hd (cs := #[.int .u64 a0_0, .int .u32 a0_1, .string a0_2, .int .i64 a0_3]) (t := 27) ?hr ?_; (case hd => rfl); (case hg => rfl); (case hr => first | (go_simp; done) | (go_simp; rfl)); intro gb181 hg w13 hbox hb; have n0_ := Aside0.mk (below_step (by repeat (first | (with_reducible first | exact HB.out | apply below_alloc | apply pw_below_drewN | apply below_drew1) | exact HB.out)) hb); have n1_ := Aside0.mk (hbox); have n2_ := Aside0.mk ((by rw [hg]; exact (below_size (by repeat (first | (with_reducible first | exact HB.out | apply below_alloc | apply pw_below_drewN | apply below_drew1) | exact HB.out))) : w.heap.size ≤ gb181)); have n3_ := Aside0.mk ((by rw [hg]; exact (below_size (by repeat (first | (with_reducible first | exact HB.out | apply below_alloc | apply pw_below_drewN | apply below_drew1) | exact HB.out))) : w.heap.size ≤ gb181)); clear HB; have HB := n0_; have BK181 := n1_; have GW181 := n2_; have GE181 := n3_; clear n0_ n1_ n2_ n3_; clear hb hbox hg))
                have n0_ := Aside0.mk (blk_drew BK181.out)
                have n1_ := Aside0.mk (below_drew1 HB.out)
                clear BK181
                clear HB
                have BK181 := n0_
                have HB := n1_
                clear n0_ n1_
                refine start_ (n := 21) (S := fun w' => w'.cell? ⟨gb181, 0, none⟩ = some (.int .u64 a0_0) ∧ w'.cell? ⟨gb181, 1, none⟩ = some (.int .u32 a0_1) ∧ w'.cell? ⟨gb181, 2, none⟩ = some (.string a0_2) ∧ w'.cell? ⟨gb181, 3, none⟩ = some (.int .i64 a0_3)) (ds := []) #[false, false, false, false, false, false, false, false, false, false, false, false, false, false, false, false, false, false, false, false, false] (by kernel_rfl) rfl rfl ⟨(blk_cell BK181.out 0).trans rfl, (blk_cell BK181.out 1).trans rfl, (blk_cell BK181.out 2).trans rfl, (blk_cell BK181.out 3).trans rfl⟩ (fun hHeld => ?_); refine with_tabW congressref20_Line.tab1 congressref20_Line.bits1 (fun HT_ HW_ => ?_)
                generalize w13.drew = w14 at BK181 HB hHeld ⊢
                refine pure_ (i := 0) (N := some 3) (v := ?_) (a' := ?_) #[true, false, false, false, false, false, false, false, false, false, false, false, false, false, false, false, false, false, false, false, false] rfl rfl (any_of HT_.out (by kernel_rfl)) (fun _ _ _ h => h) (Or.inl ⟨by rfl, ?_⟩) ?_ ?_
                rotate_left
                · intro w'
                  go_simp
                  with_reducible rfl
                rotate_left
                · simp only [Act.put, List.setIfInBounds_toArray, List.set_cons_zero, List.set_cons_succ, i64_w, i32_w]
                  rfl
                refine pure_ (i := 4) (N := some 7) (v := ?_) (a' := ?_) #[true, false, false, false, true, false, false, false, false, false, false, false, false, false, false, false, false, false, false, false, false] rfl rfl (any_of HT_.out (by kernel_rfl)) (fun _ _ _ h => h) (Or.inl ⟨by rfl, ?_⟩) ?_ ?_
                rotate_left
                · intro w'
                  go_simp
                  with_reducible rfl
                rotate_left
                · simp only [Act.put, List.setIfInBounds_toArray, List.set_cons_zero, List.set_cons_succ, i64_w, i32_w]
                  rfl
                refine pure_ (i := 10) (N := some 13) (v := ?_) (a' := ?_) #[true, false, false, false, true, false, false, false, false, false, true, false, false, false, false, false, false, false, false, false, false] rfl rfl (any_of HT_.out (by kernel_rfl)) (fun _ _ _ h => h) (Or.inl ⟨by rfl, ?_⟩) ?_ ?_
                rotate_left
                · intro w'
                  go_simp
                  with_reducible rfl
                rotate_left
                · simp only [Act.put, List.setIfInBounds_toArray, List.set_cons_zero, List.set_cons_succ, i64_w, i32_w]
                  rfl
                refine pure_ (i := 15) (N := some 18) (v := ?_) (a' := ?_) #[true, false, false, false, true, false, false, false, false, false, true, false, false, false, false, true, false, false, false, false, false] rfl rfl (any_of HT_.out (by kernel_rfl)) (fun _ _ _ h => h) (Or.inl ⟨by rfl, ?_⟩) ?_ ?_
                rotate_left
                · intro w'
                  go_simp
                  with_reducible rfl
                rotate_left
                · simp only [Act.put, List.setIfInBounds_toArray, List.set_cons_zero, List.set_cons_succ, i64_w, i32_w]
                  rfl
                refine take_ (i := 1) (N := some 4) (v := ?_) (a' := ?_) #[true, true, false, false, true, false, false, false, false, false, true, false, false, false, false, true, false, false, false, false, false] rfl rfl (take_ofW HT_.out HW_.out (by kernel_rfl)) (fun _ _ _ h => h) (Or.inl ⟨by rfl, ?_⟩) hHeld ?_ ?_
                rotate_left
                · rintro w' ⟨s0, s1, s2, s3⟩
                  go_simp
                  with_reducible rfl
                rotate_left
                · simp only [Act.put, List.setIfInBounds_toArray, List.set_cons_zero, List.set_cons_succ, i64_w, i32_w]
                  rfl
                refine take_ (i := 5) (N := some 8) (v := ?_) (a' := ?_) #[true, true, false, false, true, true, false, false, false, false, true, false, false, false, false, true, false, false, false, false, false] rfl rfl (take_ofW HT_.out HW_.out (by kernel_rfl)) (fun _ _ _ h => h) (Or.inl ⟨by rfl, ?_⟩) hHeld ?_ ?_
                rotate_left
                · rintro w' ⟨s0, s1, s2, s3⟩
                  go_simp
                  with_reducible rfl
                rotate_left
                · simp only [Act.put, List.setIfInBounds_toArray, List.set_cons_zero, List.set_cons_succ, i64_w, i32_w]
                  rfl
                refine pure_ (i := 6) (N := some 9) (v := ?_) (a' := ?_) #[true, true, false, false, true, true, true, false, false, false, true, false, false, false, false, true, false, false, false, false, false] rfl rfl (any_of HT_.out (by kernel_rfl)) (fun _ _ _ h => h) (Or.inl ⟨by rfl, ?_⟩) ?_ ?_
                rotate_left
                · intro w'
                  go_simp
                  with_reducible rfl
                rotate_left
                · simp only [Act.put, List.setIfInBounds_toArray, List.set_cons_zero, List.set_cons_succ, i64_w, i32_w]
                  rfl
                refine take_ (i := 11) (N := some 14) (v := ?_) (a' := ?_) #[true, true, false, false, true, true, true, false, false, false, true, true, false, false, false, true, false, false, false, false, false] rfl rfl (take_ofW HT_.out HW_.out (by kernel_rfl)) (fun _ _ _ h => h) (Or.inl ⟨by rfl, ?_⟩) hHeld ?_ ?_
                rotate_left
                · rintro w' ⟨s0, s1, s2, s3⟩
                  go_simp
                  with_reducible rfl
                rotate_left
                · simp only [Act.put, List.setIfInBounds_toArray, List.set_cons_zero, List.set_cons_succ, i64_w, i32_w]
                  rfl
                refine take_ (i := 16) (N := some 19) (v := ?_) (a' := ?_) #[true, true, false, false, true, true, true, false, false, false, true, true, false, false, false, true, true, false, false, false, false] rfl rfl (take_ofW HT_.out HW_.out (by kernel_rfl)) (fun _ _ _ h => h) (Or.inl ⟨by rfl, ?_⟩) hHeld ?_ ?_
                rotate_left
                · rintro w' ⟨s0, s1, s2, s3⟩
                  go_simp
                  with_reducible rfl
                rotate_left
                · simp only [Act.put, List.setIfInBounds_toArray, List.set_cons_zero, List.set_cons_succ, i64_w, i32_w]
                  rfl
                refine one_ (i := 2) (N := some 5) #[true, true, true, false, true, true, true, false, false, false, true, true, false, false, false, true, true, false, false, false, false] rfl rfl (one_of HT_.out (by kernel_rfl)) (by decide) (fun K hK => ?_)
                refine goes_ Tryd.func40 (by kernel_rfl) rfl #[.int .u64 a0_0] (by rfl) rfl rfl (by (try simp only [List.map_toArray, List.map_cons, List.map_nil]); first | done | rfl | (simp only [List.length_drop, List.length_take]; rfl)) ?_
                with_reducible refine (congressref20_Digits.calls k a0_0 t182 _ A2.out).mono ?_
                rintro e w' ⟨rfl, ⟨nd, rfl⟩⟩
                refine ⟨_, rfl, ?_⟩
                refine hK.out _ _ ⟨(blk_cell BK181.out 0).trans rfl, (blk_cell BK181.out 1).trans rfl, (blk_cell BK181.out 2).trans rfl, (blk_cell BK181.out 3).trans rfl⟩ (fun hHeld => ?_)
                clear hK K
                refine norm_ (a' := ?_) ?_ ?_
                rotate_left
                · show Act.put _ (some 5) _ = _
                  simp only [Act.put, List.setIfInBounds_toArray, List.set_cons_zero, List.set_cons_succ, i64_w, i32_w]
                  rfl
                refine pure_ (i := 3) (N := some 6) (v := ?_) (a' := ?_) #[true, true, true, true, true, true, true, false, false, false, true, true, false, false, false, true, true, false, false, false, false] rfl rfl (any_of HT_.out (by kernel_rfl)) (fun _ _ _ h => h) (Or.inl ⟨by rfl, ?_⟩) ?_ ?_
                rotate_left
                · intro w'
                  go_simp
                  with_reducible rfl
                rotate_left
                · simp only [Act.put, List.setIfInBounds_toArray, List.set_cons_zero, List.set_cons_succ, i64_w, i32_w]
                  rfl
                refine one_ (i := 7) (N := some 10) #[true, true, true, true, true, true, true, true, false, false, true, true, false, false, false, true, true, false, false, false, false] rfl rfl (one_of HT_.out (by kernel_rfl)) (by decide) (fun K hK => ?_)
                refine goes_ Tryd.func40 (by kernel_rfl) rfl #[.int .u64 (IntKind.u64.wrap (a0_1))] (by rfl) rfl rfl (by (try simp only [List.map_toArray, List.map_cons, List.map_nil]); first | done | rfl | (simp only [List.length_drop, List.length_take]; rfl)) ?_
                with_reducible refine (congressref20_Digits.calls k (IntKind.u64.wrap (a0_1)) t183 _ A4.out).mono ?_
                rintro e w' ⟨rfl, ⟨nd, rfl⟩⟩
                refine ⟨_, rfl, ?_⟩
                refine hK.out _ _ ⟨(blk_cell BK181.out 0).trans rfl, (blk_cell BK181.out 1).trans rfl, (blk_cell BK181.out 2).trans rfl, (blk_cell BK181.out 3).trans rfl⟩ (fun hHeld => ?_)
                clear hK K
                refine norm_ (a' := ?_) ?_ ?_
                rotate_left
                · show Act.put _ (some 10) _ = _
                  simp only [Act.put, List.setIfInBounds_toArray, List.set_cons_zero, List.set_cons_succ, i64_w, i32_w]
                  rfl
                refine pure_ (i := 8) (N := some 11) (v := ?_) (a' := ?_) #[true, true, true, true, true, true, true, true, true, false, true, true, false, false, false, true, true, false, false, false, false] rfl rfl (any_of HT_.out (by kernel_rfl)) (fun _ _ _ h => h) (Or.inl ⟨by rfl, ?_⟩) ?_ ?_
                rotate_left
                · intro w'
                  go_simp
                  with_reducible rfl
                rotate_left
                · simp only [Act.put, List.setIfInBounds_toArray, List.set_cons_zero, List.set_cons_succ, i64_w, i32_w]
                  rfl
                refine pure_ (i := 9) (N := some 12) (v := ?_) (a' := ?_) #[true, true, true, true, true, true, true, true, true, true, true, true, false, false, false, true, true, false, false, false, false] rfl rfl (any_of HT_.out (by kernel_rfl)) (fun _ _ _ h => h) (Or.inl ⟨by rfl, ?_⟩) ?_ ?_
                rotate_left
                · intro w'
                  go_simp
                  with_reducible rfl
                rotate_left
                · simp only [Act.put, List.setIfInBounds_toArray, List.set_cons_zero, List.set_cons_succ, i64_w, i32_w]
                  rfl
                refine one_ (i := 12) (N := some 15) #[true, true, true, true, true, true, true, true, true, true, true, true, true, false, false, true, true, false, false, false, false] rfl rfl (one_of HT_.out (by kernel_rfl)) (by decide) (fun K hK => ?_)
                refine goes_ Tryd.func41 (by kernel_rfl) rfl #[.int .i64 a0_3] (by rfl) rfl rfl (by (try simp only [List.map_toArray, List.map_cons, List.map_nil]); first | done | rfl | (simp only [List.length_drop, List.length_take]; rfl)) ?_
                with_reducible refine (congressref20_Signed.calls k a0_3 t184 _ A7.out).mono ?_
                rintro e w' ⟨rfl, ⟨nd, rfl⟩⟩
                refine ⟨_, rfl, ?_⟩
                refine hK.out _ _ ⟨(blk_cell BK181.out 0).trans rfl, (blk_cell BK181.out 1).trans rfl, (blk_cell BK181.out 2).trans rfl, (blk_cell BK181.out 3).trans rfl⟩ (fun hHeld => ?_)
                clear hK K
                refine norm_ (a' := ?_) ?_ ?_
                rotate_left
                · show Act.put _ (some 15) _ = _
                  simp only [Act.put, List.setIfInBounds_toArray, List.set_cons_zero, List.set_cons_succ, i64_w, i32_w]
                  rfl
                refine pure_ (i := 13) (N := some 16) (v := ?_) (a' := ?_) #[true, true, true, true, true, true, true, true, true, true, true, true, true, true, false, true, true, false, false, false, false] rfl rfl (any_of HT_.out (by kernel_rfl)) (fun _ _ _ h => h) (Or.inl ⟨by rfl, ?_⟩) ?_ ?_
                rotate_left
                · intro w'
                  go_simp
                  with_reducible rfl
                rotate_left
                · simp only [Act.put, List.setIfInBounds_toArray, List.set_cons_zero, List.set_cons_succ, i64_w, i32_w]
                  rfl
                refine pure_ (i := 14) (N := some 17) (v := ?_) (a' := ?_) #[true, true, true, true, true, true, true, true, true, true, true, true, true, true, true, true, true, false, false, false, false] rfl rfl (any_of HT_.out (by kernel_rfl)) (fun _ _ _ h => h) (Or.inl ⟨by rfl, ?_⟩) ?_ ?_
                rotate_left
                · intro w'
                  go_simp
                  with_reducible rfl
                rotate_left
                · simp only [Act.put, List.setIfInBounds_toArray, List.set_cons_zero, List.set_cons_succ, i64_w, i32_w]
                  rfl
                refine one_ (i := 17) (N := some 20) #[true, true, true, true, true, true, true, true, true, true, true, true, true, true, true, true, true, true, false, false, false] rfl rfl (one_of HT_.out (by kernel_rfl)) (by decide) (fun K hK => ?_)
                refine goes_ Tryd.func42 (by kernel_rfl) rfl #[.string a0_2] (by rfl) rfl rfl (by (try simp only [List.map_toArray, List.map_cons, List.map_nil]); first | done | rfl | (simp only [List.length_drop, List.length_take]; rfl)) ?_
                with_reducible refine (congressref20_Quoted.calls k a0_2 t185 _ A10.out).mono ?_
                rintro e w15 ⟨rfl, hb⟩
                refine ⟨_, rfl, ?_⟩
                have n0_ := Aside0.mk (blk_below (g := gb181) (o := .cells #[.int .u64 a0_0, .int .u32 a0_1, .string a0_2, .int .i64 a0_3] 27 (0, 0)) (by (with_reducible repeat (first | refine blk_drewN ?_ _ | refine blk_drew ?_ | refine blk_alloc ?_ _)); exact BK181.out) hb)
                have n1_ := Aside0.mk (below_step (by repeat (first | (with_reducible first | exact HB.out | apply below_alloc | apply pw_below_drewN | apply below_drew1 | refine below_set ?_ GE181.out) | exact HB.out)) hb)
                clear BK181
                clear HB
                have BK181 := n0_
                have HB := n1_
                clear n0_ n1_
                (try clear hb)
                (try clear hb2)
                (try clear hk)
                (try clear hi)
                refine hK.out _ _ ⟨(blk_cell BK181.out 0).trans rfl, (blk_cell BK181.out 1).trans rfl, (blk_cell BK181.out 2).trans rfl, (blk_cell BK181.out 3).trans rfl⟩ (fun hHeld => ?_)
                clear hK K
                refine norm_ (a' := ?_) ?_ ?_
                rotate_left
                · show Act.put _ (some 20) _ = _
                  simp only [Act.put, List.setIfInBounds_toArray, List.set_cons_zero, List.set_cons_succ, i64_w, i32_w]
                  rfl
                refine pure_ (i := 18) (N := some 21) (v := ?_) (a' := ?_) #[true, true, true, true, true, true, true, true, true, true, true, true, true, true, true, true, true, true, true, false, false] rfl rfl (any_of HT_.out (by kernel_rfl)) (fun _ _ _ h => h) (Or.inl ⟨by rfl, ?_⟩) ?_ ?_
                rotate_left
                · intro w'
                  go_simp
                  with_reducible rfl
                rotate_left
                · simp only [Act.put, List.setIfInBounds_toArray, List.set_cons_zero, List.set_cons_succ, i64_w, i32_w]
                  rfl
                refine pure_ (i := 19) (N := some 22) (v := ?_) (a' := ?_) #[true, true, true, true, true, true, true, true, true, true, true, true, true, true, true, true, true, true, true, true, false] rfl rfl (any_of HT_.out (by kernel_rfl)) (fun _ _ _ h => h) (Or.inl ⟨by rfl, ?_⟩) ?_ ?_
                rotate_left
                · intro w'
                  go_simp
                  with_reducible rfl
                rotate_left
                · simp only [Act.put, List.setIfInBounds_toArray, List.set_cons_zero, List.set_cons_succ, i64_w, i32_w]
                  rfl
                refine pure_ (i := 20) (N := some 2) (v := ?_) (a' := ?_) #[true, true, true, true, true, true, true, true, true, true, true, true, true, true, true, true, true, true, true, true, true] rfl rfl (any_of HT_.out (by kernel_rfl)) (fun _ _ _ h => h) (Or.inl ⟨by rfl, ?_⟩) ?_ ?_
                rotate_left
                · intro w'
                  go_simp
                  with_reducible rfl
                rotate_left
                · simp only [Act.put, List.setIfInBounds_toArray, List.set_cons_zero, List.set_cons_succ, i64_w, i32_w]
                  rfl
                refine done_ (done_of HT_.out (by kernel_rfl)) ?_
                try go_wp2
                go_ret
                exact ⟨by first | rfl | (simp [errW_none, errW_some] <;> rfl) | (simp [*, errW_none, errW_some] <;> rfl), by repeat (first | (with_reducible first | exact HB.out | apply below_alloc | apply pw_below_drewN | apply below_drew1 | refine below_set ?_ GE181.out) | exact HB.out)⟩
              · rw [if_neg c12] at H
                exact absurd H (by simp)
            · rw [if_neg c11] at H
              exact absurd H (by simp)
          · rw [if_neg c9] at H
            exact absurd H (by simp)
        · rw [if_neg c8] at H
          exact absurd H (by simp)
      · rw [if_neg c6] at H
        exact absurd H (by simp)
    · rw [if_neg c5] at H
      exact absurd H (by simp)
  · rw [if_neg c3] at H
    exact absurd H (by simp)

/-! ### congressref20_word: function 31 -/
def congressref20_word.l0 : Nat → ByteArray → Int → Option (ByteArray × ByteArray × Bool)
  | 0, _, _ => none
  | k + 1, x0, x5 => if x5 < (x0.size : Int) then (if 0 ≤ x5 then (if (bt x0 x5) = 32 then (if x5 ≤ (x0.size : Int) then (if 0 ≤ (wrap64 (x5 + 1)) then (if (wrap64 (x5 + 1)) ≤ (x0.size : Int) then (some (x0.extract 0 (x5 : Int).toNat, x0.extract ((wrap64 (x5 + 1)) : Int).toNat x0.size, true)) else (none)) else (none)) else (none)) else (congressref20_word.l0 k x0 (wrap64 (x5 + 1)))) else (none)) else (some ((⟨#[]⟩ : ByteArray), (⟨#[]⟩ : ByteArray), false))
def congressref20_word.f (k : Nat) (a0 : ByteArray) : Option (ByteArray × ByteArray × Bool) := congressref20_word.l0 k a0 0
theorem congressref20_word.mono_l : ∀ k, (∀ y0 y1, LeO (congressref20_word.l0 k y0 y1) (congressref20_word.l0 (k + 1) y0 y1))
  | 0 => fun _ _ r h => by simp [congressref20_word.l0] at h
  | k + 1 => by
    have ih0 := congressref20_word.mono_l k
    · intro y0 y1
      unfold congressref20_word.l0
      repeat' first
      | (with_reducible exact ih0 _ _)
      | (with_reducible exact LeO.refl _)
      | (with_reducible exact LeO.none _)
      | (with_reducible refine LeO.ite ?_ ?_)
      | (with_reducible refine LeO.bind ?_ (fun _ => ?_))
      | exact ih0 _ _
      | exact LeO.none _
      | refine LeO.ite ?_ ?_
      | refine LeO.bind ?_ (fun _ => ?_)
theorem congressref20_word.mono : ∀ a0 k, LeO (congressref20_word.f k a0) (congressref20_word.f (k + 1) a0) := by
  intro a0 k
  have ih0 := congressref20_word.mono_l k
  unfold congressref20_word.f
  repeat' first
      | (with_reducible exact ih0 _ _)
      | (with_reducible exact LeO.refl _)
      | (with_reducible exact LeO.none _)
      | (with_reducible refine LeO.ite ?_ ?_)
      | (with_reducible refine LeO.bind ?_ (fun _ => ?_))
      | exact ih0 _ _
      | exact LeO.none _
      | refine LeO.ite ?_ ?_
      | refine LeO.bind ?_ (fun _ => ?_)
set_option maxHeartbeats 8000000 in
set_option maxRecDepth 100000 in
theorem congressref20_word.calls (k : Nat) (a0 : ByteArray) (r1 : ByteArray) (r2 : ByteArray) (r3 : Bool) (w : World) (h : congressref20_word.f k a0 = some (r1, r2, r3)) :
    Calls Tryd.prog 31 #[.string a0] w fun e w' => e = .returned (.tuple #[.string r1, .string r2, .bool r3]) ∧ Drawn0 w w' := by
  have H : (congressref20_word.l0 k a0 0) = some (r1, r2, r3) := h
  clear h
  have H' := Aside0.mk H
  clear H
  go_enter Tryd.func31, Tryd.ntmps31
  go_wp2
  repeat (go_quiet (fail); try go_wp2)
  go_loopg [5] k (fun kq v5 w' => ∃ (x5_1 : Int), v5 = .int .i64 x5_1 ∧ Aside0 (congressref20_word.l0 kq a0 x5_1 = some (r1, r2, r3)) ∧ Aside0 (kq ≤ k) ∧ Drawn0 w w')
  case atStart => exact ⟨(0), (by first | rfl | (simp; done) | (simp [*]; done)), H', ⟨Nat.le_refl _⟩, by repeat (first | exact Drawn0.refl _ | apply Drawn0.step)⟩
  case round =>
    clear H'
    obtain ⟨x5_1, rfl, HA, HK1, ⟨m1, rfl⟩⟩ := hrel
    cases gk with
    | zero => exact absurd HA.out (by simp [congressref20_word.l0])
    | succ k1 =>
      have H := HA.out
      clear HA
      simp only [congressref20_word.l0] at H
      by_cases c2 : x5_1 < (a0.size : Int)
      · rw [if_pos c2] at H
        have c2b0 : decide (x5_1 < (a0.size : Int)) = true := decide_eq_true c2
        clear c2
        by_cases c3 : 0 ≤ x5_1
        · rw [if_pos c3] at H
          have c3b0 : decide (0 ≤ x5_1) = true := decide_eq_true c3
          clear c3
          by_cases c5 : (bt a0 x5_1) = 32
          · rw [if_pos c5] at H
            have c5b0 : ((bt a0 x5_1) == 32) = true := beq_iff_eq.mpr c5
            have c5b1 : ((bt a0 x5_1) != 32) = false := bne_eq_false_iff_eq.mpr c5
            clear c5
            have c6b0 := eq_true (of_decide_eq_true (by first | (with_reducible assumption) | assumption) : 0 ≤ x5_1)
            by_cases c7 : x5_1 ≤ (a0.size : Int)
            · rw [if_pos c7] at H
              have c7b0 := eq_true c7
              have c7b1 : decide (x5_1 ≤ (a0.size : Int)) = true := decide_eq_true c7
              clear c7
              obtain ⟨ji8, hji8⟩ : ∃ j_ : Int, (wrap64 (x5_1 + 1)) = j_ := ⟨_, rfl⟩
              replace H : (if 0 ≤ (ji8) then (if (ji8) ≤ (a0.size : Int) then (some (a0.extract 0 (x5_1 : Int).toNat, a0.extract ((ji8) : Int).toNat a0.size, true)) else (none)) else (none)) = some (r1, r2, r3) := by first | (rw [hji8] at H; exact H) | (simp only [hji8] at H ⊢; exact H)
              have hji8w : (IntKind.i64.wrap (x5_1 + 1)) = ji8 := (i64_w _).trans hji8
              by_cases c9 : 0 ≤ (ji8)
              · rw [if_pos c9] at H
                have c9b0 := eq_true c9
                have c9b1 : decide (0 ≤ (ji8)) = true := decide_eq_true c9
                clear c9
                by_cases c10 : (ji8) ≤ (a0.size : Int)
                · rw [if_pos c10] at H
                  have c10b0 := eq_true c10
                  have c10b1 : decide ((ji8) ≤ (a0.size : Int)) = true := decide_eq_true c10
                  clear c10
                  simp only [Option.some.injEq, Prod.mk.injEq] at H
                  obtain ⟨rfl, rfl, rfl⟩ := H
                  have p4 : 0 ≤ (x5_1 : Int) := of_decide_eq_true (by first | (with_reducible assumption) | assumption)
                  have q4 : x5_1 < (a0.size : Int) := of_decide_eq_true (by first | (with_reducible assumption) | assumption)
                  have hx4 := bt_at a0 x5_1
                  replace p4 := eq_true p4
                  replace q4 := eq_true q4
                  go_wp2
                  repeat (go_quiet (fail); try go_wp2)
                  go_ret3
                  exact ⟨by first | rfl | (simp; done) | (simp only [← hji8] <;> (first | rfl | simp)) | (simp [*]; done), by repeat (first | exact Drawn0.refl _ | apply Drawn0.step)⟩
                · rw [if_neg c10] at H
                  exact absurd H (by simp)
              · rw [if_neg c9] at H
                exact absurd H (by simp)
            · rw [if_neg c7] at H
              exact absurd H (by simp)
          · rw [if_neg c5] at H
            have c5b0 : ((bt a0 x5_1) == 32) = false := beq_eq_false_iff_ne.mpr c5
            have c5b1 : ((bt a0 x5_1) != 32) = true := bne_iff_ne.mpr c5
            have H' := Aside0.mk H
            clear H
            have p4 : 0 ≤ (x5_1 : Int) := of_decide_eq_true (by first | (with_reducible assumption) | assumption)
            have q4 : x5_1 < (a0.size : Int) := of_decide_eq_true (by first | (with_reducible assumption) | assumption)
            have hx4 := bt_at a0 x5_1
            replace p4 := eq_true p4
            replace q4 := eq_true q4
            go_wp2
            repeat (go_quiet (fail); try go_wp2)
            go_roundg k1
            case measure => have := HK1.out; omega
            case rel => exact ⟨(wrap64 (x5_1 + 1)), (by first | rfl | (simp; done) | (simp [*]; done)), H', ⟨by have := HK1.out; omega⟩, by repeat (first | exact Drawn0.refl _ | apply Drawn0.step)⟩
        · rw [if_neg c3] at H
          exact absurd H (by simp)
      · rw [if_neg c2] at H
        have c2b0 : decide (x5_1 < (a0.size : Int)) = false := decide_eq_false c2
        clear c2
        simp only [Option.some.injEq, Prod.mk.injEq] at H
        obtain ⟨rfl, rfl, rfl⟩ := H
        go_wp2
        repeat (go_quiet (fail); try go_wp2)
        go_ret3
        exact ⟨by first | rfl | (simp; done) | (simp [*]; done), by repeat (first | exact Drawn0.refl _ | apply Drawn0.step)⟩

/-! ### congressref20_number: function 32 -/
mutual
def congressref20_number.j0 : Nat → ByteArray → Int → Bool → Option (Int × Bool)
  | 0, _, _, _ => none
  | k + 1, x0, x4, x13 => if x13 = true then (some (0, false)) else (congressref20_number.l0 k x0 x4 0)
def congressref20_number.l0 : Nat → ByteArray → Int → Int → Option (Int × Bool)
  | 0, _, _, _ => none
  | k + 1, x0, x4, x5 => if x5 < (x0.size : Int) then (if 0 ≤ x5 then (if (bt x0 x5) < 48 then (some (0, false)) else (if (bt x0 x5) > 57 then (some (0, false)) else (congressref20_number.l0 k x0 (IntKind.u64.wrap ((IntKind.u64.wrap (10 * x4)) + (((bt x0 x5) - 48) % 256))) (wrap64 (x5 + 1))))) else (none)) else ((congressref20_Digits.f k x4).bind fun t186 => (some (x4, (t186.toList == x0.toList))))
end
def congressref20_number.f (k : Nat) (a0 : ByteArray) : Option (Int × Bool) := if (a0.size : Int) < 1 then (congressref20_number.j0 k a0 0 true) else (congressref20_number.j0 k a0 0 (decide ((a0.size : Int) > 20)))
theorem congressref20_number.mono_l : ∀ k, (∀ y0 y1 y2, LeO (congressref20_number.j0 k y0 y1 y2) (congressref20_number.j0 (k + 1) y0 y1 y2)) ∧ (∀ y0 y1 y2, LeO (congressref20_number.l0 k y0 y1 y2) (congressref20_number.l0 (k + 1) y0 y1 y2))
  | 0 => ⟨fun _ _ _ r h => by simp [congressref20_number.j0] at h, fun _ _ _ r h => by simp [congressref20_number.l0] at h⟩
  | k + 1 => by
    obtain ⟨ih0, ih1⟩ := congressref20_number.mono_l k
    refine ⟨?_, ?_⟩
    · intro y0 y1 y2
      unfold congressref20_number.j0
      repeat' first
      | (with_reducible exact ih0 _ _ _)
      | (with_reducible exact ih1 _ _ _)
      | (with_reducible exact congressref20_Digits.mono _ _)
      | (with_reducible exact LeO.refl _)
      | (with_reducible exact LeO.none _)
      | (with_reducible refine LeO.ite ?_ ?_)
      | (with_reducible refine LeO.bind ?_ (fun _ => ?_))
      | exact ih0 _ _ _
      | exact ih1 _ _ _
      | exact congressref20_Digits.mono _ _
      | exact LeO.none _
      | refine LeO.ite ?_ ?_
      | refine LeO.bind ?_ (fun _ => ?_)
    · intro y0 y1 y2
      unfold congressref20_number.l0
      repeat' first
      | (with_reducible exact ih0 _ _ _)
      | (with_reducible exact ih1 _ _ _)
      | (with_reducible exact congressref20_Digits.mono _ _)
      | (with_reducible exact LeO.refl _)
      | (with_reducible exact LeO.none _)
      | (with_reducible refine LeO.ite ?_ ?_)
      | (with_reducible refine LeO.bind ?_ (fun _ => ?_))
      | exact ih0 _ _ _
      | exact ih1 _ _ _
      | exact congressref20_Digits.mono _ _
      | exact LeO.none _
      | refine LeO.ite ?_ ?_
      | refine LeO.bind ?_ (fun _ => ?_)
theorem congressref20_number.mono : ∀ a0 k, LeO (congressref20_number.f k a0) (congressref20_number.f (k + 1) a0) := by
  intro a0 k
  obtain ⟨ih0, ih1⟩ := congressref20_number.mono_l k
  unfold congressref20_number.f
  repeat' first
      | (with_reducible exact ih0 _ _ _)
      | (with_reducible exact ih1 _ _ _)
      | (with_reducible exact congressref20_Digits.mono _ _)
      | (with_reducible exact LeO.refl _)
      | (with_reducible exact LeO.none _)
      | (with_reducible refine LeO.ite ?_ ?_)
      | (with_reducible refine LeO.bind ?_ (fun _ => ?_))
      | exact ih0 _ _ _
      | exact ih1 _ _ _
      | exact congressref20_Digits.mono _ _
      | exact LeO.none _
      | refine LeO.ite ?_ ?_
      | refine LeO.bind ?_ (fun _ => ?_)
set_option maxHeartbeats 8000000 in
set_option maxRecDepth 100000 in
theorem congressref20_number.calls (k : Nat) (a0 : ByteArray) (r1 : Int) (r2 : Bool) (w : World) (h : congressref20_number.f k a0 = some (r1, r2)) :
    Calls Tryd.prog 32 #[.string a0] w fun e w' => e = .returned (.tuple #[.int .u64 r1, .bool r2]) ∧ Drawn0 w w' := by
  have H : (if (a0.size : Int) < 1 then (congressref20_number.j0 k a0 0 true) else (congressref20_number.j0 k a0 0 (decide ((a0.size : Int) > 20)))) = some (r1, r2) := h
  clear h
  have HC2 := Aside0.mk H
  clear H
  go_enter Tryd.func32, Tryd.ntmps32
  go_upto_region 2 with (fail)
  go_cut [13] (fun v13 wc => ∃ (kq : Nat) (x13_1 : Bool), v13 = .bool x13_1 ∧ Aside0 (congressref20_number.j0 kq a0 0 x13_1 = some (r1, r2)) ∧ Aside0 (kq ≤ k) ∧ Drawn0 w wc)
  case first =>
    have H := HC2.out
    clear HC2
    by_cases c3 : (a0.size : Int) < 1
    · rw [if_pos c3] at H
      have c3b0 : decide ((a0.size : Int) < 1) = true := decide_eq_true c3
      have c3b1 : decide (a0.size < 1) = true := decide_eq_true (by omega)
      clear c3
      (first | rw [c3b0] | (simp only [i64_w, i32_w]; rw [c3b0]) | skip)
      have H' := Aside0.mk H
      clear H
      go_wp2
      go_meet
      case rel => exact ⟨_, (true), (by first | rfl | (simp; done) | (simp [*]; done)), H', ⟨by first | omega | exact Nat.le_refl _⟩, by repeat (first | exact Drawn0.refl _ | apply Drawn0.step)⟩
    · rw [if_neg c3] at H
      have c3b0 : decide ((a0.size : Int) < 1) = false := decide_eq_false c3
      have c3b1 : decide (a0.size < 1) = false := decide_eq_false (by omega)
      clear c3
      (first | rw [c3b0] | (simp only [i64_w, i32_w]; rw [c3b0]) | skip)
      have H' := Aside0.mk H
      clear H
      go_wp2
      go_meet
      case rel => exact ⟨_, (decide ((a0.size : Int) > 20)), (by first | rfl | (simp; done) | (simp [*]; done)), H', ⟨by first | omega | exact Nat.le_refl _⟩, by repeat (first | exact Drawn0.refl _ | apply Drawn0.step)⟩
  case rest =>
    clear HC2
    try clear p2
    try clear c3
    try clear c3b0
    try clear c3b1
    obtain ⟨kq, x13_1, rfl, HA, HJ1, ⟨mc1, rfl⟩⟩ := hcut
    cases kq with
    | zero => exact absurd HA.out (by simp [congressref20_number.j0])
    | succ kj1 =>
      have H := HA.out
      clear HA
      simp only [congressref20_number.j0] at H
      by_cases c4 : x13_1 = true
      · subst c4
        have H1 : (some (0, false)) = some (r1, r2) := by rw [if_pos rfl] at H; exact H
        clear H
        have H := H1
        clear H1
        simp only [Option.some.injEq, Prod.mk.injEq] at H
        obtain ⟨rfl, rfl⟩ := H
        go_wp2
        go_ret2
        exact ⟨by first | rfl | (simp; done) | (simp [*]; done), by repeat (first | exact Drawn0.refl _ | apply Drawn0.step)⟩
      · replace c4 := Bool.eq_false_iff.mpr c4
        subst c4
        have H1 : (congressref20_number.l0 kj1 a0 0 0) = some (r1, r2) := by rw [if_neg (show ¬ (false = true) by decide)] at H; exact H
        clear H
        have H := H1
        clear H1
        have H' := Aside0.mk H
        clear H
        go_wp2
        go_loopg [4, 5] kj1 (fun kq v4 v5 w' => ∃ (x4_2 : Int) (x5_2 : Int), v4 = .int .u64 x4_2 ∧ v5 = .int .i64 x5_2 ∧ Aside0 (congressref20_number.l0 kq a0 x4_2 x5_2 = some (r1, r2)) ∧ Aside0 (kq ≤ kj1) ∧ Drawn0 w w')
        case atStart => exact ⟨(0), (0), (by first | rfl | (simp; done) | (simp [*]; done)), (by first | rfl | (simp; done) | (simp [*]; done)), H', ⟨Nat.le_refl _⟩, by repeat (first | exact Drawn0.refl _ | apply Drawn0.step)⟩
        case round =>
          clear H'
          try clear c1
          try clear p2
          try clear c3
          try clear c3b0
          try clear c3b1
          try clear c4
          try clear p2
          obtain ⟨x4_2, x5_2, rfl, rfl, HA, HK2, ⟨m2, rfl⟩⟩ := hrel
          cases gk with
          | zero => exact absurd HA.out (by simp [congressref20_number.l0])
          | succ k2 =>
            have H := HA.out
            clear HA
            simp only [congressref20_number.l0] at H
            by_cases c5 : x5_2 < (a0.size : Int)
            · rw [if_pos c5] at H
              have c5b0 : decide (x5_2 < (a0.size : Int)) = true := decide_eq_true c5
              clear c5
              by_cases c6 : 0 ≤ x5_2
              · rw [if_pos c6] at H
                have c6b0 : decide (0 ≤ x5_2) = true := decide_eq_true c6
                clear c6
                by_cases c8 : (bt a0 x5_2) < 48
                · rw [if_pos c8] at H
                  have c8b0 : decide ((bt a0 x5_2) < 48) = true := decide_eq_true c8
                  clear c8
                  simp only [Option.some.injEq, Prod.mk.injEq] at H
                  obtain ⟨rfl, rfl⟩ := H
                  have p7 : 0 ≤ (x5_2 : Int) := of_decide_eq_true (by first | (with_reducible assumption) | assumption)
                  have q7 : x5_2 < (a0.size : Int) := of_decide_eq_true (by first | (with_reducible assumption) | assumption)
                  have hx7 := bt_at a0 x5_2
                  replace p7 := eq_true p7
                  replace q7 := eq_true q7
                  go_wp2
                  go_ret2
                  exact ⟨by first | rfl | (simp; done) | (simp [*]; done), by repeat (first | exact Drawn0.refl _ | apply Drawn0.step)⟩
                · rw [if_neg c8] at H
                  have c8b0 : decide ((bt a0 x5_2) < 48) = false := decide_eq_false c8
                  clear c8
                  by_cases c10 : (bt a0 x5_2) > 57
                  · rw [if_pos c10] at H
                    have c10b0 : decide (57 < (bt a0 x5_2)) = true := decide_eq_true c10
                    clear c10
                    simp only [Option.some.injEq, Prod.mk.injEq] at H
                    obtain ⟨rfl, rfl⟩ := H
                    have p7 : 0 ≤ (x5_2 : Int) := of_decide_eq_true (by first | (with_reducible assumption) | assumption)
                    have q7 : x5_2 < (a0.size : Int) := of_decide_eq_true (by first | (with_reducible assumption) | assumption)
                    have hx7 := bt_at a0 x5_2
                    replace p7 := eq_true p7
                    replace q7 := eq_true q7
                    have p9 : 0 ≤ (x5_2 : Int) := of_decide_eq_true (by first | (with_reducible assumption) | assumption)
                    have q9 : x5_2 < (a0.size : Int) := of_decide_eq_true (by first | (with_reducible assumption) | assumption)
                    have hx9 := bt_at a0 x5_2
                    replace p9 := eq_true p9
                    replace q9 := eq_true q9
                    go_wp2
                    go_ret2
                    exact ⟨by first | rfl | (simp; done) | (simp [*]; done), by repeat (first | exact Drawn0.refl _ | apply Drawn0.step)⟩
                  · rw [if_neg c10] at H
                    have c10b0 : decide (57 < (bt a0 x5_2)) = false := decide_eq_false c10
                    clear c10
                    have H' := Aside0.mk H
                    clear H
                    have p7 : 0 ≤ (x5_2 : Int) := of_decide_eq_true (by first | (with_reducible assumption) | assumption)
                    have q7 : x5_2 < (a0.size : Int) := of_decide_eq_true (by first | (with_reducible assumption) | assumption)
                    have hx7 := bt_at a0 x5_2
                    replace p7 := eq_true p7
                    replace q7 := eq_true q7
                    have p9 : 0 ≤ (x5_2 : Int) := of_decide_eq_true (by first | (with_reducible assumption) | assumption)
                    have q9 : x5_2 < (a0.size : Int) := of_decide_eq_true (by first | (with_reducible assumption) | assumption)
                    have hx9 := bt_at a0 x5_2
                    replace p9 := eq_true p9
                    replace q9 := eq_true q9
                    have p11 : 0 ≤ (x5_2 : Int) := of_decide_eq_true (by first | (with_reducible assumption) | assumption)
                    have q11 : x5_2 < (a0.size : Int) := of_decide_eq_true (by first | (with_reducible assumption) | assumption)
                    have hx11 := bt_at a0 x5_2
                    replace p11 := eq_true p11
                    replace q11 := eq_true q11
                    go_wp2
                    go_roundg k2
                    case measure => have := HJ1.out; have := HK2.out; omega
                    case rel => exact ⟨(IntKind.u64.wrap ((IntKind.u64.wrap (10 * x4_2)) + (((bt a0 x5_2) - 48) % 256))), (wrap64 (x5_2 + 1)), (by first | rfl | (simp; done) | (simp [*]; done)), (by first | rfl | (simp; done) | (simp [*]; done)), H', ⟨by have := HJ1.out; have := HK2.out; omega⟩, by repeat (first | exact Drawn0.refl _ | apply Drawn0.step)⟩
              · rw [if_neg c6] at H
                exact absurd H (by simp)
            · rw [if_neg c5] at H
              have c5b0 : decide (x5_2 < (a0.size : Int)) = false := decide_eq_false c5
              clear c5
              replace H := Option.bind_eq_some_iff.mp H
              obtain ⟨t186, A120, H⟩ := H
              replace H : (some (x4_2, (t186.toList == a0.toList))) = some (r1, r2) := H
              have A12 := Aside0.mk A120
              clear A120
              simp only [Option.some.injEq, Prod.mk.injEq] at H
              obtain ⟨rfl, rfl⟩ := H
              go_wp2_with (first | ((with_reducible refine gate_callee (f := 40) rfl ?_); refine goesL_ (some 40) rfl rfl Tryd.func40 (by kernel_rfl) rfl #[.int .u64 x4_2] rfl (by (try simp only [List.map_toArray, List.map_cons, List.map_nil]); first | done | rfl | (simp only [List.length_drop, List.length_take]; rfl)) ?_; (with_reducible refine (congressref20_Digits.calls k2 x4_2 t186 _ A12.out).mono ?_); rintro e w' ⟨rfl, ⟨nd, rfl⟩⟩; refine ⟨_, rfl, ?_⟩))
              go_ret2
              exact ⟨by first | rfl | (simp; done) | (simp [*]; done), by repeat (first | exact Drawn0.refl _ | apply Drawn0.step)⟩

/-! ### congressref20_code: function 33 -/
def congressref20_code.j0 : Nat → ByteArray → Bool → Option (Int × Bool)
  | 0, _, _ => none
  | k + 1, x0, x15 => if x15 = true then (if 1 ≤ (x0.size : Int) then ((congressref20_number.f k (x0.extract 1 x0.size)).bind fun bt187 => (if bt187.2 = true then (if bt187.1 > 0 then (some (wrap64 (IntKind.u64.wrap (-bt187.1)), decide (bt187.1 ≤ 9223372036854775808))) else (some (wrap64 (IntKind.u64.wrap (-bt187.1)), false))) else (some (wrap64 (IntKind.u64.wrap (-bt187.1)), false)))) else (none)) else ((congressref20_number.f k x0).bind fun bt189 => (if bt189.2 = true then (some (wrap64 (bt189.1), decide (bt189.1 ≤ 9223372036854775807))) else (some (wrap64 (bt189.1), false))))
def congressref20_code.f (k : Nat) (a0 : ByteArray) : Option (Int × Bool) := if (a0.size : Int) > 0 then (if 0 < (a0.size : Int) then (congressref20_code.j0 k a0 ((bt a0 0) == 45)) else (none)) else (congressref20_code.j0 k a0 false)
theorem congressref20_code.mono_l : ∀ k, (∀ y0 y1, LeO (congressref20_code.j0 k y0 y1) (congressref20_code.j0 (k + 1) y0 y1))
  | 0 => fun _ _ r h => by simp [congressref20_code.j0] at h
  | k + 1 => by
    have ih0 := congressref20_code.mono_l k
    · intro y0 y1
      unfold congressref20_code.j0
      repeat' first
      | (with_reducible exact ih0 _ _)
      | (with_reducible exact congressref20_number.mono _ _)
      | (with_reducible exact LeO.refl _)
      | (with_reducible exact LeO.none _)
      | (with_reducible refine LeO.ite ?_ ?_)
      | (with_reducible refine LeO.bind ?_ (fun _ => ?_))
      | exact ih0 _ _
      | exact congressref20_number.mono _ _
      | exact LeO.none _
      | refine LeO.ite ?_ ?_
      | refine LeO.bind ?_ (fun _ => ?_)
theorem congressref20_code.mono : ∀ a0 k, LeO (congressref20_code.f k a0) (congressref20_code.f (k + 1) a0) := by
  intro a0 k
  have ih0 := congressref20_code.mono_l k
  unfold congressref20_code.f
  repeat' first
      | (with_reducible exact ih0 _ _)
      | (with_reducible exact congressref20_number.mono _ _)
      | (with_reducible exact LeO.refl _)
      | (with_reducible exact LeO.none _)
      | (with_reducible refine LeO.ite ?_ ?_)
      | (with_reducible refine LeO.bind ?_ (fun _ => ?_))
      | exact ih0 _ _
      | exact congressref20_number.mono _ _
      | exact LeO.none _
      | refine LeO.ite ?_ ?_
      | refine LeO.bind ?_ (fun _ => ?_)
set_option maxHeartbeats 8000000 in
set_option maxRecDepth 100000 in
theorem congressref20_code.calls (k : Nat) (a0 : ByteArray) (r1 : Int) (r2 : Bool) (w : World) (h : congressref20_code.f k a0 = some (r1, r2)) :
    Calls Tryd.prog 33 #[.string a0] w fun e w' => e = .returned (.tuple #[.int .i64 r1, .bool r2]) ∧ Drawn0 w w' := by
  have H : (if (a0.size : Int) > 0 then (if 0 < (a0.size : Int) then (congressref20_code.j0 k a0 ((bt a0 0) == 45)) else (none)) else (congressref20_code.j0 k a0 false)) = some (r1, r2) := h
  clear h
  have HC2 := Aside0.mk H
  clear H
  go_enter Tryd.func33, Tryd.ntmps33
  go_upto_region 1 with (fail)
  go_cut [15] (fun v15 wc => ∃ (kq : Nat) (x15_1 : Bool), v15 = .bool x15_1 ∧ Aside0 (congressref20_code.j0 kq a0 x15_1 = some (r1, r2)) ∧ Aside0 (kq ≤ k) ∧ Drawn0 w wc)
  case first =>
    have H := HC2.out
    clear HC2
    by_cases c3 : (a0.size : Int) > 0
    · rw [if_pos c3] at H
      have c3b0 : decide (0 < (a0.size : Int)) = true := decide_eq_true c3
      have c3b1 : decide (0 < a0.size) = true := decide_eq_true (by omega)
      clear c3
      (first | rw [c3b0] | (simp only [i64_w, i32_w]; rw [c3b0]) | skip)
      by_cases c4 : 0 < (a0.size : Int)
      · rw [if_pos c4] at H
        have c4b0 : decide (0 < (a0.size : Int)) = true := decide_eq_true c4
        have c4b1 : decide (0 < a0.size) = true := decide_eq_true (by omega)
        clear c4
        have H' := Aside0.mk H
        clear H
        have p5 : 0 ≤ (0 : Int) := (by omega)
        have q5 : 0 < a0.size := (by have : (0 : Int) < (a0.size : Int) := of_decide_eq_true (by first | (with_reducible assumption) | assumption); omega)
        have hx5 : ∀ h : 0 < a0.size, ((a0[0]'h).toNat : Int) = bt a0 0 := bt_at a0 0
        clear p5
        have qi5 : (0 < (a0.size : Int)) = True := eq_true (of_decide_eq_true (by first | (with_reducible assumption) | assumption))
        replace q5 := eq_true q5
        go_wp2
        go_meet
        case rel => exact ⟨_, (((bt a0 0) == 45)), (by first | rfl | (simp; done) | (simp [*]; done)), H', ⟨by first | omega | exact Nat.le_refl _⟩, by repeat (first | exact Drawn0.refl _ | apply Drawn0.step)⟩
      · rw [if_neg c4] at H
        exact absurd H (by simp)
    · rw [if_neg c3] at H
      have c3b0 : decide (0 < (a0.size : Int)) = false := decide_eq_false c3
      have c3b1 : decide (0 < a0.size) = false := decide_eq_false (by omega)
      clear c3
      (first | rw [c3b0] | (simp only [i64_w, i32_w]; rw [c3b0]) | skip)
      have H' := Aside0.mk H
      clear H
      go_wp2
      go_meet
      case rel => exact ⟨_, (false), (by first | rfl | (simp; done) | (simp [*]; done)), H', ⟨by first | omega | exact Nat.le_refl _⟩, by repeat (first | exact Drawn0.refl _ | apply Drawn0.step)⟩
  case rest =>
    clear HC2
    try clear p2
    try clear c3
    try clear c3b0
    try clear c3b1
    try clear c4
    try clear c4b0
    try clear c4b1
    try clear p5
    try clear q5
    try clear hx5
    try clear qi5
    try clear p5
    try clear q5
    obtain ⟨kq, x15_1, rfl, HA, HJ1, ⟨mc1, rfl⟩⟩ := hcut
    cases kq with
    | zero => exact absurd HA.out (by simp [congressref20_code.j0])
    | succ kj1 =>
      have H := HA.out
      clear HA
      simp only [congressref20_code.j0] at H
      by_cases c6 : x15_1 = true
      · subst c6
        have H1 : (if 1 ≤ (a0.size : Int) then ((congressref20_number.f kj1 (a0.extract 1 a0.size)).bind fun bt187 => (if bt187.2 = true then (if bt187.1 > 0 then (some (wrap64 (IntKind.u64.wrap (-bt187.1)), decide (bt187.1 ≤ 9223372036854775808))) else (some (wrap64 (IntKind.u64.wrap (-bt187.1)), false))) else (some (wrap64 (IntKind.u64.wrap (-bt187.1)), false)))) else (none)) = some (r1, r2) := by rw [if_pos rfl] at H; exact H
        clear H
        have H := H1
        clear H1
        by_cases c7 : 1 ≤ (a0.size : Int)
        · rw [if_pos c7] at H
          have c7b0 := eq_true c7
          have c7b1 : decide (1 ≤ (a0.size : Int)) = true := decide_eq_true c7
          clear c7
          replace H := Option.bind_eq_some_iff.mp H
          obtain ⟨⟨t187, t188⟩, A80, H⟩ := H
          replace H : (if t188 = true then (if t187 > 0 then (some (wrap64 (IntKind.u64.wrap (-t187)), decide (t187 ≤ 9223372036854775808))) else (some (wrap64 (IntKind.u64.wrap (-t187)), false))) else (some (wrap64 (IntKind.u64.wrap (-t187)), false))) = some (r1, r2) := H
          have A8 := Aside0.mk A80
          clear A80
          by_cases c9 : t188 = true
          · subst c9
            have H1 : (if t187 > 0 then (some (wrap64 (IntKind.u64.wrap (-t187)), decide (t187 ≤ 9223372036854775808))) else (some (wrap64 (IntKind.u64.wrap (-t187)), false))) = some (r1, r2) := by rw [if_pos rfl] at H; exact H
            clear H
            have H := H1
            clear H1
            by_cases c10 : t187 > 0
            · rw [if_pos c10] at H
              have c10b0 : decide (0 < t187) = true := decide_eq_true c10
              clear c10
              simp only [Option.some.injEq, Prod.mk.injEq] at H
              obtain ⟨rfl, rfl⟩ := H
              go_wp2_with (first | ((with_reducible refine gate_callee (f := 32) rfl ?_); refine goesL_ (some 19) rfl rfl Tryd.func32 (by kernel_rfl) rfl #[.string (a0.extract 1 a0.size)] rfl (by (try simp only [List.map_toArray, List.map_cons, List.map_nil]); first | done | rfl | (simp only [List.length_drop, List.length_take]; rfl)) ?_; (with_reducible refine (congressref20_number.calls kj1 (a0.extract 1 a0.size) t187 true _ A8.out).mono ?_); rintro e w' ⟨rfl, ⟨nd, rfl⟩⟩; refine ⟨_, rfl, ?_⟩))
              go_ret2
              exact ⟨by first | rfl | (simp; done) | (simp [*]; done), by repeat (first | exact Drawn0.refl _ | apply Drawn0.step)⟩
            · rw [if_neg c10] at H
              have c10b0 : decide (0 < t187) = false := decide_eq_false c10
              clear c10
              simp only [Option.some.injEq, Prod.mk.injEq] at H
              obtain ⟨rfl, rfl⟩ := H
              go_wp2_with (first | ((with_reducible refine gate_callee (f := 32) rfl ?_); refine goesL_ (some 19) rfl rfl Tryd.func32 (by kernel_rfl) rfl #[.string (a0.extract 1 a0.size)] rfl (by (try simp only [List.map_toArray, List.map_cons, List.map_nil]); first | done | rfl | (simp only [List.length_drop, List.length_take]; rfl)) ?_; (with_reducible refine (congressref20_number.calls kj1 (a0.extract 1 a0.size) t187 true _ A8.out).mono ?_); rintro e w' ⟨rfl, ⟨nd, rfl⟩⟩; refine ⟨_, rfl, ?_⟩))
              go_ret2
              exact ⟨by first | rfl | (simp; done) | (simp [*]; done), by repeat (first | exact Drawn0.refl _ | apply Drawn0.step)⟩
          · replace c9 := Bool.eq_false_iff.mpr c9
            subst c9
            have H1 : (some (wrap64 (IntKind.u64.wrap (-t187)), false)) = some (r1, r2) := by rw [if_neg (show ¬ (false = true) by decide)] at H; exact H
            clear H
            have H := H1
            clear H1
            simp only [Option.some.injEq, Prod.mk.injEq] at H
            obtain ⟨rfl, rfl⟩ := H
            go_wp2_with (first | ((with_reducible refine gate_callee (f := 32) rfl ?_); refine goesL_ (some 19) rfl rfl Tryd.func32 (by kernel_rfl) rfl #[.string (a0.extract 1 a0.size)] rfl (by (try simp only [List.map_toArray, List.map_cons, List.map_nil]); first | done | rfl | (simp only [List.length_drop, List.length_take]; rfl)) ?_; (with_reducible refine (congressref20_number.calls kj1 (a0.extract 1 a0.size) t187 false _ A8.out).mono ?_); rintro e w' ⟨rfl, ⟨nd, rfl⟩⟩; refine ⟨_, rfl, ?_⟩))
            go_ret2
            exact ⟨by first | rfl | (simp; done) | (simp [*]; done), by repeat (first | exact Drawn0.refl _ | apply Drawn0.step)⟩
        · rw [if_neg c7] at H
          exact absurd H (by simp)
      · replace c6 := Bool.eq_false_iff.mpr c6
        subst c6
        have H1 : ((congressref20_number.f kj1 a0).bind fun bt189 => (if bt189.2 = true then (some (wrap64 (bt189.1), decide (bt189.1 ≤ 9223372036854775807))) else (some (wrap64 (bt189.1), false)))) = some (r1, r2) := by rw [if_neg (show ¬ (false = true) by decide)] at H; exact H
        clear H
        have H := H1
        clear H1
        replace H := Option.bind_eq_some_iff.mp H
        obtain ⟨⟨t189, t190⟩, A110, H⟩ := H
        replace H : (if t190 = true then (some (wrap64 (t189), decide (t189 ≤ 9223372036854775807))) else (some (wrap64 (t189), false))) = some (r1, r2) := H
        have A11 := Aside0.mk A110
        clear A110
        by_cases c12 : t190 = true
        · subst c12
          have H1 : (some (wrap64 (t189), decide (t189 ≤ 9223372036854775807))) = some (r1, r2) := by rw [if_pos rfl] at H; exact H
          clear H
          have H := H1
          clear H1
          simp only [Option.some.injEq, Prod.mk.injEq] at H
          obtain ⟨rfl, rfl⟩ := H
          go_wp2_with (first | ((with_reducible refine gate_callee (f := 32) rfl ?_); refine goesL_ (some 36) rfl rfl Tryd.func32 (by kernel_rfl) rfl #[.string a0] rfl (by (try simp only [List.map_toArray, List.map_cons, List.map_nil]); first | done | rfl | (simp only [List.length_drop, List.length_take]; rfl)) ?_; (with_reducible refine (congressref20_number.calls kj1 a0 t189 true _ A11.out).mono ?_); rintro e w' ⟨rfl, ⟨nd, rfl⟩⟩; refine ⟨_, rfl, ?_⟩))
          go_ret2
          exact ⟨by first | rfl | (simp; done) | (simp [*]; done), by repeat (first | exact Drawn0.refl _ | apply Drawn0.step)⟩
        · replace c12 := Bool.eq_false_iff.mpr c12
          subst c12
          have H1 : (some (wrap64 (t189), false)) = some (r1, r2) := by rw [if_neg (show ¬ (false = true) by decide)] at H; exact H
          clear H
          have H := H1
          clear H1
          simp only [Option.some.injEq, Prod.mk.injEq] at H
          obtain ⟨rfl, rfl⟩ := H
          go_wp2_with (first | ((with_reducible refine gate_callee (f := 32) rfl ?_); refine goesL_ (some 36) rfl rfl Tryd.func32 (by kernel_rfl) rfl #[.string a0] rfl (by (try simp only [List.map_toArray, List.map_cons, List.map_nil]); first | done | rfl | (simp only [List.length_drop, List.length_take]; rfl)) ?_; (with_reducible refine (congressref20_number.calls kj1 a0 t189 false _ A11.out).mono ?_); rintro e w' ⟨rfl, ⟨nd, rfl⟩⟩; refine ⟨_, rfl, ?_⟩))
          go_ret2
          exact ⟨by first | rfl | (simp; done) | (simp [*]; done), by repeat (first | exact Drawn0.refl _ | apply Drawn0.step)⟩

end Go.Proofs.YtoeioacgpildpaaDoor.P
