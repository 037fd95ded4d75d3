-- Written by a program of this session (wip/pprint.sh), out of the translation's own print. Not trusted: Lean checks it.
import Derived.Test.YtoeioacgpildpaaDoorP0
import Derived.Test.YtoeioacgpildpaaDoorP2
import Derived.Test.YtoeioacgpildpaaDoorP5
import Derived.Test.YtoeioacgpildpaaDoorP6
namespace Go.Proofs.YtoeioacgpildpaaDoor.P
open Go.RowKit Go.Proofs.YtoeioacgpildpaaDoorW.PrintWords Go.Proofs.YtoeioacgpildpaaDoorW.PrintLast Go.Proofs.YtoeioacgpildpaaDoorW.PrintMore
attribute [local go_sem] max2_int min2_int max_two min_two max_three min_three max_four min_four   -- for this text's walks alone
set_option linter.unusedVariables false
set_option linter.unusedSimpArgs false

/-! ### congressref20_Parse: function 18 -/
def congressref20_Parse.j0 : Nat → ByteArray → ByteArray → Int → Int → Int → Bool → Option (Int × Int × ByteArray × Int × Bool)
  | 0, _, _, _, _, _, _ => none
  | k + 1, x0, x11, x13, x15, x17, x98 => if x98 = true then (some (0, 0, (⟨#[]⟩ : ByteArray), 0, false)) else (if 1 ≤ (wrap64 ((x11.size : Int) - 2)) then (if (wrap64 ((x11.size : Int) - 2)) ≤ (x11.size : Int) then ((congressref20_call.f k (x11.extract 1 ((wrap64 ((x11.size : Int) - 2)) : Int).toNat)).bind fun bt220 => (if bt220.2 = true then ((congressref20_Line.f k x13 ((x15) % 4294967296) bt220.1 x17).bind fun t223 => (if t223.toList = x0.toList then (some (x13, (x15) % 4294967296, bt220.1, x17, true)) else (some (0, 0, (⟨#[]⟩ : ByteArray), 0, false)))) else (some (0, 0, (⟨#[]⟩ : ByteArray), 0, false)))) else (none)) else (none))
def congressref20_Parse.f (k : Nat) (a0 : ByteArray) : Option (Int × Int × ByteArray × Int × Bool) := (congressref20_word.f k a0).bind fun bt205 => ((congressref20_word.f k bt205.2.1).bind fun bt208 => ((congressref20_word.f k bt208.2.1).bind fun bt211 => ((congressref20_number.f k bt205.1).bind fun bt214 => ((congressref20_number.f k bt208.1).bind fun bt216 => ((congressref20_code.f k bt211.1).bind fun bt218 => (if bt205.2.2 = true then (if bt208.2.2 = true then (if bt211.2.2 = true then (if bt214.2 = true then (if bt216.2 = true then (if bt218.2 = true then (if bt216.1 > 4294967295 then (congressref20_Parse.j0 k a0 bt211.2.1 bt214.1 bt216.1 bt218.1 true) else (if (bt211.2.1.size : Int) < 3 then (congressref20_Parse.j0 k a0 bt211.2.1 bt214.1 bt216.1 bt218.1 true) else (if 0 < (bt211.2.1.size : Int) then (if (bt bt211.2.1 0) = 34 then (if 0 ≤ (wrap64 ((bt211.2.1.size : Int) - 2)) then (if (wrap64 ((bt211.2.1.size : Int) - 2)) ≤ (bt211.2.1.size : Int) then (congressref20_Parse.j0 k a0 bt211.2.1 bt214.1 bt216.1 bt218.1 ((bt211.2.1.extract ((wrap64 ((bt211.2.1.size : Int) - 2)) : Int).toNat bt211.2.1.size).toList != ([34, 10] : List UInt8))) else (none)) else (none)) else (congressref20_Parse.j0 k a0 bt211.2.1 bt214.1 bt216.1 bt218.1 true)) else (none)))) else (congressref20_Parse.j0 k a0 bt211.2.1 bt214.1 bt216.1 bt218.1 true)) else (congressref20_Parse.j0 k a0 bt211.2.1 bt214.1 bt216.1 bt218.1 true)) else (congressref20_Parse.j0 k a0 bt211.2.1 bt214.1 bt216.1 bt218.1 true)) else (congressref20_Parse.j0 k a0 bt211.2.1 bt214.1 bt216.1 bt218.1 true)) else (congressref20_Parse.j0 k a0 bt211.2.1 bt214.1 bt216.1 bt218.1 true)) else (congressref20_Parse.j0 k a0 bt211.2.1 bt214.1 bt216.1 bt218.1 true)))))))
theorem congressref20_Parse.mono_l : ∀ k, (∀ y0 y1 y2 y3 y4 y5, LeO (congressref20_Parse.j0 k y0 y1 y2 y3 y4 y5) (congressref20_Parse.j0 (k + 1) y0 y1 y2 y3 y4 y5))
  | 0 => fun _ _ _ _ _ _ r h => by simp [congressref20_Parse.j0] at h
  | k + 1 => by
    have ih0 := congressref20_Parse.mono_l k
    · intro y0 y1 y2 y3 y4 y5
      unfold congressref20_Parse.j0
      repeat' first
      | (with_reducible exact ih0 _ _ _ _ _ _)
      | (with_reducible exact congressref20_Line.mono _ _ _ _ _)
      | (with_reducible exact congressref20_call.mono _ _)
      | (with_reducible exact congressref20_code.mono _ _)
      | (with_reducible exact congressref20_number.mono _ _)
      | (with_reducible exact congressref20_word.mono _ _)
      | (with_reducible exact LeO.refl _)
      | (with_reducible exact LeO.none _)
      | (with_reducible refine LeO.ite ?_ ?_)
      | (with_reducible refine LeO.bind ?_ (fun _ => ?_))
      | exact ih0 _ _ _ _ _ _
      | exact congressref20_Line.mono _ _ _ _ _
      | exact congressref20_call.mono _ _
      | exact congressref20_code.mono _ _
      | exact congressref20_number.mono _ _
      | exact congressref20_word.mono _ _
      | exact LeO.none _
      | refine LeO.ite ?_ ?_
      | refine LeO.bind ?_ (fun _ => ?_)
theorem congressref20_Parse.mono : ∀ a0 k, LeO (congressref20_Parse.f k a0) (congressref20_Parse.f (k + 1) a0) := by
  intro a0 k
  have ih0 := congressref20_Parse.mono_l k
  unfold congressref20_Parse.f
  repeat' first
      | (with_reducible exact ih0 _ _ _ _ _ _)
      | (with_reducible exact congressref20_Line.mono _ _ _ _ _)
      | (with_reducible exact congressref20_call.mono _ _)
      | (with_reducible exact congressref20_code.mono _ _)
      | (with_reducible exact congressref20_number.mono _ _)
      | (with_reducible exact congressref20_word.mono _ _)
      | (with_reducible exact LeO.refl _)
      | (with_reducible exact LeO.none _)
      | (with_reducible refine LeO.ite ?_ ?_)
      | (with_reducible refine LeO.bind ?_ (fun _ => ?_))
      | exact ih0 _ _ _ _ _ _
      | exact congressref20_Line.mono _ _ _ _ _
      | exact congressref20_call.mono _ _
      | exact congressref20_code.mono _ _
      | exact congressref20_number.mono _ _
      | exact congressref20_word.mono _ _
      | exact LeO.none _
      | refine LeO.ite ?_ ?_
      | refine LeO.bind ?_ (fun _ => ?_)
set_option maxHeartbeats 8000000 in
set_option maxRecDepth 100000 in
theorem congressref20_Parse.calls (k : Nat) (a0 : ByteArray) (r1 : Int) (r2 : Int) (r3 : ByteArray) (r4 : Int) (r5 : Bool) (w : World) (h : congressref20_Parse.f k a0 = some (r1, r2, r3, r4, r5)) :
    Calls Tryd.prog 18 #[.string a0] w fun e w' => e = .returned (.tuple #[.agg #[.int .u64 r1, .int .u32 r2, .string r3, .int .i64 r4], .bool r5]) ∧ Below w.heap.size w w' := by
  have hu27 := Tryd.underlying27
  have HB := Aside0.mk (Below.refl w.heap.size w)
  have H : ((congressref20_word.f k a0).bind fun bt205 => ((congressref20_word.f k bt205.2.1).bind fun bt208 => ((congressref20_word.f k bt208.2.1).bind fun bt211 => ((congressref20_number.f k bt205.1).bind fun bt214 => ((congressref20_number.f k bt208.1).bind fun bt216 => ((congressref20_code.f k bt211.1).bind fun bt218 => (if bt205.2.2 = true then (if bt208.2.2 = true then (if bt211.2.2 = true then (if bt214.2 = true then (if bt216.2 = true then (if bt218.2 = true then (if bt216.1 > 4294967295 then (congressref20_Parse.j0 k a0 bt211.2.1 bt214.1 bt216.1 bt218.1 true) else (if (bt211.2.1.size : Int) < 3 then (congressref20_Parse.j0 k a0 bt211.2.1 bt214.1 bt216.1 bt218.1 true) else (if 0 < (bt211.2.1.size : Int) then (if (bt bt211.2.1 0) = 34 then (if 0 ≤ (wrap64 ((bt211.2.1.size : Int) - 2)) then (if (wrap64 ((bt211.2.1.size : Int) - 2)) ≤ (bt211.2.1.size : Int) then (congressref20_Parse.j0 k a0 bt211.2.1 bt214.1 bt216.1 bt218.1 ((bt211.2.1.extract ((wrap64 ((bt211.2.1.size : Int) - 2)) : Int).toNat bt211.2.1.size).toList != ([34, 10] : List UInt8))) else (none)) else (none)) else (congressref20_Parse.j0 k a0 bt211.2.1 bt214.1 bt216.1 bt218.1 true)) else (none)))) else (congressref20_Parse.j0 k a0 bt211.2.1 bt214.1 bt216.1 bt218.1 true)) else (congressref20_Parse.j0 k a0 bt211.2.1 bt214.1 bt216.1 bt218.1 true)) else (congressref20_Parse.j0 k a0 bt211.2.1 bt214.1 bt216.1 bt218.1 true)) else (congressref20_Parse.j0 k a0 bt211.2.1 bt214.1 bt216.1 bt218.1 true)) else (congressref20_Parse.j0 k a0 bt211.2.1 bt214.1 bt216.1 bt218.1 true)) else (congressref20_Parse.j0 k a0 bt211.2.1 bt214.1 bt216.1 bt218.1 true)))))))) = some (r1, r2, r3, r4, r5) := h
  clear h
  replace H := Option.bind_eq_some_iff.mp H
  obtain ⟨⟨t205, t206, t207⟩, A20, H⟩ := H
  replace H : ((congressref20_word.f k t206).bind fun bt208 => ((congressref20_word.f k bt208.2.1).bind fun bt211 => ((congressref20_number.f k t205).bind fun bt214 => ((congressref20_number.f k bt208.1).bind fun bt216 => ((congressref20_code.f k bt211.1).bind fun bt218 => (if t207 = true then (if bt208.2.2 = true then (if bt211.2.2 = true then (if bt214.2 = true then (if bt216.2 = true then (if bt218.2 = true then (if bt216.1 > 4294967295 then (congressref20_Parse.j0 k a0 bt211.2.1 bt214.1 bt216.1 bt218.1 true) else (if (bt211.2.1.size : Int) < 3 then (congressref20_Parse.j0 k a0 bt211.2.1 bt214.1 bt216.1 bt218.1 true) else (if 0 < (bt211.2.1.size : Int) then (if (bt bt211.2.1 0) = 34 then (if 0 ≤ (wrap64 ((bt211.2.1.size : Int) - 2)) then (if (wrap64 ((bt211.2.1.size : Int) - 2)) ≤ (bt211.2.1.size : Int) then (congressref20_Parse.j0 k a0 bt211.2.1 bt214.1 bt216.1 bt218.1 ((bt211.2.1.extract ((wrap64 ((bt211.2.1.size : Int) - 2)) : Int).toNat bt211.2.1.size).toList != ([34, 10] : List UInt8))) else (none)) else (none)) else (congressref20_Parse.j0 k a0 bt211.2.1 bt214.1 bt216.1 bt218.1 true)) else (none)))) else (congressref20_Parse.j0 k a0 bt211.2.1 bt214.1 bt216.1 bt218.1 true)) else (congressref20_Parse.j0 k a0 bt211.2.1 bt214.1 bt216.1 bt218.1 true)) else (congressref20_Parse.j0 k a0 bt211.2.1 bt214.1 bt216.1 bt218.1 true)) else (congressref20_Parse.j0 k a0 bt211.2.1 bt214.1 bt216.1 bt218.1 true)) else (congressref20_Parse.j0 k a0 bt211.2.1 bt214.1 bt216.1 bt218.1 true)) else (congressref20_Parse.j0 k a0 bt211.2.1 bt214.1 bt216.1 bt218.1 true))))))) = some (r1, r2, r3, r4, r5) := H
  have A2 := Aside0.mk A20
  clear A20
  replace H := Option.bind_eq_some_iff.mp H
  obtain ⟨⟨t208, t209, t210⟩, A30, H⟩ := H
  replace H : ((congressref20_word.f k t209).bind fun bt211 => ((congressref20_number.f k t205).bind fun bt214 => ((congressref20_number.f k t208).bind fun bt216 => ((congressref20_code.f k bt211.1).bind fun bt218 => (if t207 = true then (if t210 = true then (if bt211.2.2 = true then (if bt214.2 = true then (if bt216.2 = true then (if bt218.2 = true then (if bt216.1 > 4294967295 then (congressref20_Parse.j0 k a0 bt211.2.1 bt214.1 bt216.1 bt218.1 true) else (if (bt211.2.1.size : Int) < 3 then (congressref20_Parse.j0 k a0 bt211.2.1 bt214.1 bt216.1 bt218.1 true) else (if 0 < (bt211.2.1.size : Int) then (if (bt bt211.2.1 0) = 34 then (if 0 ≤ (wrap64 ((bt211.2.1.size : Int) - 2)) then (if (wrap64 ((bt211.2.1.size : Int) - 2)) ≤ (bt211.2.1.size : Int) then (congressref20_Parse.j0 k a0 bt211.2.1 bt214.1 bt216.1 bt218.1 ((bt211.2.1.extract ((wrap64 ((bt211.2.1.size : Int) - 2)) : Int).toNat bt211.2.1.size).toList != ([34, 10] : List UInt8))) else (none)) else (none)) else (congressref20_Parse.j0 k a0 bt211.2.1 bt214.1 bt216.1 bt218.1 true)) else (none)))) else (congressref20_Parse.j0 k a0 bt211.2.1 bt214.1 bt216.1 bt218.1 true)) else (congressref20_Parse.j0 k a0 bt211.2.1 bt214.1 bt216.1 bt218.1 true)) else (congressref20_Parse.j0 k a0 bt211.2.1 bt214.1 bt216.1 bt218.1 true)) else (congressref20_Parse.j0 k a0 bt211.2.1 bt214.1 bt216.1 bt218.1 true)) else (congressref20_Parse.j0 k a0 bt211.2.1 bt214.1 bt216.1 bt218.1 true)) else (congressref20_Parse.j0 k a0 bt211.2.1 bt214.1 bt216.1 bt218.1 true)))))) = some (r1, r2, r3, r4, r5) := H
  have A3 := Aside0.mk A30
  clear A30
  replace H := Option.bind_eq_some_iff.mp H
  obtain ⟨⟨t211, t212, t213⟩, A40, H⟩ := H
  replace H : ((congressref20_number.f k t205).bind fun bt214 => ((congressref20_number.f k t208).bind fun bt216 => ((congressref20_code.f k t211).bind fun bt218 => (if t207 = true then (if t210 = true then (if t213 = true then (if bt214.2 = true then (if bt216.2 = true then (if bt218.2 = true then (if bt216.1 > 4294967295 then (congressref20_Parse.j0 k a0 t212 bt214.1 bt216.1 bt218.1 true) else (if (t212.size : Int) < 3 then (congressref20_Parse.j0 k a0 t212 bt214.1 bt216.1 bt218.1 true) else (if 0 < (t212.size : Int) then (if (bt t212 0) = 34 then (if 0 ≤ (wrap64 ((t212.size : Int) - 2)) then (if (wrap64 ((t212.size : Int) - 2)) ≤ (t212.size : Int) then (congressref20_Parse.j0 k a0 t212 bt214.1 bt216.1 bt218.1 ((t212.extract ((wrap64 ((t212.size : Int) - 2)) : Int).toNat t212.size).toList != ([34, 10] : List UInt8))) else (none)) else (none)) else (congressref20_Parse.j0 k a0 t212 bt214.1 bt216.1 bt218.1 true)) else (none)))) else (congressref20_Parse.j0 k a0 t212 bt214.1 bt216.1 bt218.1 true)) else (congressref20_Parse.j0 k a0 t212 bt214.1 bt216.1 bt218.1 true)) else (congressref20_Parse.j0 k a0 t212 bt214.1 bt216.1 bt218.1 true)) else (congressref20_Parse.j0 k a0 t212 bt214.1 bt216.1 bt218.1 true)) else (congressref20_Parse.j0 k a0 t212 bt214.1 bt216.1 bt218.1 true)) else (congressref20_Parse.j0 k a0 t212 bt214.1 bt216.1 bt218.1 true))))) = some (r1, r2, r3, r4, r5) := H
  have A4 := Aside0.mk A40
  clear A40
  replace H := Option.bind_eq_some_iff.mp H
  obtain ⟨⟨t214, t215⟩, A50, H⟩ := H
  replace H : ((congressref20_number.f k t208).bind fun bt216 => ((congressref20_code.f k t211).bind fun bt218 => (if t207 = true then (if t210 = true then (if t213 = true then (if t215 = true then (if bt216.2 = true then (if bt218.2 = true then (if bt216.1 > 4294967295 then (congressref20_Parse.j0 k a0 t212 t214 bt216.1 bt218.1 true) else (if (t212.size : Int) < 3 then (congressref20_Parse.j0 k a0 t212 t214 bt216.1 bt218.1 true) else (if 0 < (t212.size : Int) then (if (bt t212 0) = 34 then (if 0 ≤ (wrap64 ((t212.size : Int) - 2)) then (if (wrap64 ((t212.size : Int) - 2)) ≤ (t212.size : Int) then (congressref20_Parse.j0 k a0 t212 t214 bt216.1 bt218.1 ((t212.extract ((wrap64 ((t212.size : Int) - 2)) : Int).toNat t212.size).toList != ([34, 10] : List UInt8))) else (none)) else (none)) else (congressref20_Parse.j0 k a0 t212 t214 bt216.1 bt218.1 true)) else (none)))) else (congressref20_Parse.j0 k a0 t212 t214 bt216.1 bt218.1 true)) else (congressref20_Parse.j0 k a0 t212 t214 bt216.1 bt218.1 true)) else (congressref20_Parse.j0 k a0 t212 t214 bt216.1 bt218.1 true)) else (congressref20_Parse.j0 k a0 t212 t214 bt216.1 bt218.1 true)) else (congressref20_Parse.j0 k a0 t212 t214 bt216.1 bt218.1 true)) else (congressref20_Parse.j0 k a0 t212 t214 bt216.1 bt218.1 true)))) = some (r1, r2, r3, r4, r5) := H
  have A5 := Aside0.mk A50
  clear A50
  replace H := Option.bind_eq_some_iff.mp H
  obtain ⟨⟨t216, t217⟩, A60, H⟩ := H
  replace H : ((congressref20_code.f k t211).bind fun bt218 => (if t207 = true then (if t210 = true then (if t213 = true then (if t215 = true then (if t217 = true then (if bt218.2 = true then (if t216 > 4294967295 then (congressref20_Parse.j0 k a0 t212 t214 t216 bt218.1 true) else (if (t212.size : Int) < 3 then (congressref20_Parse.j0 k a0 t212 t214 t216 bt218.1 true) else (if 0 < (t212.size : Int) then (if (bt t212 0) = 34 then (if 0 ≤ (wrap64 ((t212.size : Int) - 2)) then (if (wrap64 ((t212.size : Int) - 2)) ≤ (t212.size : Int) then (congressref20_Parse.j0 k a0 t212 t214 t216 bt218.1 ((t212.extract ((wrap64 ((t212.size : Int) - 2)) : Int).toNat t212.size).toList != ([34, 10] : List UInt8))) else (none)) else (none)) else (congressref20_Parse.j0 k a0 t212 t214 t216 bt218.1 true)) else (none)))) else (congressref20_Parse.j0 k a0 t212 t214 t216 bt218.1 true)) else (congressref20_Parse.j0 k a0 t212 t214 t216 bt218.1 true)) else (congressref20_Parse.j0 k a0 t212 t214 t216 bt218.1 true)) else (congressref20_Parse.j0 k a0 t212 t214 t216 bt218.1 true)) else (congressref20_Parse.j0 k a0 t212 t214 t216 bt218.1 true)) else (congressref20_Parse.j0 k a0 t212 t214 t216 bt218.1 true))) = some (r1, r2, r3, r4, r5) := H
  have A6 := Aside0.mk A60
  clear A60
  replace H := Option.bind_eq_some_iff.mp H
  obtain ⟨⟨t218, t219⟩, A70, H⟩ := H
  replace H : (if t207 = true then (if t210 = true then (if t213 = true then (if t215 = true then (if t217 = true then (if t219 = true then (if t216 > 4294967295 then (congressref20_Parse.j0 k a0 t212 t214 t216 t218 true) else (if (t212.size : Int) < 3 then (congressref20_Parse.j0 k a0 t212 t214 t216 t218 true) else (if 0 < (t212.size : Int) then (if (bt t212 0) = 34 then (if 0 ≤ (wrap64 ((t212.size : Int) - 2)) then (if (wrap64 ((t212.size : Int) - 2)) ≤ (t212.size : Int) then (congressref20_Parse.j0 k a0 t212 t214 t216 t218 ((t212.extract ((wrap64 ((t212.size : Int) - 2)) : Int).toNat t212.size).toList != ([34, 10] : List UInt8))) else (none)) else (none)) else (congressref20_Parse.j0 k a0 t212 t214 t216 t218 true)) else (none)))) else (congressref20_Parse.j0 k a0 t212 t214 t216 t218 true)) else (congressref20_Parse.j0 k a0 t212 t214 t216 t218 true)) else (congressref20_Parse.j0 k a0 t212 t214 t216 t218 true)) else (congressref20_Parse.j0 k a0 t212 t214 t216 t218 true)) else (congressref20_Parse.j0 k a0 t212 t214 t216 t218 true)) else (congressref20_Parse.j0 k a0 t212 t214 t216 t218 true)) = some (r1, r2, r3, r4, r5) := H
  have A7 := Aside0.mk A70
  clear A70
  have HC8 := Aside0.mk H
  clear H
  go_enter Tryd.func18, Tryd.ntmps18
  go_upto_region 7 with (first | ((with_reducible refine gate_dst (N := 2) rfl ?_); (try (refine gate_guard (by rfl) ?_; dsimp only)); refine box_event ?hg (N := 2) ?hd (cs := #[.int .u64 0, .int .u32 0, .string (⟨#[]⟩ : ByteArray), .int .i64 0]) (t := 27) ?hr ?_; (case hd => rfl); (case hg => rfl); (case hr => first | (go_simp; done) | (go_simp; rfl)); intro gb204 hg w9 hbox hb; have n0_ := Aside0.mk (below_step (by repeat (first | (with_reducible first | exact HB.out | apply below_alloc | apply pw_below_drewN | apply below_drew1) | exact HB.out)) hb); have n1_ := Aside0.mk (hbox); have n2_ := Aside0.mk ((by rw [hg]; exact (below_size (by repeat (first | (with_reducible first | exact HB.out | apply below_alloc | apply pw_below_drewN | apply below_drew1) | exact HB.out))) : w.heap.size ≤ gb204)); have n3_ := Aside0.mk ((by rw [hg]; exact (below_size (by repeat (first | (with_reducible first | exact HB.out | apply below_alloc | apply pw_below_drewN | apply below_drew1) | exact HB.out))) : w.heap.size ≤ gb204)); clear HB; have HB := n0_; have BK204 := n1_; have GW204 := n2_; have GE204 := n3_; clear n0_ n1_ n2_ n3_; clear hb hbox hg) | ((with_reducible refine gate_callee (f := 31) rfl ?_); refine goesL_ (some 24) rfl rfl Tryd.func31 (by kernel_rfl) rfl #[.string a0] rfl (by (try simp only [List.map_toArray, List.map_cons, List.map_nil]); first | done | rfl | (simp only [List.length_drop, List.length_take]; rfl)) ?_; (with_reducible refine (congressref20_word.calls k a0 t205 t206 t207 _ A2.out).mono ?_); rintro e w' ⟨rfl, ⟨nd, rfl⟩⟩; refine ⟨_, rfl, ?_⟩) | ((with_reducible refine gate_callee (f := 31) rfl ?_); refine goesL_ (some 30) rfl rfl Tryd.func31 (by kernel_rfl) rfl #[.string t206] rfl (by (try simp only [List.map_toArray, List.map_cons, List.map_nil]); first | done | rfl | (simp only [List.length_drop, List.length_take]; rfl)) ?_; (with_reducible refine (congressref20_word.calls k t206 t208 t209 t210 _ A3.out).mono ?_); rintro e w' ⟨rfl, ⟨nd, rfl⟩⟩; refine ⟨_, rfl, ?_⟩) | ((with_reducible refine gate_callee (f := 31) rfl ?_); refine goesL_ (some 36) rfl rfl Tryd.func31 (by kernel_rfl) rfl #[.string t209] rfl (by (try simp only [List.map_toArray, List.map_cons, List.map_nil]); first | done | rfl | (simp only [List.length_drop, List.length_take]; rfl)) ?_; (with_reducible refine (congressref20_word.calls k t209 t211 t212 t213 _ A4.out).mono ?_); rintro e w' ⟨rfl, ⟨nd, rfl⟩⟩; refine ⟨_, rfl, ?_⟩) | ((with_reducible refine gate_callee (f := 32) rfl ?_); refine goesL_ (some 42) rfl rfl Tryd.func32 (by kernel_rfl) rfl #[.string t205] rfl (by (try simp only [List.map_toArray, List.map_cons, List.map_nil]); first | done | rfl | (simp only [List.length_drop, List.length_take]; rfl)) ?_; (with_reducible refine (congressref20_number.calls k t205 t214 t215 _ A5.out).mono ?_); rintro e w' ⟨rfl, ⟨nd, rfl⟩⟩; refine ⟨_, rfl, ?_⟩) | ((with_reducible refine gate_callee (f := 32) rfl ?_); refine goesL_ (some 47) rfl rfl Tryd.func32 (by kernel_rfl) rfl #[.string t208] rfl (by (try simp only [List.map_toArray, List.map_cons, List.map_nil]); first | done | rfl | (simp only [List.length_drop, List.length_take]; rfl)) ?_; (with_reducible refine (congressref20_number.calls k t208 t216 t217 _ A6.out).mono ?_); rintro e w' ⟨rfl, ⟨nd, rfl⟩⟩; refine ⟨_, rfl, ?_⟩) | ((with_reducible refine gate_callee (f := 33) rfl ?_); refine goesL_ (some 52) rfl rfl Tryd.func33 (by kernel_rfl) rfl #[.string t211] rfl (by (try simp only [List.map_toArray, List.map_cons, List.map_nil]); first | done | rfl | (simp only [List.length_drop, List.length_take]; rfl)) ?_; (with_reducible refine (congressref20_code.calls k t211 t218 t219 _ A7.out).mono ?_); rintro e w' ⟨rfl, ⟨nd, rfl⟩⟩; refine ⟨_, rfl, ?_⟩))
  (try simp only [Act.put, List.setIfInBounds_toArray, List.set_cons_zero, List.set_cons_succ])
  go_cut [98] (fun v98 wc => ∃ (kq : Nat) (x98_7 : Bool), v98 = .bool x98_7 ∧ Aside0 (congressref20_Parse.j0 kq a0 t212 t214 t216 t218 x98_7 = some (r1, r2, r3, r4, r5)) ∧ Aside0 (kq ≤ k) ∧ Aside0 (wc.heap[gb204]? = some (.cells #[.int .u64 0, .int .u32 0, .string (⟨#[]⟩ : ByteArray), .int .i64 0] 27 (0, 0))) ∧ Aside0 (Below w.heap.size w wc))
  case first =>
    have H := HC8.out
    clear HC8
    by_cases c10 : t207 = true
    · subst c10
      have H1 : (if t210 = true then (if t213 = true then (if t215 = true then (if t217 = true then (if t219 = true then (if t216 > 4294967295 then (congressref20_Parse.j0 k a0 t212 t214 t216 t218 true) else (if (t212.size : Int) < 3 then (congressref20_Parse.j0 k a0 t212 t214 t216 t218 true) else (if 0 < (t212.size : Int) then (if (bt t212 0) = 34 then (if 0 ≤ (wrap64 ((t212.size : Int) - 2)) then (if (wrap64 ((t212.size : Int) - 2)) ≤ (t212.size : Int) then (congressref20_Parse.j0 k a0 t212 t214 t216 t218 ((t212.extract ((wrap64 ((t212.size : Int) - 2)) : Int).toNat t212.size).toList != ([34, 10] : List UInt8))) else (none)) else (none)) else (congressref20_Parse.j0 k a0 t212 t214 t216 t218 true)) else (none)))) else (congressref20_Parse.j0 k a0 t212 t214 t216 t218 true)) else (congressref20_Parse.j0 k a0 t212 t214 t216 t218 true)) else (congressref20_Parse.j0 k a0 t212 t214 t216 t218 true)) else (congressref20_Parse.j0 k a0 t212 t214 t216 t218 true)) else (congressref20_Parse.j0 k a0 t212 t214 t216 t218 true)) = some (r1, r2, r3, r4, r5) := by rw [if_pos rfl] at H; exact H
      clear H
      have H := H1
      clear H1
      by_cases c11 : t210 = true
      · subst c11
        have H1 : (if t213 = true then (if t215 = true then (if t217 = true then (if t219 = true then (if t216 > 4294967295 then (congressref20_Parse.j0 k a0 t212 t214 t216 t218 true) else (if (t212.size : Int) < 3 then (congressref20_Parse.j0 k a0 t212 t214 t216 t218 true) else (if 0 < (t212.size : Int) then (if (bt t212 0) = 34 then (if 0 ≤ (wrap64 ((t212.size : Int) - 2)) then (if (wrap64 ((t212.size : Int) - 2)) ≤ (t212.size : Int) then (congressref20_Parse.j0 k a0 t212 t214 t216 t218 ((t212.extract ((wrap64 ((t212.size : Int) - 2)) : Int).toNat t212.size).toList != ([34, 10] : List UInt8))) else (none)) else (none)) else (congressref20_Parse.j0 k a0 t212 t214 t216 t218 true)) else (none)))) else (congressref20_Parse.j0 k a0 t212 t214 t216 t218 true)) else (congressref20_Parse.j0 k a0 t212 t214 t216 t218 true)) else (congressref20_Parse.j0 k a0 t212 t214 t216 t218 true)) else (congressref20_Parse.j0 k a0 t212 t214 t216 t218 true)) = some (r1, r2, r3, r4, r5) := by rw [if_pos rfl] at H; exact H
        clear H
        have H := H1
        clear H1
        by_cases c12 : t213 = true
        · subst c12
          have H1 : (if t215 = true then (if t217 = true then (if t219 = true then (if t216 > 4294967295 then (congressref20_Parse.j0 k a0 t212 t214 t216 t218 true) else (if (t212.size : Int) < 3 then (congressref20_Parse.j0 k a0 t212 t214 t216 t218 true) else (if 0 < (t212.size : Int) then (if (bt t212 0) = 34 then (if 0 ≤ (wrap64 ((t212.size : Int) - 2)) then (if (wrap64 ((t212.size : Int) - 2)) ≤ (t212.size : Int) then (congressref20_Parse.j0 k a0 t212 t214 t216 t218 ((t212.extract ((wrap64 ((t212.size : Int) - 2)) : Int).toNat t212.size).toList != ([34, 10] : List UInt8))) else (none)) else (none)) else (congressref20_Parse.j0 k a0 t212 t214 t216 t218 true)) else (none)))) else (congressref20_Parse.j0 k a0 t212 t214 t216 t218 true)) else (congressref20_Parse.j0 k a0 t212 t214 t216 t218 true)) else (congressref20_Parse.j0 k a0 t212 t214 t216 t218 true)) = some (r1, r2, r3, r4, r5) := by rw [if_pos rfl] at H; exact H
          clear H
          have H := H1
          clear H1
          by_cases c13 : t215 = true
          · subst c13
            have H1 : (if t217 = true then (if t219 = true then (if t216 > 4294967295 then (congressref20_Parse.j0 k a0 t212 t214 t216 t218 true) else (if (t212.size : Int) < 3 then (congressref20_Parse.j0 k a0 t212 t214 t216 t218 true) else (if 0 < (t212.size : Int) then (if (bt t212 0) = 34 then (if 0 ≤ (wrap64 ((t212.size : Int) - 2)) then (if (wrap64 ((t212.size : Int) - 2)) ≤ (t212.size : Int) then (congressref20_Parse.j0 k a0 t212 t214 t216 t218 ((t212.extract ((wrap64 ((t212.size : Int) - 2)) : Int).toNat t212.size).toList != ([34, 10] : List UInt8))) else (none)) else (none)) else (congressref20_Parse.j0 k a0 t212 t214 t216 t218 true)) else (none)))) else (congressref20_Parse.j0 k a0 t212 t214 t216 t218 true)) else (congressref20_Parse.j0 k a0 t212 t214 t216 t218 true)) = some (r1, r2, r3, r4, r5) := by rw [if_pos rfl] at H; exact H
            clear H
            have H := H1
            clear H1
            by_cases c14 : t217 = true
            · subst c14
              have H1 : (if t219 = true then (if t216 > 4294967295 then (congressref20_Parse.j0 k a0 t212 t214 t216 t218 true) else (if (t212.size : Int) < 3 then (congressref20_Parse.j0 k a0 t212 t214 t216 t218 true) else (if 0 < (t212.size : Int) then (if (bt t212 0) = 34 then (if 0 ≤ (wrap64 ((t212.size : Int) - 2)) then (if (wrap64 ((t212.size : Int) - 2)) ≤ (t212.size : Int) then (congressref20_Parse.j0 k a0 t212 t214 t216 t218 ((t212.extract ((wrap64 ((t212.size : Int) - 2)) : Int).toNat t212.size).toList != ([34, 10] : List UInt8))) else (none)) else (none)) else (congressref20_Parse.j0 k a0 t212 t214 t216 t218 true)) else (none)))) else (congressref20_Parse.j0 k a0 t212 t214 t216 t218 true)) = some (r1, r2, r3, r4, r5) := by rw [if_pos rfl] at H; exact H
              clear H
              have H := H1
              clear H1
              by_cases c15 : t219 = true
              · subst c15
                have H1 : (if t216 > 4294967295 then (congressref20_Parse.j0 k a0 t212 t214 t216 t218 true) else (if (t212.size : Int) < 3 then (congressref20_Parse.j0 k a0 t212 t214 t216 t218 true) else (if 0 < (t212.size : Int) then (if (bt t212 0) = 34 then (if 0 ≤ (wrap64 ((t212.size : Int) - 2)) then (if (wrap64 ((t212.size : Int) - 2)) ≤ (t212.size : Int) then (congressref20_Parse.j0 k a0 t212 t214 t216 t218 ((t212.extract ((wrap64 ((t212.size : Int) - 2)) : Int).toNat t212.size).toList != ([34, 10] : List UInt8))) else (none)) else (none)) else (congressref20_Parse.j0 k a0 t212 t214 t216 t218 true)) else (none)))) = some (r1, r2, r3, r4, r5) := by rw [if_pos rfl] at H; exact H
                clear H
                have H := H1
                clear H1
                by_cases c16 : t216 > 4294967295
                · rw [if_pos c16] at H
                  have c16b0 : decide (4294967295 < t216) = true := decide_eq_true c16
                  clear c16
                  (first | rw [c16b0] | (simp only [i64_w, i32_w]; rw [c16b0]) | skip)
                  have H' := Aside0.mk H
                  clear H
                  go_wp2
                  go_meet
                  case rel => exact ⟨_, (true), (by first | rfl | (simp; done) | (simp [*]; done)), H', ⟨by first | omega | exact Nat.le_refl _⟩, ⟨by (with_reducible repeat (first | refine blk_drewN ?_ _ | refine blk_drew ?_ | refine blk_alloc ?_ _)); exact BK204.out⟩, ⟨by repeat (first | (with_reducible first | exact HB.out | apply below_alloc | apply pw_below_drewN | apply below_drew1 | refine below_set ?_ GE204.out) | exact HB.out)⟩⟩
                · rw [if_neg c16] at H
                  have c16b0 : decide (4294967295 < t216) = false := decide_eq_false c16
                  clear c16
                  (first | rw [c16b0] | (simp only [i64_w, i32_w]; rw [c16b0]) | skip)
                  by_cases c17 : (t212.size : Int) < 3
                  · rw [if_pos c17] at H
                    have c17b0 : decide ((t212.size : Int) < 3) = true := decide_eq_true c17
                    have c17b1 : decide (t212.size < 3) = true := decide_eq_true (by omega)
                    clear c17
                    have H' := Aside0.mk H
                    clear H
                    go_wp2
                    go_meet
                    case rel => exact ⟨_, (true), (by first | rfl | (simp; done) | (simp [*]; done)), H', ⟨by first | omega | exact Nat.le_refl _⟩, ⟨by (with_reducible repeat (first | refine blk_drewN ?_ _ | refine blk_drew ?_ | refine blk_alloc ?_ _)); exact BK204.out⟩, ⟨by repeat (first | (with_reducible first | exact HB.out | apply below_alloc | apply pw_below_drewN | apply below_drew1 | refine below_set ?_ GE204.out) | exact HB.out)⟩⟩
                  · rw [if_neg c17] at H
                    have c17b0 : decide ((t212.size : Int) < 3) = false := decide_eq_false c17
                    have c17b1 : decide (t212.size < 3) = false := decide_eq_false (by omega)
                    clear c17
                    by_cases c18 : 0 < (t212.size : Int)
                    · rw [if_pos c18] at H
                      have c18b0 : decide (0 < (t212.size : Int)) = true := decide_eq_true c18
                      have c18b1 : decide (0 < t212.size) = true := decide_eq_true (by omega)
                      clear c18
                      by_cases c20 : (bt t212 0) = 34
                      · rw [if_pos c20] at H
                        have c20b0 : ((bt t212 0) == 34) = true := beq_iff_eq.mpr c20
                        have c20b1 : ((bt t212 0) != 34) = false := bne_eq_false_iff_eq.mpr c20
                        clear c20
                        obtain ⟨ji21, hji21⟩ : ∃ j_ : Int, (wrap64 ((t212.size : Int) - 2)) = j_ := ⟨_, rfl⟩
                        replace H : (if 0 ≤ (ji21) then (if (ji21) ≤ (t212.size : Int) then (congressref20_Parse.j0 k a0 t212 t214 t216 t218 ((t212.extract ((ji21) : Int).toNat t212.size).toList != ([34, 10] : List UInt8))) else (none)) else (none)) = some (r1, r2, r3, r4, r5) := by first | (rw [hji21] at H; exact H) | (simp only [hji21] at H ⊢; exact H)
                        have hji21w : (IntKind.i64.wrap ((t212.size : Int) - 2)) = ji21 := (i64_w _).trans hji21
                        by_cases c22 : 0 ≤ (ji21)
                        · rw [if_pos c22] at H
                          have c22b0 := eq_true c22
                          have c22b1 : decide (0 ≤ (ji21)) = true := decide_eq_true c22
                          clear c22
                          by_cases c23 : (ji21) ≤ (t212.size : Int)
                          · rw [if_pos c23] at H
                            have c23b0 := eq_true c23
                            have c23b1 : decide ((ji21) ≤ (t212.size : Int)) = true := decide_eq_true c23
                            clear c23
                            have H' := Aside0.mk H
                            clear H
                            have p19 : 0 ≤ (0 : Int) := (by omega)
                            have q19 : 0 < t212.size := (by have : (0 : Int) < (t212.size : Int) := of_decide_eq_true (by first | (with_reducible assumption) | assumption); omega)
                            have hx19 : ∀ h : 0 < t212.size, ((t212[0]'h).toNat : Int) = bt t212 0 := bt_at t212 0
                            clear p19
                            have qi19 : (0 < (t212.size : Int)) = True := eq_true (of_decide_eq_true (by first | (with_reducible assumption) | assumption))
                            replace q19 := eq_true q19
                            go_wp2
                            go_meet
                            case rel => exact ⟨_, (((t212.extract ((ji21) : Int).toNat t212.size).toList != ([34, 10] : List UInt8))), (by first | rfl | (simp; done) | (simp only [← hji21] <;> (first | rfl | simp)) | (simp [*]; done)), H', ⟨by first | omega | exact Nat.le_refl _⟩, ⟨by (with_reducible repeat (first | refine blk_drewN ?_ _ | refine blk_drew ?_ | refine blk_alloc ?_ _)); exact BK204.out⟩, ⟨by repeat (first | (with_reducible first | exact HB.out | apply below_alloc | apply pw_below_drewN | apply below_drew1 | refine below_set ?_ GE204.out) | exact HB.out)⟩⟩
                          · rw [if_neg c23] at H
                            exact absurd H (by simp)
                        · rw [if_neg c22] at H
                          exact absurd H (by simp)
                      · rw [if_neg c20] at H
                        have c20b0 : ((bt t212 0) == 34) = false := beq_eq_false_iff_ne.mpr c20
                        have c20b1 : ((bt t212 0) != 34) = true := bne_iff_ne.mpr c20
                        have H' := Aside0.mk H
                        clear H
                        have p19 : 0 ≤ (0 : Int) := (by omega)
                        have q19 : 0 < t212.size := (by have : (0 : Int) < (t212.size : Int) := of_decide_eq_true (by first | (with_reducible assumption) | assumption); omega)
                        have hx19 : ∀ h : 0 < t212.size, ((t212[0]'h).toNat : Int) = bt t212 0 := bt_at t212 0
                        clear p19
                        have qi19 : (0 < (t212.size : Int)) = True := eq_true (of_decide_eq_true (by first | (with_reducible assumption) | assumption))
                        replace q19 := eq_true q19
                        go_wp2
                        go_meet
                        case rel => exact ⟨_, (true), (by first | rfl | (simp; done) | (simp [*]; done)), H', ⟨by first | omega | exact Nat.le_refl _⟩, ⟨by (with_reducible repeat (first | refine blk_drewN ?_ _ | refine blk_drew ?_ | refine blk_alloc ?_ _)); exact BK204.out⟩, ⟨by repeat (first | (with_reducible first | exact HB.out | apply below_alloc | apply pw_below_drewN | apply below_drew1 | refine below_set ?_ GE204.out) | exact HB.out)⟩⟩
                    · rw [if_neg c18] at H
                      exact absurd H (by simp)
              · replace c15 := Bool.eq_false_iff.mpr c15
                subst c15
                have H1 : (congressref20_Parse.j0 k a0 t212 t214 t216 t218 true) = some (r1, r2, r3, r4, r5) := by rw [if_neg (show ¬ (false = true) by decide)] at H; exact H
                clear H
                have H := H1
                clear H1
                have H' := Aside0.mk H
                clear H
                go_wp2
                go_meet
                case rel => exact ⟨_, (true), (by first | rfl | (simp; done) | (simp [*]; done)), H', ⟨by first | omega | exact Nat.le_refl _⟩, ⟨by (with_reducible repeat (first | refine blk_drewN ?_ _ | refine blk_drew ?_ | refine blk_alloc ?_ _)); exact BK204.out⟩, ⟨by repeat (first | (with_reducible first | exact HB.out | apply below_alloc | apply pw_below_drewN | apply below_drew1 | refine below_set ?_ GE204.out) | exact HB.out)⟩⟩
            · replace c14 := Bool.eq_false_iff.mpr c14
              subst c14
              have H1 : (congressref20_Parse.j0 k a0 t212 t214 t216 t218 true) = some (r1, r2, r3, r4, r5) := by rw [if_neg (show ¬ (false = true) by decide)] at H; exact H
              clear H
              have H := H1
              clear H1
              have H' := Aside0.mk H
              clear H
              go_wp2
              go_meet
              case rel => exact ⟨_, (true), (by first | rfl | (simp; done) | (simp [*]; done)), H', ⟨by first | omega | exact Nat.le_refl _⟩, ⟨by (with_reducible repeat (first | refine blk_drewN ?_ _ | refine blk_drew ?_ | refine blk_alloc ?_ _)); exact BK204.out⟩, ⟨by repeat (first | (with_reducible first | exact HB.out | apply below_alloc | apply pw_below_drewN | apply below_drew1 | refine below_set ?_ GE204.out) | exact HB.out)⟩⟩
          · replace c13 := Bool.eq_false_iff.mpr c13
            subst c13
            have H1 : (congressref20_Parse.j0 k a0 t212 t214 t216 t218 true) = some (r1, r2, r3, r4, r5) := by rw [if_neg (show ¬ (false = true) by decide)] at H; exact H
            clear H
            have H := H1
            clear H1
            have H' := Aside0.mk H
            clear H
            go_wp2
            go_meet
            case rel => exact ⟨_, (true), (by first | rfl | (simp; done) | (simp [*]; done)), H', ⟨by first | omega | exact Nat.le_refl _⟩, ⟨by (with_reducible repeat (first | refine blk_drewN ?_ _ | refine blk_drew ?_ | refine blk_alloc ?_ _)); exact BK204.out⟩, ⟨by repeat (first | (with_reducible first | exact HB.out | apply below_alloc | apply pw_below_drewN | apply below_drew1 | refine below_set ?_ GE204.out) | exact HB.out)⟩⟩
        · replace c12 := Bool.eq_false_iff.mpr c12
          subst c12
          have H1 : (congressref20_Parse.j0 k a0 t212 t214 t216 t218 true) = some (r1, r2, r3, r4, r5) := by rw [if_neg (show ¬ (false = true) by decide)] at H; exact H
          clear H
          have H := H1
          clear H1
          have H' := Aside0.mk H
          clear H
          go_wp2
          go_meet
          case rel => exact ⟨_, (true), (by first | rfl | (simp; done) | (simp [*]; done)), H', ⟨by first | omega | exact Nat.le_refl _⟩, ⟨by (with_reducible repeat (first | refine blk_drewN ?_ _ | refine blk_drew ?_ | refine blk_alloc ?_ _)); exact BK204.out⟩, ⟨by repeat (first | (with_reducible first | exact HB.out | apply below_alloc | apply pw_below_drewN | apply below_drew1 | refine below_set ?_ GE204.out) | exact HB.out)⟩⟩
      · replace c11 := Bool.eq_false_iff.mpr c11
        subst c11
        have H1 : (congressref20_Parse.j0 k a0 t212 t214 t216 t218 true) = some (r1, r2, r3, r4, r5) := by rw [if_neg (show ¬ (false = true) by decide)] at H; exact H
        clear H
        have H := H1
        clear H1
        have H' := Aside0.mk H
        clear H
        go_wp2
        go_meet
        case rel => exact ⟨_, (true), (by first | rfl | (simp; done) | (simp [*]; done)), H', ⟨by first | omega | exact Nat.le_refl _⟩, ⟨by (with_reducible repeat (first | refine blk_drewN ?_ _ | refine blk_drew ?_ | refine blk_alloc ?_ _)); exact BK204.out⟩, ⟨by repeat (first | (with_reducible first | exact HB.out | apply below_alloc | apply pw_below_drewN | apply below_drew1 | refine below_set ?_ GE204.out) | exact HB.out)⟩⟩
    · replace c10 := Bool.eq_false_iff.mpr c10
      subst c10
      have H1 : (congressref20_Parse.j0 k a0 t212 t214 t216 t218 true) = some (r1, r2, r3, r4, r5) := by rw [if_neg (show ¬ (false = true) by decide)] at H; exact H
      clear H
      have H := H1
      clear H1
      have H' := Aside0.mk H
      clear H
      go_wp2
      go_meet
      case rel => exact ⟨_, (true), (by first | rfl | (simp; done) | (simp [*]; done)), H', ⟨by first | omega | exact Nat.le_refl _⟩, ⟨by (with_reducible repeat (first | refine blk_drewN ?_ _ | refine blk_drew ?_ | refine blk_alloc ?_ _)); exact BK204.out⟩, ⟨by repeat (first | (with_reducible first | exact HB.out | apply below_alloc | apply pw_below_drewN | apply below_drew1 | refine below_set ?_ GE204.out) | exact HB.out)⟩⟩
  case rest =>
    clear HC8
    try clear c1
    try clear p1
    try clear q1
    try clear hx1
    try clear qi1
    try clear c2
    try clear p2
    try clear c3
    try clear p6
    try clear c10
    try clear c11
    try clear c12
    try clear c13
    try clear c14
    try clear c15
    try clear c16
    try clear c16b0
    try clear c17
    try clear c17b0
    try clear c17b1
    try clear c18
    try clear c18b0
    try clear c18b1
    try clear p19
    try clear q19
    try clear hx19
    try clear qi19
    try clear c20
    try clear c20b0
    try clear c20b1
    try clear c22
    try clear c22b0
    try clear c22b1
    try clear c23
    try clear c23b0
    try clear c23b1
    try clear p19
    try clear q19
    obtain ⟨kq, x98_7, rfl, HA, HJ7, BK204, HB⟩ := hcut
    cases kq with
    | zero => exact absurd HA.out (by simp [congressref20_Parse.j0])
    | succ kj7 =>
      have H := HA.out
      clear HA
      simp only [congressref20_Parse.j0] at H
      by_cases c24 : x98_7 = true
      · subst c24
        have H1 : (some (0, 0, (⟨#[]⟩ : ByteArray), 0, false)) = some (r1, r2, r3, r4, r5) := by rw [if_pos rfl] at H; exact H
        clear H
        have H := H1
        clear H1
        simp only [Option.some.injEq, Prod.mk.injEq] at H
        obtain ⟨rfl, rfl, rfl, rfl, rfl⟩ := H
        have hcz25_0 : wc.cell? ⟨gb204, 0, none⟩ = some (.int .u64 0) := (blk_cell BK204.out 0).trans rfl
        have hcz25_1 : wc.cell? ⟨gb204, 1, none⟩ = some (.int .u32 0) := (blk_cell BK204.out 1).trans rfl
        have hcz25_2 : wc.cell? ⟨gb204, 2, none⟩ = some (.string (⟨#[]⟩ : ByteArray)) := (blk_cell BK204.out 2).trans rfl
        have hcz25_3 : wc.cell? ⟨gb204, 3, none⟩ = some (.int .i64 0) := (blk_cell BK204.out 3).trans rfl
        have hfz25_0 := blk_frozen BK204.out 0
        have hfz25_1 := blk_frozen BK204.out 1
        have hfz25_2 := blk_frozen BK204.out 2
        have hfz25_3 := blk_frozen BK204.out 3
        go_wp2
        refine bodyPost_ret (results_ct rfl _ _ gb204 27 #[.int .u64 0, .int .u32 0, .string (⟨#[]⟩ : ByteArray), .int .i64 0] (0, 0) _ rfl (by (with_reducible repeat (first | refine blk_drewN ?_ _ | refine blk_drew ?_ | refine blk_alloc ?_ _)); refine blk_put (cs := #[.int .u64 0, .int .u32 0, .string (⟨#[]⟩ : ByteArray), .int .i64 0]) ?_ 3 _ rfl; (with_reducible repeat (first | refine blk_drewN ?_ _ | refine blk_drew ?_ | refine blk_alloc ?_ _)); refine blk_put (cs := #[.int .u64 0, .int .u32 0, .string (⟨#[]⟩ : ByteArray), .int .i64 0]) ?_ 2 _ rfl; (with_reducible repeat (first | refine blk_drewN ?_ _ | refine blk_drew ?_ | refine blk_alloc ?_ _)); refine blk_put (cs := #[.int .u64 0, .int .u32 0, .string (⟨#[]⟩ : ByteArray), .int .i64 0]) ?_ 1 _ rfl; (with_reducible repeat (first | refine blk_drewN ?_ _ | refine blk_drew ?_ | refine blk_alloc ?_ _)); refine blk_put (cs := #[.int .u64 0, .int .u32 0, .string (⟨#[]⟩ : ByteArray), .int .i64 0]) ?_ 0 _ rfl; (with_reducible repeat (first | refine blk_drewN ?_ _ | refine blk_drew ?_ | refine blk_alloc ?_ _)); exact BK204.out) Tryd.underlying27 rfl (by kernel_rfl)) rfl ?_
        exact ⟨by first | rfl | (simp [errW_none, errW_some] <;> rfl) | (simp [*, errW_none, errW_some] <;> rfl), by repeat (first | (with_reducible first | exact HB.out | apply below_alloc | apply pw_below_drewN | apply below_drew1 | refine below_set ?_ GE204.out) | exact HB.out)⟩
      · replace c24 := Bool.eq_false_iff.mpr c24
        subst c24
        have H1 : (if 1 ≤ (wrap64 ((t212.size : Int) - 2)) then (if (wrap64 ((t212.size : Int) - 2)) ≤ (t212.size : Int) then ((congressref20_call.f kj7 (t212.extract 1 ((wrap64 ((t212.size : Int) - 2)) : Int).toNat)).bind fun bt220 => (if bt220.2 = true then ((congressref20_Line.f kj7 t214 ((t216) % 4294967296) bt220.1 t218).bind fun t223 => (if t223.toList = a0.toList then (some (t214, (t216) % 4294967296, bt220.1, t218, true)) else (some (0, 0, (⟨#[]⟩ : ByteArray), 0, false)))) else (some (0, 0, (⟨#[]⟩ : ByteArray), 0, false)))) else (none)) else (none)) = some (r1, r2, r3, r4, r5) := by rw [if_neg (show ¬ (false = true) by decide)] at H; exact H
        clear H
        have H := H1
        clear H1
        by_cases c26 : 1 ≤ (wrap64 ((t212.size : Int) - 2))
        · rw [if_pos c26] at H
          have c26b0 := eq_true c26
          have c26b1 : decide (1 ≤ (wrap64 ((t212.size : Int) - 2))) = true := decide_eq_true c26
          clear c26
          by_cases c27 : (wrap64 ((t212.size : Int) - 2)) ≤ (t212.size : Int)
          · rw [if_pos c27] at H
            have c27b0 := eq_true c27
            have c27b1 : decide ((wrap64 ((t212.size : Int) - 2)) ≤ (t212.size : Int)) = true := decide_eq_true c27
            clear c27
            replace H := Option.bind_eq_some_iff.mp H
            obtain ⟨⟨t220, t221⟩, A280, H⟩ := H
            replace H : (if t221 = true then ((congressref20_Line.f kj7 t214 ((t216) % 4294967296) t220 t218).bind fun t223 => (if t223.toList = a0.toList then (some (t214, (t216) % 4294967296, t220, t218, true)) else (some (0, 0, (⟨#[]⟩ : ByteArray), 0, false)))) else (some (0, 0, (⟨#[]⟩ : ByteArray), 0, false))) = some (r1, r2, r3, r4, r5) := H
            have A28 := Aside0.mk A280
            clear A280
            by_cases c29 : t221 = true
            · subst c29
              have H1 : ((congressref20_Line.f kj7 t214 ((t216) % 4294967296) t220 t218).bind fun t223 => (if t223.toList = a0.toList then (some (t214, (t216) % 4294967296, t220, t218, true)) else (some (0, 0, (⟨#[]⟩ : ByteArray), 0, false)))) = some (r1, r2, r3, r4, r5) := by rw [if_pos rfl] at H; exact H
              clear H
              have H := H1
              clear H1
              replace H := Option.bind_eq_some_iff.mp H
              obtain ⟨t223, A300, H⟩ := H
              replace H : (if t223.toList = a0.toList then (some (t214, (t216) % 4294967296, t220, t218, true)) else (some (0, 0, (⟨#[]⟩ : ByteArray), 0, false))) = some (r1, r2, r3, r4, r5) := H
              have A30 := Aside0.mk A300
              clear A300
              by_cases c31 : t223.toList = a0.toList
              · rw [if_pos c31] at H
                have c31b0 : (t223.toList == a0.toList) = true := beq_iff_eq.mpr c31
                have c31b1 : (t223.toList != a0.toList) = false := bne_eq_false_iff_eq.mpr c31
                clear c31
                simp only [Option.some.injEq, Prod.mk.injEq] at H
                obtain ⟨rfl, rfl, rfl, rfl, rfl⟩ := H
                go_wp2_with (first | ((with_reducible refine gate_callee (f := 34) rfl ?_); refine goesL_ (some 106) rfl rfl Tryd.func34 (by kernel_rfl) rfl #[.string (t212.extract 1 ((wrap64 ((t212.size : Int) - 2)) : Int).toNat)] rfl (by (try simp only [List.map_toArray, List.map_cons, List.map_nil]); first | done | rfl | (simp only [List.length_drop, List.length_take]; rfl)) ?_; (with_reducible refine (congressref20_call.calls kj7 (t212.extract 1 ((wrap64 ((t212.size : Int) - 2)) : Int).toNat) t220 true _ A28.out).mono ?_); rintro e w32 ⟨rfl, hb⟩; refine ⟨_, rfl, ?_⟩; have n0_ := Aside0.mk (blk_below (g := gb204) (o := .cells #[.int .u64 0, .int .u32 0, .string (⟨#[]⟩ : ByteArray), .int .i64 0] 27 (0, 0)) (by (with_reducible repeat (first | refine blk_drewN ?_ _ | refine blk_drew ?_ | refine blk_alloc ?_ _)); exact BK204.out) hb); have n1_ := Aside0.mk (below_step (by repeat (first | (with_reducible first | exact HB.out | apply below_alloc | apply pw_below_drewN | apply below_drew1 | refine below_set ?_ GE204.out) | exact HB.out)) hb); clear BK204; clear HB; have BK204 := n0_; have HB := n1_; clear n0_ n1_; (try clear hb); (try clear hb2); (try clear hk); (try clear hi)) | ((with_reducible refine gate_dst (N := 21) rfl ?_); (try (refine gate_guard (by rfl) ?_; dsimp only)); refine box_event ?hg (N := 21) ?hd (cs := #[.int .u64 0, .int .u32 0, .string (⟨#[]⟩ : ByteArray), .int .i64 0]) (t := 27) ?hr ?_; (case hd => rfl); (case hg => rfl); (case hr => first | (go_simp; done) | (go_simp; rfl)); intro gb222 hg w33 hbox hb; have n0_ := Aside0.mk (blk_below (g := gb204) (o := .cells #[.int .u64 0, .int .u32 0, .string (⟨#[]⟩ : ByteArray), .int .i64 0] 27 (0, 0)) (by (with_reducible repeat (first | refine blk_drewN ?_ _ | refine blk_drew ?_ | refine blk_alloc ?_ _)); exact BK204.out) hb); have n1_ := Aside0.mk (below_step (by repeat (first | (with_reducible first | exact HB.out | apply below_alloc | apply pw_below_drewN | apply below_drew1 | refine below_set ?_ GE204.out) | exact HB.out)) hb); have n2_ := Aside0.mk (hbox); have n3_ := Aside0.mk ((by rw [hg]; exact (below_size (by repeat (first | (with_reducible first | exact HB.out | apply below_alloc | apply pw_below_drewN | apply below_drew1 | refine below_set ?_ GE204.out) | exact HB.out))) : w.heap.size ≤ gb222)); have n4_ := Aside0.mk ((by rw [hg]; exact (below_size (by repeat (first | (with_reducible first | exact HB.out | apply below_alloc | apply pw_below_drewN | apply below_drew1 | refine below_set ?_ GE204.out) | exact HB.out))) : w.heap.size ≤ gb222)); have n5_ := Aside0.mk ((by rw [hg]; exact Nat.ne_of_lt (blk_lt (g := gb204) (o := .cells #[.int .u64 0, .int .u32 0, .string (⟨#[]⟩ : ByteArray), .int .i64 0] 27 (0, 0)) (by (with_reducible repeat (first | refine blk_drewN ?_ _ | refine blk_drew ?_ | refine blk_alloc ?_ _)); exact BK204.out)) : gb204 ≠ gb222)); have n6_ := Aside0.mk ((by rw [hg]; exact Nat.ne_of_gt (blk_lt (g := gb204) (o := .cells #[.int .u64 0, .int .u32 0, .string (⟨#[]⟩ : ByteArray), .int .i64 0] 27 (0, 0)) (by (with_reducible repeat (first | refine blk_drewN ?_ _ | refine blk_drew ?_ | refine blk_alloc ?_ _)); exact BK204.out)) : gb222 ≠ gb204)); clear BK204; clear HB; have BK204 := n0_; have HB := n1_; have BK222 := n2_; have GW222 := n3_; have GE222 := n4_; have NB204_222 := n5_; have NB222_204 := n6_; clear n0_ n1_ n2_ n3_ n4_ n5_ n6_; clear hb hbox hg; have hnb34 := NB222_204.out; have hnc34 := NB204_222.out; have hcz35_0 : w33.cell? ⟨gb222, 0, none⟩ = some (.int .u64 0) := (blk_cell BK222.out 0).trans rfl; have hcz35_1 : w33.cell? ⟨gb222, 1, none⟩ = some (.int .u32 0) := (blk_cell BK222.out 1).trans rfl; have hcz35_2 : w33.cell? ⟨gb222, 2, none⟩ = some (.string (⟨#[]⟩ : ByteArray)) := (blk_cell BK222.out 2).trans rfl; have hcz35_3 : w33.cell? ⟨gb222, 3, none⟩ = some (.int .i64 0) := (blk_cell BK222.out 3).trans rfl; have hfz35_0 := blk_frozen BK222.out 0; have hfz35_1 := blk_frozen BK222.out 1; have hfz35_2 := blk_frozen BK222.out 2; have hfz35_3 := blk_frozen BK222.out 3) | (go_at_call 22; (with_reducible refine (congressref20_Line.calls kj7 t214 ((t216) % 4294967296) t220 t218 t223 _ A30.out).mono ?_); rintro e w36 ⟨rfl, hb⟩; have n0_ := Aside0.mk (blk_below (g := gb204) (o := .cells #[.int .u64 0, .int .u32 0, .string (⟨#[]⟩ : ByteArray), .int .i64 0] 27 (0, 0)) (by (with_reducible repeat (first | refine blk_drewN ?_ _ | refine blk_drew ?_ | refine blk_alloc ?_ _)); refine blk_far ?_ NB204_222.out _; (with_reducible repeat (first | refine blk_drewN ?_ _ | refine blk_drew ?_ | refine blk_alloc ?_ _)); refine blk_far ?_ NB204_222.out _; (with_reducible repeat (first | refine blk_drewN ?_ _ | refine blk_drew ?_ | refine blk_alloc ?_ _)); refine blk_far ?_ NB204_222.out _; (with_reducible repeat (first | refine blk_drewN ?_ _ | refine blk_drew ?_ | refine blk_alloc ?_ _)); refine blk_far ?_ NB204_222.out _; (with_reducible repeat (first | refine blk_drewN ?_ _ | refine blk_drew ?_ | refine blk_alloc ?_ _)); exact BK204.out) hb); have n1_ := Aside0.mk (blk_below (g := gb222) (o := .cells #[.int .u64 t214, .int .u32 ((t216) % 4294967296), .string t220, .int .i64 t218] 27 (0, 0)) (by (with_reducible repeat (first | refine blk_drewN ?_ _ | refine blk_drew ?_ | refine blk_alloc ?_ _)); refine blk_put (cs := #[.int .u64 t214, .int .u32 ((t216) % 4294967296), .string t220, .int .i64 0]) ?_ 3 _ rfl; (with_reducible repeat (first | refine blk_drewN ?_ _ | refine blk_drew ?_ | refine blk_alloc ?_ _)); refine blk_put (cs := #[.int .u64 t214, .int .u32 ((t216) % 4294967296), .string (⟨#[]⟩ : ByteArray), .int .i64 0]) ?_ 2 _ rfl; (with_reducible repeat (first | refine blk_drewN ?_ _ | refine blk_drew ?_ | refine blk_alloc ?_ _)); refine blk_put (cs := #[.int .u64 t214, .int .u32 0, .string (⟨#[]⟩ : ByteArray), .int .i64 0]) ?_ 1 _ rfl; (with_reducible repeat (first | refine blk_drewN ?_ _ | refine blk_drew ?_ | refine blk_alloc ?_ _)); refine blk_put (cs := #[.int .u64 0, .int .u32 0, .string (⟨#[]⟩ : ByteArray), .int .i64 0]) ?_ 0 _ rfl; (with_reducible repeat (first | refine blk_drewN ?_ _ | refine blk_drew ?_ | refine blk_alloc ?_ _)); exact BK222.out) hb); have n2_ := Aside0.mk (below_step (by repeat (first | (with_reducible first | exact HB.out | apply below_alloc | apply pw_below_drewN | apply below_drew1 | refine below_set ?_ GE204.out | refine below_set ?_ GE222.out) | exact HB.out)) hb); clear BK204; clear BK222; clear HB; have BK204 := n0_; have BK222 := n1_; have HB := n2_; clear n0_ n1_ n2_; (try clear hb); (try clear hb2); (try clear hk); (try clear hi); have hcz37_0 : w36.cell? ⟨gb222, 0, none⟩ = some (.int .u64 t214) := (blk_cell BK222.out 0).trans rfl; have hcz37_1 : w36.cell? ⟨gb222, 1, none⟩ = some (.int .u32 ((t216) % 4294967296)) := (blk_cell BK222.out 1).trans rfl; have hcz37_2 : w36.cell? ⟨gb222, 2, none⟩ = some (.string t220) := (blk_cell BK222.out 2).trans rfl; have hcz37_3 : w36.cell? ⟨gb222, 3, none⟩ = some (.int .i64 t218) := (blk_cell BK222.out 3).trans rfl; have hfz37_0 := blk_frozen BK222.out 0; have hfz37_1 := blk_frozen BK222.out 1; have hfz37_2 := blk_frozen BK222.out 2; have hfz37_3 := blk_frozen BK222.out 3; have hcz38_0 : w36.cell? ⟨gb204, 0, none⟩ = some (.int .u64 0) := (blk_cell BK204.out 0).trans rfl; have hcz38_1 : w36.cell? ⟨gb204, 1, none⟩ = some (.int .u32 0) := (blk_cell BK204.out 1).trans rfl; have hcz38_2 : w36.cell? ⟨gb204, 2, none⟩ = some (.string (⟨#[]⟩ : ByteArray)) := (blk_cell BK204.out 2).trans rfl; have hcz38_3 : w36.cell? ⟨gb204, 3, none⟩ = some (.int .i64 0) := (blk_cell BK204.out 3).trans rfl; have hfz38_0 := blk_frozen BK204.out 0; have hfz38_1 := blk_frozen BK204.out 1; have hfz38_2 := blk_frozen BK204.out 2; have hfz38_3 := blk_frozen BK204.out 3))
                refine bodyPost_ret (results_ct rfl _ _ gb204 27 #[.int .u64 t214, .int .u32 ((t216) % 4294967296), .string t220, .int .i64 t218] (0, 0) _ rfl (by (with_reducible repeat (first | refine blk_drewN ?_ _ | refine blk_drew ?_ | refine blk_alloc ?_ _)); refine blk_put (cs := #[.int .u64 t214, .int .u32 ((t216) % 4294967296), .string t220, .int .i64 0]) ?_ 3 _ rfl; (with_reducible repeat (first | refine blk_drewN ?_ _ | refine blk_drew ?_ | refine blk_alloc ?_ _)); refine blk_put (cs := #[.int .u64 t214, .int .u32 ((t216) % 4294967296), .string (⟨#[]⟩ : ByteArray), .int .i64 0]) ?_ 2 _ rfl; (with_reducible repeat (first | refine blk_drewN ?_ _ | refine blk_drew ?_ | refine blk_alloc ?_ _)); refine blk_put (cs := #[.int .u64 t214, .int .u32 0, .string (⟨#[]⟩ : ByteArray), .int .i64 0]) ?_ 1 _ rfl; (with_reducible repeat (first | refine blk_drewN ?_ _ | refine blk_drew ?_ | refine blk_alloc ?_ _)); refine blk_put (cs := #[.int .u64 0, .int .u32 0, .string (⟨#[]⟩ : ByteArray), .int .i64 0]) ?_ 0 _ rfl; (with_reducible repeat (first | refine blk_drewN ?_ _ | refine blk_drew ?_ | refine blk_alloc ?_ _)); exact BK204.out) Tryd.underlying27 rfl (by kernel_rfl)) rfl ?_
                exact ⟨by first | rfl | (simp [errW_none, errW_some] <;> rfl) | (simp [*, errW_none, errW_some] <;> rfl), by repeat (first | (with_reducible first | exact HB.out | apply below_alloc | apply pw_below_drewN | apply below_drew1 | refine below_set ?_ GE204.out | refine below_set ?_ GE222.out) | exact HB.out)⟩
              · rw [if_neg c31] at H
                have c31b0 : (t223.toList == a0.toList) = false := beq_eq_false_iff_ne.mpr c31
                have c31b1 : (t223.toList != a0.toList) = true := bne_iff_ne.mpr c31
                simp only [Option.some.injEq, Prod.mk.injEq] at H
                obtain ⟨rfl, rfl, rfl, rfl, rfl⟩ := H
                go_wp2_with (first | ((with_reducible refine gate_callee (f := 34) rfl ?_); refine goesL_ (some 106) rfl rfl Tryd.func34 (by kernel_rfl) rfl #[.string (t212.extract 1 ((wrap64 ((t212.size : Int) - 2)) : Int).toNat)] rfl (by (try simp only [List.map_toArray, List.map_cons, List.map_nil]); first | done | rfl | (simp only [List.length_drop, List.length_take]; rfl)) ?_; (with_reducible refine (congressref20_call.calls kj7 (t212.extract 1 ((wrap64 ((t212.size : Int) - 2)) : Int).toNat) t220 true _ A28.out).mono ?_); rintro e w39 ⟨rfl, hb⟩; refine ⟨_, rfl, ?_⟩; have n0_ := Aside0.mk (blk_below (g := gb204) (o := .cells #[.int .u64 0, .int .u32 0, .string (⟨#[]⟩ : ByteArray), .int .i64 0] 27 (0, 0)) (by (with_reducible repeat (first | refine blk_drewN ?_ _ | refine blk_drew ?_ | refine blk_alloc ?_ _)); exact BK204.out) hb); have n1_ := Aside0.mk (below_step (by repeat (first | (with_reducible first | exact HB.out | apply below_alloc | apply pw_below_drewN | apply below_drew1 | refine below_set ?_ GE204.out) | exact HB.out)) hb); clear BK204; clear HB; have BK204 := n0_; have HB := n1_; clear n0_ n1_; (try clear hb); (try clear hb2); (try clear hk); (try clear hi)) | ((with_reducible refine gate_dst (N := 21) rfl ?_); (try (refine gate_guard (by rfl) ?_; dsimp only)); refine box_event ?hg (N := 21) ?hd (cs := #[.int .u64 0, .int .u32 0, .string (⟨#[]⟩ : ByteArray), .int .i64 0]) (t := 27) ?hr ?_; (case hd => rfl); (case hg => rfl); (case hr => first | (go_simp; done) | (go_simp; rfl)); intro gb222 hg w40 hbox hb; have n0_ := Aside0.mk (blk_below (g := gb204) (o := .cells #[.int .u64 0, .int .u32 0, .string (⟨#[]⟩ : ByteArray), .int .i64 0] 27 (0, 0)) (by (with_reducible repeat (first | refine blk_drewN ?_ _ | refine blk_drew ?_ | refine blk_alloc ?_ _)); exact BK204.out) hb); have n1_ := Aside0.mk (below_step (by repeat (first | (with_reducible first | exact HB.out | apply below_alloc | apply pw_below_drewN | apply below_drew1 | refine below_set ?_ GE204.out) | exact HB.out)) hb); have n2_ := Aside0.mk (hbox); have n3_ := Aside0.mk ((by rw [hg]; exact (below_size (by repeat (first | (with_reducible first | exact HB.out | apply below_alloc | apply pw_below_drewN | apply below_drew1 | refine below_set ?_ GE204.out) | exact HB.out))) : w.heap.size ≤ gb222)); have n4_ := Aside0.mk ((by rw [hg]; exact (below_size (by repeat (first | (with_reducible first | exact HB.out | apply below_alloc | apply pw_below_drewN | apply below_drew1 | refine below_set ?_ GE204.out) | exact HB.out))) : w.heap.size ≤ gb222)); have n5_ := Aside0.mk ((by rw [hg]; exact Nat.ne_of_lt (blk_lt (g := gb204) (o := .cells #[.int .u64 0, .int .u32 0, .string (⟨#[]⟩ : ByteArray), .int .i64 0] 27 (0, 0)) (by (with_reducible repeat (first | refine blk_drewN ?_ _ | refine blk_drew ?_ | refine blk_alloc ?_ _)); exact BK204.out)) : gb204 ≠ gb222)); have n6_ := Aside0.mk ((by rw [hg]; exact Nat.ne_of_gt (blk_lt (g := gb204) (o := .cells #[.int .u64 0, .int .u32 0, .string (⟨#[]⟩ : ByteArray), .int .i64 0] 27 (0, 0)) (by (with_reducible repeat (first | refine blk_drewN ?_ _ | refine blk_drew ?_ | refine blk_alloc ?_ _)); exact BK204.out)) : gb222 ≠ gb204)); clear BK204; clear HB; have BK204 := n0_; have HB := n1_; have BK222 := n2_; have GW222 := n3_; have GE222 := n4_; have NB204_222 := n5_; have NB222_204 := n6_; clear n0_ n1_ n2_ n3_ n4_ n5_ n6_; clear hb hbox hg; have hnb41 := NB222_204.out; have hnc41 := NB204_222.out; have hcz42_0 : w40.cell? ⟨gb222, 0, none⟩ = some (.int .u64 0) := (blk_cell BK222.out 0).trans rfl; have hcz42_1 : w40.cell? ⟨gb222, 1, none⟩ = some (.int .u32 0) := (blk_cell BK222.out 1).trans rfl; have hcz42_2 : w40.cell? ⟨gb222, 2, none⟩ = some (.string (⟨#[]⟩ : ByteArray)) := (blk_cell BK222.out 2).trans rfl; have hcz42_3 : w40.cell? ⟨gb222, 3, none⟩ = some (.int .i64 0) := (blk_cell BK222.out 3).trans rfl; have hfz42_0 := blk_frozen BK222.out 0; have hfz42_1 := blk_frozen BK222.out 1; have hfz42_2 := blk_frozen BK222.out 2; have hfz42_3 := blk_frozen BK222.out 3) | (go_at_call 22; (with_reducible refine (congressref20_Line.calls kj7 t214 ((t216) % 4294967296) t220 t218 t223 _ A30.out).mono ?_); rintro e w43 ⟨rfl, hb⟩; have n0_ := Aside0.mk (blk_below (g := gb204) (o := .cells #[.int .u64 0, .int .u32 0, .string (⟨#[]⟩ : ByteArray), .int .i64 0] 27 (0, 0)) (by (with_reducible repeat (first | refine blk_drewN ?_ _ | refine blk_drew ?_ | refine blk_alloc ?_ _)); refine blk_far ?_ NB204_222.out _; (with_reducible repeat (first | refine blk_drewN ?_ _ | refine blk_drew ?_ | refine blk_alloc ?_ _)); refine blk_far ?_ NB204_222.out _; (with_reducible repeat (first | refine blk_drewN ?_ _ | refine blk_drew ?_ | refine blk_alloc ?_ _)); refine blk_far ?_ NB204_222.out _; (with_reducible repeat (first | refine blk_drewN ?_ _ | refine blk_drew ?_ | refine blk_alloc ?_ _)); refine blk_far ?_ NB204_222.out _; (with_reducible repeat (first | refine blk_drewN ?_ _ | refine blk_drew ?_ | refine blk_alloc ?_ _)); exact BK204.out) hb); have n1_ := Aside0.mk (blk_below (g := gb222) (o := .cells #[.int .u64 t214, .int .u32 ((t216) % 4294967296), .string t220, .int .i64 t218] 27 (0, 0)) (by (with_reducible repeat (first | refine blk_drewN ?_ _ | refine blk_drew ?_ | refine blk_alloc ?_ _)); refine blk_put (cs := #[.int .u64 t214, .int .u32 ((t216) % 4294967296), .string t220, .int .i64 0]) ?_ 3 _ rfl; (with_reducible repeat (first | refine blk_drewN ?_ _ | refine blk_drew ?_ | refine blk_alloc ?_ _)); refine blk_put (cs := #[.int .u64 t214, .int .u32 ((t216) % 4294967296), .string (⟨#[]⟩ : ByteArray), .int .i64 0]) ?_ 2 _ rfl; (with_reducible repeat (first | refine blk_drewN ?_ _ | refine blk_drew ?_ | refine blk_alloc ?_ _)); refine blk_put (cs := #[.int .u64 t214, .int .u32 0, .string (⟨#[]⟩ : ByteArray), .int .i64 0]) ?_ 1 _ rfl; (with_reducible repeat (first | refine blk_drewN ?_ _ | refine blk_drew ?_ | refine blk_alloc ?_ _)); refine blk_put (cs := #[.int .u64 0, .int .u32 0, .string (⟨#[]⟩ : ByteArray), .int .i64 0]) ?_ 0 _ rfl; (with_reducible repeat (first | refine blk_drewN ?_ _ | refine blk_drew ?_ | refine blk_alloc ?_ _)); exact BK222.out) hb); have n2_ := Aside0.mk (below_step (by repeat (first | (with_reducible first | exact HB.out | apply below_alloc | apply pw_below_drewN | apply below_drew1 | refine below_set ?_ GE204.out | refine below_set ?_ GE222.out) | exact HB.out)) hb); clear BK204; clear BK222; clear HB; have BK204 := n0_; have BK222 := n1_; have HB := n2_; clear n0_ n1_ n2_; (try clear hb); (try clear hb2); (try clear hk); (try clear hi); have hcz44_0 : w43.cell? ⟨gb204, 0, none⟩ = some (.int .u64 0) := (blk_cell BK204.out 0).trans rfl; have hcz44_1 : w43.cell? ⟨gb204, 1, none⟩ = some (.int .u32 0) := (blk_cell BK204.out 1).trans rfl; have hcz44_2 : w43.cell? ⟨gb204, 2, none⟩ = some (.string (⟨#[]⟩ : ByteArray)) := (blk_cell BK204.out 2).trans rfl; have hcz44_3 : w43.cell? ⟨gb204, 3, none⟩ = some (.int .i64 0) := (blk_cell BK204.out 3).trans rfl; have hfz44_0 := blk_frozen BK204.out 0; have hfz44_1 := blk_frozen BK204.out 1; have hfz44_2 := blk_frozen BK204.out 2; have hfz44_3 := blk_frozen BK204.out 3))
                refine bodyPost_ret (results_ct rfl _ _ gb204 27 #[.int .u64 0, .int .u32 0, .string (⟨#[]⟩ : ByteArray), .int .i64 0] (0, 0) _ rfl (by (with_reducible repeat (first | refine blk_drewN ?_ _ | refine blk_drew ?_ | refine blk_alloc ?_ _)); refine blk_put (cs := #[.int .u64 0, .int .u32 0, .string (⟨#[]⟩ : ByteArray), .int .i64 0]) ?_ 3 _ rfl; (with_reducible repeat (first | refine blk_drewN ?_ _ | refine blk_drew ?_ | refine blk_alloc ?_ _)); refine blk_put (cs := #[.int .u64 0, .int .u32 0, .string (⟨#[]⟩ : ByteArray), .int .i64 0]) ?_ 2 _ rfl; (with_reducible repeat (first | refine blk_drewN ?_ _ | refine blk_drew ?_ | refine blk_alloc ?_ _)); refine blk_put (cs := #[.int .u64 0, .int .u32 0, .string (⟨#[]⟩ : ByteArray), .int .i64 0]) ?_ 1 _ rfl; (with_reducible repeat (first | refine blk_drewN ?_ _ | refine blk_drew ?_ | refine blk_alloc ?_ _)); refine blk_put (cs := #[.int .u64 0, .int .u32 0, .string (⟨#[]⟩ : ByteArray), .int .i64 0]) ?_ 0 _ rfl; (with_reducible repeat (first | refine blk_drewN ?_ _ | refine blk_drew ?_ | refine blk_alloc ?_ _)); exact BK204.out) Tryd.underlying27 rfl (by kernel_rfl)) rfl ?_
                exact ⟨by first | rfl | (simp [errW_none, errW_some] <;> rfl) | (simp [*, errW_none, errW_some] <;> rfl), by repeat (first | (with_reducible first | exact HB.out | apply below_alloc | apply pw_below_drewN | apply below_drew1 | refine below_set ?_ GE204.out | refine below_set ?_ GE222.out) | exact HB.out)⟩
            · replace c29 := Bool.eq_false_iff.mpr c29
              subst c29
              have H1 : (some (0, 0, (⟨#[]⟩ : ByteArray), 0, false)) = some (r1, r2, r3, r4, r5) := by rw [if_neg (show ¬ (false = true) by decide)] at H; exact H
              clear H
              have H := H1
              clear H1
              simp only [Option.some.injEq, Prod.mk.injEq] at H
              obtain ⟨rfl, rfl, rfl, rfl, rfl⟩ := H
              go_wp2_with (first | ((with_reducible refine gate_callee (f := 34) rfl ?_); refine goesL_ (some 106) rfl rfl Tryd.func34 (by kernel_rfl) rfl #[.string (t212.extract 1 ((wrap64 ((t212.size : Int) - 2)) : Int).toNat)] rfl (by (try simp only [List.map_toArray, List.map_cons, List.map_nil]); first | done | rfl | (simp only [List.length_drop, List.length_take]; rfl)) ?_; (with_reducible refine (congressref20_call.calls kj7 (t212.extract 1 ((wrap64 ((t212.size : Int) - 2)) : Int).toNat) t220 false _ A28.out).mono ?_); rintro e w45 ⟨rfl, hb⟩; refine ⟨_, rfl, ?_⟩; have n0_ := Aside0.mk (blk_below (g := gb204) (o := .cells #[.int .u64 0, .int .u32 0, .string (⟨#[]⟩ : ByteArray), .int .i64 0] 27 (0, 0)) (by (with_reducible repeat (first | refine blk_drewN ?_ _ | refine blk_drew ?_ | refine blk_alloc ?_ _)); exact BK204.out) hb); have n1_ := Aside0.mk (below_step (by repeat (first | (with_reducible first | exact HB.out | apply below_alloc | apply pw_below_drewN | apply below_drew1 | refine below_set ?_ GE204.out) | exact HB.out)) hb); clear BK204; clear HB; have BK204 := n0_; have HB := n1_; clear n0_ n1_; (try clear hb); (try clear hb2); (try clear hk); (try clear hi)) | ((with_reducible refine gate_dst (N := 21) rfl ?_); (try (refine gate_guard (by rfl) ?_; dsimp only)); refine box_event ?hg (N := 21) ?hd (cs := #[.int .u64 0, .int .u32 0, .string (⟨#[]⟩ : ByteArray), .int .i64 0]) (t := 27) ?hr ?_; (case hd => rfl); (case hg => rfl); (case hr => first | (go_simp; done) | (go_simp; rfl)); intro gb222 hg w46 hbox hb; have n0_ := Aside0.mk (blk_below (g := gb204) (o := .cells #[.int .u64 0, .int .u32 0, .string (⟨#[]⟩ : ByteArray), .int .i64 0] 27 (0, 0)) (by (with_reducible repeat (first | refine blk_drewN ?_ _ | refine blk_drew ?_ | refine blk_alloc ?_ _)); exact BK204.out) hb); have n1_ := Aside0.mk (below_step (by repeat (first | (with_reducible first | exact HB.out | apply below_alloc | apply pw_below_drewN | apply below_drew1 | refine below_set ?_ GE204.out) | exact HB.out)) hb); have n2_ := Aside0.mk (hbox); have n3_ := Aside0.mk ((by rw [hg]; exact (below_size (by repeat (first | (with_reducible first | exact HB.out | apply below_alloc | apply pw_below_drewN | apply below_drew1 | refine below_set ?_ GE204.out) | exact HB.out))) : w.heap.size ≤ gb222)); have n4_ := Aside0.mk ((by rw [hg]; exact (below_size (by repeat (first | (with_reducible first | exact HB.out | apply below_alloc | apply pw_below_drewN | apply below_drew1 | refine below_set ?_ GE204.out) | exact HB.out))) : w.heap.size ≤ gb222)); have n5_ := Aside0.mk ((by rw [hg]; exact Nat.ne_of_lt (blk_lt (g := gb204) (o := .cells #[.int .u64 0, .int .u32 0, .string (⟨#[]⟩ : ByteArray), .int .i64 0] 27 (0, 0)) (by (with_reducible repeat (first | refine blk_drewN ?_ _ | refine blk_drew ?_ | refine blk_alloc ?_ _)); exact BK204.out)) : gb204 ≠ gb222)); have n6_ := Aside0.mk ((by rw [hg]; exact Nat.ne_of_gt (blk_lt (g := gb204) (o := .cells #[.int .u64 0, .int .u32 0, .string (⟨#[]⟩ : ByteArray), .int .i64 0] 27 (0, 0)) (by (with_reducible repeat (first | refine blk_drewN ?_ _ | refine blk_drew ?_ | refine blk_alloc ?_ _)); exact BK204.out)) : gb222 ≠ gb204)); clear BK204; clear HB; have BK204 := n0_; have HB := n1_; have BK222 := n2_; have GW222 := n3_; have GE222 := n4_; have NB204_222 := n5_; have NB222_204 := n6_; clear n0_ n1_ n2_ n3_ n4_ n5_ n6_; clear hb hbox hg; have hnb47 := NB222_204.out; have hnc47 := NB204_222.out; have hcz48_0 : w46.cell? ⟨gb222, 0, none⟩ = some (.int .u64 0) := (blk_cell BK222.out 0).trans rfl; have hcz48_1 : w46.cell? ⟨gb222, 1, none⟩ = some (.int .u32 0) := (blk_cell BK222.out 1).trans rfl; have hcz48_2 : w46.cell? ⟨gb222, 2, none⟩ = some (.string (⟨#[]⟩ : ByteArray)) := (blk_cell BK222.out 2).trans rfl; have hcz48_3 : w46.cell? ⟨gb222, 3, none⟩ = some (.int .i64 0) := (blk_cell BK222.out 3).trans rfl; have hfz48_0 := blk_frozen BK222.out 0; have hfz48_1 := blk_frozen BK222.out 1; have hfz48_2 := blk_frozen BK222.out 2; have hfz48_3 := blk_frozen BK222.out 3; have hcz49_0 : w46.cell? ⟨gb204, 0, none⟩ = some (.int .u64 0) := (blk_cell BK204.out 0).trans rfl; have hcz49_1 : w46.cell? ⟨gb204, 1, none⟩ = some (.int .u32 0) := (blk_cell BK204.out 1).trans rfl; have hcz49_2 : w46.cell? ⟨gb204, 2, none⟩ = some (.string (⟨#[]⟩ : ByteArray)) := (blk_cell BK204.out 2).trans rfl; have hcz49_3 : w46.cell? ⟨gb204, 3, none⟩ = some (.int .i64 0) := (blk_cell BK204.out 3).trans rfl; have hfz49_0 := blk_frozen BK204.out 0; have hfz49_1 := blk_frozen BK204.out 1; have hfz49_2 := blk_frozen BK204.out 2; have hfz49_3 := blk_frozen BK204.out 3))
              refine bodyPost_ret (results_ct rfl _ _ gb204 27 #[.int .u64 0, .int .u32 0, .string (⟨#[]⟩ : ByteArray), .int .i64 0] (0, 0) _ rfl (by (with_reducible repeat (first | refine blk_drewN ?_ _ | refine blk_drew ?_ | refine blk_alloc ?_ _)); refine blk_put (cs := #[.int .u64 0, .int .u32 0, .string (⟨#[]⟩ : ByteArray), .int .i64 0]) ?_ 3 _ rfl; (with_reducible repeat (first | refine blk_drewN ?_ _ | refine blk_drew ?_ | refine blk_alloc ?_ _)); refine blk_put (cs := #[.int .u64 0, .int .u32 0, .string (⟨#[]⟩ : ByteArray), .int .i64 0]) ?_ 2 _ rfl; (with_reducible repeat (first | refine blk_drewN ?_ _ | refine blk_drew ?_ | refine blk_alloc ?_ _)); refine blk_put (cs := #[.int .u64 0, .int .u32 0, .string (⟨#[]⟩ : ByteArray), .int .i64 0]) ?_ 1 _ rfl; (with_reducible repeat (first | refine blk_drewN ?_ _ | refine blk_drew ?_ | refine blk_alloc ?_ _)); refine blk_put (cs := #[.int .u64 0, .int .u32 0, .string (⟨#[]⟩ : ByteArray), .int .i64 0]) ?_ 0 _ rfl; (with_reducible repeat (first | refine blk_drewN ?_ _ | refine blk_drew ?_ | refine blk_alloc ?_ _)); refine blk_far ?_ NB204_222.out _; (with_reducible repeat (first | refine blk_drewN ?_ _ | refine blk_drew ?_ | refine blk_alloc ?_ _)); refine blk_far ?_ NB204_222.out _; (with_reducible repeat (first | refine blk_drewN ?_ _ | refine blk_drew ?_ | refine blk_alloc ?_ _)); refine blk_far ?_ NB204_222.out _; (with_reducible repeat (first | refine blk_drewN ?_ _ | refine blk_drew ?_ | refine blk_alloc ?_ _)); refine blk_far ?_ NB204_222.out _; (with_reducible repeat (first | refine blk_drewN ?_ _ | refine blk_drew ?_ | refine blk_alloc ?_ _)); exact BK204.out) Tryd.underlying27 rfl (by kernel_rfl)) rfl ?_
              exact ⟨by first | rfl | (simp [errW_none, errW_some] <;> rfl) | (simp [*, errW_none, errW_some] <;> rfl), by repeat (first | (with_reducible first | exact HB.out | apply below_alloc | apply pw_below_drewN | apply below_drew1 | refine below_set ?_ GE204.out | refine below_set ?_ GE222.out) | exact HB.out)⟩
          · rw [if_neg c27] at H
            exact absurd H (by simp)
        · rw [if_neg c26] at H
          exact absurd H (by simp)

-- NOT PRINTED: function 51 (strings_splitSeq)

-- NOT PRINTED: function 35 (strings_SplitAfterSeq)

-- NOT PRINTED: function 19 (audit_Read)

/-! ### congressref20_Read: function 20 -/
def congressref20_Read.l0 : Nat → ByteArray → List (S27) → Int → Int → Option ((List (S27)) × Bool)
  | 0, _, _, _, _ => none
  | k + 1, x0, x4, x5, x6 => if x6 < (x0.size : Int) then (if 0 ≤ x6 then (if (bt x0 x6) = 10 then (if 0 ≤ x5 then (if x5 ≤ (wrap64 (x6 + 1)) then (if (wrap64 (x6 + 1)) ≤ (x0.size : Int) then ((congressref20_Parse.f k (x0.extract (x5 : Int).toNat ((wrap64 (x6 + 1)) : Int).toNat)).bind fun bt228 => (if bt228.2.2.2.2 = true then (if x4.length < 3518437208883 then (congressref20_Read.l0 k x0 (x4 ++ [(⟨bt228.1, bt228.2.1, bt228.2.2.1, bt228.2.2.2.1⟩ : S27)]) (wrap64 (x6 + 1)) (wrap64 (x6 + 1))) else (none)) else (some (([] : List (S27)), false)))) else (none)) else (none)) else (none)) else (congressref20_Read.l0 k x0 x4 x5 (wrap64 (x6 + 1)))) else (none)) else (if x5 = (x0.size : Int) then ((congressref20_Check.f k x4).bind fun t227 => (if t227 = true then (some (x4, true)) else (some (([] : List (S27)), false)))) else (some (([] : List (S27)), false)))
def congressref20_Read.f (k : Nat) (a0 : ByteArray) : Option ((List (S27)) × Bool) := congressref20_Read.l0 k a0 (([] : List (S27))) 0 0
theorem congressref20_Read.mono_l : ∀ k, (∀ y0 y1 y2 y3, LeO (congressref20_Read.l0 k y0 y1 y2 y3) (congressref20_Read.l0 (k + 1) y0 y1 y2 y3))
  | 0 => fun _ _ _ _ r h => by simp [congressref20_Read.l0] at h
  | k + 1 => by
    have ih0 := congressref20_Read.mono_l k
    · intro y0 y1 y2 y3
      unfold congressref20_Read.l0
      repeat' first
      | (with_reducible exact ih0 _ _ _ _)
      | (with_reducible exact congressref20_Check.mono _ _)
      | (with_reducible exact congressref20_Parse.mono _ _)
      | (with_reducible exact LeO.refl _)
      | (with_reducible exact LeO.none _)
      | (with_reducible refine LeO.ite ?_ ?_)
      | (with_reducible refine LeO.bind ?_ (fun _ => ?_))
      | exact ih0 _ _ _ _
      | exact congressref20_Check.mono _ _
      | exact congressref20_Parse.mono _ _
      | exact LeO.none _
      | refine LeO.ite ?_ ?_
      | refine LeO.bind ?_ (fun _ => ?_)
theorem congressref20_Read.mono : ∀ a0 k, LeO (congressref20_Read.f k a0) (congressref20_Read.f (k + 1) a0) := by
  intro a0 k
  have ih0 := congressref20_Read.mono_l k
  unfold congressref20_Read.f
  repeat' first
      | (with_reducible exact ih0 _ _ _ _)
      | (with_reducible exact congressref20_Check.mono _ _)
      | (with_reducible exact congressref20_Parse.mono _ _)
      | (with_reducible exact LeO.refl _)
      | (with_reducible exact LeO.none _)
      | (with_reducible refine LeO.ite ?_ ?_)
      | (with_reducible refine LeO.bind ?_ (fun _ => ?_))
      | exact ih0 _ _ _ _
      | exact congressref20_Check.mono _ _
      | exact congressref20_Parse.mono _ _
      | exact LeO.none _
      | refine LeO.ite ?_ ?_
      | refine LeO.bind ?_ (fun _ => ?_)
set_option maxHeartbeats 8000000 in
set_option maxRecDepth 100000 in
theorem congressref20_Read.calls (k : Nat) (a0 : ByteArray) (r1 : List (S27)) (r2 : Bool) (w : World) (h : congressref20_Read.f k a0 = some (r1, r2)) :
    Calls Tryd.prog 20 #[.string a0] w fun e w' => ∃ v0_ : Value, e = .returned (.tuple #[v0_, .bool r2]) ∧ Kd.R k27 27 w' w.heap.size (fun _ => True) v0_ r1 ∧ Below w.heap.size w w' := by
  have hu27 := Tryd.underlying27
  have HB := Aside0.mk (Below.refl w.heap.size w)
  have H : (congressref20_Read.l0 k a0 (([] : List (S27))) 0 0) = some (r1, r2) := h
  clear h
  obtain ⟨y224, hy224⟩ : ∃ y_ : List (S27), y_ = (([] : List (S27))) := ⟨_, rfl⟩
  replace H : (congressref20_Read.l0 k a0 y224 0 0) = some (r1, r2) := by first | (rw [hy224]; with_reducible exact H) | (have H2_ := (Option.bind_some _ _).symm.trans H; rw [hy224]; with_reducible exact H2_) | (have H2_ := (Option.bind_some _ _).symm.trans H; with_reducible exact H2_) | with_reducible exact H | (rw [hy224]; exact H) | exact H
  have Ny224 := Aside0.mk hy224
  clear hy224
  have H' := Aside0.mk H
  clear H
  go_enter Tryd.func20, Tryd.ntmps20
  go_wp2_with (first | ((with_reducible refine gate_dst (N := 9) rfl ?_); refine Kd.R_lit k27 _ 27 ?hg (N := 9) ?hd (xs := ([] : List (S27))) (inner := []) (ok := fun _ => True) (okp := fun _ => True) ?hr ?hp (fun _ hk => hk) trivial (Below.refl _ _) (Nat.le_refl _) (by simp) ?_; (case hd => rfl); (case hg => rfl); (case hr => first | (go_simp; done) | (go_simp; rfl)); (case hp => exact (Reps.none _ _)); intro v225 w2 ho3 hb hg_ hnew_; clear hg_ hnew_; (first | rw [← Ny224.out] at ho3 | (simp only [Int.reduceToNat] at ho3; rw [← Ny224.out] at ho3)); have n0_ := Aside0.mk (Kd.R_lower ho3 (below_size (by repeat (first | (with_reducible first | exact HB.out | apply below_alloc | apply pw_below_drewN | apply below_drew1) | exact HB.out)))); have n1_ := Aside0.mk (below_step (by repeat (first | (with_reducible first | exact HB.out | apply below_alloc | apply pw_below_drewN | apply below_drew1) | exact HB.out)) hb); clear HB; have HO226 := n0_; have HB := n1_; clear n0_ n1_; clear hb ho3))
  go_loopg [4, 5, 6] k (fun kq v4 v5 v6 w' => ∃ (x4_1 : List (S27)) (x5_1 : Int) (x6_1 : Int), v5 = .int .i64 x5_1 ∧ v6 = .int .i64 x6_1 ∧ Aside0 (congressref20_Read.l0 kq a0 x4_1 x5_1 x6_1 = some (r1, r2)) ∧ Aside0 (kq ≤ k) ∧ Aside0 (Kd.R k27 27 w' w.heap.size (fun _ => True) v4 x4_1) ∧ Aside0 (Below w.heap.size w w'))
  case atStart => exact ⟨(y224), (0), (0), (by first | rfl | (simp; done) | (simp [*]; done)), (by first | rfl | (simp; done) | (simp [*]; done)), H', ⟨Nat.le_refl _⟩, ⟨by (with_reducible repeat (first | apply Kd.R_alloc | apply Kd.R_drewN | apply Kd.R_drew)); exact HO226.out⟩, ⟨by repeat (first | (with_reducible first | exact HB.out | apply below_alloc | apply pw_below_drewN | apply below_drew1) | exact HB.out)⟩⟩
  case round =>
    clear H'
    try clear c2
    try clear p2
    obtain ⟨x4_1, x5_1, x6_1, rfl, rfl, HA, HK1, HO_4, HB⟩ := hrel
    cases gk with
    | zero => exact absurd HA.out (by simp [congressref20_Read.l0])
    | succ k1 =>
      have H := HA.out
      clear HA
      simp only [congressref20_Read.l0] at H
      by_cases c4 : x6_1 < (a0.size : Int)
      · rw [if_pos c4] at H
        have c4b0 : decide (x6_1 < (a0.size : Int)) = true := decide_eq_true c4
        clear c4
        by_cases c5 : 0 ≤ x6_1
        · rw [if_pos c5] at H
          have c5b0 : decide (0 ≤ x6_1) = true := decide_eq_true c5
          clear c5
          by_cases c7 : (bt a0 x6_1) = 10
          · rw [if_pos c7] at H
            have c7b0 : ((bt a0 x6_1) == 10) = true := beq_iff_eq.mpr c7
            have c7b1 : ((bt a0 x6_1) != 10) = false := bne_eq_false_iff_eq.mpr c7
            clear c7
            by_cases c8 : 0 ≤ x5_1
            · rw [if_pos c8] at H
              have c8b0 := eq_true c8
              have c8b1 : decide (0 ≤ x5_1) = true := decide_eq_true c8
              clear c8
              by_cases c9 : x5_1 ≤ (wrap64 (x6_1 + 1))
              · rw [if_pos c9] at H
                have c9b0 := eq_true c9
                have c9b1 : decide (x5_1 ≤ (wrap64 (x6_1 + 1))) = true := decide_eq_true c9
                by_cases c10 : (wrap64 (x6_1 + 1)) ≤ (a0.size : Int)
                · rw [if_pos c10] at H
                  have c10b0 := eq_true c10
                  have c10b1 : decide ((wrap64 (x6_1 + 1)) ≤ (a0.size : Int)) = true := decide_eq_true c10
                  replace H := Option.bind_eq_some_iff.mp H
                  obtain ⟨⟨t228, t229, t230, t231, t232⟩, A110, H⟩ := H
                  replace H : (if t232 = true then (if x4_1.length < 3518437208883 then (congressref20_Read.l0 k1 a0 (x4_1 ++ [(⟨t228, t229, t230, t231⟩ : S27)]) (wrap64 (x6_1 + 1)) (wrap64 (x6_1 + 1))) else (none)) else (some (([] : List (S27)), false))) = some (r1, r2) := H
                  have A11 := Aside0.mk A110
                  clear A110
                  by_cases c12 : t232 = true
                  · subst c12
                    have H1 : (if x4_1.length < 3518437208883 then (congressref20_Read.l0 k1 a0 (x4_1 ++ [(⟨t228, t229, t230, t231⟩ : S27)]) (wrap64 (x6_1 + 1)) (wrap64 (x6_1 + 1))) else (none)) = some (r1, r2) := by rw [if_pos rfl] at H; exact H
                    clear H
                    have H := H1
                    clear H1
                    by_cases c13 : x4_1.length < 3518437208883
                    · rw [if_pos c13] at H
                      have LMc13 := Aside0.mk c13
                      clear c13
                      obtain ⟨y234, hy234⟩ : ∃ y_ : List (S27), y_ = (x4_1 ++ [(⟨t228, t229, t230, t231⟩ : S27)]) := ⟨_, rfl⟩
                      replace H : (congressref20_Read.l0 k1 a0 y234 (wrap64 (x6_1 + 1)) (wrap64 (x6_1 + 1))) = some (r1, r2) := by first | (rw [hy234]; with_reducible exact H) | (have H2_ := (Option.bind_some _ _).symm.trans H; rw [hy234]; with_reducible exact H2_) | (have H2_ := (Option.bind_some _ _).symm.trans H; with_reducible exact H2_) | with_reducible exact H | (rw [hy234]; exact H) | exact H
                      have Ny234 := Aside0.mk hy234
                      clear hy234
                      have H' := Aside0.mk H
                      clear H
                      have p6 : 0 ≤ (x6_1 : Int) := of_decide_eq_true (by first | (with_reducible assumption) | assumption)
                      have q6 : x6_1 < (a0.size : Int) := of_decide_eq_true (by first | (with_reducible assumption) | assumption)
                      have hx6 := bt_at a0 x6_1
                      replace p6 := eq_true p6
                      replace q6 := eq_true q6
                      go_wp2_with (first | ((with_reducible refine gate_callee (f := 18) rfl ?_); refine goesL_ (some 26) rfl rfl Tryd.func18 (by kernel_rfl) rfl #[.string (a0.extract (x5_1 : Int).toNat ((wrap64 (x6_1 + 1)) : Int).toNat)] rfl (by (try simp only [List.map_toArray, List.map_cons, List.map_nil]); first | done | rfl | (simp only [List.length_drop, List.length_take]; rfl)) ?_; (with_reducible refine (congressref20_Parse.calls k1 (a0.extract (x5_1 : Int).toNat ((wrap64 (x6_1 + 1)) : Int).toNat) t228 t229 t230 t231 true _ A11.out).mono ?_); rintro e w14 ⟨rfl, hb⟩; refine ⟨_, rfl, ?_⟩; have n0_ := Aside0.mk (Kd.R_below (by (with_reducible repeat (first | apply Kd.R_alloc | apply Kd.R_drewN | apply Kd.R_drew)); exact HO_4.out) hb); have n1_ := Aside0.mk (below_step (by repeat (first | (with_reducible first | exact HB.out | apply below_alloc | apply pw_below_drewN | apply below_drew1) | exact HB.out)) hb); clear HO_4; clear HB; have HO_4 := n0_; have HB := n1_; clear n0_ n1_; (try clear hb); (try clear hb2); (try clear hk); (try clear hi)) | ((with_reducible refine gate_dst (N := 7) rfl ?_); refine box_event ?hg (N := 7) ?hd (cs := #[.int .u64 0, .int .u32 0, .string (⟨#[]⟩ : ByteArray), .int .i64 0]) (t := 27) ?hr ?_; (case hd => rfl); (case hg => rfl); (case hr => first | (go_simp; done) | (go_simp; rfl)); intro gb233 hg w15 hbox hb; have n0_ := Aside0.mk (Kd.R_below (Kd.R_elderB (by (with_reducible repeat (first | apply Kd.R_alloc | apply Kd.R_drewN | apply Kd.R_drew)); exact HO_4.out) gb233 (Nat.le_of_eq hg.symm)) hb); have n1_ := Aside0.mk (below_step (by repeat (first | (with_reducible first | exact HB.out | apply below_alloc | apply pw_below_drewN | apply below_drew1) | exact HB.out)) hb); have n2_ := Aside0.mk (hbox); have n3_ := Aside0.mk ((by rw [hg]; exact (below_size (by repeat (first | (with_reducible first | exact HB.out | apply below_alloc | apply pw_below_drewN | apply below_drew1) | exact HB.out))) : w.heap.size ≤ gb233)); have n4_ := Aside0.mk ((by rw [hg]; exact (below_size (by repeat (first | (with_reducible first | exact HB.out | apply below_alloc | apply pw_below_drewN | apply below_drew1) | exact HB.out))) : w.heap.size ≤ gb233)); clear HO_4; clear HB; have HO_4 := n0_; have HB := n1_; have BK233 := n2_; have GW233 := n3_; have GE233 := n4_; clear n0_ n1_ n2_ n3_ n4_; clear hb hbox hg; have hcz16_0 : w15.cell? ⟨gb233, 0, none⟩ = some (.int .u64 0) := (blk_cell BK233.out 0).trans rfl; have hcz16_1 : w15.cell? ⟨gb233, 1, none⟩ = some (.int .u32 0) := (blk_cell BK233.out 1).trans rfl; have hcz16_2 : w15.cell? ⟨gb233, 2, none⟩ = some (.string (⟨#[]⟩ : ByteArray)) := (blk_cell BK233.out 2).trans rfl; have hcz16_3 : w15.cell? ⟨gb233, 3, none⟩ = some (.int .i64 0) := (blk_cell BK233.out 3).trans rfl; have hfz16_0 := blk_frozen BK233.out 0; have hfz16_1 := blk_frozen BK233.out 1; have hfz16_2 := blk_frozen BK233.out 2; have hfz16_3 := blk_frozen BK233.out 3) | ((with_reducible refine gate_builtin (b := .append) (xs := #[.tmp 31, .tmp 33]) rfl ?_); at_builtin; refine Kd.R_append k27 (w0 := w) w.heap.size rfl (.tmp 31) (.tmp 33) 22 27 (.agg #[(.int .u64 0), (.int .u32 0), (.string ⟨#[]⟩), (.int .i64 0)]) 40 rfl Tryd.underlying22 info27 rfl (by decide) (by omega) u4 x4_1 (⟨t228, t229, t230, t231⟩ : S27) [.int .u64 t228, .int .u32 t229, .string t230, .int .i64 t231] (fun k_ => k_ ≠ gb233) (fun _ => False) rfl (by first | (go_simp; done) | (go_simp; rfl)) ?aP (fun _ hk => hk.elim) ?aF ?aO ?aB ?aS ?aL ?_; (case aP => exact k27_mkM _ _ _ (⟨t228, t229, t230, t231⟩ : S27)); (case aB => exact (by repeat (first | (with_reducible first | exact HB.out | apply below_alloc | apply pw_below_drewN | apply below_drew1 | refine below_set ?_ GE233.out) | exact HB.out))); (case aF => exact (fun k_ hk => Kd.freshB (g := gb233) (o := .cells #[.int .u64 t228, .int .u32 t229, .string t230, .int .i64 t231] 27 (0, 0)) (by (with_reducible repeat (first | refine blk_drewN ?_ _ | refine blk_drew ?_ | refine blk_alloc ?_ _)); refine blk_put (cs := #[.int .u64 t228, .int .u32 t229, .string t230, .int .i64 0]) ?_ 3 _ rfl; (with_reducible repeat (first | refine blk_drewN ?_ _ | refine blk_drew ?_ | refine blk_alloc ?_ _)); refine blk_put (cs := #[.int .u64 t228, .int .u32 t229, .string (⟨#[]⟩ : ByteArray), .int .i64 0]) ?_ 2 _ rfl; (with_reducible repeat (first | refine blk_drewN ?_ _ | refine blk_drew ?_ | refine blk_alloc ?_ _)); refine blk_put (cs := #[.int .u64 t228, .int .u32 0, .string (⟨#[]⟩ : ByteArray), .int .i64 0]) ?_ 1 _ rfl; (with_reducible repeat (first | refine blk_drewN ?_ _ | refine blk_drew ?_ | refine blk_alloc ?_ _)); refine blk_put (cs := #[.int .u64 0, .int .u32 0, .string (⟨#[]⟩ : ByteArray), .int .i64 0]) ?_ 0 _ rfl; (with_reducible repeat (first | refine blk_drewN ?_ _ | refine blk_drew ?_ | refine blk_alloc ?_ _)); exact BK233.out) k_ hk)); (case aO => exact (by (with_reducible repeat (first | apply Kd.R_alloc | apply Kd.R_drewN | apply Kd.R_drew)); exact Kd.R_mono (Kd.R_far (p := ⟨gb233, 3, none⟩) (Kd.R_far (p := ⟨gb233, 2, none⟩) (Kd.R_far (p := ⟨gb233, 1, none⟩) (Kd.R_far (p := ⟨gb233, 0, none⟩) (Kd.R_mono HO_4.out (fun k_ hk => (⟨hk, hk.2⟩ : _ ∧ k_ ≠ gb233))) (fun _ hk => hk.2) (.int .u64 t228)) (fun _ hk => hk.2) (.int .u32 t229)) (fun _ hk => hk.2) (.string t230)) (fun _ hk => hk.2) (.int .i64 t231)) (fun _ hk => hk.1.2))); (case aS => exact (below_size (by repeat (first | (with_reducible first | exact HB.out | apply below_alloc | apply pw_below_drewN | apply below_drew1 | refine below_set ?_ GE233.out) | exact HB.out)))); (case aL => have := LMc13.out; omega); intro v235 w17 ho hb hg hat; rw [← Ny234.out] at ho; have n0_ := Aside0.mk (blk_grown (g := gb233) (o := .cells #[.int .u64 t228, .int .u32 t229, .string t230, .int .i64 t231] 27 (0, 0)) (by (with_reducible repeat (first | refine blk_drewN ?_ _ | refine blk_drew ?_ | refine blk_alloc ?_ _)); refine blk_put (cs := #[.int .u64 t228, .int .u32 t229, .string t230, .int .i64 0]) ?_ 3 _ rfl; (with_reducible repeat (first | refine blk_drewN ?_ _ | refine blk_drew ?_ | refine blk_alloc ?_ _)); refine blk_put (cs := #[.int .u64 t228, .int .u32 t229, .string (⟨#[]⟩ : ByteArray), .int .i64 0]) ?_ 2 _ rfl; (with_reducible repeat (first | refine blk_drewN ?_ _ | refine blk_drew ?_ | refine blk_alloc ?_ _)); refine blk_put (cs := #[.int .u64 t228, .int .u32 0, .string (⟨#[]⟩ : ByteArray), .int .i64 0]) ?_ 1 _ rfl; (with_reducible repeat (first | refine blk_drewN ?_ _ | refine blk_drew ?_ | refine blk_alloc ?_ _)); refine blk_put (cs := #[.int .u64 0, .int .u32 0, .string (⟨#[]⟩ : ByteArray), .int .i64 0]) ?_ 0 _ rfl; (with_reducible repeat (first | refine blk_drewN ?_ _ | refine blk_drew ?_ | refine blk_alloc ?_ _)); exact BK233.out) hg (Kd.R_away HO_4.out (fun _ hk => hk.2))); have n1_ := Aside0.mk (hb); have n2_ := Aside0.mk (ho); clear BK233; clear HB; clear HO_4; have BK233 := n0_; have HB := n1_; have HO236 := n2_; clear n0_ n1_ n2_; clear ho hb hg hat))
                      go_roundg k1
                      case measure => have := HK1.out; omega
                      case rel => exact ⟨(y234), (wrap64 (x6_1 + 1)), (wrap64 (x6_1 + 1)), (by first | rfl | (simp; done) | (simp [*]; done)), (by first | rfl | (simp; done) | (simp [*]; done)), H', ⟨by have := HK1.out; omega⟩, ⟨by (with_reducible repeat (first | apply Kd.R_alloc | apply Kd.R_drewN | apply Kd.R_drew)); exact Kd.R_mono HO236.out (fun _ hk => trivial)⟩, ⟨by repeat (first | (with_reducible first | exact HB.out | apply below_alloc | apply pw_below_drewN | apply below_drew1 | refine below_set ?_ GE233.out) | exact HB.out)⟩⟩
                    · rw [if_neg c13] at H
                      exact absurd H (by simp)
                  · replace c12 := Bool.eq_false_iff.mpr c12
                    subst c12
                    have H1 : (some (([] : List (S27)), false)) = some (r1, r2) := by rw [if_neg (show ¬ (false = true) by decide)] at H; exact H
                    clear H
                    have H := H1
                    clear H1
                    simp only [Option.some.injEq, Prod.mk.injEq] at H
                    obtain ⟨rfl, rfl⟩ := H
                    have p6 : 0 ≤ (x6_1 : Int) := of_decide_eq_true (by first | (with_reducible assumption) | assumption)
                    have q6 : x6_1 < (a0.size : Int) := of_decide_eq_true (by first | (with_reducible assumption) | assumption)
                    have hx6 := bt_at a0 x6_1
                    replace p6 := eq_true p6
                    replace q6 := eq_true q6
                    go_wp2_with (first | ((with_reducible refine gate_callee (f := 18) rfl ?_); refine goesL_ (some 26) rfl rfl Tryd.func18 (by kernel_rfl) rfl #[.string (a0.extract (x5_1 : Int).toNat ((wrap64 (x6_1 + 1)) : Int).toNat)] rfl (by (try simp only [List.map_toArray, List.map_cons, List.map_nil]); first | done | rfl | (simp only [List.length_drop, List.length_take]; rfl)) ?_; (with_reducible refine (congressref20_Parse.calls k1 (a0.extract (x5_1 : Int).toNat ((wrap64 (x6_1 + 1)) : Int).toNat) t228 t229 t230 t231 false _ A11.out).mono ?_); rintro e w18 ⟨rfl, hb⟩; refine ⟨_, rfl, ?_⟩; have n0_ := Aside0.mk (Kd.R_below (by (with_reducible repeat (first | apply Kd.R_alloc | apply Kd.R_drewN | apply Kd.R_drew)); exact HO_4.out) hb); have n1_ := Aside0.mk (below_step (by repeat (first | (with_reducible first | exact HB.out | apply below_alloc | apply pw_below_drewN | apply below_drew1) | exact HB.out)) hb); clear HO_4; clear HB; have HO_4 := n0_; have HB := n1_; clear n0_ n1_; (try clear hb); (try clear hb2); (try clear hk); (try clear hi)) | ((with_reducible refine gate_dst (N := 7) rfl ?_); refine box_event ?hg (N := 7) ?hd (cs := #[.int .u64 0, .int .u32 0, .string (⟨#[]⟩ : ByteArray), .int .i64 0]) (t := 27) ?hr ?_; (case hd => rfl); (case hg => rfl); (case hr => first | (go_simp; done) | (go_simp; rfl)); intro gb233 hg w19 hbox hb; have n0_ := Aside0.mk (Kd.R_below (Kd.R_elderB (by (with_reducible repeat (first | apply Kd.R_alloc | apply Kd.R_drewN | apply Kd.R_drew)); exact HO_4.out) gb233 (Nat.le_of_eq hg.symm)) hb); have n1_ := Aside0.mk (below_step (by repeat (first | (with_reducible first | exact HB.out | apply below_alloc | apply pw_below_drewN | apply below_drew1) | exact HB.out)) hb); have n2_ := Aside0.mk (hbox); have n3_ := Aside0.mk ((by rw [hg]; exact (below_size (by repeat (first | (with_reducible first | exact HB.out | apply below_alloc | apply pw_below_drewN | apply below_drew1) | exact HB.out))) : w.heap.size ≤ gb233)); have n4_ := Aside0.mk ((by rw [hg]; exact (below_size (by repeat (first | (with_reducible first | exact HB.out | apply below_alloc | apply pw_below_drewN | apply below_drew1) | exact HB.out))) : w.heap.size ≤ gb233)); clear HO_4; clear HB; have HO_4 := n0_; have HB := n1_; have BK233 := n2_; have GW233 := n3_; have GE233 := n4_; clear n0_ n1_ n2_ n3_ n4_; clear hb hbox hg; have hcz20_0 : w19.cell? ⟨gb233, 0, none⟩ = some (.int .u64 0) := (blk_cell BK233.out 0).trans rfl; have hcz20_1 : w19.cell? ⟨gb233, 1, none⟩ = some (.int .u32 0) := (blk_cell BK233.out 1).trans rfl; have hcz20_2 : w19.cell? ⟨gb233, 2, none⟩ = some (.string (⟨#[]⟩ : ByteArray)) := (blk_cell BK233.out 2).trans rfl; have hcz20_3 : w19.cell? ⟨gb233, 3, none⟩ = some (.int .i64 0) := (blk_cell BK233.out 3).trans rfl; have hfz20_0 := blk_frozen BK233.out 0; have hfz20_1 := blk_frozen BK233.out 1; have hfz20_2 := blk_frozen BK233.out 2; have hfz20_3 := blk_frozen BK233.out 3))
                    go_ret2
                    exact ⟨_, by first | rfl | (simp [errW_none, errW_some] <;> rfl) | (simp [*, errW_none, errW_some] <;> rfl), by first | exact Kd.R_nil _ _ _ _ _ | exact Kd.N_nil _ _ _ _ _ | exact Kd.V_nil _ _ _ _ _ | exact Kd.Q_nil _ _ _ _ _ | exact Kd.S_nil _ _ _ _ _, by repeat (first | (with_reducible first | exact HB.out | apply below_alloc | apply pw_below_drewN | apply below_drew1 | refine below_set ?_ GE233.out) | exact HB.out)⟩
                · rw [if_neg c10] at H
                  exact absurd H (by simp)
              · rw [if_neg c9] at H
                exact absurd H (by simp)
            · rw [if_neg c8] at H
              exact absurd H (by simp)
          · rw [if_neg c7] at H
            have c7b0 : ((bt a0 x6_1) == 10) = false := beq_eq_false_iff_ne.mpr c7
            have c7b1 : ((bt a0 x6_1) != 10) = true := bne_iff_ne.mpr c7
            have H' := Aside0.mk H
            clear H
            have p6 : 0 ≤ (x6_1 : Int) := of_decide_eq_true (by first | (with_reducible assumption) | assumption)
            have q6 : x6_1 < (a0.size : Int) := of_decide_eq_true (by first | (with_reducible assumption) | assumption)
            have hx6 := bt_at a0 x6_1
            replace p6 := eq_true p6
            replace q6 := eq_true q6
            go_wp2
            go_roundg k1
            case measure => have := HK1.out; omega
            case rel => exact ⟨(x4_1), (x5_1), (wrap64 (x6_1 + 1)), (by first | rfl | (simp; done) | (simp [*]; done)), (by first | rfl | (simp; done) | (simp [*]; done)), H', ⟨by have := HK1.out; omega⟩, ⟨by (with_reducible repeat (first | apply Kd.R_alloc | apply Kd.R_drewN | apply Kd.R_drew)); exact HO_4.out⟩, ⟨by repeat (first | (with_reducible first | exact HB.out | apply below_alloc | apply pw_below_drewN | apply below_drew1) | exact HB.out)⟩⟩
        · rw [if_neg c5] at H
          exact absurd H (by simp)
      · rw [if_neg c4] at H
        have c4b0 : decide (x6_1 < (a0.size : Int)) = false := decide_eq_false c4
        clear c4
        by_cases c21 : x5_1 = (a0.size : Int)
        · rw [if_pos c21] at H
          have c21b0 : (x5_1 == (a0.size : Int)) = true := beq_iff_eq.mpr c21
          have c21b1 : (x5_1 != (a0.size : Int)) = false := bne_eq_false_iff_eq.mpr c21
          clear c21
          replace H := Option.bind_eq_some_iff.mp H
          obtain ⟨t227, A220, H⟩ := H
          replace H : (if t227 = true then (some (x4_1, true)) else (some (([] : List (S27)), false))) = some (r1, r2) := H
          have A22 := Aside0.mk A220
          clear A220
          by_cases c23 : t227 = true
          · subst c23
            have H1 : (some (x4_1, true)) = some (r1, r2) := by rw [if_pos rfl] at H; exact H
            clear H
            have H := H1
            clear H1
            simp only [Option.some.injEq, Prod.mk.injEq] at H
            obtain ⟨rfl, rfl⟩ := H
            obtain ⟨Ao24, co24, eo24⟩ := Kd.R_slice HO_4.out
            subst eo24
            go_wp2_with (first | (go_at_call 13; (with_reducible refine (congressref20_Check.calls k1 _ _ x4_1 true _ ?side1 ?side2 A22.out).mono ?_); (case side1 => repeat (first | exact (Kd.R_reads' HO_4.out).2.2 | (with_reducible refine Kd.C_alloc ?_ _) | (with_reducible refine Kd.C_drewN ?_ _) | (with_reducible refine Kd.C_drew ?_))); (case side2 => exact (Kd.R_reads' HO_4.out).2.1); rintro e w' ⟨rfl, ⟨nd, rfl⟩⟩))
            go_ret2
            exact ⟨_, by first | rfl | (simp [errW_none, errW_some] <;> rfl) | (simp [*, errW_none, errW_some] <;> rfl), by (with_reducible repeat (first | apply Kd.R_alloc | apply Kd.R_drewN | apply Kd.R_drew)); exact HO_4.out, by repeat (first | (with_reducible first | exact HB.out | apply below_alloc | apply pw_below_drewN | apply below_drew1) | exact HB.out)⟩
          · replace c23 := Bool.eq_false_iff.mpr c23
            subst c23
            have H1 : (some (([] : List (S27)), false)) = some (r1, r2) := by rw [if_neg (show ¬ (false = true) by decide)] at H; exact H
            clear H
            have H := H1
            clear H1
            simp only [Option.some.injEq, Prod.mk.injEq] at H
            obtain ⟨rfl, rfl⟩ := H
            obtain ⟨Ao25, co25, eo25⟩ := Kd.R_slice HO_4.out
            subst eo25
            go_wp2_with (first | (go_at_call 13; (with_reducible refine (congressref20_Check.calls k1 _ _ x4_1 false _ ?side1 ?side2 A22.out).mono ?_); (case side1 => repeat (first | exact (Kd.R_reads' HO_4.out).2.2 | (with_reducible refine Kd.C_alloc ?_ _) | (with_reducible refine Kd.C_drewN ?_ _) | (with_reducible refine Kd.C_drew ?_))); (case side2 => exact (Kd.R_reads' HO_4.out).2.1); rintro e w' ⟨rfl, ⟨nd, rfl⟩⟩))
            go_ret2
            exact ⟨_, by first | rfl | (simp [errW_none, errW_some] <;> rfl) | (simp [*, errW_none, errW_some] <;> rfl), by first | exact Kd.R_nil _ _ _ _ _ | exact Kd.N_nil _ _ _ _ _ | exact Kd.V_nil _ _ _ _ _ | exact Kd.Q_nil _ _ _ _ _ | exact Kd.S_nil _ _ _ _ _, by repeat (first | (with_reducible first | exact HB.out | apply below_alloc | apply pw_below_drewN | apply below_drew1) | exact HB.out)⟩
        · rw [if_neg c21] at H
          have c21b0 : (x5_1 == (a0.size : Int)) = false := beq_eq_false_iff_ne.mpr c21
          have c21b1 : (x5_1 != (a0.size : Int)) = true := bne_iff_ne.mpr c21
          simp only [Option.some.injEq, Prod.mk.injEq] at H
          obtain ⟨rfl, rfl⟩ := H
          go_wp2
          go_ret2
          exact ⟨_, by first | rfl | (simp [errW_none, errW_some] <;> rfl) | (simp [*, errW_none, errW_some] <;> rfl), by first | exact Kd.R_nil _ _ _ _ _ | exact Kd.N_nil _ _ _ _ _ | exact Kd.V_nil _ _ _ _ _ | exact Kd.Q_nil _ _ _ _ _ | exact Kd.S_nil _ _ _ _ _, by repeat (first | (with_reducible first | exact HB.out | apply below_alloc | apply pw_below_drewN | apply below_drew1) | exact HB.out)⟩

/-! ### congressref20_Text: function 23 -/
def congressref20_Text.l0 : Nat → List (S27) → ByteArray → Int → Option (ByteArray)
  | 0, _, _, _ => none
  | k + 1, x0, x3, x4 => if x4 < (x0.length : Int) then (if 0 ≤ x4 then ((congressref20_Line.f k ((rd_T27 x0 x4).f0) ((rd_T27 x0 x4).f1) ((rd_T27 x0 x4).f2) ((rd_T27 x0 x4).f3)).bind fun t238 => (if x3.size + t238.size ≤ 9223372036854775807 then (congressref20_Text.l0 k x0 (x3 ++ t238) (wrap64 (x4 + 1))) else (none))) else (none)) else (some x3)
def congressref20_Text.f (k : Nat) (l0 : List (S27)) : Option (ByteArray) := congressref20_Text.l0 k l0 (⟨#[]⟩ : ByteArray) 0
theorem congressref20_Text.mono_l : ∀ k, (∀ y0 y1 y2, LeO (congressref20_Text.l0 k y0 y1 y2) (congressref20_Text.l0 (k + 1) y0 y1 y2))
  | 0 => fun _ _ _ r h => by simp [congressref20_Text.l0] at h
  | k + 1 => by
    have ih0 := congressref20_Text.mono_l k
    · intro y0 y1 y2
      unfold congressref20_Text.l0
      repeat' first
      | (with_reducible exact ih0 _ _ _)
      | (with_reducible exact congressref20_Line.mono _ _ _ _ _)
      | (with_reducible exact LeO.refl _)
      | (with_reducible exact LeO.none _)
      | (with_reducible refine LeO.ite ?_ ?_)
      | (with_reducible refine LeO.bind ?_ (fun _ => ?_))
      | exact ih0 _ _ _
      | exact congressref20_Line.mono _ _ _ _ _
      | exact LeO.none _
      | refine LeO.ite ?_ ?_
      | refine LeO.bind ?_ (fun _ => ?_)
theorem congressref20_Text.mono : ∀ a0 k, LeO (congressref20_Text.f k a0) (congressref20_Text.f (k + 1) a0) := by
  intro a0 k
  have ih0 := congressref20_Text.mono_l k
  unfold congressref20_Text.f
  repeat' first
      | (with_reducible exact ih0 _ _ _)
      | (with_reducible exact congressref20_Line.mono _ _ _ _ _)
      | (with_reducible exact LeO.refl _)
      | (with_reducible exact LeO.none _)
      | (with_reducible refine LeO.ite ?_ ?_)
      | (with_reducible refine LeO.bind ?_ (fun _ => ?_))
      | exact ih0 _ _ _
      | exact congressref20_Line.mono _ _ _ _ _
      | exact LeO.none _
      | refine LeO.ite ?_ ?_
      | refine LeO.bind ?_ (fun _ => ?_)
set_option maxHeartbeats 8000000 in
set_option maxRecDepth 100000 in
theorem congressref20_Text.calls (k : Nat) (A0 : Option Addr) (c0 : Nat) (l0 : List (S27)) (r : ByteArray) (w : World) (hr0 : Kd.C k27 w A0 l0.length l0) (hc0 : l0.length ≤ c0) (h : congressref20_Text.f k l0 = some r) :
    Calls Tryd.prog 23 #[.slice A0 l0.length c0] w fun e w' => e = .returned (.string r) ∧ Below w.heap.size w w' := by
  have hu27 := Tryd.underlying27
  have HR0 := Aside0.mk hr0
  have HC0 := Aside0.mk hc0
  clear hr0 hc0
  have HB := Aside0.mk (Below.refl w.heap.size w)
  have H : (congressref20_Text.l0 k l0 (⟨#[]⟩ : ByteArray) 0) = some r := h
  clear h
  have H' := Aside0.mk H
  clear H
  go_enter Tryd.func23, Tryd.ntmps23
  go_wp2
  go_loopg [3, 4] k (fun kq v3 v4 w' => ∃ (x3_1 : ByteArray) (x4_1 : Int), v3 = .string x3_1 ∧ v4 = .int .i64 x4_1 ∧ Aside0 (congressref20_Text.l0 kq l0 x3_1 x4_1 = some r) ∧ Aside0 (kq ≤ k) ∧ Aside0 (Below w.heap.size w w'))
  case atStart => exact ⟨((⟨#[]⟩ : ByteArray)), (0), (by first | rfl | (simp; done) | (simp [*]; done)), (by first | rfl | (simp; done) | (simp [*]; done)), H', ⟨Nat.le_refl _⟩, ⟨by repeat (first | (with_reducible first | exact HB.out | apply below_alloc | apply pw_below_drewN | apply below_drew1) | exact HB.out)⟩⟩
  case round =>
    clear H'
    obtain ⟨x3_1, x4_1, rfl, rfl, HA, HK1, HB⟩ := hrel
    cases gk with
    | zero => exact absurd HA.out (by simp [congressref20_Text.l0])
    | succ k1 =>
      have H := HA.out
      clear HA
      simp only [congressref20_Text.l0] at H
      by_cases c2 : x4_1 < (l0.length : Int)
      · rw [if_pos c2] at H
        have c2b0 : decide (x4_1 < (l0.length : Int)) = true := decide_eq_true c2
        clear c2
        by_cases c3 : 0 ≤ x4_1
        · rw [if_pos c3] at H
          have c3b0 : decide (0 ≤ x4_1) = true := decide_eq_true c3
          clear c3
          replace H := Option.bind_eq_some_iff.mp H
          obtain ⟨t238, A40, H⟩ := H
          replace H : (if x3_1.size + t238.size ≤ 9223372036854775807 then (congressref20_Text.l0 k1 l0 (x3_1 ++ t238) (wrap64 (x4_1 + 1))) else (none)) = some r := H
          have A4 := Aside0.mk A40
          clear A40
          by_cases c5 : x3_1.size + t238.size ≤ 9223372036854775807
          · rw [if_pos c5] at H
            have c5b0 := eq_true c5
            have c5b1 : decide (x3_1.size + t238.size ≤ 9223372036854775807) = true := decide_eq_true c5
            try have c5b2 : (9223372036854775807 < x3_1.size + t238.size) = False := eq_false (Nat.not_lt.2 c5)
            have H' := Aside0.mk H
            clear H
            have p237 : 0 ≤ (x4_1 : Int) := of_decide_eq_true (by first | (with_reducible assumption) | assumption)
            have q237 : x4_1 < (l0.length : Int) := of_decide_eq_true (by first | (with_reducible assumption) | assumption)
            obtain ⟨ad237, e237, hx237_0, hx237_1, hx237_2, hx237_3⟩ := at_T27 HR0.out x4_1 p237 q237
            cases e237
            replace hx237_0 := (HB.out.cell (World.block_lt_of_cell? w _ hx237_0)).trans hx237_0
            replace hx237_1 := (HB.out.cell (World.block_lt_of_cell? w _ hx237_1)).trans hx237_1
            replace hx237_2 := (HB.out.cell (World.block_lt_of_cell? w _ hx237_2)).trans hx237_2
            replace hx237_3 := (HB.out.cell (World.block_lt_of_cell? w _ hx237_3)).trans hx237_3
            replace p237 := eq_true p237
            replace q237 := eq_true q237
            go_wp2_with (first | ((with_reducible refine gate_callee (f := 22) rfl ?_); refine goesL_ (some 16) rfl rfl Tryd.func22 (by kernel_rfl) rfl #[.agg #[.int .u64 ((rd_T27 l0 x4_1).f0), .int .u32 ((rd_T27 l0 x4_1).f1), .string ((rd_T27 l0 x4_1).f2), .int .i64 ((rd_T27 l0 x4_1).f3)]] rfl (by (try simp only [List.map_toArray, List.map_cons, List.map_nil]); first | done | rfl | (simp only [List.length_drop, List.length_take]; rfl)) ?_; (with_reducible refine (congressref20_Line.calls k1 ((rd_T27 l0 x4_1).f0) ((rd_T27 l0 x4_1).f1) ((rd_T27 l0 x4_1).f2) ((rd_T27 l0 x4_1).f3) t238 _ A4.out).mono ?_); rintro e w6 ⟨rfl, hb⟩; refine ⟨_, rfl, ?_⟩; have n0_ := Aside0.mk (below_step (by repeat (first | (with_reducible first | exact HB.out | apply below_alloc | apply pw_below_drewN | apply below_drew1) | exact HB.out)) hb); clear HB; have HB := n0_; clear n0_; (try clear hb); (try clear hb2); (try clear hk); (try clear hi)))
            go_roundg k1
            case measure => have := HK1.out; omega
            case rel => exact ⟨(x3_1 ++ t238), (wrap64 (x4_1 + 1)), (by first | rfl | (simp; done) | (simp [*]; done)), (by first | rfl | (simp; done) | (simp [*]; done)), H', ⟨by have := HK1.out; omega⟩, ⟨by repeat (first | (with_reducible first | exact HB.out | apply below_alloc | apply pw_below_drewN | apply below_drew1) | exact HB.out)⟩⟩
          · rw [if_neg c5] at H
            exact absurd H (by simp)
        · rw [if_neg c3] at H
          exact absurd H (by simp)
      · rw [if_neg c2] at H
        have c2b0 : decide (x4_1 < (l0.length : Int)) = false := decide_eq_false c2
        clear c2
        obtain rfl := Option.some.inj H
        go_wp2
        go_ret
        exact ⟨by first | rfl | (simp [errW_none, errW_some] <;> rfl) | (simp [*, errW_none, errW_some] <;> rfl), by repeat (first | (with_reducible first | exact HB.out | apply below_alloc | apply pw_below_drewN | apply below_drew1) | exact HB.out)⟩

-- NOT PRINTED: function 6 (congresslaw20_AuditTexts)

-- NOT PRINTED: function 7 (congresslaw20_AuditBack)

end Go.Proofs.YtoeioacgpildpaaDoor.P
