-- Written by a program of this session (wip/pprint.sh), out of the translation's own print. Not trusted: Lean checks it.
import Derived.Test.YtljgmbpfeajmhaaDoorP0
import Derived.Test.YtljgmbpfeajmhaaDoorP1
namespace Go.Proofs.YtljgmbpfeajmhaaDoor.P
open Go.RowKit Go.Proofs.YtljgmbpfeajmhaaDoorW.PrintWords Go.Proofs.YtljgmbpfeajmhaaDoorW.PrintLast Go.Proofs.YtljgmbpfeajmhaaDoorW.PrintMore
attribute [local go_sem] max2_int min2_int max_two min_two max_three min_three max_four min_four   -- for this text's walks alone
set_option linter.unusedVariables false
set_option linter.unusedSimpArgs false

attribute [local go_sem high] eqA24
/-! ### congressref21_May: function 12 -/
mutual
def congressref21_May.j0 : Nat → Bool → Int → Int → Int → Int → Int → Int → ByteArray → Int → Int → Int → Int → Int → Int → ByteArray → Option (Bool)
  | 0, _, _, _, _, _, _, _, _, _, _, _, _, _, _, _ => none
  | k + 1, x15, x169000, x169001, x169002, x169003, x169004, x169005, x169006, x170000, x170001, x170002, x170003, x170004, x170005, x170006 => if x15 = true then (congressref21_May.j1 k x169000 x169001 x169002 x169003 x169004 x169005 x169006 x170000 x169001 x170002 x170003 x170004 x170005 x170006) else (congressref21_May.j1 k x169000 x169001 x169002 x169003 x169004 x169005 x169006 x170000 x170001 x170002 x170003 x170004 x170005 x170006)
def congressref21_May.j1 : Nat → Int → Int → Int → Int → Int → Int → ByteArray → Int → Int → Int → Int → Int → Int → ByteArray → Option (Bool)
  | 0, _, _, _, _, _, _, _, _, _, _, _, _, _, _ => none
  | k + 1, x169000, x169001, x169002, x169003, x169004, x169005, x169006, x170000, x170001, x170002, x170003, x170004, x170005, x170006 => if x169000 ≥ 0 then (congressref21_May.j2 k (decide (x169000 ≤ 6)) x169000 x169001 x169002 x169003 x169004 x169005 x169006 x170000 x170001 x170002 x170003 x170004 x170005 x170006) else (congressref21_May.j2 k false x169000 x169001 x169002 x169003 x169004 x169005 x169006 x170000 x170001 x170002 x170003 x170004 x170005 x170006)
def congressref21_May.j2 : Nat → Bool → Int → Int → Int → Int → Int → Int → ByteArray → Int → Int → Int → Int → Int → Int → ByteArray → Option (Bool)
  | 0, _, _, _, _, _, _, _, _, _, _, _, _, _, _, _ => none
  | k + 1, x4, x169000, x169001, x169002, x169003, x169004, x169005, x169006, x170000, x170001, x170002, x170003, x170004, x170005, x170006 => if x169000 = 2 then (if x169003 ≥ 1 then (congressref21_May.j3 k (decide (x169003 ≤ 7)) x169000 x169001 x169002 x169003 x169004 x169005 x169006 x170000 x170001 x170002 x169003 x170004 x170005 x170006) else (congressref21_May.j3 k false x169000 x169001 x169002 x169003 x169004 x169005 x169006 x170000 x170001 x170002 x169003 x170004 x170005 x170006)) else (congressref21_May.j3 k x4 x169000 x169001 x169002 x169003 x169004 x169005 x169006 x170000 x170001 x170002 x170003 x170004 x170005 x170006)
def congressref21_May.j3 : Nat → Bool → Int → Int → Int → Int → Int → Int → ByteArray → Int → Int → Int → Int → Int → Int → ByteArray → Option (Bool)
  | 0, _, _, _, _, _, _, _, _, _, _, _, _, _, _, _ => none
  | k + 1, x4, x169000, x169001, x169002, x169003, x169004, x169005, x169006, x170000, x170001, x170002, x170003, x170004, x170005, x170006 => if x169000 = 3 then (congressref21_May.j4 k x4 x169000 x169001 x169002 x169003 x169004 x169005 x169006 x170000 x170001 x169002 x170003 x170004 x170005 x170006) else (congressref21_May.j4 k x4 x169000 x169001 x169002 x169003 x169004 x169005 x169006 x170000 x170001 x170002 x170003 x170004 x170005 x170006)
def congressref21_May.j4 : Nat → Bool → Int → Int → Int → Int → Int → Int → ByteArray → Int → Int → Int → Int → Int → Int → ByteArray → Option (Bool)
  | 0, _, _, _, _, _, _, _, _, _, _, _, _, _, _, _ => none
  | k + 1, x4, x169000, x169001, x169002, x169003, x169004, x169005, x169006, x170000, x170001, x170002, x170003, x170004, x170005, x170006 => if x169000 ≥ 4 then (congressref21_May.j5 k x4 (decide (x169000 ≤ 6)) x169000 x169001 x169002 x169003 x169004 x169005 x169006 x170000 x170001 x170002 x170003 x170004 x170005 x170006) else (congressref21_May.j5 k x4 false x169000 x169001 x169002 x169003 x169004 x169005 x169006 x170000 x170001 x170002 x170003 x170004 x170005 x170006)
def congressref21_May.j5 : Nat → Bool → Bool → Int → Int → Int → Int → Int → Int → ByteArray → Int → Int → Int → Int → Int → Int → ByteArray → Option (Bool)
  | 0, _, _, _, _, _, _, _, _, _, _, _, _, _, _, _, _ => none
  | k + 1, x4, x54, x169000, x169001, x169002, x169003, x169004, x169005, x169006, x170000, x170001, x170002, x170003, x170004, x170005, x170006 => if x54 = true then (if x169004 ≥ 0 then (if x169000 = 6 then (if x169004 ≤ 7 then (if x169005 ≥ 0 then (if x169005 ≤ 3 then (if (x169006.size : Int) ≤ 16 then (some (x170000 == x169000 && (x170001 == x169001 && (x170002 == x169002 && (x170003 == x169003))))) else (some false)) else (some false)) else (some false)) else (some false)) else (if x169004 ≤ 7 then (some (x170000 == x169000 && (x170001 == x169001 && (x170002 == x169002 && (x170003 == x169003 && (x170005 == x169005 && (x170006.toList == x169006.toList))))))) else (some false))) else (if x169000 = 6 then (some false) else (some false))) else (if x169000 = 6 then (if x4 = true then (if x169005 ≥ 0 then (if x169005 ≤ 3 then (if (x169006.size : Int) ≤ 16 then (some (x170000 == x169000 && (x170001 == x169001 && (x170002 == x169002 && (x170003 == x169003 && (x170004 == x169004)))))) else (some false)) else (some false)) else (some false)) else (some false)) else (if x4 = true then (some (x170000 == x169000 && (x170001 == x169001 && (x170002 == x169002 && (x170003 == x169003 && (x170004 == x169004 && (x170005 == x169005 && (x170006.toList == x169006.toList)))))))) else (some false)))
end
def congressref21_May.f (k : Nat) (a0_0 : Int) (a0_1 : Int) (a0_2 : Int) (a0_3 : Int) (a0_4 : Int) (a0_5 : Int) (a0_6 : ByteArray) : Option (Bool) := if a0_0 ≥ 1 then (congressref21_May.j0 k (decide (a0_0 ≤ 6)) a0_0 a0_1 a0_2 a0_3 a0_4 a0_5 a0_6 a0_0 0 0 0 0 0 (⟨#[]⟩ : ByteArray)) else (congressref21_May.j0 k false a0_0 a0_1 a0_2 a0_3 a0_4 a0_5 a0_6 a0_0 0 0 0 0 0 (⟨#[]⟩ : ByteArray))
theorem congressref21_May.mono_l : ∀ k, (∀ y0 y1 y2 y3 y4 y5 y6 y7 y8 y9 y10 y11 y12 y13 y14, LeO (congressref21_May.j0 k y0 y1 y2 y3 y4 y5 y6 y7 y8 y9 y10 y11 y12 y13 y14) (congressref21_May.j0 (k + 1) y0 y1 y2 y3 y4 y5 y6 y7 y8 y9 y10 y11 y12 y13 y14)) ∧ (∀ y0 y1 y2 y3 y4 y5 y6 y7 y8 y9 y10 y11 y12 y13, LeO (congressref21_May.j1 k y0 y1 y2 y3 y4 y5 y6 y7 y8 y9 y10 y11 y12 y13) (congressref21_May.j1 (k + 1) y0 y1 y2 y3 y4 y5 y6 y7 y8 y9 y10 y11 y12 y13)) ∧ (∀ y0 y1 y2 y3 y4 y5 y6 y7 y8 y9 y10 y11 y12 y13 y14, LeO (congressref21_May.j2 k y0 y1 y2 y3 y4 y5 y6 y7 y8 y9 y10 y11 y12 y13 y14) (congressref21_May.j2 (k + 1) y0 y1 y2 y3 y4 y5 y6 y7 y8 y9 y10 y11 y12 y13 y14)) ∧ (∀ y0 y1 y2 y3 y4 y5 y6 y7 y8 y9 y10 y11 y12 y13 y14, LeO (congressref21_May.j3 k y0 y1 y2 y3 y4 y5 y6 y7 y8 y9 y10 y11 y12 y13 y14) (congressref21_May.j3 (k + 1) y0 y1 y2 y3 y4 y5 y6 y7 y8 y9 y10 y11 y12 y13 y14)) ∧ (∀ y0 y1 y2 y3 y4 y5 y6 y7 y8 y9 y10 y11 y12 y13 y14, LeO (congressref21_May.j4 k y0 y1 y2 y3 y4 y5 y6 y7 y8 y9 y10 y11 y12 y13 y14) (congressref21_May.j4 (k + 1) y0 y1 y2 y3 y4 y5 y6 y7 y8 y9 y10 y11 y12 y13 y14)) ∧ (∀ y0 y1 y2 y3 y4 y5 y6 y7 y8 y9 y10 y11 y12 y13 y14 y15, LeO (congressref21_May.j5 k y0 y1 y2 y3 y4 y5 y6 y7 y8 y9 y10 y11 y12 y13 y14 y15) (congressref21_May.j5 (k + 1) y0 y1 y2 y3 y4 y5 y6 y7 y8 y9 y10 y11 y12 y13 y14 y15))
  | 0 => ⟨fun _ _ _ _ _ _ _ _ _ _ _ _ _ _ _ r h => by simp [congressref21_May.j0] at h, fun _ _ _ _ _ _ _ _ _ _ _ _ _ _ r h => by simp [congressref21_May.j1] at h, fun _ _ _ _ _ _ _ _ _ _ _ _ _ _ _ r h => by simp [congressref21_May.j2] at h, fun _ _ _ _ _ _ _ _ _ _ _ _ _ _ _ r h => by simp [congressref21_May.j3] at h, fun _ _ _ _ _ _ _ _ _ _ _ _ _ _ _ r h => by simp [congressref21_May.j4] at h, fun _ _ _ _ _ _ _ _ _ _ _ _ _ _ _ _ r h => by simp [congressref21_May.j5] at h⟩
  | k + 1 => by
    obtain ⟨ih0, ih1, ih2, ih3, ih4, ih5⟩ := congressref21_May.mono_l k
    refine ⟨?_, ?_, ?_, ?_, ?_, ?_⟩
    · intro y0 y1 y2 y3 y4 y5 y6 y7 y8 y9 y10 y11 y12 y13 y14
      unfold congressref21_May.j0
      repeat' first
      | (with_reducible exact ih0 _ _ _ _ _ _ _ _ _ _ _ _ _ _ _)
      | (with_reducible exact ih1 _ _ _ _ _ _ _ _ _ _ _ _ _ _)
      | (with_reducible exact ih2 _ _ _ _ _ _ _ _ _ _ _ _ _ _ _)
      | (with_reducible exact ih3 _ _ _ _ _ _ _ _ _ _ _ _ _ _ _)
      | (with_reducible exact ih4 _ _ _ _ _ _ _ _ _ _ _ _ _ _ _)
      | (with_reducible exact ih5 _ _ _ _ _ _ _ _ _ _ _ _ _ _ _ _)
      | (with_reducible exact LeO.refl _)
      | (with_reducible exact LeO.none _)
      | (with_reducible refine LeO.ite ?_ ?_)
      | (with_reducible refine LeO.bind ?_ (fun _ => ?_))
      | exact ih0 _ _ _ _ _ _ _ _ _ _ _ _ _ _ _
      | exact ih1 _ _ _ _ _ _ _ _ _ _ _ _ _ _
      | exact ih2 _ _ _ _ _ _ _ _ _ _ _ _ _ _ _
      | exact ih3 _ _ _ _ _ _ _ _ _ _ _ _ _ _ _
      | exact ih4 _ _ _ _ _ _ _ _ _ _ _ _ _ _ _
      | exact ih5 _ _ _ _ _ _ _ _ _ _ _ _ _ _ _ _
      | exact LeO.none _
      | refine LeO.ite ?_ ?_
      | refine LeO.bind ?_ (fun _ => ?_)
    · intro y0 y1 y2 y3 y4 y5 y6 y7 y8 y9 y10 y11 y12 y13
      unfold congressref21_May.j1
      repeat' first
      | (with_reducible exact ih0 _ _ _ _ _ _ _ _ _ _ _ _ _ _ _)
      | (with_reducible exact ih1 _ _ _ _ _ _ _ _ _ _ _ _ _ _)
      | (with_reducible exact ih2 _ _ _ _ _ _ _ _ _ _ _ _ _ _ _)
      | (with_reducible exact ih3 _ _ _ _ _ _ _ _ _ _ _ _ _ _ _)
      | (with_reducible exact ih4 _ _ _ _ _ _ _ _ _ _ _ _ _ _ _)
      | (with_reducible exact ih5 _ _ _ _ _ _ _ _ _ _ _ _ _ _ _ _)
      | (with_reducible exact LeO.refl _)
      | (with_reducible exact LeO.none _)
      | (with_reducible refine LeO.ite ?_ ?_)
      | (with_reducible refine LeO.bind ?_ (fun _ => ?_))
      | exact ih0 _ _ _ _ _ _ _ _ _ _ _ _ _ _ _
      | exact ih1 _ _ _ _ _ _ _ _ _ _ _ _ _ _
      | exact ih2 _ _ _ _ _ _ _ _ _ _ _ _ _ _ _
      | exact ih3 _ _ _ _ _ _ _ _ _ _ _ _ _ _ _
      | exact ih4 _ _ _ _ _ _ _ _ _ _ _ _ _ _ _
      | exact ih5 _ _ _ _ _ _ _ _ _ _ _ _ _ _ _ _
      | exact LeO.none _
      | refine LeO.ite ?_ ?_
      | refine LeO.bind ?_ (fun _ => ?_)
    · intro y0 y1 y2 y3 y4 y5 y6 y7 y8 y9 y10 y11 y12 y13 y14
      unfold congressref21_May.j2
      repeat' first
      | (with_reducible exact ih0 _ _ _ _ _ _ _ _ _ _ _ _ _ _ _)
      | (with_reducible exact ih1 _ _ _ _ _ _ _ _ _ _ _ _ _ _)
      | (with_reducible exact ih2 _ _ _ _ _ _ _ _ _ _ _ _ _ _ _)
      | (with_reducible exact ih3 _ _ _ _ _ _ _ _ _ _ _ _ _ _ _)
      | (with_reducible exact ih4 _ _ _ _ _ _ _ _ _ _ _ _ _ _ _)
      | (with_reducible exact ih5 _ _ _ _ _ _ _ _ _ _ _ _ _ _ _ _)
      | (with_reducible exact LeO.refl _)
      | (with_reducible exact LeO.none _)
      | (with_reducible refine LeO.ite ?_ ?_)
      | (with_reducible refine LeO.bind ?_ (fun _ => ?_))
      | exact ih0 _ _ _ _ _ _ _ _ _ _ _ _ _ _ _
      | exact ih1 _ _ _ _ _ _ _ _ _ _ _ _ _ _
      | exact ih2 _ _ _ _ _ _ _ _ _ _ _ _ _ _ _
      | exact ih3 _ _ _ _ _ _ _ _ _ _ _ _ _ _ _
      | exact ih4 _ _ _ _ _ _ _ _ _ _ _ _ _ _ _
      | exact ih5 _ _ _ _ _ _ _ _ _ _ _ _ _ _ _ _
      | exact LeO.none _
      | refine LeO.ite ?_ ?_
      | refine LeO.bind ?_ (fun _ => ?_)
    · intro y0 y1 y2 y3 y4 y5 y6 y7 y8 y9 y10 y11 y12 y13 y14
      unfold congressref21_May.j3
      repeat' first
      | (with_reducible exact ih0 _ _ _ _ _ _ _ _ _ _ _ _ _ _ _)
      | (with_reducible exact ih1 _ _ _ _ _ _ _ _ _ _ _ _ _ _)
      | (with_reducible exact ih2 _ _ _ _ _ _ _ _ _ _ _ _ _ _ _)
      | (with_reducible exact ih3 _ _ _ _ _ _ _ _ _ _ _ _ _ _ _)
      | (with_reducible exact ih4 _ _ _ _ _ _ _ _ _ _ _ _ _ _ _)
      | (with_reducible exact ih5 _ _ _ _ _ _ _ _ _ _ _ _ _ _ _ _)
      | (with_reducible exact LeO.refl _)
      | (with_reducible exact LeO.none _)
      | (with_reducible refine LeO.ite ?_ ?_)
      | (with_reducible refine LeO.bind ?_ (fun _ => ?_))
      | exact ih0 _ _ _ _ _ _ _ _ _ _ _ _ _ _ _
      | exact ih1 _ _ _ _ _ _ _ _ _ _ _ _ _ _
      | exact ih2 _ _ _ _ _ _ _ _ _ _ _ _ _ _ _
      | exact ih3 _ _ _ _ _ _ _ _ _ _ _ _ _ _ _
      | exact ih4 _ _ _ _ _ _ _ _ _ _ _ _ _ _ _
      | exact ih5 _ _ _ _ _ _ _ _ _ _ _ _ _ _ _ _
      | exact LeO.none _
      | refine LeO.ite ?_ ?_
      | refine LeO.bind ?_ (fun _ => ?_)
    · intro y0 y1 y2 y3 y4 y5 y6 y7 y8 y9 y10 y11 y12 y13 y14
      unfold congressref21_May.j4
      repeat' first
      | (with_reducible exact ih0 _ _ _ _ _ _ _ _ _ _ _ _ _ _ _)
      | (with_reducible exact ih1 _ _ _ _ _ _ _ _ _ _ _ _ _ _)
      | (with_reducible exact ih2 _ _ _ _ _ _ _ _ _ _ _ _ _ _ _)
      | (with_reducible exact ih3 _ _ _ _ _ _ _ _ _ _ _ _ _ _ _)
      | (with_reducible exact ih4 _ _ _ _ _ _ _ _ _ _ _ _ _ _ _)
      | (with_reducible exact ih5 _ _ _ _ _ _ _ _ _ _ _ _ _ _ _ _)
      | (with_reducible exact LeO.refl _)
      | (with_reducible exact LeO.none _)
      | (with_reducible refine LeO.ite ?_ ?_)
      | (with_reducible refine LeO.bind ?_ (fun _ => ?_))
      | exact ih0 _ _ _ _ _ _ _ _ _ _ _ _ _ _ _
      | exact ih1 _ _ _ _ _ _ _ _ _ _ _ _ _ _
      | exact ih2 _ _ _ _ _ _ _ _ _ _ _ _ _ _ _
      | exact ih3 _ _ _ _ _ _ _ _ _ _ _ _ _ _ _
      | exact ih4 _ _ _ _ _ _ _ _ _ _ _ _ _ _ _
      | exact ih5 _ _ _ _ _ _ _ _ _ _ _ _ _ _ _ _
      | exact LeO.none _
      | refine LeO.ite ?_ ?_
      | refine LeO.bind ?_ (fun _ => ?_)
    · intro y0 y1 y2 y3 y4 y5 y6 y7 y8 y9 y10 y11 y12 y13 y14 y15
      unfold congressref21_May.j5
      repeat' first
      | (with_reducible exact ih0 _ _ _ _ _ _ _ _ _ _ _ _ _ _ _)
      | (with_reducible exact ih1 _ _ _ _ _ _ _ _ _ _ _ _ _ _)
      | (with_reducible exact ih2 _ _ _ _ _ _ _ _ _ _ _ _ _ _ _)
      | (with_reducible exact ih3 _ _ _ _ _ _ _ _ _ _ _ _ _ _ _)
      | (with_reducible exact ih4 _ _ _ _ _ _ _ _ _ _ _ _ _ _ _)
      | (with_reducible exact ih5 _ _ _ _ _ _ _ _ _ _ _ _ _ _ _ _)
      | (with_reducible exact LeO.refl _)
      | (with_reducible exact LeO.none _)
      | (with_reducible refine LeO.ite ?_ ?_)
      | (with_reducible refine LeO.bind ?_ (fun _ => ?_))
      | exact ih0 _ _ _ _ _ _ _ _ _ _ _ _ _ _ _
      | exact ih1 _ _ _ _ _ _ _ _ _ _ _ _ _ _
      | exact ih2 _ _ _ _ _ _ _ _ _ _ _ _ _ _ _
      | exact ih3 _ _ _ _ _ _ _ _ _ _ _ _ _ _ _
      | exact ih4 _ _ _ _ _ _ _ _ _ _ _ _ _ _ _
      | exact ih5 _ _ _ _ _ _ _ _ _ _ _ _ _ _ _ _
      | exact LeO.none _
      | refine LeO.ite ?_ ?_
      | refine LeO.bind ?_ (fun _ => ?_)
theorem congressref21_May.mono : ∀ a0 a1 a2 a3 a4 a5 a6 k, LeO (congressref21_May.f k a0 a1 a2 a3 a4 a5 a6) (congressref21_May.f (k + 1) a0 a1 a2 a3 a4 a5 a6) := by
  intro a0 a1 a2 a3 a4 a5 a6 k
  obtain ⟨ih0, ih1, ih2, ih3, ih4, ih5⟩ := congressref21_May.mono_l k
  unfold congressref21_May.f
  repeat' first
      | (with_reducible exact ih0 _ _ _ _ _ _ _ _ _ _ _ _ _ _ _)
      | (with_reducible exact ih1 _ _ _ _ _ _ _ _ _ _ _ _ _ _)
      | (with_reducible exact ih2 _ _ _ _ _ _ _ _ _ _ _ _ _ _ _)
      | (with_reducible exact ih3 _ _ _ _ _ _ _ _ _ _ _ _ _ _ _)
      | (with_reducible exact ih4 _ _ _ _ _ _ _ _ _ _ _ _ _ _ _)
      | (with_reducible exact ih5 _ _ _ _ _ _ _ _ _ _ _ _ _ _ _ _)
      | (with_reducible exact LeO.refl _)
      | (with_reducible exact LeO.none _)
      | (with_reducible refine LeO.ite ?_ ?_)
      | (with_reducible refine LeO.bind ?_ (fun _ => ?_))
      | exact ih0 _ _ _ _ _ _ _ _ _ _ _ _ _ _ _
      | exact ih1 _ _ _ _ _ _ _ _ _ _ _ _ _ _
      | exact ih2 _ _ _ _ _ _ _ _ _ _ _ _ _ _ _
      | exact ih3 _ _ _ _ _ _ _ _ _ _ _ _ _ _ _
      | exact ih4 _ _ _ _ _ _ _ _ _ _ _ _ _ _ _
      | exact ih5 _ _ _ _ _ _ _ _ _ _ _ _ _ _ _ _
      | exact LeO.none _
      | refine LeO.ite ?_ ?_
      | refine LeO.bind ?_ (fun _ => ?_)
set_option maxHeartbeats 8000000 in
set_option maxRecDepth 100000 in
theorem congressref21_May.calls (k : Nat) (a0_0 : Int) (a0_1 : Int) (a0_2 : Int) (a0_3 : Int) (a0_4 : Int) (a0_5 : Int) (a0_6 : ByteArray) (r : Bool) (w : World) (h : congressref21_May.f k a0_0 a0_1 a0_2 a0_3 a0_4 a0_5 a0_6 = some r) :
    Calls Tryd.prog 12 #[.agg #[.int .i64 a0_0, .int .u64 a0_1, .int .u64 a0_2, .int .i64 a0_3, .int .i64 a0_4, .int .i64 a0_5, .string a0_6]] w fun e w' => e = .returned (.bool r) ∧ Below w.heap.size w w' := by
  have hu24 := Tryd.underlying24
  have HB := Aside0.mk (Below.refl w.heap.size w)
  have H : (if a0_0 ≥ 1 then (congressref21_May.j0 k (decide (a0_0 ≤ 6)) a0_0 a0_1 a0_2 a0_3 a0_4 a0_5 a0_6 a0_0 0 0 0 0 0 (⟨#[]⟩ : ByteArray)) else (congressref21_May.j0 k false a0_0 a0_1 a0_2 a0_3 a0_4 a0_5 a0_6 a0_0 0 0 0 0 0 (⟨#[]⟩ : ByteArray))) = some r := h
  clear h
  have HC2 := Aside0.mk H
  clear H
  go_enter Tryd.func12, Tryd.ntmps12
  go_upto_region 2 with (first | ((with_reducible refine gate_dst (N := 1) rfl ?_); (try (refine gate_guard (by rfl) ?_; dsimp only)); refine box_event ?hg (N := 1) ?hd (cs := #[.int .i64 a0_0, .int .u64 a0_1, .int .u64 a0_2, .int .i64 a0_3, .int .i64 a0_4, .int .i64 a0_5, .string a0_6]) (t := 24) ?hr ?_; (case hd => rfl); (case hg => rfl); (case hr => first | (go_simp; done) | (go_simp; rfl)); intro gb168 hg w3 hbox hb; have n0_ := Aside0.mk (below_step (by repeat (first | (with_reducible first | exact HB.out | apply below_alloc | apply pw_below_drewN | apply below_drew1) | exact HB.out)) hb); have n1_ := Aside0.mk (hbox); have n2_ := Aside0.mk ((by rw [hg]; exact (below_size (by repeat (first | (with_reducible first | exact HB.out | apply below_alloc | apply pw_below_drewN | apply below_drew1) | exact HB.out))) : w.heap.size ≤ gb168)); have n3_ := Aside0.mk ((by rw [hg]; exact (below_size (by repeat (first | (with_reducible first | exact HB.out | apply below_alloc | apply pw_below_drewN | apply below_drew1) | exact HB.out))) : w.heap.size ≤ gb168)); clear HB; have HB := n0_; have BK168 := n1_; have GW168 := n2_; have GE168 := n3_; clear n0_ n1_ n2_ n3_; clear hb hbox hg; have hcz4_0 : w3.cell? ⟨gb168, 0, none⟩ = some (.int .i64 a0_0) := (blk_cell BK168.out 0).trans rfl; have hcz4_1 : w3.cell? ⟨gb168, 1, none⟩ = some (.int .u64 a0_1) := (blk_cell BK168.out 1).trans rfl; have hcz4_2 : w3.cell? ⟨gb168, 2, none⟩ = some (.int .u64 a0_2) := (blk_cell BK168.out 2).trans rfl; have hcz4_3 : w3.cell? ⟨gb168, 3, none⟩ = some (.int .i64 a0_3) := (blk_cell BK168.out 3).trans rfl; have hcz4_4 : w3.cell? ⟨gb168, 4, none⟩ = some (.int .i64 a0_4) := (blk_cell BK168.out 4).trans rfl; have hcz4_5 : w3.cell? ⟨gb168, 5, none⟩ = some (.int .i64 a0_5) := (blk_cell BK168.out 5).trans rfl; have hcz4_6 : w3.cell? ⟨gb168, 6, none⟩ = some (.string a0_6) := (blk_cell BK168.out 6).trans rfl; have hfz4_0 := blk_frozen BK168.out 0; have hfz4_1 := blk_frozen BK168.out 1; have hfz4_2 := blk_frozen BK168.out 2; have hfz4_3 := blk_frozen BK168.out 3; have hfz4_4 := blk_frozen BK168.out 4; have hfz4_5 := blk_frozen BK168.out 5; have hfz4_6 := blk_frozen BK168.out 6) | ((with_reducible refine gate_dst (N := 3) rfl ?_); (try (refine gate_guard (by rfl) ?_; dsimp only)); refine box_event ?hg (N := 3) ?hd (cs := #[.int .i64 0, .int .u64 0, .int .u64 0, .int .i64 0, .int .i64 0, .int .i64 0, .string (⟨#[]⟩ : ByteArray)]) (t := 24) ?hr ?_; (case hd => rfl); (case hg => rfl); (case hr => first | (go_simp; done) | (go_simp; rfl)); intro gb169 hg w5 hbox hb; have n0_ := Aside0.mk (blk_below (g := gb168) (o := .cells #[.int .i64 a0_0, .int .u64 a0_1, .int .u64 a0_2, .int .i64 a0_3, .int .i64 a0_4, .int .i64 a0_5, .string a0_6] 24 (0, 0)) (by (with_reducible repeat (first | refine blk_drewN ?_ _ | refine blk_drew ?_ | refine blk_alloc ?_ _)); exact BK168.out) hb); have n1_ := Aside0.mk (below_step (by repeat (first | (with_reducible first | exact HB.out | apply below_alloc | apply pw_below_drewN | apply below_drew1 | refine below_set ?_ GE168.out) | exact HB.out)) hb); have n2_ := Aside0.mk (hbox); have n3_ := Aside0.mk ((by rw [hg]; exact (below_size (by repeat (first | (with_reducible first | exact HB.out | apply below_alloc | apply pw_below_drewN | apply below_drew1 | refine below_set ?_ GE168.out) | exact HB.out))) : w.heap.size ≤ gb169)); have n4_ := Aside0.mk ((by rw [hg]; exact (below_size (by repeat (first | (with_reducible first | exact HB.out | apply below_alloc | apply pw_below_drewN | apply below_drew1 | refine below_set ?_ GE168.out) | exact HB.out))) : w.heap.size ≤ gb169)); have n5_ := Aside0.mk ((by rw [hg]; exact Nat.ne_of_lt (blk_lt (g := gb168) (o := .cells #[.int .i64 a0_0, .int .u64 a0_1, .int .u64 a0_2, .int .i64 a0_3, .int .i64 a0_4, .int .i64 a0_5, .string a0_6] 24 (0, 0)) (by (with_reducible repeat (first | refine blk_drewN ?_ _ | refine blk_drew ?_ | refine blk_alloc ?_ _)); exact BK168.out)) : gb168 ≠ gb169)); have n6_ := Aside0.mk ((by rw [hg]; exact Nat.ne_of_gt (blk_lt (g := gb168) (o := .cells #[.int .i64 a0_0, .int .u64 a0_1, .int .u64 a0_2, .int .i64 a0_3, .int .i64 a0_4, .int .i64 a0_5, .string a0_6] 24 (0, 0)) (by (with_reducible repeat (first | refine blk_drewN ?_ _ | refine blk_drew ?_ | refine blk_alloc ?_ _)); exact BK168.out)) : gb169 ≠ gb168)); clear BK168; clear HB; have BK168 := n0_; have HB := n1_; have BK169 := n2_; have GW169 := n3_; have GE169 := n4_; have NB168_169 := n5_; have NB169_168 := n6_; clear n0_ n1_ n2_ n3_ n4_ n5_ n6_; clear hb hbox hg; have hnb6 := NB169_168.out; have hnc6 := NB168_169.out; have hcz7_0 : w5.cell? ⟨gb169, 0, none⟩ = some (.int .i64 0) := (blk_cell BK169.out 0).trans rfl; have hcz7_1 : w5.cell? ⟨gb169, 1, none⟩ = some (.int .u64 0) := (blk_cell BK169.out 1).trans rfl; have hcz7_2 : w5.cell? ⟨gb169, 2, none⟩ = some (.int .u64 0) := (blk_cell BK169.out 2).trans rfl; have hcz7_3 : w5.cell? ⟨gb169, 3, none⟩ = some (.int .i64 0) := (blk_cell BK169.out 3).trans rfl; have hcz7_4 : w5.cell? ⟨gb169, 4, none⟩ = some (.int .i64 0) := (blk_cell BK169.out 4).trans rfl; have hcz7_5 : w5.cell? ⟨gb169, 5, none⟩ = some (.int .i64 0) := (blk_cell BK169.out 5).trans rfl; have hcz7_6 : w5.cell? ⟨gb169, 6, none⟩ = some (.string (⟨#[]⟩ : ByteArray)) := (blk_cell BK169.out 6).trans rfl; have hfz7_0 := blk_frozen BK169.out 0; have hfz7_1 := blk_frozen BK169.out 1; have hfz7_2 := blk_frozen BK169.out 2; have hfz7_3 := blk_frozen BK169.out 3; have hfz7_4 := blk_frozen BK169.out 4; have hfz7_5 := blk_frozen BK169.out 5; have hfz7_6 := blk_frozen BK169.out 6))
  (try simp only [Act.put, List.setIfInBounds_toArray, List.set_cons_zero, List.set_cons_succ])
  go_cut [15] (fun v15 wc => ∃ (kq : Nat) (x15_1 : Bool), v15 = .bool x15_1 ∧ Aside0 (congressref21_May.j0 kq x15_1 a0_0 a0_1 a0_2 a0_3 a0_4 a0_5 a0_6 a0_0 0 0 0 0 0 (⟨#[]⟩ : ByteArray) = some r) ∧ Aside0 (kq ≤ k) ∧ Aside0 (wc.heap[gb168]? = some (.cells #[.int .i64 a0_0, .int .u64 a0_1, .int .u64 a0_2, .int .i64 a0_3, .int .i64 a0_4, .int .i64 a0_5, .string a0_6] 24 (0, 0))) ∧ Aside0 (wc.heap[gb169]? = some (.cells #[.int .i64 a0_0, .int .u64 0, .int .u64 0, .int .i64 0, .int .i64 0, .int .i64 0, .string (⟨#[]⟩ : ByteArray)] 24 (0, 0))) ∧ Aside0 (Below w.heap.size w wc))
  case first =>
    have H := HC2.out
    clear HC2
    by_cases c8 : a0_0 ≥ 1
    · rw [if_pos c8] at H
      have c8b0 : decide (1 ≤ a0_0) = true := decide_eq_true c8
      clear c8
      (first | rw [c8b0] | (simp only [i64_w, i32_w]; rw [c8b0]) | skip)
      have H' := Aside0.mk H
      clear H
      have hnb9 := NB168_169.out
      have hnc9 := NB169_168.out
      have hcz10_0 : w5.cell? ⟨gb168, 0, none⟩ = some (.int .i64 a0_0) := (blk_cell BK168.out 0).trans rfl
      have hcz10_1 : w5.cell? ⟨gb168, 1, none⟩ = some (.int .u64 a0_1) := (blk_cell BK168.out 1).trans rfl
      have hcz10_2 : w5.cell? ⟨gb168, 2, none⟩ = some (.int .u64 a0_2) := (blk_cell BK168.out 2).trans rfl
      have hcz10_3 : w5.cell? ⟨gb168, 3, none⟩ = some (.int .i64 a0_3) := (blk_cell BK168.out 3).trans rfl
      have hcz10_4 : w5.cell? ⟨gb168, 4, none⟩ = some (.int .i64 a0_4) := (blk_cell BK168.out 4).trans rfl
      have hcz10_5 : w5.cell? ⟨gb168, 5, none⟩ = some (.int .i64 a0_5) := (blk_cell BK168.out 5).trans rfl
      have hcz10_6 : w5.cell? ⟨gb168, 6, none⟩ = some (.string a0_6) := (blk_cell BK168.out 6).trans rfl
      have hfz10_0 := blk_frozen BK168.out 0
      have hfz10_1 := blk_frozen BK168.out 1
      have hfz10_2 := blk_frozen BK168.out 2
      have hfz10_3 := blk_frozen BK168.out 3
      have hfz10_4 := blk_frozen BK168.out 4
      have hfz10_5 := blk_frozen BK168.out 5
      have hfz10_6 := blk_frozen BK168.out 6
      go_wp2
      go_meet
      case rel => exact ⟨_, (decide (a0_0 ≤ 6)), (by first | rfl | (simp; done) | (simp [*]; done)), H', ⟨by first | omega | exact Nat.le_refl _⟩, ⟨by (with_reducible repeat (first | refine blk_drewN ?_ _ | refine blk_drew ?_ | refine blk_alloc ?_ _)); refine blk_far ?_ NB168_169.out _; (with_reducible repeat (first | refine blk_drewN ?_ _ | refine blk_drew ?_ | refine blk_alloc ?_ _)); refine blk_far ?_ NB168_169.out _; (with_reducible repeat (first | refine blk_drewN ?_ _ | refine blk_drew ?_ | refine blk_alloc ?_ _)); refine blk_far ?_ NB168_169.out _; (with_reducible repeat (first | refine blk_drewN ?_ _ | refine blk_drew ?_ | refine blk_alloc ?_ _)); refine blk_far ?_ NB168_169.out _; (with_reducible repeat (first | refine blk_drewN ?_ _ | refine blk_drew ?_ | refine blk_alloc ?_ _)); refine blk_far ?_ NB168_169.out _; (with_reducible repeat (first | refine blk_drewN ?_ _ | refine blk_drew ?_ | refine blk_alloc ?_ _)); refine blk_far ?_ NB168_169.out _; (with_reducible repeat (first | refine blk_drewN ?_ _ | refine blk_drew ?_ | refine blk_alloc ?_ _)); refine blk_far ?_ NB168_169.out _; (with_reducible repeat (first | refine blk_drewN ?_ _ | refine blk_drew ?_ | refine blk_alloc ?_ _)); exact BK168.out⟩, ⟨by (with_reducible repeat (first | refine blk_drewN ?_ _ | refine blk_drew ?_ | refine blk_alloc ?_ _)); refine blk_put (cs := #[.int .i64 a0_0, .int .u64 0, .int .u64 0, .int .i64 0, .int .i64 0, .int .i64 0, .string (⟨#[]⟩ : ByteArray)]) ?_ 6 _ rfl; (with_reducible repeat (first | refine blk_drewN ?_ _ | refine blk_drew ?_ | refine blk_alloc ?_ _)); refine blk_put (cs := #[.int .i64 a0_0, .int .u64 0, .int .u64 0, .int .i64 0, .int .i64 0, .int .i64 0, .string (⟨#[]⟩ : ByteArray)]) ?_ 5 _ rfl; (with_reducible repeat (first | refine blk_drewN ?_ _ | refine blk_drew ?_ | refine blk_alloc ?_ _)); refine blk_put (cs := #[.int .i64 a0_0, .int .u64 0, .int .u64 0, .int .i64 0, .int .i64 0, .int .i64 0, .string (⟨#[]⟩ : ByteArray)]) ?_ 4 _ rfl; (with_reducible repeat (first | refine blk_drewN ?_ _ | refine blk_drew ?_ | refine blk_alloc ?_ _)); refine blk_put (cs := #[.int .i64 a0_0, .int .u64 0, .int .u64 0, .int .i64 0, .int .i64 0, .int .i64 0, .string (⟨#[]⟩ : ByteArray)]) ?_ 3 _ rfl; (with_reducible repeat (first | refine blk_drewN ?_ _ | refine blk_drew ?_ | refine blk_alloc ?_ _)); refine blk_put (cs := #[.int .i64 a0_0, .int .u64 0, .int .u64 0, .int .i64 0, .int .i64 0, .int .i64 0, .string (⟨#[]⟩ : ByteArray)]) ?_ 2 _ rfl; (with_reducible repeat (first | refine blk_drewN ?_ _ | refine blk_drew ?_ | refine blk_alloc ?_ _)); refine blk_put (cs := #[.int .i64 a0_0, .int .u64 0, .int .u64 0, .int .i64 0, .int .i64 0, .int .i64 0, .string (⟨#[]⟩ : ByteArray)]) ?_ 1 _ rfl; (with_reducible repeat (first | refine blk_drewN ?_ _ | refine blk_drew ?_ | refine blk_alloc ?_ _)); refine blk_put (cs := #[.int .i64 0, .int .u64 0, .int .u64 0, .int .i64 0, .int .i64 0, .int .i64 0, .string (⟨#[]⟩ : ByteArray)]) ?_ 0 _ rfl; (with_reducible repeat (first | refine blk_drewN ?_ _ | refine blk_drew ?_ | refine blk_alloc ?_ _)); exact BK169.out⟩, ⟨by repeat (first | (with_reducible first | exact HB.out | apply below_alloc | apply pw_below_drewN | apply below_drew1 | refine below_set ?_ GE168.out | refine below_set ?_ GE169.out) | exact HB.out)⟩⟩
    · rw [if_neg c8] at H
      have c8b0 : decide (1 ≤ a0_0) = false := decide_eq_false c8
      clear c8
      (first | rw [c8b0] | (simp only [i64_w, i32_w]; rw [c8b0]) | skip)
      have H' := Aside0.mk H
      clear H
      have hnb11 := NB168_169.out
      have hnc11 := NB169_168.out
      have hcz12_0 : w5.cell? ⟨gb168, 0, none⟩ = some (.int .i64 a0_0) := (blk_cell BK168.out 0).trans rfl
      have hcz12_1 : w5.cell? ⟨gb168, 1, none⟩ = some (.int .u64 a0_1) := (blk_cell BK168.out 1).trans rfl
      have hcz12_2 : w5.cell? ⟨gb168, 2, none⟩ = some (.int .u64 a0_2) := (blk_cell BK168.out 2).trans rfl
      have hcz12_3 : w5.cell? ⟨gb168, 3, none⟩ = some (.int .i64 a0_3) := (blk_cell BK168.out 3).trans rfl
      have hcz12_4 : w5.cell? ⟨gb168, 4, none⟩ = some (.int .i64 a0_4) := (blk_cell BK168.out 4).trans rfl
      have hcz12_5 : w5.cell? ⟨gb168, 5, none⟩ = some (.int .i64 a0_5) := (blk_cell BK168.out 5).trans rfl
      have hcz12_6 : w5.cell? ⟨gb168, 6, none⟩ = some (.string a0_6) := (blk_cell BK168.out 6).trans rfl
      have hfz12_0 := blk_frozen BK168.out 0
      have hfz12_1 := blk_frozen BK168.out 1
      have hfz12_2 := blk_frozen BK168.out 2
      have hfz12_3 := blk_frozen BK168.out 3
      have hfz12_4 := blk_frozen BK168.out 4
      have hfz12_5 := blk_frozen BK168.out 5
      have hfz12_6 := blk_frozen BK168.out 6
      go_wp2
      go_meet
      case rel => exact ⟨_, (false), (by first | rfl | (simp; done) | (simp [*]; done)), H', ⟨by first | omega | exact Nat.le_refl _⟩, ⟨by (with_reducible repeat (first | refine blk_drewN ?_ _ | refine blk_drew ?_ | refine blk_alloc ?_ _)); refine blk_far ?_ NB168_169.out _; (with_reducible repeat (first | refine blk_drewN ?_ _ | refine blk_drew ?_ | refine blk_alloc ?_ _)); refine blk_far ?_ NB168_169.out _; (with_reducible repeat (first | refine blk_drewN ?_ _ | refine blk_drew ?_ | refine blk_alloc ?_ _)); refine blk_far ?_ NB168_169.out _; (with_reducible repeat (first | refine blk_drewN ?_ _ | refine blk_drew ?_ | refine blk_alloc ?_ _)); refine blk_far ?_ NB168_169.out _; (with_reducible repeat (first | refine blk_drewN ?_ _ | refine blk_drew ?_ | refine blk_alloc ?_ _)); refine blk_far ?_ NB168_169.out _; (with_reducible repeat (first | refine blk_drewN ?_ _ | refine blk_drew ?_ | refine blk_alloc ?_ _)); refine blk_far ?_ NB168_169.out _; (with_reducible repeat (first | refine blk_drewN ?_ _ | refine blk_drew ?_ | refine blk_alloc ?_ _)); refine blk_far ?_ NB168_169.out _; (with_reducible repeat (first | refine blk_drewN ?_ _ | refine blk_drew ?_ | refine blk_alloc ?_ _)); exact BK168.out⟩, ⟨by (with_reducible repeat (first | refine blk_drewN ?_ _ | refine blk_drew ?_ | refine blk_alloc ?_ _)); refine blk_put (cs := #[.int .i64 a0_0, .int .u64 0, .int .u64 0, .int .i64 0, .int .i64 0, .int .i64 0, .string (⟨#[]⟩ : ByteArray)]) ?_ 6 _ rfl; (with_reducible repeat (first | refine blk_drewN ?_ _ | refine blk_drew ?_ | refine blk_alloc ?_ _)); refine blk_put (cs := #[.int .i64 a0_0, .int .u64 0, .int .u64 0, .int .i64 0, .int .i64 0, .int .i64 0, .string (⟨#[]⟩ : ByteArray)]) ?_ 5 _ rfl; (with_reducible repeat (first | refine blk_drewN ?_ _ | refine blk_drew ?_ | refine blk_alloc ?_ _)); refine blk_put (cs := #[.int .i64 a0_0, .int .u64 0, .int .u64 0, .int .i64 0, .int .i64 0, .int .i64 0, .string (⟨#[]⟩ : ByteArray)]) ?_ 4 _ rfl; (with_reducible repeat (first | refine blk_drewN ?_ _ | refine blk_drew ?_ | refine blk_alloc ?_ _)); refine blk_put (cs := #[.int .i64 a0_0, .int .u64 0, .int .u64 0, .int .i64 0, .int .i64 0, .int .i64 0, .string (⟨#[]⟩ : ByteArray)]) ?_ 3 _ rfl; (with_reducible repeat (first | refine blk_drewN ?_ _ | refine blk_drew ?_ | refine blk_alloc ?_ _)); refine blk_put (cs := #[.int .i64 a0_0, .int .u64 0, .int .u64 0, .int .i64 0, .int .i64 0, .int .i64 0, .string (⟨#[]⟩ : ByteArray)]) ?_ 2 _ rfl; (with_reducible repeat (first | refine blk_drewN ?_ _ | refine blk_drew ?_ | refine blk_alloc ?_ _)); refine blk_put (cs := #[.int .i64 a0_0, .int .u64 0, .int .u64 0, .int .i64 0, .int .i64 0, .int .i64 0, .string (⟨#[]⟩ : ByteArray)]) ?_ 1 _ rfl; (with_reducible repeat (first | refine blk_drewN ?_ _ | refine blk_drew ?_ | refine blk_alloc ?_ _)); refine blk_put (cs := #[.int .i64 0, .int .u64 0, .int .u64 0, .int .i64 0, .int .i64 0, .int .i64 0, .string (⟨#[]⟩ : ByteArray)]) ?_ 0 _ rfl; (with_reducible repeat (first | refine blk_drewN ?_ _ | refine blk_drew ?_ | refine blk_alloc ?_ _)); exact BK169.out⟩, ⟨by repeat (first | (with_reducible first | exact HB.out | apply below_alloc | apply pw_below_drewN | apply below_drew1 | refine below_set ?_ GE168.out | refine below_set ?_ GE169.out) | exact HB.out)⟩⟩
  case rest =>
    clear HC2
    try clear c1
    try clear p2
    try clear c6
    try clear c8
    try clear c8b0
    try clear c9
    try clear c11
    try clear c12
    try clear hcz10_0
    try clear hcz10_1
    try clear hcz10_2
    try clear hcz10_3
    try clear hcz10_4
    try clear hcz10_5
    try clear hcz10_6
    try clear hcz12_0
    try clear hcz12_1
    try clear hcz12_2
    try clear hcz12_3
    try clear hcz12_4
    try clear hcz12_5
    try clear hcz12_6
    try clear hcz4_0
    try clear hcz4_1
    try clear hcz4_2
    try clear hcz4_3
    try clear hcz4_4
    try clear hcz4_5
    try clear hcz4_6
    try clear hcz7_0
    try clear hcz7_1
    try clear hcz7_2
    try clear hcz7_3
    try clear hcz7_4
    try clear hcz7_5
    try clear hcz7_6
    try clear hfz10_0
    try clear hfz10_1
    try clear hfz10_2
    try clear hfz10_3
    try clear hfz10_4
    try clear hfz10_5
    try clear hfz10_6
    try clear hfz12_0
    try clear hfz12_1
    try clear hfz12_2
    try clear hfz12_3
    try clear hfz12_4
    try clear hfz12_5
    try clear hfz12_6
    try clear hfz4_0
    try clear hfz4_1
    try clear hfz4_2
    try clear hfz4_3
    try clear hfz4_4
    try clear hfz4_5
    try clear hfz4_6
    try clear hfz7_0
    try clear hfz7_1
    try clear hfz7_2
    try clear hfz7_3
    try clear hfz7_4
    try clear hfz7_5
    try clear hfz7_6
    obtain ⟨kq, x15_1, rfl, HA, HJ1, BK168, BK169, HB⟩ := hcut
    cases kq with
    | zero => exact absurd HA.out (by simp [congressref21_May.j0])
    | succ kj1 =>
      have H := HA.out
      clear HA
      simp only [congressref21_May.j0] at H
      have HC13 := Aside0.mk H
      clear H
      go_upto_if 15 with (fail)
      go_cut [] (fun wc => ∃ (kq : Nat) (x170001_12 : Int), Aside0 (congressref21_May.j1 kq a0_0 a0_1 a0_2 a0_3 a0_4 a0_5 a0_6 a0_0 x170001_12 0 0 0 0 (⟨#[]⟩ : ByteArray) = some r) ∧ Aside0 (kq ≤ kj1) ∧ Aside0 (wc.heap[gb168]? = some (.cells #[.int .i64 a0_0, .int .u64 a0_1, .int .u64 a0_2, .int .i64 a0_3, .int .i64 a0_4, .int .i64 a0_5, .string a0_6] 24 (0, 0))) ∧ Aside0 (wc.heap[gb169]? = some (.cells #[.int .i64 a0_0, .int .u64 x170001_12, .int .u64 0, .int .i64 0, .int .i64 0, .int .i64 0, .string (⟨#[]⟩ : ByteArray)] 24 (0, 0))) ∧ Aside0 (Below w.heap.size w wc))
      case first =>
        have H := HC13.out
        clear HC13
        by_cases c14 : x15_1 = true
        · subst c14
          have H1 : (congressref21_May.j1 kj1 a0_0 a0_1 a0_2 a0_3 a0_4 a0_5 a0_6 a0_0 a0_1 0 0 0 0 (⟨#[]⟩ : ByteArray)) = some r := by rw [if_pos rfl] at H; exact H
          clear H
          have H := H1
          clear H1
          have H' := Aside0.mk H
          clear H
          have hnb15 := NB168_169.out
          have hnc15 := NB169_168.out
          have hcz16_0 : wc.cell? ⟨gb168, 0, none⟩ = some (.int .i64 a0_0) := (blk_cell BK168.out 0).trans rfl
          have hcz16_1 : wc.cell? ⟨gb168, 1, none⟩ = some (.int .u64 a0_1) := (blk_cell BK168.out 1).trans rfl
          have hcz16_2 : wc.cell? ⟨gb168, 2, none⟩ = some (.int .u64 a0_2) := (blk_cell BK168.out 2).trans rfl
          have hcz16_3 : wc.cell? ⟨gb168, 3, none⟩ = some (.int .i64 a0_3) := (blk_cell BK168.out 3).trans rfl
          have hcz16_4 : wc.cell? ⟨gb168, 4, none⟩ = some (.int .i64 a0_4) := (blk_cell BK168.out 4).trans rfl
          have hcz16_5 : wc.cell? ⟨gb168, 5, none⟩ = some (.int .i64 a0_5) := (blk_cell BK168.out 5).trans rfl
          have hcz16_6 : wc.cell? ⟨gb168, 6, none⟩ = some (.string a0_6) := (blk_cell BK168.out 6).trans rfl
          have hfz16_0 := blk_frozen BK168.out 0
          have hfz16_1 := blk_frozen BK168.out 1
          have hfz16_2 := blk_frozen BK168.out 2
          have hfz16_3 := blk_frozen BK168.out 3
          have hfz16_4 := blk_frozen BK168.out 4
          have hfz16_5 := blk_frozen BK168.out 5
          have hfz16_6 := blk_frozen BK168.out 6
          have hcz17_0 : wc.cell? ⟨gb169, 0, none⟩ = some (.int .i64 a0_0) := (blk_cell BK169.out 0).trans rfl
          have hcz17_1 : wc.cell? ⟨gb169, 1, none⟩ = some (.int .u64 0) := (blk_cell BK169.out 1).trans rfl
          have hcz17_2 : wc.cell? ⟨gb169, 2, none⟩ = some (.int .u64 0) := (blk_cell BK169.out 2).trans rfl
          have hcz17_3 : wc.cell? ⟨gb169, 3, none⟩ = some (.int .i64 0) := (blk_cell BK169.out 3).trans rfl
          have hcz17_4 : wc.cell? ⟨gb169, 4, none⟩ = some (.int .i64 0) := (blk_cell BK169.out 4).trans rfl
          have hcz17_5 : wc.cell? ⟨gb169, 5, none⟩ = some (.int .i64 0) := (blk_cell BK169.out 5).trans rfl
          have hcz17_6 : wc.cell? ⟨gb169, 6, none⟩ = some (.string (⟨#[]⟩ : ByteArray)) := (blk_cell BK169.out 6).trans rfl
          have hfz17_0 := blk_frozen BK169.out 0
          have hfz17_1 := blk_frozen BK169.out 1
          have hfz17_2 := blk_frozen BK169.out 2
          have hfz17_3 := blk_frozen BK169.out 3
          have hfz17_4 := blk_frozen BK169.out 4
          have hfz17_5 := blk_frozen BK169.out 5
          have hfz17_6 := blk_frozen BK169.out 6
          go_wp2
          go_meet
          case rel => exact ⟨_, (a0_1), H', ⟨by have := HJ1.out; first | omega | exact Nat.le_refl _⟩, ⟨by (with_reducible repeat (first | refine blk_drewN ?_ _ | refine blk_drew ?_ | refine blk_alloc ?_ _)); refine blk_far ?_ NB168_169.out _; (with_reducible repeat (first | refine blk_drewN ?_ _ | refine blk_drew ?_ | refine blk_alloc ?_ _)); exact BK168.out⟩, ⟨by (with_reducible repeat (first | refine blk_drewN ?_ _ | refine blk_drew ?_ | refine blk_alloc ?_ _)); refine blk_put (cs := #[.int .i64 a0_0, .int .u64 0, .int .u64 0, .int .i64 0, .int .i64 0, .int .i64 0, .string (⟨#[]⟩ : ByteArray)]) ?_ 1 _ rfl; (with_reducible repeat (first | refine blk_drewN ?_ _ | refine blk_drew ?_ | refine blk_alloc ?_ _)); exact BK169.out⟩, ⟨by repeat (first | (with_reducible first | exact HB.out | apply below_alloc | apply pw_below_drewN | apply below_drew1 | refine below_set ?_ GE168.out | refine below_set ?_ GE169.out) | exact HB.out)⟩⟩
        · replace c14 := Bool.eq_false_iff.mpr c14
          subst c14
          have H1 : (congressref21_May.j1 kj1 a0_0 a0_1 a0_2 a0_3 a0_4 a0_5 a0_6 a0_0 0 0 0 0 0 (⟨#[]⟩ : ByteArray)) = some r := by rw [if_neg (show ¬ (false = true) by decide)] at H; exact H
          clear H
          have H := H1
          clear H1
          have H' := Aside0.mk H
          clear H
          go_wp2
          go_meet
          case rel => exact ⟨_, (0), H', ⟨by have := HJ1.out; first | omega | exact Nat.le_refl _⟩, ⟨by (with_reducible repeat (first | refine blk_drewN ?_ _ | refine blk_drew ?_ | refine blk_alloc ?_ _)); exact BK168.out⟩, ⟨by (with_reducible repeat (first | refine blk_drewN ?_ _ | refine blk_drew ?_ | refine blk_alloc ?_ _)); exact BK169.out⟩, ⟨by repeat (first | (with_reducible first | exact HB.out | apply below_alloc | apply pw_below_drewN | apply below_drew1 | refine below_set ?_ GE168.out | refine below_set ?_ GE169.out) | exact HB.out)⟩⟩
      case rest =>
        clear HC13
        try clear c1
        try clear p2
        try clear c6
        try clear c8
        try clear c8b0
        try clear c9
        try clear c11
        try clear c12
        try clear c14
        try clear c15
        try clear hcz10_0
        try clear hcz10_1
        try clear hcz10_2
        try clear hcz10_3
        try clear hcz10_4
        try clear hcz10_5
        try clear hcz10_6
        try clear hcz12_0
        try clear hcz12_1
        try clear hcz12_2
        try clear hcz12_3
        try clear hcz12_4
        try clear hcz12_5
        try clear hcz12_6
        try clear hcz16_0
        try clear hcz16_1
        try clear hcz16_2
        try clear hcz16_3
        try clear hcz16_4
        try clear hcz16_5
        try clear hcz16_6
        try clear hcz17_0
        try clear hcz17_1
        try clear hcz17_2
        try clear hcz17_3
        try clear hcz17_4
        try clear hcz17_5
        try clear hcz17_6
        try clear hcz4_0
        try clear hcz4_1
        try clear hcz4_2
        try clear hcz4_3
        try clear hcz4_4
        try clear hcz4_5
        try clear hcz4_6
        try clear hcz7_0
        try clear hcz7_1
        try clear hcz7_2
        try clear hcz7_3
        try clear hcz7_4
        try clear hcz7_5
        try clear hcz7_6
        try clear hfz10_0
        try clear hfz10_1
        try clear hfz10_2
        try clear hfz10_3
        try clear hfz10_4
        try clear hfz10_5
        try clear hfz10_6
        try clear hfz12_0
        try clear hfz12_1
        try clear hfz12_2
        try clear hfz12_3
        try clear hfz12_4
        try clear hfz12_5
        try clear hfz12_6
        try clear hfz16_0
        try clear hfz16_1
        try clear hfz16_2
        try clear hfz16_3
        try clear hfz16_4
        try clear hfz16_5
        try clear hfz16_6
        try clear hfz17_0
        try clear hfz17_1
        try clear hfz17_2
        try clear hfz17_3
        try clear hfz17_4
        try clear hfz17_5
        try clear hfz17_6
        try clear hfz4_0
        try clear hfz4_1
        try clear hfz4_2
        try clear hfz4_3
        try clear hfz4_4
        try clear hfz4_5
        try clear hfz4_6
        try clear hfz7_0
        try clear hfz7_1
        try clear hfz7_2
        try clear hfz7_3
        try clear hfz7_4
        try clear hfz7_5
        try clear hfz7_6
        try clear p2
        obtain ⟨kq, x170001_12, HA, HJ12, BK168, BK169, HB⟩ := hcut
        cases kq with
        | zero => exact absurd HA.out (by simp [congressref21_May.j1])
        | succ kj12 =>
          have H := HA.out
          clear HA
          simp only [congressref21_May.j1] at H
          have HC18 := Aside0.mk H
          clear H
          go_upto_region 4 with (fail)
          go_cut [4] (fun v4 wc => ∃ (kq : Nat) (x4_17 : Bool), v4 = .bool x4_17 ∧ Aside0 (congressref21_May.j2 kq x4_17 a0_0 a0_1 a0_2 a0_3 a0_4 a0_5 a0_6 a0_0 x170001_12 0 0 0 0 (⟨#[]⟩ : ByteArray) = some r) ∧ Aside0 (kq ≤ kj12) ∧ Aside0 (wc.heap[gb168]? = some (.cells #[.int .i64 a0_0, .int .u64 a0_1, .int .u64 a0_2, .int .i64 a0_3, .int .i64 a0_4, .int .i64 a0_5, .string a0_6] 24 (0, 0))) ∧ Aside0 (wc.heap[gb169]? = some (.cells #[.int .i64 a0_0, .int .u64 x170001_12, .int .u64 0, .int .i64 0, .int .i64 0, .int .i64 0, .string (⟨#[]⟩ : ByteArray)] 24 (0, 0))) ∧ Aside0 (Below w.heap.size w wc))
          case first =>
            have H := HC18.out
            clear HC18
            by_cases c19 : a0_0 ≥ 0
            · rw [if_pos c19] at H
              have c19b0 : decide (0 ≤ a0_0) = true := decide_eq_true c19
              clear c19
              (first | rw [c19b0] | (simp only [i64_w, i32_w]; rw [c19b0]) | skip)
              have H' := Aside0.mk H
              clear H
              have hnb20 := NB168_169.out
              have hnc20 := NB169_168.out
              have hcz21_0 : wc.cell? ⟨gb168, 0, none⟩ = some (.int .i64 a0_0) := (blk_cell BK168.out 0).trans rfl
              have hcz21_1 : wc.cell? ⟨gb168, 1, none⟩ = some (.int .u64 a0_1) := (blk_cell BK168.out 1).trans rfl
              have hcz21_2 : wc.cell? ⟨gb168, 2, none⟩ = some (.int .u64 a0_2) := (blk_cell BK168.out 2).trans rfl
              have hcz21_3 : wc.cell? ⟨gb168, 3, none⟩ = some (.int .i64 a0_3) := (blk_cell BK168.out 3).trans rfl
              have hcz21_4 : wc.cell? ⟨gb168, 4, none⟩ = some (.int .i64 a0_4) := (blk_cell BK168.out 4).trans rfl
              have hcz21_5 : wc.cell? ⟨gb168, 5, none⟩ = some (.int .i64 a0_5) := (blk_cell BK168.out 5).trans rfl
              have hcz21_6 : wc.cell? ⟨gb168, 6, none⟩ = some (.string a0_6) := (blk_cell BK168.out 6).trans rfl
              have hfz21_0 := blk_frozen BK168.out 0
              have hfz21_1 := blk_frozen BK168.out 1
              have hfz21_2 := blk_frozen BK168.out 2
              have hfz21_3 := blk_frozen BK168.out 3
              have hfz21_4 := blk_frozen BK168.out 4
              have hfz21_5 := blk_frozen BK168.out 5
              have hfz21_6 := blk_frozen BK168.out 6
              go_wp2
              go_meet
              case rel => exact ⟨_, (decide (a0_0 ≤ 6)), (by first | rfl | (simp; done) | (simp [*]; done)), H', ⟨by have := HJ1.out; have := HJ12.out; first | omega | exact Nat.le_refl _⟩, ⟨by (with_reducible repeat (first | refine blk_drewN ?_ _ | refine blk_drew ?_ | refine blk_alloc ?_ _)); exact BK168.out⟩, ⟨by (with_reducible repeat (first | refine blk_drewN ?_ _ | refine blk_drew ?_ | refine blk_alloc ?_ _)); exact BK169.out⟩, ⟨by repeat (first | (with_reducible first | exact HB.out | apply below_alloc | apply pw_below_drewN | apply below_drew1 | refine below_set ?_ GE168.out | refine below_set ?_ GE169.out) | exact HB.out)⟩⟩
            · rw [if_neg c19] at H
              have c19b0 : decide (0 ≤ a0_0) = false := decide_eq_false c19
              clear c19
              (first | rw [c19b0] | (simp only [i64_w, i32_w]; rw [c19b0]) | skip)
              have H' := Aside0.mk H
              clear H
              have hnb22 := NB168_169.out
              have hnc22 := NB169_168.out
              have hcz23_0 : wc.cell? ⟨gb168, 0, none⟩ = some (.int .i64 a0_0) := (blk_cell BK168.out 0).trans rfl
              have hcz23_1 : wc.cell? ⟨gb168, 1, none⟩ = some (.int .u64 a0_1) := (blk_cell BK168.out 1).trans rfl
              have hcz23_2 : wc.cell? ⟨gb168, 2, none⟩ = some (.int .u64 a0_2) := (blk_cell BK168.out 2).trans rfl
              have hcz23_3 : wc.cell? ⟨gb168, 3, none⟩ = some (.int .i64 a0_3) := (blk_cell BK168.out 3).trans rfl
              have hcz23_4 : wc.cell? ⟨gb168, 4, none⟩ = some (.int .i64 a0_4) := (blk_cell BK168.out 4).trans rfl
              have hcz23_5 : wc.cell? ⟨gb168, 5, none⟩ = some (.int .i64 a0_5) := (blk_cell BK168.out 5).trans rfl
              have hcz23_6 : wc.cell? ⟨gb168, 6, none⟩ = some (.string a0_6) := (blk_cell BK168.out 6).trans rfl
              have hfz23_0 := blk_frozen BK168.out 0
              have hfz23_1 := blk_frozen BK168.out 1
              have hfz23_2 := blk_frozen BK168.out 2
              have hfz23_3 := blk_frozen BK168.out 3
              have hfz23_4 := blk_frozen BK168.out 4
              have hfz23_5 := blk_frozen BK168.out 5
              have hfz23_6 := blk_frozen BK168.out 6
              go_wp2
              go_meet
              case rel => exact ⟨_, (false), (by first | rfl | (simp; done) | (simp [*]; done)), H', ⟨by have := HJ1.out; have := HJ12.out; first | omega | exact Nat.le_refl _⟩, ⟨by (with_reducible repeat (first | refine blk_drewN ?_ _ | refine blk_drew ?_ | refine blk_alloc ?_ _)); exact BK168.out⟩, ⟨by (with_reducible repeat (first | refine blk_drewN ?_ _ | refine blk_drew ?_ | refine blk_alloc ?_ _)); exact BK169.out⟩, ⟨by repeat (first | (with_reducible first | exact HB.out | apply below_alloc | apply pw_below_drewN | apply below_drew1 | refine below_set ?_ GE168.out | refine below_set ?_ GE169.out) | exact HB.out)⟩⟩
          case rest =>
            clear HC18
            try clear c1
            try clear c2
            try clear p2
            try clear c6
            try clear c8
            try clear c8b0
            try clear c9
            try clear c11
            try clear c12
            try clear c14
            try clear c15
            try clear c19
            try clear c19b0
            try clear c20
            try clear c22
            try clear hcz10_0
            try clear hcz10_1
            try clear hcz10_2
            try clear hcz10_3
            try clear hcz10_4
            try clear hcz10_5
            try clear hcz10_6
            try clear hcz12_0
            try clear hcz12_1
            try clear hcz12_2
            try clear hcz12_3
            try clear hcz12_4
            try clear hcz12_5
            try clear hcz12_6
            try clear hcz16_0
            try clear hcz16_1
            try clear hcz16_2
            try clear hcz16_3
            try clear hcz16_4
            try clear hcz16_5
            try clear hcz16_6
            try clear hcz17_0
            try clear hcz17_1
            try clear hcz17_2
            try clear hcz17_3
            try clear hcz17_4
            try clear hcz17_5
            try clear hcz17_6
            try clear hcz21_0
            try clear hcz21_1
            try clear hcz21_2
            try clear hcz21_3
            try clear hcz21_4
            try clear hcz21_5
            try clear hcz21_6
            try clear hcz23_0
            try clear hcz23_1
            try clear hcz23_2
            try clear hcz23_3
            try clear hcz23_4
            try clear hcz23_5
            try clear hcz23_6
            try clear hcz4_0
            try clear hcz4_1
            try clear hcz4_2
            try clear hcz4_3
            try clear hcz4_4
            try clear hcz4_5
            try clear hcz4_6
            try clear hcz7_0
            try clear hcz7_1
            try clear hcz7_2
            try clear hcz7_3
            try clear hcz7_4
            try clear hcz7_5
            try clear hcz7_6
            try clear hfz10_0
            try clear hfz10_1
            try clear hfz10_2
            try clear hfz10_3
            try clear hfz10_4
            try clear hfz10_5
            try clear hfz10_6
            try clear hfz12_0
            try clear hfz12_1
            try clear hfz12_2
            try clear hfz12_3
            try clear hfz12_4
            try clear hfz12_5
            try clear hfz12_6
            try clear hfz16_0
            try clear hfz16_1
            try clear hfz16_2
            try clear hfz16_3
            try clear hfz16_4
            try clear hfz16_5
            try clear hfz16_6
            try clear hfz17_0
            try clear hfz17_1
            try clear hfz17_2
            try clear hfz17_3
            try clear hfz17_4
            try clear hfz17_5
            try clear hfz17_6
            try clear hfz21_0
            try clear hfz21_1
            try clear hfz21_2
            try clear hfz21_3
            try clear hfz21_4
            try clear hfz21_5
            try clear hfz21_6
            try clear hfz23_0
            try clear hfz23_1
            try clear hfz23_2
            try clear hfz23_3
            try clear hfz23_4
            try clear hfz23_5
            try clear hfz23_6
            try clear hfz4_0
            try clear hfz4_1
            try clear hfz4_2
            try clear hfz4_3
            try clear hfz4_4
            try clear hfz4_5
            try clear hfz4_6
            try clear hfz7_0
            try clear hfz7_1
            try clear hfz7_2
            try clear hfz7_3
            try clear hfz7_4
            try clear hfz7_5
            try clear hfz7_6
            try clear p2
            obtain ⟨kq, x4_17, rfl, HA, HJ17, BK168, BK169, HB⟩ := hcut
            cases kq with
            | zero => exact absurd HA.out (by simp [congressref21_May.j2])
            | succ kj17 =>
              have H := HA.out
              clear HA
              simp only [congressref21_May.j2] at H
              have HC24 := Aside0.mk H
              clear H
              have hnb25 := NB168_169.out
              have hnc25 := NB169_168.out
              have hcz26_0 : wc.cell? ⟨gb168, 0, none⟩ = some (.int .i64 a0_0) := (blk_cell BK168.out 0).trans rfl
              have hcz26_1 : wc.cell? ⟨gb168, 1, none⟩ = some (.int .u64 a0_1) := (blk_cell BK168.out 1).trans rfl
              have hcz26_2 : wc.cell? ⟨gb168, 2, none⟩ = some (.int .u64 a0_2) := (blk_cell BK168.out 2).trans rfl
              have hcz26_3 : wc.cell? ⟨gb168, 3, none⟩ = some (.int .i64 a0_3) := (blk_cell BK168.out 3).trans rfl
              have hcz26_4 : wc.cell? ⟨gb168, 4, none⟩ = some (.int .i64 a0_4) := (blk_cell BK168.out 4).trans rfl
              have hcz26_5 : wc.cell? ⟨gb168, 5, none⟩ = some (.int .i64 a0_5) := (blk_cell BK168.out 5).trans rfl
              have hcz26_6 : wc.cell? ⟨gb168, 6, none⟩ = some (.string a0_6) := (blk_cell BK168.out 6).trans rfl
              have hfz26_0 := blk_frozen BK168.out 0
              have hfz26_1 := blk_frozen BK168.out 1
              have hfz26_2 := blk_frozen BK168.out 2
              have hfz26_3 := blk_frozen BK168.out 3
              have hfz26_4 := blk_frozen BK168.out 4
              have hfz26_5 := blk_frozen BK168.out 5
              have hfz26_6 := blk_frozen BK168.out 6
              go_upto_if 29 with (fail)
              go_cut [4] (fun v4 wc => ∃ (kq : Nat) (x4_23 : Bool) (x170003_23 : Int), v4 = .bool x4_23 ∧ Aside0 (congressref21_May.j3 kq x4_23 a0_0 a0_1 a0_2 a0_3 a0_4 a0_5 a0_6 a0_0 x170001_12 0 x170003_23 0 0 (⟨#[]⟩ : ByteArray) = some r) ∧ Aside0 (kq ≤ kj17) ∧ Aside0 (wc.heap[gb168]? = some (.cells #[.int .i64 a0_0, .int .u64 a0_1, .int .u64 a0_2, .int .i64 a0_3, .int .i64 a0_4, .int .i64 a0_5, .string a0_6] 24 (0, 0))) ∧ Aside0 (wc.heap[gb169]? = some (.cells #[.int .i64 a0_0, .int .u64 x170001_12, .int .u64 0, .int .i64 x170003_23, .int .i64 0, .int .i64 0, .string (⟨#[]⟩ : ByteArray)] 24 (0, 0))) ∧ Aside0 (Below w.heap.size w wc))
              case first =>
                have H := HC24.out
                clear HC24
                by_cases c27 : a0_0 = 2
                · rw [if_pos c27] at H
                  have c27b0 : (a0_0 == 2) = true := beq_iff_eq.mpr c27
                  have c27b1 : (a0_0 != 2) = false := bne_eq_false_iff_eq.mpr c27
                  clear c27
                  (first | rw [c27b0] | (simp only [i64_w, i32_w]; rw [c27b0]) | skip)
                  by_cases c28 : a0_3 ≥ 1
                  · rw [if_pos c28] at H
                    have c28b0 : decide (1 ≤ a0_3) = true := decide_eq_true c28
                    clear c28
                    have H' := Aside0.mk H
                    clear H
                    have hnb29 := NB168_169.out
                    have hnc29 := NB169_168.out
                    have hcz30_0 : wc.cell? ⟨gb168, 0, none⟩ = some (.int .i64 a0_0) := (blk_cell BK168.out 0).trans rfl
                    have hcz30_1 : wc.cell? ⟨gb168, 1, none⟩ = some (.int .u64 a0_1) := (blk_cell BK168.out 1).trans rfl
                    have hcz30_2 : wc.cell? ⟨gb168, 2, none⟩ = some (.int .u64 a0_2) := (blk_cell BK168.out 2).trans rfl
                    have hcz30_3 : wc.cell? ⟨gb168, 3, none⟩ = some (.int .i64 a0_3) := (blk_cell BK168.out 3).trans rfl
                    have hcz30_4 : wc.cell? ⟨gb168, 4, none⟩ = some (.int .i64 a0_4) := (blk_cell BK168.out 4).trans rfl
                    have hcz30_5 : wc.cell? ⟨gb168, 5, none⟩ = some (.int .i64 a0_5) := (blk_cell BK168.out 5).trans rfl
                    have hcz30_6 : wc.cell? ⟨gb168, 6, none⟩ = some (.string a0_6) := (blk_cell BK168.out 6).trans rfl
                    have hfz30_0 := blk_frozen BK168.out 0
                    have hfz30_1 := blk_frozen BK168.out 1
                    have hfz30_2 := blk_frozen BK168.out 2
                    have hfz30_3 := blk_frozen BK168.out 3
                    have hfz30_4 := blk_frozen BK168.out 4
                    have hfz30_5 := blk_frozen BK168.out 5
                    have hfz30_6 := blk_frozen BK168.out 6
                    have hcz31_0 : wc.cell? ⟨gb169, 0, none⟩ = some (.int .i64 a0_0) := (blk_cell BK169.out 0).trans rfl
                    have hcz31_1 : wc.cell? ⟨gb169, 1, none⟩ = some (.int .u64 x170001_12) := (blk_cell BK169.out 1).trans rfl
                    have hcz31_2 : wc.cell? ⟨gb169, 2, none⟩ = some (.int .u64 0) := (blk_cell BK169.out 2).trans rfl
                    have hcz31_3 : wc.cell? ⟨gb169, 3, none⟩ = some (.int .i64 0) := (blk_cell BK169.out 3).trans rfl
                    have hcz31_4 : wc.cell? ⟨gb169, 4, none⟩ = some (.int .i64 0) := (blk_cell BK169.out 4).trans rfl
                    have hcz31_5 : wc.cell? ⟨gb169, 5, none⟩ = some (.int .i64 0) := (blk_cell BK169.out 5).trans rfl
                    have hcz31_6 : wc.cell? ⟨gb169, 6, none⟩ = some (.string (⟨#[]⟩ : ByteArray)) := (blk_cell BK169.out 6).trans rfl
                    have hfz31_0 := blk_frozen BK169.out 0
                    have hfz31_1 := blk_frozen BK169.out 1
                    have hfz31_2 := blk_frozen BK169.out 2
                    have hfz31_3 := blk_frozen BK169.out 3
                    have hfz31_4 := blk_frozen BK169.out 4
                    have hfz31_5 := blk_frozen BK169.out 5
                    have hfz31_6 := blk_frozen BK169.out 6
                    go_wp2
                    go_meet
                    case rel => exact ⟨_, (decide (a0_3 ≤ 7)), (a0_3), (by first | rfl | (simp; done) | (simp [*]; done)), H', ⟨by have := HJ1.out; have := HJ12.out; have := HJ17.out; first | omega | exact Nat.le_refl _⟩, ⟨by (with_reducible repeat (first | refine blk_drewN ?_ _ | refine blk_drew ?_ | refine blk_alloc ?_ _)); refine blk_far ?_ NB168_169.out _; (with_reducible repeat (first | refine blk_drewN ?_ _ | refine blk_drew ?_ | refine blk_alloc ?_ _)); exact BK168.out⟩, ⟨by (with_reducible repeat (first | refine blk_drewN ?_ _ | refine blk_drew ?_ | refine blk_alloc ?_ _)); refine blk_put (cs := #[.int .i64 a0_0, .int .u64 x170001_12, .int .u64 0, .int .i64 0, .int .i64 0, .int .i64 0, .string (⟨#[]⟩ : ByteArray)]) ?_ 3 _ rfl; (with_reducible repeat (first | refine blk_drewN ?_ _ | refine blk_drew ?_ | refine blk_alloc ?_ _)); exact BK169.out⟩, ⟨by repeat (first | (with_reducible first | exact HB.out | apply below_alloc | apply pw_below_drewN | apply below_drew1 | refine below_set ?_ GE168.out | refine below_set ?_ GE169.out) | exact HB.out)⟩⟩
                  · rw [if_neg c28] at H
                    have c28b0 : decide (1 ≤ a0_3) = false := decide_eq_false c28
                    clear c28
                    have H' := Aside0.mk H
                    clear H
                    have hnb32 := NB168_169.out
                    have hnc32 := NB169_168.out
                    have hcz33_0 : wc.cell? ⟨gb168, 0, none⟩ = some (.int .i64 a0_0) := (blk_cell BK168.out 0).trans rfl
                    have hcz33_1 : wc.cell? ⟨gb168, 1, none⟩ = some (.int .u64 a0_1) := (blk_cell BK168.out 1).trans rfl
                    have hcz33_2 : wc.cell? ⟨gb168, 2, none⟩ = some (.int .u64 a0_2) := (blk_cell BK168.out 2).trans rfl
                    have hcz33_3 : wc.cell? ⟨gb168, 3, none⟩ = some (.int .i64 a0_3) := (blk_cell BK168.out 3).trans rfl
                    have hcz33_4 : wc.cell? ⟨gb168, 4, none⟩ = some (.int .i64 a0_4) := (blk_cell BK168.out 4).trans rfl
                    have hcz33_5 : wc.cell? ⟨gb168, 5, none⟩ = some (.int .i64 a0_5) := (blk_cell BK168.out 5).trans rfl
                    have hcz33_6 : wc.cell? ⟨gb168, 6, none⟩ = some (.string a0_6) := (blk_cell BK168.out 6).trans rfl
                    have hfz33_0 := blk_frozen BK168.out 0
                    have hfz33_1 := blk_frozen BK168.out 1
                    have hfz33_2 := blk_frozen BK168.out 2
                    have hfz33_3 := blk_frozen BK168.out 3
                    have hfz33_4 := blk_frozen BK168.out 4
                    have hfz33_5 := blk_frozen BK168.out 5
                    have hfz33_6 := blk_frozen BK168.out 6
                    have hcz34_0 : wc.cell? ⟨gb169, 0, none⟩ = some (.int .i64 a0_0) := (blk_cell BK169.out 0).trans rfl
                    have hcz34_1 : wc.cell? ⟨gb169, 1, none⟩ = some (.int .u64 x170001_12) := (blk_cell BK169.out 1).trans rfl
                    have hcz34_2 : wc.cell? ⟨gb169, 2, none⟩ = some (.int .u64 0) := (blk_cell BK169.out 2).trans rfl
                    have hcz34_3 : wc.cell? ⟨gb169, 3, none⟩ = some (.int .i64 0) := (blk_cell BK169.out 3).trans rfl
                    have hcz34_4 : wc.cell? ⟨gb169, 4, none⟩ = some (.int .i64 0) := (blk_cell BK169.out 4).trans rfl
                    have hcz34_5 : wc.cell? ⟨gb169, 5, none⟩ = some (.int .i64 0) := (blk_cell BK169.out 5).trans rfl
                    have hcz34_6 : wc.cell? ⟨gb169, 6, none⟩ = some (.string (⟨#[]⟩ : ByteArray)) := (blk_cell BK169.out 6).trans rfl
                    have hfz34_0 := blk_frozen BK169.out 0
                    have hfz34_1 := blk_frozen BK169.out 1
                    have hfz34_2 := blk_frozen BK169.out 2
                    have hfz34_3 := blk_frozen BK169.out 3
                    have hfz34_4 := blk_frozen BK169.out 4
                    have hfz34_5 := blk_frozen BK169.out 5
                    have hfz34_6 := blk_frozen BK169.out 6
                    go_wp2
                    go_meet
                    case rel => exact ⟨_, (false), (a0_3), (by first | rfl | (simp; done) | (simp [*]; done)), H', ⟨by have := HJ1.out; have := HJ12.out; have := HJ17.out; first | omega | exact Nat.le_refl _⟩, ⟨by (with_reducible repeat (first | refine blk_drewN ?_ _ | refine blk_drew ?_ | refine blk_alloc ?_ _)); refine blk_far ?_ NB168_169.out _; (with_reducible repeat (first | refine blk_drewN ?_ _ | refine blk_drew ?_ | refine blk_alloc ?_ _)); exact BK168.out⟩, ⟨by (with_reducible repeat (first | refine blk_drewN ?_ _ | refine blk_drew ?_ | refine blk_alloc ?_ _)); refine blk_put (cs := #[.int .i64 a0_0, .int .u64 x170001_12, .int .u64 0, .int .i64 0, .int .i64 0, .int .i64 0, .string (⟨#[]⟩ : ByteArray)]) ?_ 3 _ rfl; (with_reducible repeat (first | refine blk_drewN ?_ _ | refine blk_drew ?_ | refine blk_alloc ?_ _)); exact BK169.out⟩, ⟨by repeat (first | (with_reducible first | exact HB.out | apply below_alloc | apply pw_below_drewN | apply below_drew1 | refine below_set ?_ GE168.out | refine below_set ?_ GE169.out) | exact HB.out)⟩⟩
                · rw [if_neg c27] at H
                  have c27b0 : (a0_0 == 2) = false := beq_eq_false_iff_ne.mpr c27
                  have c27b1 : (a0_0 != 2) = true := bne_iff_ne.mpr c27
                  (first | rw [c27b0] | (simp only [i64_w, i32_w]; rw [c27b0]) | skip)
                  have H' := Aside0.mk H
                  clear H
                  go_wp2
                  go_meet
                  case rel => exact ⟨_, (x4_17), (0), (by first | rfl | (simp; done) | (simp [*]; done)), H', ⟨by have := HJ1.out; have := HJ12.out; have := HJ17.out; first | omega | exact Nat.le_refl _⟩, ⟨by (with_reducible repeat (first | refine blk_drewN ?_ _ | refine blk_drew ?_ | refine blk_alloc ?_ _)); exact BK168.out⟩, ⟨by (with_reducible repeat (first | refine blk_drewN ?_ _ | refine blk_drew ?_ | refine blk_alloc ?_ _)); exact BK169.out⟩, ⟨by repeat (first | (with_reducible first | exact HB.out | apply below_alloc | apply pw_below_drewN | apply below_drew1 | refine below_set ?_ GE168.out | refine below_set ?_ GE169.out) | exact HB.out)⟩⟩
              case rest =>
                clear HC24
                try clear c1
                try clear c2
                try clear p2
                try clear c3
                try clear c6
                try clear c8
                try clear c8b0
                try clear c9
                try clear c11
                try clear c12
                try clear c14
                try clear c15
                try clear c19
                try clear c19b0
                try clear c20
                try clear c22
                try clear c25
                try clear c27
                try clear c27b0
                try clear c27b1
                try clear c28
                try clear c28b0
                try clear c29
                try clear c32
                try clear hcz10_0
                try clear hcz10_1
                try clear hcz10_2
                try clear hcz10_3
                try clear hcz10_4
                try clear hcz10_5
                try clear hcz10_6
                try clear hcz12_0
                try clear hcz12_1
                try clear hcz12_2
                try clear hcz12_3
                try clear hcz12_4
                try clear hcz12_5
                try clear hcz12_6
                try clear hcz16_0
                try clear hcz16_1
                try clear hcz16_2
                try clear hcz16_3
                try clear hcz16_4
                try clear hcz16_5
                try clear hcz16_6
                try clear hcz17_0
                try clear hcz17_1
                try clear hcz17_2
                try clear hcz17_3
                try clear hcz17_4
                try clear hcz17_5
                try clear hcz17_6
                try clear hcz21_0
                try clear hcz21_1
                try clear hcz21_2
                try clear hcz21_3
                try clear hcz21_4
                try clear hcz21_5
                try clear hcz21_6
                try clear hcz23_0
                try clear hcz23_1
                try clear hcz23_2
                try clear hcz23_3
                try clear hcz23_4
                try clear hcz23_5
                try clear hcz23_6
                try clear hcz26_0
                try clear hcz26_1
                try clear hcz26_2
                try clear hcz26_3
                try clear hcz26_4
                try clear hcz26_5
                try clear hcz26_6
                try clear hcz30_0
                try clear hcz30_1
                try clear hcz30_2
                try clear hcz30_3
                try clear hcz30_4
                try clear hcz30_5
                try clear hcz30_6
                try clear hcz31_0
                try clear hcz31_1
                try clear hcz31_2
                try clear hcz31_3
                try clear hcz31_4
                try clear hcz31_5
                try clear hcz31_6
                try clear hcz33_0
                try clear hcz33_1
                try clear hcz33_2
                try clear hcz33_3
                try clear hcz33_4
                try clear hcz33_5
                try clear hcz33_6
                try clear hcz34_0
                try clear hcz34_1
                try clear hcz34_2
                try clear hcz34_3
                try clear hcz34_4
                try clear hcz34_5
                try clear hcz34_6
                try clear hcz4_0
                try clear hcz4_1
                try clear hcz4_2
                try clear hcz4_3
                try clear hcz4_4
                try clear hcz4_5
                try clear hcz4_6
                try clear hcz7_0
                try clear hcz7_1
                try clear hcz7_2
                try clear hcz7_3
                try clear hcz7_4
                try clear hcz7_5
                try clear hcz7_6
                try clear hfz10_0
                try clear hfz10_1
                try clear hfz10_2
                try clear hfz10_3
                try clear hfz10_4
                try clear hfz10_5
                try clear hfz10_6
                try clear hfz12_0
                try clear hfz12_1
                try clear hfz12_2
                try clear hfz12_3
                try clear hfz12_4
                try clear hfz12_5
                try clear hfz12_6
                try clear hfz16_0
                try clear hfz16_1
                try clear hfz16_2
                try clear hfz16_3
                try clear hfz16_4
                try clear hfz16_5
                try clear hfz16_6
                try clear hfz17_0
                try clear hfz17_1
                try clear hfz17_2
                try clear hfz17_3
                try clear hfz17_4
                try clear hfz17_5
                try clear hfz17_6
                try clear hfz21_0
                try clear hfz21_1
                try clear hfz21_2
                try clear hfz21_3
                try clear hfz21_4
                try clear hfz21_5
                try clear hfz21_6
                try clear hfz23_0
                try clear hfz23_1
                try clear hfz23_2
                try clear hfz23_3
                try clear hfz23_4
                try clear hfz23_5
                try clear hfz23_6
                try clear hfz26_0
                try clear hfz26_1
                try clear hfz26_2
                try clear hfz26_3
                try clear hfz26_4
                try clear hfz26_5
                try clear hfz26_6
                try clear hfz30_0
                try clear hfz30_1
                try clear hfz30_2
                try clear hfz30_3
                try clear hfz30_4
                try clear hfz30_5
                try clear hfz30_6
                try clear hfz31_0
                try clear hfz31_1
                try clear hfz31_2
                try clear hfz31_3
                try clear hfz31_4
                try clear hfz31_5
                try clear hfz31_6
                try clear hfz33_0
                try clear hfz33_1
                try clear hfz33_2
                try clear hfz33_3
                try clear hfz33_4
                try clear hfz33_5
                try clear hfz33_6
                try clear hfz34_0
                try clear hfz34_1
                try clear hfz34_2
                try clear hfz34_3
                try clear hfz34_4
                try clear hfz34_5
                try clear hfz34_6
                try clear hfz4_0
                try clear hfz4_1
                try clear hfz4_2
                try clear hfz4_3
                try clear hfz4_4
                try clear hfz4_5
                try clear hfz4_6
                try clear hfz7_0
                try clear hfz7_1
                try clear hfz7_2
                try clear hfz7_3
                try clear hfz7_4
                try clear hfz7_5
                try clear hfz7_6
                try clear p2
                obtain ⟨kq, x4_23, x170003_23, rfl, HA, HJ23, BK168, BK169, HB⟩ := hcut
                cases kq with
                | zero => exact absurd HA.out (by simp [congressref21_May.j3])
                | succ kj23 =>
                  have H := HA.out
                  clear HA
                  simp only [congressref21_May.j3] at H
                  have HC35 := Aside0.mk H
                  clear H
                  have hnb36 := NB168_169.out
                  have hnc36 := NB169_168.out
                  have hcz37_0 : wc.cell? ⟨gb168, 0, none⟩ = some (.int .i64 a0_0) := (blk_cell BK168.out 0).trans rfl
                  have hcz37_1 : wc.cell? ⟨gb168, 1, none⟩ = some (.int .u64 a0_1) := (blk_cell BK168.out 1).trans rfl
                  have hcz37_2 : wc.cell? ⟨gb168, 2, none⟩ = some (.int .u64 a0_2) := (blk_cell BK168.out 2).trans rfl
                  have hcz37_3 : wc.cell? ⟨gb168, 3, none⟩ = some (.int .i64 a0_3) := (blk_cell BK168.out 3).trans rfl
                  have hcz37_4 : wc.cell? ⟨gb168, 4, none⟩ = some (.int .i64 a0_4) := (blk_cell BK168.out 4).trans rfl
                  have hcz37_5 : wc.cell? ⟨gb168, 5, none⟩ = some (.int .i64 a0_5) := (blk_cell BK168.out 5).trans rfl
                  have hcz37_6 : wc.cell? ⟨gb168, 6, none⟩ = some (.string a0_6) := (blk_cell BK168.out 6).trans rfl
                  have hfz37_0 := blk_frozen BK168.out 0
                  have hfz37_1 := blk_frozen BK168.out 1
                  have hfz37_2 := blk_frozen BK168.out 2
                  have hfz37_3 := blk_frozen BK168.out 3
                  have hfz37_4 := blk_frozen BK168.out 4
                  have hfz37_5 := blk_frozen BK168.out 5
                  have hfz37_6 := blk_frozen BK168.out 6
                  go_upto_if 43 with (fail)
                  go_cut [] (fun wc => ∃ (kq : Nat) (x170002_34 : Int), Aside0 (congressref21_May.j4 kq x4_23 a0_0 a0_1 a0_2 a0_3 a0_4 a0_5 a0_6 a0_0 x170001_12 x170002_34 x170003_23 0 0 (⟨#[]⟩ : ByteArray) = some r) ∧ Aside0 (kq ≤ kj23) ∧ Aside0 (wc.heap[gb168]? = some (.cells #[.int .i64 a0_0, .int .u64 a0_1, .int .u64 a0_2, .int .i64 a0_3, .int .i64 a0_4, .int .i64 a0_5, .string a0_6] 24 (0, 0))) ∧ Aside0 (wc.heap[gb169]? = some (.cells #[.int .i64 a0_0, .int .u64 x170001_12, .int .u64 x170002_34, .int .i64 x170003_23, .int .i64 0, .int .i64 0, .string (⟨#[]⟩ : ByteArray)] 24 (0, 0))) ∧ Aside0 (Below w.heap.size w wc))
                  case first =>
                    have H := HC35.out
                    clear HC35
                    by_cases c38 : a0_0 = 3
                    · rw [if_pos c38] at H
                      have c38b0 : (a0_0 == 3) = true := beq_iff_eq.mpr c38
                      have c38b1 : (a0_0 != 3) = false := bne_eq_false_iff_eq.mpr c38
                      clear c38
                      (first | rw [c38b0] | (simp only [i64_w, i32_w]; rw [c38b0]) | skip)
                      have H' := Aside0.mk H
                      clear H
                      have hnb39 := NB168_169.out
                      have hnc39 := NB169_168.out
                      have hcz40_0 : wc.cell? ⟨gb168, 0, none⟩ = some (.int .i64 a0_0) := (blk_cell BK168.out 0).trans rfl
                      have hcz40_1 : wc.cell? ⟨gb168, 1, none⟩ = some (.int .u64 a0_1) := (blk_cell BK168.out 1).trans rfl
                      have hcz40_2 : wc.cell? ⟨gb168, 2, none⟩ = some (.int .u64 a0_2) := (blk_cell BK168.out 2).trans rfl
                      have hcz40_3 : wc.cell? ⟨gb168, 3, none⟩ = some (.int .i64 a0_3) := (blk_cell BK168.out 3).trans rfl
                      have hcz40_4 : wc.cell? ⟨gb168, 4, none⟩ = some (.int .i64 a0_4) := (blk_cell BK168.out 4).trans rfl
                      have hcz40_5 : wc.cell? ⟨gb168, 5, none⟩ = some (.int .i64 a0_5) := (blk_cell BK168.out 5).trans rfl
                      have hcz40_6 : wc.cell? ⟨gb168, 6, none⟩ = some (.string a0_6) := (blk_cell BK168.out 6).trans rfl
                      have hfz40_0 := blk_frozen BK168.out 0
                      have hfz40_1 := blk_frozen BK168.out 1
                      have hfz40_2 := blk_frozen BK168.out 2
                      have hfz40_3 := blk_frozen BK168.out 3
                      have hfz40_4 := blk_frozen BK168.out 4
                      have hfz40_5 := blk_frozen BK168.out 5
                      have hfz40_6 := blk_frozen BK168.out 6
                      have hcz41_0 : wc.cell? ⟨gb169, 0, none⟩ = some (.int .i64 a0_0) := (blk_cell BK169.out 0).trans rfl
                      have hcz41_1 : wc.cell? ⟨gb169, 1, none⟩ = some (.int .u64 x170001_12) := (blk_cell BK169.out 1).trans rfl
                      have hcz41_2 : wc.cell? ⟨gb169, 2, none⟩ = some (.int .u64 0) := (blk_cell BK169.out 2).trans rfl
                      have hcz41_3 : wc.cell? ⟨gb169, 3, none⟩ = some (.int .i64 x170003_23) := (blk_cell BK169.out 3).trans rfl
                      have hcz41_4 : wc.cell? ⟨gb169, 4, none⟩ = some (.int .i64 0) := (blk_cell BK169.out 4).trans rfl
                      have hcz41_5 : wc.cell? ⟨gb169, 5, none⟩ = some (.int .i64 0) := (blk_cell BK169.out 5).trans rfl
                      have hcz41_6 : wc.cell? ⟨gb169, 6, none⟩ = some (.string (⟨#[]⟩ : ByteArray)) := (blk_cell BK169.out 6).trans rfl
                      have hfz41_0 := blk_frozen BK169.out 0
                      have hfz41_1 := blk_frozen BK169.out 1
                      have hfz41_2 := blk_frozen BK169.out 2
                      have hfz41_3 := blk_frozen BK169.out 3
                      have hfz41_4 := blk_frozen BK169.out 4
                      have hfz41_5 := blk_frozen BK169.out 5
                      have hfz41_6 := blk_frozen BK169.out 6
                      go_wp2
                      go_meet
                      case rel => exact ⟨_, (a0_2), H', ⟨by have := HJ1.out; have := HJ12.out; have := HJ17.out; have := HJ23.out; first | omega | exact Nat.le_refl _⟩, ⟨by (with_reducible repeat (first | refine blk_drewN ?_ _ | refine blk_drew ?_ | refine blk_alloc ?_ _)); refine blk_far ?_ NB168_169.out _; (with_reducible repeat (first | refine blk_drewN ?_ _ | refine blk_drew ?_ | refine blk_alloc ?_ _)); exact BK168.out⟩, ⟨by (with_reducible repeat (first | refine blk_drewN ?_ _ | refine blk_drew ?_ | refine blk_alloc ?_ _)); refine blk_put (cs := #[.int .i64 a0_0, .int .u64 x170001_12, .int .u64 0, .int .i64 x170003_23, .int .i64 0, .int .i64 0, .string (⟨#[]⟩ : ByteArray)]) ?_ 2 _ rfl; (with_reducible repeat (first | refine blk_drewN ?_ _ | refine blk_drew ?_ | refine blk_alloc ?_ _)); exact BK169.out⟩, ⟨by repeat (first | (with_reducible first | exact HB.out | apply below_alloc | apply pw_below_drewN | apply below_drew1 | refine below_set ?_ GE168.out | refine below_set ?_ GE169.out) | exact HB.out)⟩⟩
                    · rw [if_neg c38] at H
                      have c38b0 : (a0_0 == 3) = false := beq_eq_false_iff_ne.mpr c38
                      have c38b1 : (a0_0 != 3) = true := bne_iff_ne.mpr c38
                      (first | rw [c38b0] | (simp only [i64_w, i32_w]; rw [c38b0]) | skip)
                      have H' := Aside0.mk H
                      clear H
                      go_wp2
                      go_meet
                      case rel => exact ⟨_, (0), H', ⟨by have := HJ1.out; have := HJ12.out; have := HJ17.out; have := HJ23.out; first | omega | exact Nat.le_refl _⟩, ⟨by (with_reducible repeat (first | refine blk_drewN ?_ _ | refine blk_drew ?_ | refine blk_alloc ?_ _)); exact BK168.out⟩, ⟨by (with_reducible repeat (first | refine blk_drewN ?_ _ | refine blk_drew ?_ | refine blk_alloc ?_ _)); exact BK169.out⟩, ⟨by repeat (first | (with_reducible first | exact HB.out | apply below_alloc | apply pw_below_drewN | apply below_drew1 | refine below_set ?_ GE168.out | refine below_set ?_ GE169.out) | exact HB.out)⟩⟩
                  case rest =>
                    clear HC35
                    try clear c1
                    try clear c2
                    try clear p2
                    try clear c3
                    try clear c6
                    try clear c8
                    try clear c8b0
                    try clear c9
                    try clear c11
                    try clear c12
                    try clear c14
                    try clear c15
                    try clear c19
                    try clear c19b0
                    try clear c20
                    try clear c22
                    try clear c25
                    try clear c27
                    try clear c27b0
                    try clear c27b1
                    try clear c28
                    try clear c28b0
                    try clear c29
                    try clear c32
                    try clear c36
                    try clear c38
                    try clear c38b0
                    try clear c38b1
                    try clear c39
                    try clear hcz10_0
                    try clear hcz10_1
                    try clear hcz10_2
                    try clear hcz10_3
                    try clear hcz10_4
                    try clear hcz10_5
                    try clear hcz10_6
                    try clear hcz12_0
                    try clear hcz12_1
                    try clear hcz12_2
                    try clear hcz12_3
                    try clear hcz12_4
                    try clear hcz12_5
                    try clear hcz12_6
                    try clear hcz16_0
                    try clear hcz16_1
                    try clear hcz16_2
                    try clear hcz16_3
                    try clear hcz16_4
                    try clear hcz16_5
                    try clear hcz16_6
                    try clear hcz17_0
                    try clear hcz17_1
                    try clear hcz17_2
                    try clear hcz17_3
                    try clear hcz17_4
                    try clear hcz17_5
                    try clear hcz17_6
                    try clear hcz21_0
                    try clear hcz21_1
                    try clear hcz21_2
                    try clear hcz21_3
                    try clear hcz21_4
                    try clear hcz21_5
                    try clear hcz21_6
                    try clear hcz23_0
                    try clear hcz23_1
                    try clear hcz23_2
                    try clear hcz23_3
                    try clear hcz23_4
                    try clear hcz23_5
                    try clear hcz23_6
                    try clear hcz26_0
                    try clear hcz26_1
                    try clear hcz26_2
                    try clear hcz26_3
                    try clear hcz26_4
                    try clear hcz26_5
                    try clear hcz26_6
                    try clear hcz30_0
                    try clear hcz30_1
                    try clear hcz30_2
                    try clear hcz30_3
                    try clear hcz30_4
                    try clear hcz30_5
                    try clear hcz30_6
                    try clear hcz31_0
                    try clear hcz31_1
                    try clear hcz31_2
                    try clear hcz31_3
                    try clear hcz31_4
                    try clear hcz31_5
                    try clear hcz31_6
                    try clear hcz33_0
                    try clear hcz33_1
                    try clear hcz33_2
                    try clear hcz33_3
                    try clear hcz33_4
                    try clear hcz33_5
                    try clear hcz33_6
                    try clear hcz34_0
                    try clear hcz34_1
                    try clear hcz34_2
                    try clear hcz34_3
                    try clear hcz34_4
                    try clear hcz34_5
                    try clear hcz34_6
                    try clear hcz37_0
                    try clear hcz37_1
                    try clear hcz37_2
                    try clear hcz37_3
                    try clear hcz37_4
                    try clear hcz37_5
                    try clear hcz37_6
                    try clear hcz40_0
                    try clear hcz40_1
                    try clear hcz40_2
                    try clear hcz40_3
                    try clear hcz40_4
                    try clear hcz40_5
                    try clear hcz40_6
                    try clear hcz41_0
                    try clear hcz41_1
                    try clear hcz41_2
                    try clear hcz41_3
                    try clear hcz41_4
                    try clear hcz41_5
                    try clear hcz41_6
                    try clear hcz4_0
                    try clear hcz4_1
                    try clear hcz4_2
                    try clear hcz4_3
                    try clear hcz4_4
                    try clear hcz4_5
                    try clear hcz4_6
                    try clear hcz7_0
                    try clear hcz7_1
                    try clear hcz7_2
                    try clear hcz7_3
                    try clear hcz7_4
                    try clear hcz7_5
                    try clear hcz7_6
                    try clear hfz10_0
                    try clear hfz10_1
                    try clear hfz10_2
                    try clear hfz10_3
                    try clear hfz10_4
                    try clear hfz10_5
                    try clear hfz10_6
                    try clear hfz12_0
                    try clear hfz12_1
                    try clear hfz12_2
                    try clear hfz12_3
                    try clear hfz12_4
                    try clear hfz12_5
                    try clear hfz12_6
                    try clear hfz16_0
                    try clear hfz16_1
                    try clear hfz16_2
                    try clear hfz16_3
                    try clear hfz16_4
                    try clear hfz16_5
                    try clear hfz16_6
                    try clear hfz17_0
                    try clear hfz17_1
                    try clear hfz17_2
                    try clear hfz17_3
                    try clear hfz17_4
                    try clear hfz17_5
                    try clear hfz17_6
                    try clear hfz21_0
                    try clear hfz21_1
                    try clear hfz21_2
                    try clear hfz21_3
                    try clear hfz21_4
                    try clear hfz21_5
                    try clear hfz21_6
                    try clear hfz23_0
                    try clear hfz23_1
                    try clear hfz23_2
                    try clear hfz23_3
                    try clear hfz23_4
                    try clear hfz23_5
                    try clear hfz23_6
                    try clear hfz26_0
                    try clear hfz26_1
                    try clear hfz26_2
                    try clear hfz26_3
                    try clear hfz26_4
                    try clear hfz26_5
                    try clear hfz26_6
                    try clear hfz30_0
                    try clear hfz30_1
                    try clear hfz30_2
                    try clear hfz30_3
                    try clear hfz30_4
                    try clear hfz30_5
                    try clear hfz30_6
                    try clear hfz31_0
                    try clear hfz31_1
                    try clear hfz31_2
                    try clear hfz31_3
                    try clear hfz31_4
                    try clear hfz31_5
                    try clear hfz31_6
                    try clear hfz33_0
                    try clear hfz33_1
                    try clear hfz33_2
                    try clear hfz33_3
                    try clear hfz33_4
                    try clear hfz33_5
                    try clear hfz33_6
                    try clear hfz34_0
                    try clear hfz34_1
                    try clear hfz34_2
                    try clear hfz34_3
                    try clear hfz34_4
                    try clear hfz34_5
                    try clear hfz34_6
                    try clear hfz37_0
                    try clear hfz37_1
                    try clear hfz37_2
                    try clear hfz37_3
                    try clear hfz37_4
                    try clear hfz37_5
                    try clear hfz37_6
                    try clear hfz40_0
                    try clear hfz40_1
                    try clear hfz40_2
                    try clear hfz40_3
                    try clear hfz40_4
                    try clear hfz40_5
                    try clear hfz40_6
                    try clear hfz41_0
                    try clear hfz41_1
                    try clear hfz41_2
                    try clear hfz41_3
                    try clear hfz41_4
                    try clear hfz41_5
                    try clear hfz41_6
                    try clear hfz4_0
                    try clear hfz4_1
                    try clear hfz4_2
                    try clear hfz4_3
                    try clear hfz4_4
                    try clear hfz4_5
                    try clear hfz4_6
                    try clear hfz7_0
                    try clear hfz7_1
                    try clear hfz7_2
                    try clear hfz7_3
                    try clear hfz7_4
                    try clear hfz7_5
                    try clear hfz7_6
                    try clear p2
                    obtain ⟨kq, x170002_34, HA, HJ34, BK168, BK169, HB⟩ := hcut
                    cases kq with
                    | zero => exact absurd HA.out (by simp [congressref21_May.j4])
                    | succ kj34 =>
                      have H := HA.out
                      clear HA
                      simp only [congressref21_May.j4] at H
                      have HC42 := Aside0.mk H
                      clear H
                      go_upto_region 10 with (fail)
                      go_cut [54] (fun v54 wc => ∃ (kq : Nat) (x54_41 : Bool), v54 = .bool x54_41 ∧ Aside0 (congressref21_May.j5 kq x4_23 x54_41 a0_0 a0_1 a0_2 a0_3 a0_4 a0_5 a0_6 a0_0 x170001_12 x170002_34 x170003_23 0 0 (⟨#[]⟩ : ByteArray) = some r) ∧ Aside0 (kq ≤ kj34) ∧ Aside0 (wc.heap[gb168]? = some (.cells #[.int .i64 a0_0, .int .u64 a0_1, .int .u64 a0_2, .int .i64 a0_3, .int .i64 a0_4, .int .i64 a0_5, .string a0_6] 24 (0, 0))) ∧ Aside0 (wc.heap[gb169]? = some (.cells #[.int .i64 a0_0, .int .u64 x170001_12, .int .u64 x170002_34, .int .i64 x170003_23, .int .i64 0, .int .i64 0, .string (⟨#[]⟩ : ByteArray)] 24 (0, 0))) ∧ Aside0 (Below w.heap.size w wc))
                      case first =>
                        have H := HC42.out
                        clear HC42
                        by_cases c43 : a0_0 ≥ 4
                        · rw [if_pos c43] at H
                          have c43b0 : decide (4 ≤ a0_0) = true := decide_eq_true c43
                          clear c43
                          (first | rw [c43b0] | (simp only [i64_w, i32_w]; rw [c43b0]) | skip)
                          have H' := Aside0.mk H
                          clear H
                          have hnb44 := NB168_169.out
                          have hnc44 := NB169_168.out
                          have hcz45_0 : wc.cell? ⟨gb168, 0, none⟩ = some (.int .i64 a0_0) := (blk_cell BK168.out 0).trans rfl
                          have hcz45_1 : wc.cell? ⟨gb168, 1, none⟩ = some (.int .u64 a0_1) := (blk_cell BK168.out 1).trans rfl
                          have hcz45_2 : wc.cell? ⟨gb168, 2, none⟩ = some (.int .u64 a0_2) := (blk_cell BK168.out 2).trans rfl
                          have hcz45_3 : wc.cell? ⟨gb168, 3, none⟩ = some (.int .i64 a0_3) := (blk_cell BK168.out 3).trans rfl
                          have hcz45_4 : wc.cell? ⟨gb168, 4, none⟩ = some (.int .i64 a0_4) := (blk_cell BK168.out 4).trans rfl
                          have hcz45_5 : wc.cell? ⟨gb168, 5, none⟩ = some (.int .i64 a0_5) := (blk_cell BK168.out 5).trans rfl
                          have hcz45_6 : wc.cell? ⟨gb168, 6, none⟩ = some (.string a0_6) := (blk_cell BK168.out 6).trans rfl
                          have hfz45_0 := blk_frozen BK168.out 0
                          have hfz45_1 := blk_frozen BK168.out 1
                          have hfz45_2 := blk_frozen BK168.out 2
                          have hfz45_3 := blk_frozen BK168.out 3
                          have hfz45_4 := blk_frozen BK168.out 4
                          have hfz45_5 := blk_frozen BK168.out 5
                          have hfz45_6 := blk_frozen BK168.out 6
                          go_wp2
                          go_meet
                          case rel => exact ⟨_, (decide (a0_0 ≤ 6)), (by first | rfl | (simp; done) | (simp [*]; done)), H', ⟨by have := HJ1.out; have := HJ12.out; have := HJ17.out; have := HJ23.out; have := HJ34.out; first | omega | exact Nat.le_refl _⟩, ⟨by (with_reducible repeat (first | refine blk_drewN ?_ _ | refine blk_drew ?_ | refine blk_alloc ?_ _)); exact BK168.out⟩, ⟨by (with_reducible repeat (first | refine blk_drewN ?_ _ | refine blk_drew ?_ | refine blk_alloc ?_ _)); exact BK169.out⟩, ⟨by repeat (first | (with_reducible first | exact HB.out | apply below_alloc | apply pw_below_drewN | apply below_drew1 | refine below_set ?_ GE168.out | refine below_set ?_ GE169.out) | exact HB.out)⟩⟩
                        · rw [if_neg c43] at H
                          have c43b0 : decide (4 ≤ a0_0) = false := decide_eq_false c43
                          clear c43
                          (first | rw [c43b0] | (simp only [i64_w, i32_w]; rw [c43b0]) | skip)
                          have H' := Aside0.mk H
                          clear H
                          have hnb46 := NB168_169.out
                          have hnc46 := NB169_168.out
                          have hcz47_0 : wc.cell? ⟨gb168, 0, none⟩ = some (.int .i64 a0_0) := (blk_cell BK168.out 0).trans rfl
                          have hcz47_1 : wc.cell? ⟨gb168, 1, none⟩ = some (.int .u64 a0_1) := (blk_cell BK168.out 1).trans rfl
                          have hcz47_2 : wc.cell? ⟨gb168, 2, none⟩ = some (.int .u64 a0_2) := (blk_cell BK168.out 2).trans rfl
                          have hcz47_3 : wc.cell? ⟨gb168, 3, none⟩ = some (.int .i64 a0_3) := (blk_cell BK168.out 3).trans rfl
                          have hcz47_4 : wc.cell? ⟨gb168, 4, none⟩ = some (.int .i64 a0_4) := (blk_cell BK168.out 4).trans rfl
                          have hcz47_5 : wc.cell? ⟨gb168, 5, none⟩ = some (.int .i64 a0_5) := (blk_cell BK168.out 5).trans rfl
                          have hcz47_6 : wc.cell? ⟨gb168, 6, none⟩ = some (.string a0_6) := (blk_cell BK168.out 6).trans rfl
                          have hfz47_0 := blk_frozen BK168.out 0
                          have hfz47_1 := blk_frozen BK168.out 1
                          have hfz47_2 := blk_frozen BK168.out 2
                          have hfz47_3 := blk_frozen BK168.out 3
                          have hfz47_4 := blk_frozen BK168.out 4
                          have hfz47_5 := blk_frozen BK168.out 5
                          have hfz47_6 := blk_frozen BK168.out 6
                          go_wp2
                          go_meet
                          case rel => exact ⟨_, (false), (by first | rfl | (simp; done) | (simp [*]; done)), H', ⟨by have := HJ1.out; have := HJ12.out; have := HJ17.out; have := HJ23.out; have := HJ34.out; first | omega | exact Nat.le_refl _⟩, ⟨by (with_reducible repeat (first | refine blk_drewN ?_ _ | refine blk_drew ?_ | refine blk_alloc ?_ _)); exact BK168.out⟩, ⟨by (with_reducible repeat (first | refine blk_drewN ?_ _ | refine blk_drew ?_ | refine blk_alloc ?_ _)); exact BK169.out⟩, ⟨by repeat (first | (with_reducible first | exact HB.out | apply below_alloc | apply pw_below_drewN | apply below_drew1 | refine below_set ?_ GE168.out | refine below_set ?_ GE169.out) | exact HB.out)⟩⟩
                      case rest =>
                        clear HC42
                        try clear c1
                        try clear c2
                        try clear p2
                        try clear c3
                        try clear c4
                        try clear c6
                        try clear c8
                        try clear c8b0
                        try clear c9
                        try clear c11
                        try clear c12
                        try clear c14
                        try clear c15
                        try clear c19
                        try clear c19b0
                        try clear c20
                        try clear c22
                        try clear c25
                        try clear c27
                        try clear c27b0
                        try clear c27b1
                        try clear c28
                        try clear c28b0
                        try clear c29
                        try clear c32
                        try clear c36
                        try clear c38
                        try clear c38b0
                        try clear c38b1
                        try clear c39
                        try clear c43
                        try clear c43b0
                        try clear c44
                        try clear c46
                        try clear hcz10_0
                        try clear hcz10_1
                        try clear hcz10_2
                        try clear hcz10_3
                        try clear hcz10_4
                        try clear hcz10_5
                        try clear hcz10_6
                        try clear hcz12_0
                        try clear hcz12_1
                        try clear hcz12_2
                        try clear hcz12_3
                        try clear hcz12_4
                        try clear hcz12_5
                        try clear hcz12_6
                        try clear hcz16_0
                        try clear hcz16_1
                        try clear hcz16_2
                        try clear hcz16_3
                        try clear hcz16_4
                        try clear hcz16_5
                        try clear hcz16_6
                        try clear hcz17_0
                        try clear hcz17_1
                        try clear hcz17_2
                        try clear hcz17_3
                        try clear hcz17_4
                        try clear hcz17_5
                        try clear hcz17_6
                        try clear hcz21_0
                        try clear hcz21_1
                        try clear hcz21_2
                        try clear hcz21_3
                        try clear hcz21_4
                        try clear hcz21_5
                        try clear hcz21_6
                        try clear hcz23_0
                        try clear hcz23_1
                        try clear hcz23_2
                        try clear hcz23_3
                        try clear hcz23_4
                        try clear hcz23_5
                        try clear hcz23_6
                        try clear hcz26_0
                        try clear hcz26_1
                        try clear hcz26_2
                        try clear hcz26_3
                        try clear hcz26_4
                        try clear hcz26_5
                        try clear hcz26_6
                        try clear hcz30_0
                        try clear hcz30_1
                        try clear hcz30_2
                        try clear hcz30_3
                        try clear hcz30_4
                        try clear hcz30_5
                        try clear hcz30_6
                        try clear hcz31_0
                        try clear hcz31_1
                        try clear hcz31_2
                        try clear hcz31_3
                        try clear hcz31_4
                        try clear hcz31_5
                        try clear hcz31_6
                        try clear hcz33_0
                        try clear hcz33_1
                        try clear hcz33_2
                        try clear hcz33_3
                        try clear hcz33_4
                        try clear hcz33_5
                        try clear hcz33_6
                        try clear hcz34_0
                        try clear hcz34_1
                        try clear hcz34_2
                        try clear hcz34_3
                        try clear hcz34_4
                        try clear hcz34_5
                        try clear hcz34_6
                        try clear hcz37_0
                        try clear hcz37_1
                        try clear hcz37_2
                        try clear hcz37_3
                        try clear hcz37_4
                        try clear hcz37_5
                        try clear hcz37_6
                        try clear hcz40_0
                        try clear hcz40_1
                        try clear hcz40_2
                        try clear hcz40_3
                        try clear hcz40_4
                        try clear hcz40_5
                        try clear hcz40_6
                        try clear hcz41_0
                        try clear hcz41_1
                        try clear hcz41_2
                        try clear hcz41_3
                        try clear hcz41_4
                        try clear hcz41_5
                        try clear hcz41_6
                        try clear hcz45_0
                        try clear hcz45_1
                        try clear hcz45_2
                        try clear hcz45_3
                        try clear hcz45_4
                        try clear hcz45_5
                        try clear hcz45_6
                        try clear hcz47_0
                        try clear hcz47_1
                        try clear hcz47_2
                        try clear hcz47_3
                        try clear hcz47_4
                        try clear hcz47_5
                        try clear hcz47_6
                        try clear hcz4_0
                        try clear hcz4_1
                        try clear hcz4_2
                        try clear hcz4_3
                        try clear hcz4_4
                        try clear hcz4_5
                        try clear hcz4_6
                        try clear hcz7_0
                        try clear hcz7_1
                        try clear hcz7_2
                        try clear hcz7_3
                        try clear hcz7_4
                        try clear hcz7_5
                        try clear hcz7_6
                        try clear hfz10_0
                        try clear hfz10_1
                        try clear hfz10_2
                        try clear hfz10_3
                        try clear hfz10_4
                        try clear hfz10_5
                        try clear hfz10_6
                        try clear hfz12_0
                        try clear hfz12_1
                        try clear hfz12_2
                        try clear hfz12_3
                        try clear hfz12_4
                        try clear hfz12_5
                        try clear hfz12_6
                        try clear hfz16_0
                        try clear hfz16_1
                        try clear hfz16_2
                        try clear hfz16_3
                        try clear hfz16_4
                        try clear hfz16_5
                        try clear hfz16_6
                        try clear hfz17_0
                        try clear hfz17_1
                        try clear hfz17_2
                        try clear hfz17_3
                        try clear hfz17_4
                        try clear hfz17_5
                        try clear hfz17_6
                        try clear hfz21_0
                        try clear hfz21_1
                        try clear hfz21_2
                        try clear hfz21_3
                        try clear hfz21_4
                        try clear hfz21_5
                        try clear hfz21_6
                        try clear hfz23_0
                        try clear hfz23_1
                        try clear hfz23_2
                        try clear hfz23_3
                        try clear hfz23_4
                        try clear hfz23_5
                        try clear hfz23_6
                        try clear hfz26_0
                        try clear hfz26_1
                        try clear hfz26_2
                        try clear hfz26_3
                        try clear hfz26_4
                        try clear hfz26_5
                        try clear hfz26_6
                        try clear hfz30_0
                        try clear hfz30_1
                        try clear hfz30_2
                        try clear hfz30_3
                        try clear hfz30_4
                        try clear hfz30_5
                        try clear hfz30_6
                        try clear hfz31_0
                        try clear hfz31_1
                        try clear hfz31_2
                        try clear hfz31_3
                        try clear hfz31_4
                        try clear hfz31_5
                        try clear hfz31_6
                        try clear hfz33_0
                        try clear hfz33_1
                        try clear hfz33_2
                        try clear hfz33_3
                        try clear hfz33_4
                        try clear hfz33_5
                        try clear hfz33_6
                        try clear hfz34_0
                        try clear hfz34_1
                        try clear hfz34_2
                        try clear hfz34_3
                        try clear hfz34_4
                        try clear hfz34_5
                        try clear hfz34_6
                        try clear hfz37_0
                        try clear hfz37_1
                        try clear hfz37_2
                        try clear hfz37_3
                        try clear hfz37_4
                        try clear hfz37_5
                        try clear hfz37_6
                        try clear hfz40_0
                        try clear hfz40_1
                        try clear hfz40_2
                        try clear hfz40_3
                        try clear hfz40_4
                        try clear hfz40_5
                        try clear hfz40_6
                        try clear hfz41_0
                        try clear hfz41_1
                        try clear hfz41_2
                        try clear hfz41_3
                        try clear hfz41_4
                        try clear hfz41_5
                        try clear hfz41_6
                        try clear hfz45_0
                        try clear hfz45_1
                        try clear hfz45_2
                        try clear hfz45_3
                        try clear hfz45_4
                        try clear hfz45_5
                        try clear hfz45_6
                        try clear hfz47_0
                        try clear hfz47_1
                        try clear hfz47_2
                        try clear hfz47_3
                        try clear hfz47_4
                        try clear hfz47_5
                        try clear hfz47_6
                        try clear hfz4_0
                        try clear hfz4_1
                        try clear hfz4_2
                        try clear hfz4_3
                        try clear hfz4_4
                        try clear hfz4_5
                        try clear hfz4_6
                        try clear hfz7_0
                        try clear hfz7_1
                        try clear hfz7_2
                        try clear hfz7_3
                        try clear hfz7_4
                        try clear hfz7_5
                        try clear hfz7_6
                        try clear p2
                        obtain ⟨kq, x54_41, rfl, HA, HJ41, BK168, BK169, HB⟩ := hcut
                        cases kq with
                        | zero => exact absurd HA.out (by simp [congressref21_May.j5])
                        | succ kj41 =>
                          have H := HA.out
                          clear HA
                          simp only [congressref21_May.j5] at H
                          by_cases c48 : x54_41 = true
                          · subst c48
                            have H1 : (if a0_4 ≥ 0 then (if a0_0 = 6 then (if a0_4 ≤ 7 then (if a0_5 ≥ 0 then (if a0_5 ≤ 3 then (if (a0_6.size : Int) ≤ 16 then (some (a0_0 == a0_0 && (x170001_12 == a0_1 && (x170002_34 == a0_2 && (x170003_23 == a0_3))))) else (some false)) else (some false)) else (some false)) else (some false)) else (if a0_4 ≤ 7 then (some (a0_0 == a0_0 && (x170001_12 == a0_1 && (x170002_34 == a0_2 && (x170003_23 == a0_3 && (0 == a0_5 && ((⟨#[]⟩ : ByteArray).toList == a0_6.toList))))))) else (some false))) else (if a0_0 = 6 then (some false) else (some false))) = some r := by rw [if_pos rfl] at H; exact H
                            clear H
                            have H := H1
                            clear H1
                            by_cases c49 : a0_4 ≥ 0
                            · rw [if_pos c49] at H
                              have c49b0 : decide (0 ≤ a0_4) = true := decide_eq_true c49
                              clear c49
                              by_cases c50 : a0_0 = 6
                              · rw [if_pos c50] at H
                                have c50b0 : (a0_0 == 6) = true := beq_iff_eq.mpr c50
                                have c50b1 : (a0_0 != 6) = false := bne_eq_false_iff_eq.mpr c50
                                clear c50
                                by_cases c51 : a0_4 ≤ 7
                                · rw [if_pos c51] at H
                                  have c51b0 : decide (a0_4 ≤ 7) = true := decide_eq_true c51
                                  clear c51
                                  by_cases c52 : a0_5 ≥ 0
                                  · rw [if_pos c52] at H
                                    have c52b0 : decide (0 ≤ a0_5) = true := decide_eq_true c52
                                    clear c52
                                    by_cases c53 : a0_5 ≤ 3
                                    · rw [if_pos c53] at H
                                      have c53b0 : decide (a0_5 ≤ 3) = true := decide_eq_true c53
                                      clear c53
                                      by_cases c54 : (a0_6.size : Int) ≤ 16
                                      · rw [if_pos c54] at H
                                        have c54b0 : decide ((a0_6.size : Int) ≤ 16) = true := decide_eq_true c54
                                        have c54b1 : decide (a0_6.size ≤ 16) = true := decide_eq_true (by omega)
                                        clear c54
                                        obtain rfl := Option.some.inj H
                                        have hnb55 := NB168_169.out
                                        have hnc55 := NB169_168.out
                                        have hcz56_0 : wc.cell? ⟨gb168, 0, none⟩ = some (.int .i64 a0_0) := (blk_cell BK168.out 0).trans rfl
                                        have hcz56_1 : wc.cell? ⟨gb168, 1, none⟩ = some (.int .u64 a0_1) := (blk_cell BK168.out 1).trans rfl
                                        have hcz56_2 : wc.cell? ⟨gb168, 2, none⟩ = some (.int .u64 a0_2) := (blk_cell BK168.out 2).trans rfl
                                        have hcz56_3 : wc.cell? ⟨gb168, 3, none⟩ = some (.int .i64 a0_3) := (blk_cell BK168.out 3).trans rfl
                                        have hcz56_4 : wc.cell? ⟨gb168, 4, none⟩ = some (.int .i64 a0_4) := (blk_cell BK168.out 4).trans rfl
                                        have hcz56_5 : wc.cell? ⟨gb168, 5, none⟩ = some (.int .i64 a0_5) := (blk_cell BK168.out 5).trans rfl
                                        have hcz56_6 : wc.cell? ⟨gb168, 6, none⟩ = some (.string a0_6) := (blk_cell BK168.out 6).trans rfl
                                        have hfz56_0 := blk_frozen BK168.out 0
                                        have hfz56_1 := blk_frozen BK168.out 1
                                        have hfz56_2 := blk_frozen BK168.out 2
                                        have hfz56_3 := blk_frozen BK168.out 3
                                        have hfz56_4 := blk_frozen BK168.out 4
                                        have hfz56_5 := blk_frozen BK168.out 5
                                        have hfz56_6 := blk_frozen BK168.out 6
                                        have hcz57_0 : wc.cell? ⟨gb169, 0, none⟩ = some (.int .i64 a0_0) := (blk_cell BK169.out 0).trans rfl
                                        have hcz57_1 : wc.cell? ⟨gb169, 1, none⟩ = some (.int .u64 x170001_12) := (blk_cell BK169.out 1).trans rfl
                                        have hcz57_2 : wc.cell? ⟨gb169, 2, none⟩ = some (.int .u64 x170002_34) := (blk_cell BK169.out 2).trans rfl
                                        have hcz57_3 : wc.cell? ⟨gb169, 3, none⟩ = some (.int .i64 x170003_23) := (blk_cell BK169.out 3).trans rfl
                                        have hcz57_4 : wc.cell? ⟨gb169, 4, none⟩ = some (.int .i64 0) := (blk_cell BK169.out 4).trans rfl
                                        have hcz57_5 : wc.cell? ⟨gb169, 5, none⟩ = some (.int .i64 0) := (blk_cell BK169.out 5).trans rfl
                                        have hcz57_6 : wc.cell? ⟨gb169, 6, none⟩ = some (.string (⟨#[]⟩ : ByteArray)) := (blk_cell BK169.out 6).trans rfl
                                        have hfz57_0 := blk_frozen BK169.out 0
                                        have hfz57_1 := blk_frozen BK169.out 1
                                        have hfz57_2 := blk_frozen BK169.out 2
                                        have hfz57_3 := blk_frozen BK169.out 3
                                        have hfz57_4 := blk_frozen BK169.out 4
                                        have hfz57_5 := blk_frozen BK169.out 5
                                        have hfz57_6 := blk_frozen BK169.out 6
                                        go_wp2
                                        go_ret
                                        exact ⟨by first | rfl | (simp [errW_none, errW_some] <;> rfl) | (simp [*, errW_none, errW_some] <;> rfl), by repeat (first | (with_reducible first | exact HB.out | apply below_alloc | apply pw_below_drewN | apply below_drew1 | refine below_set ?_ GE168.out | refine below_set ?_ GE169.out) | exact HB.out)⟩
                                      · rw [if_neg c54] at H
                                        have c54b0 : decide ((a0_6.size : Int) ≤ 16) = false := decide_eq_false c54
                                        have c54b1 : decide (a0_6.size ≤ 16) = false := decide_eq_false (by omega)
                                        clear c54
                                        obtain rfl := Option.some.inj H
                                        have hnb58 := NB168_169.out
                                        have hnc58 := NB169_168.out
                                        have hcz59_0 : wc.cell? ⟨gb168, 0, none⟩ = some (.int .i64 a0_0) := (blk_cell BK168.out 0).trans rfl
                                        have hcz59_1 : wc.cell? ⟨gb168, 1, none⟩ = some (.int .u64 a0_1) := (blk_cell BK168.out 1).trans rfl
                                        have hcz59_2 : wc.cell? ⟨gb168, 2, none⟩ = some (.int .u64 a0_2) := (blk_cell BK168.out 2).trans rfl
                                        have hcz59_3 : wc.cell? ⟨gb168, 3, none⟩ = some (.int .i64 a0_3) := (blk_cell BK168.out 3).trans rfl
                                        have hcz59_4 : wc.cell? ⟨gb168, 4, none⟩ = some (.int .i64 a0_4) := (blk_cell BK168.out 4).trans rfl
                                        have hcz59_5 : wc.cell? ⟨gb168, 5, none⟩ = some (.int .i64 a0_5) := (blk_cell BK168.out 5).trans rfl
                                        have hcz59_6 : wc.cell? ⟨gb168, 6, none⟩ = some (.string a0_6) := (blk_cell BK168.out 6).trans rfl
                                        have hfz59_0 := blk_frozen BK168.out 0
                                        have hfz59_1 := blk_frozen BK168.out 1
                                        have hfz59_2 := blk_frozen BK168.out 2
                                        have hfz59_3 := blk_frozen BK168.out 3
                                        have hfz59_4 := blk_frozen BK168.out 4
                                        have hfz59_5 := blk_frozen BK168.out 5
                                        have hfz59_6 := blk_frozen BK168.out 6
                                        have hcz60_0 : wc.cell? ⟨gb169, 0, none⟩ = some (.int .i64 a0_0) := (blk_cell BK169.out 0).trans rfl
                                        have hcz60_1 : wc.cell? ⟨gb169, 1, none⟩ = some (.int .u64 x170001_12) := (blk_cell BK169.out 1).trans rfl
                                        have hcz60_2 : wc.cell? ⟨gb169, 2, none⟩ = some (.int .u64 x170002_34) := (blk_cell BK169.out 2).trans rfl
                                        have hcz60_3 : wc.cell? ⟨gb169, 3, none⟩ = some (.int .i64 x170003_23) := (blk_cell BK169.out 3).trans rfl
                                        have hcz60_4 : wc.cell? ⟨gb169, 4, none⟩ = some (.int .i64 0) := (blk_cell BK169.out 4).trans rfl
                                        have hcz60_5 : wc.cell? ⟨gb169, 5, none⟩ = some (.int .i64 0) := (blk_cell BK169.out 5).trans rfl
                                        have hcz60_6 : wc.cell? ⟨gb169, 6, none⟩ = some (.string (⟨#[]⟩ : ByteArray)) := (blk_cell BK169.out 6).trans rfl
                                        have hfz60_0 := blk_frozen BK169.out 0
                                        have hfz60_1 := blk_frozen BK169.out 1
                                        have hfz60_2 := blk_frozen BK169.out 2
                                        have hfz60_3 := blk_frozen BK169.out 3
                                        have hfz60_4 := blk_frozen BK169.out 4
                                        have hfz60_5 := blk_frozen BK169.out 5
                                        have hfz60_6 := blk_frozen BK169.out 6
                                        go_wp2
                                        go_ret
                                        exact ⟨by first | rfl | (simp [errW_none, errW_some] <;> rfl) | (simp [*, errW_none, errW_some] <;> rfl), by repeat (first | (with_reducible first | exact HB.out | apply below_alloc | apply pw_below_drewN | apply below_drew1 | refine below_set ?_ GE168.out | refine below_set ?_ GE169.out) | exact HB.out)⟩
                                    · rw [if_neg c53] at H
                                      have c53b0 : decide (a0_5 ≤ 3) = false := decide_eq_false c53
                                      clear c53
                                      obtain rfl := Option.some.inj H
                                      have hnb61 := NB168_169.out
                                      have hnc61 := NB169_168.out
                                      have hcz62_0 : wc.cell? ⟨gb168, 0, none⟩ = some (.int .i64 a0_0) := (blk_cell BK168.out 0).trans rfl
                                      have hcz62_1 : wc.cell? ⟨gb168, 1, none⟩ = some (.int .u64 a0_1) := (blk_cell BK168.out 1).trans rfl
                                      have hcz62_2 : wc.cell? ⟨gb168, 2, none⟩ = some (.int .u64 a0_2) := (blk_cell BK168.out 2).trans rfl
                                      have hcz62_3 : wc.cell? ⟨gb168, 3, none⟩ = some (.int .i64 a0_3) := (blk_cell BK168.out 3).trans rfl
                                      have hcz62_4 : wc.cell? ⟨gb168, 4, none⟩ = some (.int .i64 a0_4) := (blk_cell BK168.out 4).trans rfl
                                      have hcz62_5 : wc.cell? ⟨gb168, 5, none⟩ = some (.int .i64 a0_5) := (blk_cell BK168.out 5).trans rfl
                                      have hcz62_6 : wc.cell? ⟨gb168, 6, none⟩ = some (.string a0_6) := (blk_cell BK168.out 6).trans rfl
                                      have hfz62_0 := blk_frozen BK168.out 0
                                      have hfz62_1 := blk_frozen BK168.out 1
                                      have hfz62_2 := blk_frozen BK168.out 2
                                      have hfz62_3 := blk_frozen BK168.out 3
                                      have hfz62_4 := blk_frozen BK168.out 4
                                      have hfz62_5 := blk_frozen BK168.out 5
                                      have hfz62_6 := blk_frozen BK168.out 6
                                      have hcz63_0 : wc.cell? ⟨gb169, 0, none⟩ = some (.int .i64 a0_0) := (blk_cell BK169.out 0).trans rfl
                                      have hcz63_1 : wc.cell? ⟨gb169, 1, none⟩ = some (.int .u64 x170001_12) := (blk_cell BK169.out 1).trans rfl
                                      have hcz63_2 : wc.cell? ⟨gb169, 2, none⟩ = some (.int .u64 x170002_34) := (blk_cell BK169.out 2).trans rfl
                                      have hcz63_3 : wc.cell? ⟨gb169, 3, none⟩ = some (.int .i64 x170003_23) := (blk_cell BK169.out 3).trans rfl
                                      have hcz63_4 : wc.cell? ⟨gb169, 4, none⟩ = some (.int .i64 0) := (blk_cell BK169.out 4).trans rfl
                                      have hcz63_5 : wc.cell? ⟨gb169, 5, none⟩ = some (.int .i64 0) := (blk_cell BK169.out 5).trans rfl
                                      have hcz63_6 : wc.cell? ⟨gb169, 6, none⟩ = some (.string (⟨#[]⟩ : ByteArray)) := (blk_cell BK169.out 6).trans rfl
                                      have hfz63_0 := blk_frozen BK169.out 0
                                      have hfz63_1 := blk_frozen BK169.out 1
                                      have hfz63_2 := blk_frozen BK169.out 2
                                      have hfz63_3 := blk_frozen BK169.out 3
                                      have hfz63_4 := blk_frozen BK169.out 4
                                      have hfz63_5 := blk_frozen BK169.out 5
                                      have hfz63_6 := blk_frozen BK169.out 6
                                      go_wp2
                                      go_ret
                                      exact ⟨by first | rfl | (simp [errW_none, errW_some] <;> rfl) | (simp [*, errW_none, errW_some] <;> rfl), by repeat (first | (with_reducible first | exact HB.out | apply below_alloc | apply pw_below_drewN | apply below_drew1 | refine below_set ?_ GE168.out | refine below_set ?_ GE169.out) | exact HB.out)⟩
                                  · rw [if_neg c52] at H
                                    have c52b0 : decide (0 ≤ a0_5) = false := decide_eq_false c52
                                    clear c52
                                    obtain rfl := Option.some.inj H
                                    have hnb64 := NB168_169.out
                                    have hnc64 := NB169_168.out
                                    have hcz65_0 : wc.cell? ⟨gb168, 0, none⟩ = some (.int .i64 a0_0) := (blk_cell BK168.out 0).trans rfl
                                    have hcz65_1 : wc.cell? ⟨gb168, 1, none⟩ = some (.int .u64 a0_1) := (blk_cell BK168.out 1).trans rfl
                                    have hcz65_2 : wc.cell? ⟨gb168, 2, none⟩ = some (.int .u64 a0_2) := (blk_cell BK168.out 2).trans rfl
                                    have hcz65_3 : wc.cell? ⟨gb168, 3, none⟩ = some (.int .i64 a0_3) := (blk_cell BK168.out 3).trans rfl
                                    have hcz65_4 : wc.cell? ⟨gb168, 4, none⟩ = some (.int .i64 a0_4) := (blk_cell BK168.out 4).trans rfl
                                    have hcz65_5 : wc.cell? ⟨gb168, 5, none⟩ = some (.int .i64 a0_5) := (blk_cell BK168.out 5).trans rfl
                                    have hcz65_6 : wc.cell? ⟨gb168, 6, none⟩ = some (.string a0_6) := (blk_cell BK168.out 6).trans rfl
                                    have hfz65_0 := blk_frozen BK168.out 0
                                    have hfz65_1 := blk_frozen BK168.out 1
                                    have hfz65_2 := blk_frozen BK168.out 2
                                    have hfz65_3 := blk_frozen BK168.out 3
                                    have hfz65_4 := blk_frozen BK168.out 4
                                    have hfz65_5 := blk_frozen BK168.out 5
                                    have hfz65_6 := blk_frozen BK168.out 6
                                    have hcz66_0 : wc.cell? ⟨gb169, 0, none⟩ = some (.int .i64 a0_0) := (blk_cell BK169.out 0).trans rfl
                                    have hcz66_1 : wc.cell? ⟨gb169, 1, none⟩ = some (.int .u64 x170001_12) := (blk_cell BK169.out 1).trans rfl
                                    have hcz66_2 : wc.cell? ⟨gb169, 2, none⟩ = some (.int .u64 x170002_34) := (blk_cell BK169.out 2).trans rfl
                                    have hcz66_3 : wc.cell? ⟨gb169, 3, none⟩ = some (.int .i64 x170003_23) := (blk_cell BK169.out 3).trans rfl
                                    have hcz66_4 : wc.cell? ⟨gb169, 4, none⟩ = some (.int .i64 0) := (blk_cell BK169.out 4).trans rfl
                                    have hcz66_5 : wc.cell? ⟨gb169, 5, none⟩ = some (.int .i64 0) := (blk_cell BK169.out 5).trans rfl
                                    have hcz66_6 : wc.cell? ⟨gb169, 6, none⟩ = some (.string (⟨#[]⟩ : ByteArray)) := (blk_cell BK169.out 6).trans rfl
                                    have hfz66_0 := blk_frozen BK169.out 0
                                    have hfz66_1 := blk_frozen BK169.out 1
                                    have hfz66_2 := blk_frozen BK169.out 2
                                    have hfz66_3 := blk_frozen BK169.out 3
                                    have hfz66_4 := blk_frozen BK169.out 4
                                    have hfz66_5 := blk_frozen BK169.out 5
                                    have hfz66_6 := blk_frozen BK169.out 6
                                    go_wp2
                                    go_ret
                                    exact ⟨by first | rfl | (simp [errW_none, errW_some] <;> rfl) | (simp [*, errW_none, errW_some] <;> rfl), by repeat (first | (with_reducible first | exact HB.out | apply below_alloc | apply pw_below_drewN | apply below_drew1 | refine below_set ?_ GE168.out | refine below_set ?_ GE169.out) | exact HB.out)⟩
                                · rw [if_neg c51] at H
                                  have c51b0 : decide (a0_4 ≤ 7) = false := decide_eq_false c51
                                  clear c51
                                  obtain rfl := Option.some.inj H
                                  have hnb67 := NB168_169.out
                                  have hnc67 := NB169_168.out
                                  have hcz68_0 : wc.cell? ⟨gb168, 0, none⟩ = some (.int .i64 a0_0) := (blk_cell BK168.out 0).trans rfl
                                  have hcz68_1 : wc.cell? ⟨gb168, 1, none⟩ = some (.int .u64 a0_1) := (blk_cell BK168.out 1).trans rfl
                                  have hcz68_2 : wc.cell? ⟨gb168, 2, none⟩ = some (.int .u64 a0_2) := (blk_cell BK168.out 2).trans rfl
                                  have hcz68_3 : wc.cell? ⟨gb168, 3, none⟩ = some (.int .i64 a0_3) := (blk_cell BK168.out 3).trans rfl
                                  have hcz68_4 : wc.cell? ⟨gb168, 4, none⟩ = some (.int .i64 a0_4) := (blk_cell BK168.out 4).trans rfl
                                  have hcz68_5 : wc.cell? ⟨gb168, 5, none⟩ = some (.int .i64 a0_5) := (blk_cell BK168.out 5).trans rfl
                                  have hcz68_6 : wc.cell? ⟨gb168, 6, none⟩ = some (.string a0_6) := (blk_cell BK168.out 6).trans rfl
                                  have hfz68_0 := blk_frozen BK168.out 0
                                  have hfz68_1 := blk_frozen BK168.out 1
                                  have hfz68_2 := blk_frozen BK168.out 2
                                  have hfz68_3 := blk_frozen BK168.out 3
                                  have hfz68_4 := blk_frozen BK168.out 4
                                  have hfz68_5 := blk_frozen BK168.out 5
                                  have hfz68_6 := blk_frozen BK168.out 6
                                  have hcz69_0 : wc.cell? ⟨gb169, 0, none⟩ = some (.int .i64 a0_0) := (blk_cell BK169.out 0).trans rfl
                                  have hcz69_1 : wc.cell? ⟨gb169, 1, none⟩ = some (.int .u64 x170001_12) := (blk_cell BK169.out 1).trans rfl
                                  have hcz69_2 : wc.cell? ⟨gb169, 2, none⟩ = some (.int .u64 x170002_34) := (blk_cell BK169.out 2).trans rfl
                                  have hcz69_3 : wc.cell? ⟨gb169, 3, none⟩ = some (.int .i64 x170003_23) := (blk_cell BK169.out 3).trans rfl
                                  have hcz69_4 : wc.cell? ⟨gb169, 4, none⟩ = some (.int .i64 0) := (blk_cell BK169.out 4).trans rfl
                                  have hcz69_5 : wc.cell? ⟨gb169, 5, none⟩ = some (.int .i64 0) := (blk_cell BK169.out 5).trans rfl
                                  have hcz69_6 : wc.cell? ⟨gb169, 6, none⟩ = some (.string (⟨#[]⟩ : ByteArray)) := (blk_cell BK169.out 6).trans rfl
                                  have hfz69_0 := blk_frozen BK169.out 0
                                  have hfz69_1 := blk_frozen BK169.out 1
                                  have hfz69_2 := blk_frozen BK169.out 2
                                  have hfz69_3 := blk_frozen BK169.out 3
                                  have hfz69_4 := blk_frozen BK169.out 4
                                  have hfz69_5 := blk_frozen BK169.out 5
                                  have hfz69_6 := blk_frozen BK169.out 6
                                  go_wp2
                                  go_ret
                                  exact ⟨by first | rfl | (simp [errW_none, errW_some] <;> rfl) | (simp [*, errW_none, errW_some] <;> rfl), by repeat (first | (with_reducible first | exact HB.out | apply below_alloc | apply pw_below_drewN | apply below_drew1 | refine below_set ?_ GE168.out | refine below_set ?_ GE169.out) | exact HB.out)⟩
                              · rw [if_neg c50] at H
                                have c50b0 : (a0_0 == 6) = false := beq_eq_false_iff_ne.mpr c50
                                have c50b1 : (a0_0 != 6) = true := bne_iff_ne.mpr c50
                                by_cases c70 : a0_4 ≤ 7
                                · rw [if_pos c70] at H
                                  have c70b0 : decide (a0_4 ≤ 7) = true := decide_eq_true c70
                                  clear c70
                                  obtain rfl := Option.some.inj H
                                  have hnb71 := NB168_169.out
                                  have hnc71 := NB169_168.out
                                  have hcz72_0 : wc.cell? ⟨gb168, 0, none⟩ = some (.int .i64 a0_0) := (blk_cell BK168.out 0).trans rfl
                                  have hcz72_1 : wc.cell? ⟨gb168, 1, none⟩ = some (.int .u64 a0_1) := (blk_cell BK168.out 1).trans rfl
                                  have hcz72_2 : wc.cell? ⟨gb168, 2, none⟩ = some (.int .u64 a0_2) := (blk_cell BK168.out 2).trans rfl
                                  have hcz72_3 : wc.cell? ⟨gb168, 3, none⟩ = some (.int .i64 a0_3) := (blk_cell BK168.out 3).trans rfl
                                  have hcz72_4 : wc.cell? ⟨gb168, 4, none⟩ = some (.int .i64 a0_4) := (blk_cell BK168.out 4).trans rfl
                                  have hcz72_5 : wc.cell? ⟨gb168, 5, none⟩ = some (.int .i64 a0_5) := (blk_cell BK168.out 5).trans rfl
                                  have hcz72_6 : wc.cell? ⟨gb168, 6, none⟩ = some (.string a0_6) := (blk_cell BK168.out 6).trans rfl
                                  have hfz72_0 := blk_frozen BK168.out 0
                                  have hfz72_1 := blk_frozen BK168.out 1
                                  have hfz72_2 := blk_frozen BK168.out 2
                                  have hfz72_3 := blk_frozen BK168.out 3
                                  have hfz72_4 := blk_frozen BK168.out 4
                                  have hfz72_5 := blk_frozen BK168.out 5
                                  have hfz72_6 := blk_frozen BK168.out 6
                                  have hcz73_0 : wc.cell? ⟨gb169, 0, none⟩ = some (.int .i64 a0_0) := (blk_cell BK169.out 0).trans rfl
                                  have hcz73_1 : wc.cell? ⟨gb169, 1, none⟩ = some (.int .u64 x170001_12) := (blk_cell BK169.out 1).trans rfl
                                  have hcz73_2 : wc.cell? ⟨gb169, 2, none⟩ = some (.int .u64 x170002_34) := (blk_cell BK169.out 2).trans rfl
                                  have hcz73_3 : wc.cell? ⟨gb169, 3, none⟩ = some (.int .i64 x170003_23) := (blk_cell BK169.out 3).trans rfl
                                  have hcz73_4 : wc.cell? ⟨gb169, 4, none⟩ = some (.int .i64 0) := (blk_cell BK169.out 4).trans rfl
                                  have hcz73_5 : wc.cell? ⟨gb169, 5, none⟩ = some (.int .i64 0) := (blk_cell BK169.out 5).trans rfl
                                  have hcz73_6 : wc.cell? ⟨gb169, 6, none⟩ = some (.string (⟨#[]⟩ : ByteArray)) := (blk_cell BK169.out 6).trans rfl
                                  have hfz73_0 := blk_frozen BK169.out 0
                                  have hfz73_1 := blk_frozen BK169.out 1
                                  have hfz73_2 := blk_frozen BK169.out 2
                                  have hfz73_3 := blk_frozen BK169.out 3
                                  have hfz73_4 := blk_frozen BK169.out 4
                                  have hfz73_5 := blk_frozen BK169.out 5
                                  have hfz73_6 := blk_frozen BK169.out 6
                                  go_wp2
                                  go_ret
                                  exact ⟨by first | rfl | (simp [errW_none, errW_some] <;> rfl) | (simp [*, errW_none, errW_some] <;> rfl), by repeat (first | (with_reducible first | exact HB.out | apply below_alloc | apply pw_below_drewN | apply below_drew1 | refine below_set ?_ GE168.out | refine below_set ?_ GE169.out) | exact HB.out)⟩
                                · rw [if_neg c70] at H
                                  have c70b0 : decide (a0_4 ≤ 7) = false := decide_eq_false c70
                                  clear c70
                                  obtain rfl := Option.some.inj H
                                  have hnb74 := NB168_169.out
                                  have hnc74 := NB169_168.out
                                  have hcz75_0 : wc.cell? ⟨gb168, 0, none⟩ = some (.int .i64 a0_0) := (blk_cell BK168.out 0).trans rfl
                                  have hcz75_1 : wc.cell? ⟨gb168, 1, none⟩ = some (.int .u64 a0_1) := (blk_cell BK168.out 1).trans rfl
                                  have hcz75_2 : wc.cell? ⟨gb168, 2, none⟩ = some (.int .u64 a0_2) := (blk_cell BK168.out 2).trans rfl
                                  have hcz75_3 : wc.cell? ⟨gb168, 3, none⟩ = some (.int .i64 a0_3) := (blk_cell BK168.out 3).trans rfl
                                  have hcz75_4 : wc.cell? ⟨gb168, 4, none⟩ = some (.int .i64 a0_4) := (blk_cell BK168.out 4).trans rfl
                                  have hcz75_5 : wc.cell? ⟨gb168, 5, none⟩ = some (.int .i64 a0_5) := (blk_cell BK168.out 5).trans rfl
                                  have hcz75_6 : wc.cell? ⟨gb168, 6, none⟩ = some (.string a0_6) := (blk_cell BK168.out 6).trans rfl
                                  have hfz75_0 := blk_frozen BK168.out 0
                                  have hfz75_1 := blk_frozen BK168.out 1
                                  have hfz75_2 := blk_frozen BK168.out 2
                                  have hfz75_3 := blk_frozen BK168.out 3
                                  have hfz75_4 := blk_frozen BK168.out 4
                                  have hfz75_5 := blk_frozen BK168.out 5
                                  have hfz75_6 := blk_frozen BK168.out 6
                                  have hcz76_0 : wc.cell? ⟨gb169, 0, none⟩ = some (.int .i64 a0_0) := (blk_cell BK169.out 0).trans rfl
                                  have hcz76_1 : wc.cell? ⟨gb169, 1, none⟩ = some (.int .u64 x170001_12) := (blk_cell BK169.out 1).trans rfl
                                  have hcz76_2 : wc.cell? ⟨gb169, 2, none⟩ = some (.int .u64 x170002_34) := (blk_cell BK169.out 2).trans rfl
                                  have hcz76_3 : wc.cell? ⟨gb169, 3, none⟩ = some (.int .i64 x170003_23) := (blk_cell BK169.out 3).trans rfl
                                  have hcz76_4 : wc.cell? ⟨gb169, 4, none⟩ = some (.int .i64 0) := (blk_cell BK169.out 4).trans rfl
                                  have hcz76_5 : wc.cell? ⟨gb169, 5, none⟩ = some (.int .i64 0) := (blk_cell BK169.out 5).trans rfl
                                  have hcz76_6 : wc.cell? ⟨gb169, 6, none⟩ = some (.string (⟨#[]⟩ : ByteArray)) := (blk_cell BK169.out 6).trans rfl
                                  have hfz76_0 := blk_frozen BK169.out 0
                                  have hfz76_1 := blk_frozen BK169.out 1
                                  have hfz76_2 := blk_frozen BK169.out 2
                                  have hfz76_3 := blk_frozen BK169.out 3
                                  have hfz76_4 := blk_frozen BK169.out 4
                                  have hfz76_5 := blk_frozen BK169.out 5
                                  have hfz76_6 := blk_frozen BK169.out 6
                                  go_wp2
                                  go_ret
                                  exact ⟨by first | rfl | (simp [errW_none, errW_some] <;> rfl) | (simp [*, errW_none, errW_some] <;> rfl), by repeat (first | (with_reducible first | exact HB.out | apply below_alloc | apply pw_below_drewN | apply below_drew1 | refine below_set ?_ GE168.out | refine below_set ?_ GE169.out) | exact HB.out)⟩
                            · rw [if_neg c49] at H
                              have c49b0 : decide (0 ≤ a0_4) = false := decide_eq_false c49
                              clear c49
                              by_cases c77 : a0_0 = 6
                              · rw [if_pos c77] at H
                                have c77b0 : (a0_0 == 6) = true := beq_iff_eq.mpr c77
                                have c77b1 : (a0_0 != 6) = false := bne_eq_false_iff_eq.mpr c77
                                clear c77
                                obtain rfl := Option.some.inj H
                                have hnb78 := NB168_169.out
                                have hnc78 := NB169_168.out
                                have hcz79_0 : wc.cell? ⟨gb168, 0, none⟩ = some (.int .i64 a0_0) := (blk_cell BK168.out 0).trans rfl
                                have hcz79_1 : wc.cell? ⟨gb168, 1, none⟩ = some (.int .u64 a0_1) := (blk_cell BK168.out 1).trans rfl
                                have hcz79_2 : wc.cell? ⟨gb168, 2, none⟩ = some (.int .u64 a0_2) := (blk_cell BK168.out 2).trans rfl
                                have hcz79_3 : wc.cell? ⟨gb168, 3, none⟩ = some (.int .i64 a0_3) := (blk_cell BK168.out 3).trans rfl
                                have hcz79_4 : wc.cell? ⟨gb168, 4, none⟩ = some (.int .i64 a0_4) := (blk_cell BK168.out 4).trans rfl
                                have hcz79_5 : wc.cell? ⟨gb168, 5, none⟩ = some (.int .i64 a0_5) := (blk_cell BK168.out 5).trans rfl
                                have hcz79_6 : wc.cell? ⟨gb168, 6, none⟩ = some (.string a0_6) := (blk_cell BK168.out 6).trans rfl
                                have hfz79_0 := blk_frozen BK168.out 0
                                have hfz79_1 := blk_frozen BK168.out 1
                                have hfz79_2 := blk_frozen BK168.out 2
                                have hfz79_3 := blk_frozen BK168.out 3
                                have hfz79_4 := blk_frozen BK168.out 4
                                have hfz79_5 := blk_frozen BK168.out 5
                                have hfz79_6 := blk_frozen BK168.out 6
                                have hcz80_0 : wc.cell? ⟨gb169, 0, none⟩ = some (.int .i64 a0_0) := (blk_cell BK169.out 0).trans rfl
                                have hcz80_1 : wc.cell? ⟨gb169, 1, none⟩ = some (.int .u64 x170001_12) := (blk_cell BK169.out 1).trans rfl
                                have hcz80_2 : wc.cell? ⟨gb169, 2, none⟩ = some (.int .u64 x170002_34) := (blk_cell BK169.out 2).trans rfl
                                have hcz80_3 : wc.cell? ⟨gb169, 3, none⟩ = some (.int .i64 x170003_23) := (blk_cell BK169.out 3).trans rfl
                                have hcz80_4 : wc.cell? ⟨gb169, 4, none⟩ = some (.int .i64 0) := (blk_cell BK169.out 4).trans rfl
                                have hcz80_5 : wc.cell? ⟨gb169, 5, none⟩ = some (.int .i64 0) := (blk_cell BK169.out 5).trans rfl
                                have hcz80_6 : wc.cell? ⟨gb169, 6, none⟩ = some (.string (⟨#[]⟩ : ByteArray)) := (blk_cell BK169.out 6).trans rfl
                                have hfz80_0 := blk_frozen BK169.out 0
                                have hfz80_1 := blk_frozen BK169.out 1
                                have hfz80_2 := blk_frozen BK169.out 2
                                have hfz80_3 := blk_frozen BK169.out 3
                                have hfz80_4 := blk_frozen BK169.out 4
                                have hfz80_5 := blk_frozen BK169.out 5
                                have hfz80_6 := blk_frozen BK169.out 6
                                go_wp2
                                go_ret
                                exact ⟨by first | rfl | (simp [errW_none, errW_some] <;> rfl) | (simp [*, errW_none, errW_some] <;> rfl), by repeat (first | (with_reducible first | exact HB.out | apply below_alloc | apply pw_below_drewN | apply below_drew1 | refine below_set ?_ GE168.out | refine below_set ?_ GE169.out) | exact HB.out)⟩
                              · rw [if_neg c77] at H
                                have c77b0 : (a0_0 == 6) = false := beq_eq_false_iff_ne.mpr c77
                                have c77b1 : (a0_0 != 6) = true := bne_iff_ne.mpr c77
                                obtain rfl := Option.some.inj H
                                have hnb81 := NB168_169.out
                                have hnc81 := NB169_168.out
                                have hcz82_0 : wc.cell? ⟨gb168, 0, none⟩ = some (.int .i64 a0_0) := (blk_cell BK168.out 0).trans rfl
                                have hcz82_1 : wc.cell? ⟨gb168, 1, none⟩ = some (.int .u64 a0_1) := (blk_cell BK168.out 1).trans rfl
                                have hcz82_2 : wc.cell? ⟨gb168, 2, none⟩ = some (.int .u64 a0_2) := (blk_cell BK168.out 2).trans rfl
                                have hcz82_3 : wc.cell? ⟨gb168, 3, none⟩ = some (.int .i64 a0_3) := (blk_cell BK168.out 3).trans rfl
                                have hcz82_4 : wc.cell? ⟨gb168, 4, none⟩ = some (.int .i64 a0_4) := (blk_cell BK168.out 4).trans rfl
                                have hcz82_5 : wc.cell? ⟨gb168, 5, none⟩ = some (.int .i64 a0_5) := (blk_cell BK168.out 5).trans rfl
                                have hcz82_6 : wc.cell? ⟨gb168, 6, none⟩ = some (.string a0_6) := (blk_cell BK168.out 6).trans rfl
                                have hfz82_0 := blk_frozen BK168.out 0
                                have hfz82_1 := blk_frozen BK168.out 1
                                have hfz82_2 := blk_frozen BK168.out 2
                                have hfz82_3 := blk_frozen BK168.out 3
                                have hfz82_4 := blk_frozen BK168.out 4
                                have hfz82_5 := blk_frozen BK168.out 5
                                have hfz82_6 := blk_frozen BK168.out 6
                                have hcz83_0 : wc.cell? ⟨gb169, 0, none⟩ = some (.int .i64 a0_0) := (blk_cell BK169.out 0).trans rfl
                                have hcz83_1 : wc.cell? ⟨gb169, 1, none⟩ = some (.int .u64 x170001_12) := (blk_cell BK169.out 1).trans rfl
                                have hcz83_2 : wc.cell? ⟨gb169, 2, none⟩ = some (.int .u64 x170002_34) := (blk_cell BK169.out 2).trans rfl
                                have hcz83_3 : wc.cell? ⟨gb169, 3, none⟩ = some (.int .i64 x170003_23) := (blk_cell BK169.out 3).trans rfl
                                have hcz83_4 : wc.cell? ⟨gb169, 4, none⟩ = some (.int .i64 0) := (blk_cell BK169.out 4).trans rfl
                                have hcz83_5 : wc.cell? ⟨gb169, 5, none⟩ = some (.int .i64 0) := (blk_cell BK169.out 5).trans rfl
                                have hcz83_6 : wc.cell? ⟨gb169, 6, none⟩ = some (.string (⟨#[]⟩ : ByteArray)) := (blk_cell BK169.out 6).trans rfl
                                have hfz83_0 := blk_frozen BK169.out 0
                                have hfz83_1 := blk_frozen BK169.out 1
                                have hfz83_2 := blk_frozen BK169.out 2
                                have hfz83_3 := blk_frozen BK169.out 3
                                have hfz83_4 := blk_frozen BK169.out 4
                                have hfz83_5 := blk_frozen BK169.out 5
                                have hfz83_6 := blk_frozen BK169.out 6
                                go_wp2
                                go_ret
                                exact ⟨by first | rfl | (simp [errW_none, errW_some] <;> rfl) | (simp [*, errW_none, errW_some] <;> rfl), by repeat (first | (with_reducible first | exact HB.out | apply below_alloc | apply pw_below_drewN | apply below_drew1 | refine below_set ?_ GE168.out | refine below_set ?_ GE169.out) | exact HB.out)⟩
                          · replace c48 := Bool.eq_false_iff.mpr c48
                            subst c48
                            have H1 : (if a0_0 = 6 then (if x4_23 = true then (if a0_5 ≥ 0 then (if a0_5 ≤ 3 then (if (a0_6.size : Int) ≤ 16 then (some (a0_0 == a0_0 && (x170001_12 == a0_1 && (x170002_34 == a0_2 && (x170003_23 == a0_3 && (0 == a0_4)))))) else (some false)) else (some false)) else (some false)) else (some false)) else (if x4_23 = true then (some (a0_0 == a0_0 && (x170001_12 == a0_1 && (x170002_34 == a0_2 && (x170003_23 == a0_3 && (0 == a0_4 && (0 == a0_5 && ((⟨#[]⟩ : ByteArray).toList == a0_6.toList)))))))) else (some false))) = some r := by rw [if_neg (show ¬ (false = true) by decide)] at H; exact H
                            clear H
                            have H := H1
                            clear H1
                            by_cases c84 : a0_0 = 6
                            · rw [if_pos c84] at H
                              have c84b0 : (a0_0 == 6) = true := beq_iff_eq.mpr c84
                              have c84b1 : (a0_0 != 6) = false := bne_eq_false_iff_eq.mpr c84
                              clear c84
                              by_cases c85 : x4_23 = true
                              · subst c85
                                have H1 : (if a0_5 ≥ 0 then (if a0_5 ≤ 3 then (if (a0_6.size : Int) ≤ 16 then (some (a0_0 == a0_0 && (x170001_12 == a0_1 && (x170002_34 == a0_2 && (x170003_23 == a0_3 && (0 == a0_4)))))) else (some false)) else (some false)) else (some false)) = some r := by rw [if_pos rfl] at H; exact H
                                clear H
                                have H := H1
                                clear H1
                                by_cases c86 : a0_5 ≥ 0
                                · rw [if_pos c86] at H
                                  have c86b0 : decide (0 ≤ a0_5) = true := decide_eq_true c86
                                  clear c86
                                  by_cases c87 : a0_5 ≤ 3
                                  · rw [if_pos c87] at H
                                    have c87b0 : decide (a0_5 ≤ 3) = true := decide_eq_true c87
                                    clear c87
                                    by_cases c88 : (a0_6.size : Int) ≤ 16
                                    · rw [if_pos c88] at H
                                      have c88b0 : decide ((a0_6.size : Int) ≤ 16) = true := decide_eq_true c88
                                      have c88b1 : decide (a0_6.size ≤ 16) = true := decide_eq_true (by omega)
                                      clear c88
                                      obtain rfl := Option.some.inj H
                                      have hnb89 := NB168_169.out
                                      have hnc89 := NB169_168.out
                                      have hcz90_0 : wc.cell? ⟨gb168, 0, none⟩ = some (.int .i64 a0_0) := (blk_cell BK168.out 0).trans rfl
                                      have hcz90_1 : wc.cell? ⟨gb168, 1, none⟩ = some (.int .u64 a0_1) := (blk_cell BK168.out 1).trans rfl
                                      have hcz90_2 : wc.cell? ⟨gb168, 2, none⟩ = some (.int .u64 a0_2) := (blk_cell BK168.out 2).trans rfl
                                      have hcz90_3 : wc.cell? ⟨gb168, 3, none⟩ = some (.int .i64 a0_3) := (blk_cell BK168.out 3).trans rfl
                                      have hcz90_4 : wc.cell? ⟨gb168, 4, none⟩ = some (.int .i64 a0_4) := (blk_cell BK168.out 4).trans rfl
                                      have hcz90_5 : wc.cell? ⟨gb168, 5, none⟩ = some (.int .i64 a0_5) := (blk_cell BK168.out 5).trans rfl
                                      have hcz90_6 : wc.cell? ⟨gb168, 6, none⟩ = some (.string a0_6) := (blk_cell BK168.out 6).trans rfl
                                      have hfz90_0 := blk_frozen BK168.out 0
                                      have hfz90_1 := blk_frozen BK168.out 1
                                      have hfz90_2 := blk_frozen BK168.out 2
                                      have hfz90_3 := blk_frozen BK168.out 3
                                      have hfz90_4 := blk_frozen BK168.out 4
                                      have hfz90_5 := blk_frozen BK168.out 5
                                      have hfz90_6 := blk_frozen BK168.out 6
                                      have hcz91_0 : wc.cell? ⟨gb169, 0, none⟩ = some (.int .i64 a0_0) := (blk_cell BK169.out 0).trans rfl
                                      have hcz91_1 : wc.cell? ⟨gb169, 1, none⟩ = some (.int .u64 x170001_12) := (blk_cell BK169.out 1).trans rfl
                                      have hcz91_2 : wc.cell? ⟨gb169, 2, none⟩ = some (.int .u64 x170002_34) := (blk_cell BK169.out 2).trans rfl
                                      have hcz91_3 : wc.cell? ⟨gb169, 3, none⟩ = some (.int .i64 x170003_23) := (blk_cell BK169.out 3).trans rfl
                                      have hcz91_4 : wc.cell? ⟨gb169, 4, none⟩ = some (.int .i64 0) := (blk_cell BK169.out 4).trans rfl
                                      have hcz91_5 : wc.cell? ⟨gb169, 5, none⟩ = some (.int .i64 0) := (blk_cell BK169.out 5).trans rfl
                                      have hcz91_6 : wc.cell? ⟨gb169, 6, none⟩ = some (.string (⟨#[]⟩ : ByteArray)) := (blk_cell BK169.out 6).trans rfl
                                      have hfz91_0 := blk_frozen BK169.out 0
                                      have hfz91_1 := blk_frozen BK169.out 1
                                      have hfz91_2 := blk_frozen BK169.out 2
                                      have hfz91_3 := blk_frozen BK169.out 3
                                      have hfz91_4 := blk_frozen BK169.out 4
                                      have hfz91_5 := blk_frozen BK169.out 5
                                      have hfz91_6 := blk_frozen BK169.out 6
                                      go_wp2
                                      go_ret
                                      exact ⟨by first | rfl | (simp [errW_none, errW_some] <;> rfl) | (simp [*, errW_none, errW_some] <;> rfl), by repeat (first | (with_reducible first | exact HB.out | apply below_alloc | apply pw_below_drewN | apply below_drew1 | refine below_set ?_ GE168.out | refine below_set ?_ GE169.out) | exact HB.out)⟩
                                    · rw [if_neg c88] at H
                                      have c88b0 : decide ((a0_6.size : Int) ≤ 16) = false := decide_eq_false c88
                                      have c88b1 : decide (a0_6.size ≤ 16) = false := decide_eq_false (by omega)
                                      clear c88
                                      obtain rfl := Option.some.inj H
                                      have hnb92 := NB168_169.out
                                      have hnc92 := NB169_168.out
                                      have hcz93_0 : wc.cell? ⟨gb168, 0, none⟩ = some (.int .i64 a0_0) := (blk_cell BK168.out 0).trans rfl
                                      have hcz93_1 : wc.cell? ⟨gb168, 1, none⟩ = some (.int .u64 a0_1) := (blk_cell BK168.out 1).trans rfl
                                      have hcz93_2 : wc.cell? ⟨gb168, 2, none⟩ = some (.int .u64 a0_2) := (blk_cell BK168.out 2).trans rfl
                                      have hcz93_3 : wc.cell? ⟨gb168, 3, none⟩ = some (.int .i64 a0_3) := (blk_cell BK168.out 3).trans rfl
                                      have hcz93_4 : wc.cell? ⟨gb168, 4, none⟩ = some (.int .i64 a0_4) := (blk_cell BK168.out 4).trans rfl
                                      have hcz93_5 : wc.cell? ⟨gb168, 5, none⟩ = some (.int .i64 a0_5) := (blk_cell BK168.out 5).trans rfl
                                      have hcz93_6 : wc.cell? ⟨gb168, 6, none⟩ = some (.string a0_6) := (blk_cell BK168.out 6).trans rfl
                                      have hfz93_0 := blk_frozen BK168.out 0
                                      have hfz93_1 := blk_frozen BK168.out 1
                                      have hfz93_2 := blk_frozen BK168.out 2
                                      have hfz93_3 := blk_frozen BK168.out 3
                                      have hfz93_4 := blk_frozen BK168.out 4
                                      have hfz93_5 := blk_frozen BK168.out 5
                                      have hfz93_6 := blk_frozen BK168.out 6
                                      have hcz94_0 : wc.cell? ⟨gb169, 0, none⟩ = some (.int .i64 a0_0) := (blk_cell BK169.out 0).trans rfl
                                      have hcz94_1 : wc.cell? ⟨gb169, 1, none⟩ = some (.int .u64 x170001_12) := (blk_cell BK169.out 1).trans rfl
                                      have hcz94_2 : wc.cell? ⟨gb169, 2, none⟩ = some (.int .u64 x170002_34) := (blk_cell BK169.out 2).trans rfl
                                      have hcz94_3 : wc.cell? ⟨gb169, 3, none⟩ = some (.int .i64 x170003_23) := (blk_cell BK169.out 3).trans rfl
                                      have hcz94_4 : wc.cell? ⟨gb169, 4, none⟩ = some (.int .i64 0) := (blk_cell BK169.out 4).trans rfl
                                      have hcz94_5 : wc.cell? ⟨gb169, 5, none⟩ = some (.int .i64 0) := (blk_cell BK169.out 5).trans rfl
                                      have hcz94_6 : wc.cell? ⟨gb169, 6, none⟩ = some (.string (⟨#[]⟩ : ByteArray)) := (blk_cell BK169.out 6).trans rfl
                                      have hfz94_0 := blk_frozen BK169.out 0
                                      have hfz94_1 := blk_frozen BK169.out 1
                                      have hfz94_2 := blk_frozen BK169.out 2
                                      have hfz94_3 := blk_frozen BK169.out 3
                                      have hfz94_4 := blk_frozen BK169.out 4
                                      have hfz94_5 := blk_frozen BK169.out 5
                                      have hfz94_6 := blk_frozen BK169.out 6
                                      go_wp2
                                      go_ret
                                      exact ⟨by first | rfl | (simp [errW_none, errW_some] <;> rfl) | (simp [*, errW_none, errW_some] <;> rfl), by repeat (first | (with_reducible first | exact HB.out | apply below_alloc | apply pw_below_drewN | apply below_drew1 | refine below_set ?_ GE168.out | refine below_set ?_ GE169.out) | exact HB.out)⟩
                                  · rw [if_neg c87] at H
                                    have c87b0 : decide (a0_5 ≤ 3) = false := decide_eq_false c87
                                    clear c87
                                    obtain rfl := Option.some.inj H
                                    have hnb95 := NB168_169.out
                                    have hnc95 := NB169_168.out
                                    have hcz96_0 : wc.cell? ⟨gb168, 0, none⟩ = some (.int .i64 a0_0) := (blk_cell BK168.out 0).trans rfl
                                    have hcz96_1 : wc.cell? ⟨gb168, 1, none⟩ = some (.int .u64 a0_1) := (blk_cell BK168.out 1).trans rfl
                                    have hcz96_2 : wc.cell? ⟨gb168, 2, none⟩ = some (.int .u64 a0_2) := (blk_cell BK168.out 2).trans rfl
                                    have hcz96_3 : wc.cell? ⟨gb168, 3, none⟩ = some (.int .i64 a0_3) := (blk_cell BK168.out 3).trans rfl
                                    have hcz96_4 : wc.cell? ⟨gb168, 4, none⟩ = some (.int .i64 a0_4) := (blk_cell BK168.out 4).trans rfl
                                    have hcz96_5 : wc.cell? ⟨gb168, 5, none⟩ = some (.int .i64 a0_5) := (blk_cell BK168.out 5).trans rfl
                                    have hcz96_6 : wc.cell? ⟨gb168, 6, none⟩ = some (.string a0_6) := (blk_cell BK168.out 6).trans rfl
                                    have hfz96_0 := blk_frozen BK168.out 0
                                    have hfz96_1 := blk_frozen BK168.out 1
                                    have hfz96_2 := blk_frozen BK168.out 2
                                    have hfz96_3 := blk_frozen BK168.out 3
                                    have hfz96_4 := blk_frozen BK168.out 4
                                    have hfz96_5 := blk_frozen BK168.out 5
                                    have hfz96_6 := blk_frozen BK168.out 6
                                    have hcz97_0 : wc.cell? ⟨gb169, 0, none⟩ = some (.int .i64 a0_0) := (blk_cell BK169.out 0).trans rfl
                                    have hcz97_1 : wc.cell? ⟨gb169, 1, none⟩ = some (.int .u64 x170001_12) := (blk_cell BK169.out 1).trans rfl
                                    have hcz97_2 : wc.cell? ⟨gb169, 2, none⟩ = some (.int .u64 x170002_34) := (blk_cell BK169.out 2).trans rfl
                                    have hcz97_3 : wc.cell? ⟨gb169, 3, none⟩ = some (.int .i64 x170003_23) := (blk_cell BK169.out 3).trans rfl
                                    have hcz97_4 : wc.cell? ⟨gb169, 4, none⟩ = some (.int .i64 0) := (blk_cell BK169.out 4).trans rfl
                                    have hcz97_5 : wc.cell? ⟨gb169, 5, none⟩ = some (.int .i64 0) := (blk_cell BK169.out 5).trans rfl
                                    have hcz97_6 : wc.cell? ⟨gb169, 6, none⟩ = some (.string (⟨#[]⟩ : ByteArray)) := (blk_cell BK169.out 6).trans rfl
                                    have hfz97_0 := blk_frozen BK169.out 0
                                    have hfz97_1 := blk_frozen BK169.out 1
                                    have hfz97_2 := blk_frozen BK169.out 2
                                    have hfz97_3 := blk_frozen BK169.out 3
                                    have hfz97_4 := blk_frozen BK169.out 4
                                    have hfz97_5 := blk_frozen BK169.out 5
                                    have hfz97_6 := blk_frozen BK169.out 6
                                    go_wp2
                                    go_ret
                                    exact ⟨by first | rfl | (simp [errW_none, errW_some] <;> rfl) | (simp [*, errW_none, errW_some] <;> rfl), by repeat (first | (with_reducible first | exact HB.out | apply below_alloc | apply pw_below_drewN | apply below_drew1 | refine below_set ?_ GE168.out | refine below_set ?_ GE169.out) | exact HB.out)⟩
                                · rw [if_neg c86] at H
                                  have c86b0 : decide (0 ≤ a0_5) = false := decide_eq_false c86
                                  clear c86
                                  obtain rfl := Option.some.inj H
                                  have hnb98 := NB168_169.out
                                  have hnc98 := NB169_168.out
                                  have hcz99_0 : wc.cell? ⟨gb168, 0, none⟩ = some (.int .i64 a0_0) := (blk_cell BK168.out 0).trans rfl
                                  have hcz99_1 : wc.cell? ⟨gb168, 1, none⟩ = some (.int .u64 a0_1) := (blk_cell BK168.out 1).trans rfl
                                  have hcz99_2 : wc.cell? ⟨gb168, 2, none⟩ = some (.int .u64 a0_2) := (blk_cell BK168.out 2).trans rfl
                                  have hcz99_3 : wc.cell? ⟨gb168, 3, none⟩ = some (.int .i64 a0_3) := (blk_cell BK168.out 3).trans rfl
                                  have hcz99_4 : wc.cell? ⟨gb168, 4, none⟩ = some (.int .i64 a0_4) := (blk_cell BK168.out 4).trans rfl
                                  have hcz99_5 : wc.cell? ⟨gb168, 5, none⟩ = some (.int .i64 a0_5) := (blk_cell BK168.out 5).trans rfl
                                  have hcz99_6 : wc.cell? ⟨gb168, 6, none⟩ = some (.string a0_6) := (blk_cell BK168.out 6).trans rfl
                                  have hfz99_0 := blk_frozen BK168.out 0
                                  have hfz99_1 := blk_frozen BK168.out 1
                                  have hfz99_2 := blk_frozen BK168.out 2
                                  have hfz99_3 := blk_frozen BK168.out 3
                                  have hfz99_4 := blk_frozen BK168.out 4
                                  have hfz99_5 := blk_frozen BK168.out 5
                                  have hfz99_6 := blk_frozen BK168.out 6
                                  have hcz100_0 : wc.cell? ⟨gb169, 0, none⟩ = some (.int .i64 a0_0) := (blk_cell BK169.out 0).trans rfl
                                  have hcz100_1 : wc.cell? ⟨gb169, 1, none⟩ = some (.int .u64 x170001_12) := (blk_cell BK169.out 1).trans rfl
                                  have hcz100_2 : wc.cell? ⟨gb169, 2, none⟩ = some (.int .u64 x170002_34) := (blk_cell BK169.out 2).trans rfl
                                  have hcz100_3 : wc.cell? ⟨gb169, 3, none⟩ = some (.int .i64 x170003_23) := (blk_cell BK169.out 3).trans rfl
                                  have hcz100_4 : wc.cell? ⟨gb169, 4, none⟩ = some (.int .i64 0) := (blk_cell BK169.out 4).trans rfl
                                  have hcz100_5 : wc.cell? ⟨gb169, 5, none⟩ = some (.int .i64 0) := (blk_cell BK169.out 5).trans rfl
                                  have hcz100_6 : wc.cell? ⟨gb169, 6, none⟩ = some (.string (⟨#[]⟩ : ByteArray)) := (blk_cell BK169.out 6).trans rfl
                                  have hfz100_0 := blk_frozen BK169.out 0
                                  have hfz100_1 := blk_frozen BK169.out 1
                                  have hfz100_2 := blk_frozen BK169.out 2
                                  have hfz100_3 := blk_frozen BK169.out 3
                                  have hfz100_4 := blk_frozen BK169.out 4
                                  have hfz100_5 := blk_frozen BK169.out 5
                                  have hfz100_6 := blk_frozen BK169.out 6
                                  go_wp2
                                  go_ret
                                  exact ⟨by first | rfl | (simp [errW_none, errW_some] <;> rfl) | (simp [*, errW_none, errW_some] <;> rfl), by repeat (first | (with_reducible first | exact HB.out | apply below_alloc | apply pw_below_drewN | apply below_drew1 | refine below_set ?_ GE168.out | refine below_set ?_ GE169.out) | exact HB.out)⟩
                              · replace c85 := Bool.eq_false_iff.mpr c85
                                subst c85
                                have H1 : (some false) = some r := by rw [if_neg (show ¬ (false = true) by decide)] at H; exact H
                                clear H
                                have H := H1
                                clear H1
                                obtain rfl := Option.some.inj H
                                have hnb101 := NB168_169.out
                                have hnc101 := NB169_168.out
                                have hcz102_0 : wc.cell? ⟨gb168, 0, none⟩ = some (.int .i64 a0_0) := (blk_cell BK168.out 0).trans rfl
                                have hcz102_1 : wc.cell? ⟨gb168, 1, none⟩ = some (.int .u64 a0_1) := (blk_cell BK168.out 1).trans rfl
                                have hcz102_2 : wc.cell? ⟨gb168, 2, none⟩ = some (.int .u64 a0_2) := (blk_cell BK168.out 2).trans rfl
                                have hcz102_3 : wc.cell? ⟨gb168, 3, none⟩ = some (.int .i64 a0_3) := (blk_cell BK168.out 3).trans rfl
                                have hcz102_4 : wc.cell? ⟨gb168, 4, none⟩ = some (.int .i64 a0_4) := (blk_cell BK168.out 4).trans rfl
                                have hcz102_5 : wc.cell? ⟨gb168, 5, none⟩ = some (.int .i64 a0_5) := (blk_cell BK168.out 5).trans rfl
                                have hcz102_6 : wc.cell? ⟨gb168, 6, none⟩ = some (.string a0_6) := (blk_cell BK168.out 6).trans rfl
                                have hfz102_0 := blk_frozen BK168.out 0
                                have hfz102_1 := blk_frozen BK168.out 1
                                have hfz102_2 := blk_frozen BK168.out 2
                                have hfz102_3 := blk_frozen BK168.out 3
                                have hfz102_4 := blk_frozen BK168.out 4
                                have hfz102_5 := blk_frozen BK168.out 5
                                have hfz102_6 := blk_frozen BK168.out 6
                                have hcz103_0 : wc.cell? ⟨gb169, 0, none⟩ = some (.int .i64 a0_0) := (blk_cell BK169.out 0).trans rfl
                                have hcz103_1 : wc.cell? ⟨gb169, 1, none⟩ = some (.int .u64 x170001_12) := (blk_cell BK169.out 1).trans rfl
                                have hcz103_2 : wc.cell? ⟨gb169, 2, none⟩ = some (.int .u64 x170002_34) := (blk_cell BK169.out 2).trans rfl
                                have hcz103_3 : wc.cell? ⟨gb169, 3, none⟩ = some (.int .i64 x170003_23) := (blk_cell BK169.out 3).trans rfl
                                have hcz103_4 : wc.cell? ⟨gb169, 4, none⟩ = some (.int .i64 0) := (blk_cell BK169.out 4).trans rfl
                                have hcz103_5 : wc.cell? ⟨gb169, 5, none⟩ = some (.int .i64 0) := (blk_cell BK169.out 5).trans rfl
                                have hcz103_6 : wc.cell? ⟨gb169, 6, none⟩ = some (.string (⟨#[]⟩ : ByteArray)) := (blk_cell BK169.out 6).trans rfl
                                have hfz103_0 := blk_frozen BK169.out 0
                                have hfz103_1 := blk_frozen BK169.out 1
                                have hfz103_2 := blk_frozen BK169.out 2
                                have hfz103_3 := blk_frozen BK169.out 3
                                have hfz103_4 := blk_frozen BK169.out 4
                                have hfz103_5 := blk_frozen BK169.out 5
                                have hfz103_6 := blk_frozen BK169.out 6
                                go_wp2
                                go_ret
                                exact ⟨by first | rfl | (simp [errW_none, errW_some] <;> rfl) | (simp [*, errW_none, errW_some] <;> rfl), by repeat (first | (with_reducible first | exact HB.out | apply below_alloc | apply pw_below_drewN | apply below_drew1 | refine below_set ?_ GE168.out | refine below_set ?_ GE169.out) | exact HB.out)⟩
                            · rw [if_neg c84] at H
                              have c84b0 : (a0_0 == 6) = false := beq_eq_false_iff_ne.mpr c84
                              have c84b1 : (a0_0 != 6) = true := bne_iff_ne.mpr c84
                              by_cases c104 : x4_23 = true
                              · subst c104
                                have H1 : (some (a0_0 == a0_0 && (x170001_12 == a0_1 && (x170002_34 == a0_2 && (x170003_23 == a0_3 && (0 == a0_4 && (0 == a0_5 && ((⟨#[]⟩ : ByteArray).toList == a0_6.toList)))))))) = some r := by rw [if_pos rfl] at H; exact H
                                clear H
                                have H := H1
                                clear H1
                                obtain rfl := Option.some.inj H
                                have hnb105 := NB168_169.out
                                have hnc105 := NB169_168.out
                                have hcz106_0 : wc.cell? ⟨gb168, 0, none⟩ = some (.int .i64 a0_0) := (blk_cell BK168.out 0).trans rfl
                                have hcz106_1 : wc.cell? ⟨gb168, 1, none⟩ = some (.int .u64 a0_1) := (blk_cell BK168.out 1).trans rfl
                                have hcz106_2 : wc.cell? ⟨gb168, 2, none⟩ = some (.int .u64 a0_2) := (blk_cell BK168.out 2).trans rfl
                                have hcz106_3 : wc.cell? ⟨gb168, 3, none⟩ = some (.int .i64 a0_3) := (blk_cell BK168.out 3).trans rfl
                                have hcz106_4 : wc.cell? ⟨gb168, 4, none⟩ = some (.int .i64 a0_4) := (blk_cell BK168.out 4).trans rfl
                                have hcz106_5 : wc.cell? ⟨gb168, 5, none⟩ = some (.int .i64 a0_5) := (blk_cell BK168.out 5).trans rfl
                                have hcz106_6 : wc.cell? ⟨gb168, 6, none⟩ = some (.string a0_6) := (blk_cell BK168.out 6).trans rfl
                                have hfz106_0 := blk_frozen BK168.out 0
                                have hfz106_1 := blk_frozen BK168.out 1
                                have hfz106_2 := blk_frozen BK168.out 2
                                have hfz106_3 := blk_frozen BK168.out 3
                                have hfz106_4 := blk_frozen BK168.out 4
                                have hfz106_5 := blk_frozen BK168.out 5
                                have hfz106_6 := blk_frozen BK168.out 6
                                have hcz107_0 : wc.cell? ⟨gb169, 0, none⟩ = some (.int .i64 a0_0) := (blk_cell BK169.out 0).trans rfl
                                have hcz107_1 : wc.cell? ⟨gb169, 1, none⟩ = some (.int .u64 x170001_12) := (blk_cell BK169.out 1).trans rfl
                                have hcz107_2 : wc.cell? ⟨gb169, 2, none⟩ = some (.int .u64 x170002_34) := (blk_cell BK169.out 2).trans rfl
                                have hcz107_3 : wc.cell? ⟨gb169, 3, none⟩ = some (.int .i64 x170003_23) := (blk_cell BK169.out 3).trans rfl
                                have hcz107_4 : wc.cell? ⟨gb169, 4, none⟩ = some (.int .i64 0) := (blk_cell BK169.out 4).trans rfl
                                have hcz107_5 : wc.cell? ⟨gb169, 5, none⟩ = some (.int .i64 0) := (blk_cell BK169.out 5).trans rfl
                                have hcz107_6 : wc.cell? ⟨gb169, 6, none⟩ = some (.string (⟨#[]⟩ : ByteArray)) := (blk_cell BK169.out 6).trans rfl
                                have hfz107_0 := blk_frozen BK169.out 0
                                have hfz107_1 := blk_frozen BK169.out 1
                                have hfz107_2 := blk_frozen BK169.out 2
                                have hfz107_3 := blk_frozen BK169.out 3
                                have hfz107_4 := blk_frozen BK169.out 4
                                have hfz107_5 := blk_frozen BK169.out 5
                                have hfz107_6 := blk_frozen BK169.out 6
                                go_wp2
                                go_ret
                                exact ⟨by first | rfl | (simp [errW_none, errW_some] <;> rfl) | (simp [*, errW_none, errW_some] <;> rfl), by repeat (first | (with_reducible first | exact HB.out | apply below_alloc | apply pw_below_drewN | apply below_drew1 | refine below_set ?_ GE168.out | refine below_set ?_ GE169.out) | exact HB.out)⟩
                              · replace c104 := Bool.eq_false_iff.mpr c104
                                subst c104
                                have H1 : (some false) = some r := by rw [if_neg (show ¬ (false = true) by decide)] at H; exact H
                                clear H
                                have H := H1
                                clear H1
                                obtain rfl := Option.some.inj H
                                have hnb108 := NB168_169.out
                                have hnc108 := NB169_168.out
                                have hcz109_0 : wc.cell? ⟨gb168, 0, none⟩ = some (.int .i64 a0_0) := (blk_cell BK168.out 0).trans rfl
                                have hcz109_1 : wc.cell? ⟨gb168, 1, none⟩ = some (.int .u64 a0_1) := (blk_cell BK168.out 1).trans rfl
                                have hcz109_2 : wc.cell? ⟨gb168, 2, none⟩ = some (.int .u64 a0_2) := (blk_cell BK168.out 2).trans rfl
                                have hcz109_3 : wc.cell? ⟨gb168, 3, none⟩ = some (.int .i64 a0_3) := (blk_cell BK168.out 3).trans rfl
                                have hcz109_4 : wc.cell? ⟨gb168, 4, none⟩ = some (.int .i64 a0_4) := (blk_cell BK168.out 4).trans rfl
                                have hcz109_5 : wc.cell? ⟨gb168, 5, none⟩ = some (.int .i64 a0_5) := (blk_cell BK168.out 5).trans rfl
                                have hcz109_6 : wc.cell? ⟨gb168, 6, none⟩ = some (.string a0_6) := (blk_cell BK168.out 6).trans rfl
                                have hfz109_0 := blk_frozen BK168.out 0
                                have hfz109_1 := blk_frozen BK168.out 1
                                have hfz109_2 := blk_frozen BK168.out 2
                                have hfz109_3 := blk_frozen BK168.out 3
                                have hfz109_4 := blk_frozen BK168.out 4
                                have hfz109_5 := blk_frozen BK168.out 5
                                have hfz109_6 := blk_frozen BK168.out 6
                                go_wp2
                                go_ret
                                exact ⟨by first | rfl | (simp [errW_none, errW_some] <;> rfl) | (simp [*, errW_none, errW_some] <;> rfl), by repeat (first | (with_reducible first | exact HB.out | apply below_alloc | apply pw_below_drewN | apply below_drew1 | refine below_set ?_ GE168.out | refine below_set ?_ GE169.out) | exact HB.out)⟩

end Go.Proofs.YtljgmbpfeajmhaaDoor.P
