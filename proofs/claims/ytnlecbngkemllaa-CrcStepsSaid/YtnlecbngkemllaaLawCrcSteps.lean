/- The row of CrcSteps: the sum of a text and one byte more is one step more, and a step is one to one, for every text, byte and registers. -/
import Derived.Test.YtnlecbngkemllaaRows
import Derived.Test.YtnlecbngkemllaaStepsWalk
import Derived.WalkKit
import Derived.ProofKit
import Derived.OpenShut
import Derived.ShutString
import Derived.ChangeOld
import Derived.Below
import Derived.SizedLaws
import Derived.Lib.SmallJoins
namespace Go.Proofs.Ytnlecbngkemllaa.crcSteps
open Go.ChangeShapes Go.WideShapes Go.ChangeAt Go.RowKit
open Go.Joins
open Go.ChangeMaps (open_string shut_string)
set_option linter.unusedVariables false
theorem own : ownKnob Try.prog.godebug = none := by kernel_rfl
theorem laidOut : laidOutB Try.prog = true := by kernel_rfl
set_option maxRecDepth 100000 in
theorem lifted (os : Os) (started : os.Started) (H : Type) (enc : TypeId × Value → H) :
    ReturnsInHanded {} Try.checked os 7 .any (Rows.crcStepsSpec.pre6 enc Try.prog Try.f7 Rows.crcStepsRow.domain false) (Rows.crcStepsSpec.post enc Try.prog Try.f7 false true false false) := by
  refine returnsInHanded_of_change_sized (C := Try.checked) own started (by kernel_rfl) Try.func7
    (ChangeSpec.witness6 (enc := enc) (C := Try.checked) false ⟨#[], #[.string ByteArray.empty, .int .u8 0, .agg #[.int .u32 0, .int .u32 0]], []⟩ 8 (by kernel_rfl) (by kernel_rfl) (by kernel_rfl) (by kernel_rfl)) ?_
  intro W base args ds gs before hval0 hW hcnd hsz0 _
  have hsz : (DataW.weightsEach Try.prog (Try.f7.params.toList ++ Rows.crcStepsSpec.plain.varTypes Try.prog) (ds ++ gs)).all (· ≤ reachBytes) = true := hsz0
  have hval : ∀ (j : Nat) t v, Try.f7.params[j]? = some t → args[j]? = some v → Value.okWide Try.prog W .any base t v := hval0
  have hW' := hW
  obtain ⟨p, q, hA0, hV, rfl, hfz, hnd⟩ := hW
  have hA : DataW.TrodAll enc Try.prog W 0 (fun _ => true) true Try.f7.params.toList args.toList ds p := hA0
  rw [Try.params7] at hA hval hsz
  obtain ⟨v0, vs0, d0, ds0, p0, q0, hargs, rfl, rfl, h0, r0⟩ := trodAll_cons hA
  obtain ⟨v1, vs1, d1, ds1, p1, q1, rfl, rfl, rfl, h1, r1⟩ := trodAll_cons r0
  obtain ⟨v2, vs2, d2, ds2, p2, q2, rfl, rfl, rfl, h2, r2⟩ := trodAll_cons r1
  obtain ⟨rfl, rfl, rfl⟩ := trodAll_nil r2
  obtain rfl : args = #[v0, v1, v2] := by cases args; simp_all
  obtain ⟨rfl, rfl⟩ := trodVars_none hV
  obtain ⟨a0, rfl, rfl, rfl, y0⟩ := open_string Try.underlying9 (hval 0 9 v0 rfl rfl) h0
  have w0 : a0.size ≤ 140737488351232 := by
    have z := sized_string hsz (j := 0) (t := 9) rfl rfl
    rw [Array.length_toList] at z
    exact z
  obtain ⟨a1, rfl, rfl, rfl, w1⟩ := open_int Try.underlying5 (hval 1 5 v1 rfl rfl) h1
  have k2 := h2
  have lt2 : ∀ x ∈ p2, x.block < W.heap.size := by obtain ⟨m, hm⟩ := k2; exact DataW.trod_lt m _ _ _ hm
  have hw2 := hval 2 34 v2 rfl rfl
  unfold Value.okWide at hw2
  rw [Try.underlying34] at hw2
  obtain ⟨cs, rfl, hcs, _⟩ := hw2
  have c34 : Try.prog.cellsOf 34 = 2 := by kernel_rfl
  have c23 : Try.prog.cellsOf 23 = 1 := by kernel_rfl
  rw [c34] at hcs
  obtain ⟨c0, c1, rfl⟩ := array2 hcs
  obtain ⟨fuel, hf⟩ := h2
  obtain ⟨xs, m, _, _, _, hl, hx⟩ := DataW.trod_array Try.underlying34 hf
  have x0 := hx 0 (by decide)
  have x1 := hx 1 (by decide)
  rw [c23] at x0 x1
  obtain ⟨q0, q1, rfl⟩ : ∃ q0 q1, xs = [q0, q1] := by
    match xs, hl with
    | [q0, q1], _ => exact ⟨q0, q1, rfl⟩
  simp [Value.cells] at x0 x1
  obtain ⟨n0, e0, _, w20⟩ := DataW.trod_int Try.underlying23 x0
  obtain ⟨n1, e1, _, w21⟩ := DataW.trod_int Try.underlying23 x1
  simp at e0 e1
  subst e0 e1
  clear hA0 hval0 hsz0 hsz
  refine (Crc.steps_law a0 a1 n0 n1 W w0 w1 w20 w21).mono fun e W' ⟨he, bel⟩ => ?_
  subst he
  exact ⟨_, rfl, _, _, _, [], _, [], hW', trodAll_mk1 (shut_bool Try.underlying4 _), (trodAll_cons_mk (shut_string Try.underlying9 y0) (trodAll_cons_mk (shut_int Try.underlying5 w1) (trodAll_cons_mk (Below.trod laidOut (by kernel_rfl) (of_decide_eq_true (by kernel_rfl)) k2 bel lt2) trodAll_mk0))), rfl, bel.frame _, fun h => by cases h⟩
theorem over : Rows.crcStepsRow.holds Try.pinned (OpenSpec.ofChange Rows.crcStepsSpec) :=
  OpenClaim.holds_of_wide 7 Try.f7 rfl rfl rfl rfl rfl rfl rfl ⟨rfl, rfl, rfl, rfl, rfl⟩ rfl rfl rfl rfl rfl (by kernel_rfl) Try.func7 (by kernel_rfl)
    (of_decide_eq_true (by kernel_rfl)) (by unfold Func.isWrapper; first | (rw [if_pos (by decide +kernel)]; kernel_rfl) | (rw [if_neg (by decide +kernel)]; exact ⟨rfl, rfl⟩))
    (fun os started H enc _ => lifted os started H enc)
theorem proved : Rows.CrcStepsSaid := over
#print axioms proved
end Go.Proofs.Ytnlecbngkemllaa.crcSteps
namespace Go.Proofs.Ytnlecbngkemllaa
/-- The row, under a short name, for the claim. -/
theorem crcSteps_holds : Rows.CrcStepsSaid := crcSteps.proved
end Go.Proofs.Ytnlecbngkemllaa
