/- Part of the proof of TopEntries: runs of this program. -/
import Derived.Test.YtcmohdedlclcgaaGreatDoorX08
import Derived.Test.YtcmohdedlclcgaaGreatDoorProg
import Derived.KernelRfl
import Derived.Laws.Externs
import Derived.Lib.Builder
import Derived.Test.YtcmohdedlclcgaaGreatDoorX09
set_option linter.unusedVariables false
set_option linter.unusedSimpArgs false
set_option linter.unusedSectionVars false
open Go.Proofs
namespace Go.Ex
variable [Val]
set_option linter.unusedSectionVars false

set_option maxRecDepth 100000
theorem ext_ok (hop : ∀ o g xs x, Tab.op o = some g → g xs = some x → ∀ (ρ : Rho) (w : World) (ev : Operand → Value), VRs ρ xs (o.operands.toList.map ev) → ∃ v, VR ρ x v ∧ Runs Tryz.prog ev o w (.value v) w)
    (hfn : ∀ f g xs x, Tab.fn f = some g → g xs = some x → ∀ (ρ : Rho) (w : World) (args : Array Value), Val.G w → VRs ρ xs args.toList → Calls Tryz.prog f args w fun e w' => ∃ v, e = .returned v ∧ VR ρ x v ∧ Keeps w w') : ExtOK Tryz.prog := by
  refine ⟨?_, ?_, ?_, ?_, hop, hfn⟩
  · intro x w
    rw [run_callFunc_extern Tryz.func79 (by kernel_rfl) (by kernel_rfl) (by kernel_rfl) (e := Extern.AbiNoEscape.same) (by kernel_rfl)]
    rw [Lib.run_noEscape]
    rfl
  · intro n w
    rw [run_callFunc_extern Tryz.func188 (by kernel_rfl) (by kernel_rfl) (by kernel_rfl) (e := Extern.BytealgMakeNoZero.makeNoZero #[3] #[82]) (by kernel_rfl)]
  · intro s c w
    rw [run_callFunc_extern Tryz.func301 (by kernel_rfl) (by kernel_rfl) (by kernel_rfl) (e := Extern.BytealgIndexByte.indexByte) (by kernel_rfl)]
  · intro s c w
    rw [run_callFunc_extern Tryz.func181 (by kernel_rfl) (by kernel_rfl) (by kernel_rfl) (e := Extern.BytealgCount.count) (by kernel_rfl)]
end Go.Ex
namespace Go.Ex
def ρ0 : Rho := fun b => if b = 0 then some (0, 0, 20) else none
theorem ρ0_some {b : Nat} {x : Nat × Nat × Nat} (hb : ρ0 b = some x) : b = 0 ∧ x = (0, 0, 20) := by
  unfold ρ0 at hb
  split at hb
  · rename_i e; cases hb; exact ⟨e, rfl⟩
  · cases hb

/-- nothing is known of the heap -/
noncomputable def E1 : XW := ⟨.nil, 20⟩
theorem E1_rep [Val] {w : World} (h : Val.G w) (h0 : 0 < w.heap.size) : Rep w ρ0 E1 w := by
  refine ⟨Nat.le_refl _, fun _ _ => rfl, rfl, rfl, rfl, h, ⟨20, rfl⟩, ?_, ?_, ?_, ?_⟩
  · intro b x hb
    obtain ⟨rfl, rfl⟩ := ρ0_some hb
    exact ⟨by show 0 < 20; omega, h0⟩
  · intro b x r d q hx; cases hx
  · intro b x r d q hx; cases hx
  · intro b b' x x' r d d' q q' _ hx; cases hx

/-- what a run that the executor comes through keeps, and its value -/
theorem run_keeps [Val] {P : Program} (hX : ExtOK P) {T n : Nat} {f : FuncId} {args : List XV} {E : XW} {κ : XV → XW → R} (h : ((callN P T n f false).f args E κ).isSome = true) {w : World} {ρ : Rho} {args' : Array Value}
    (hR : Rep w ρ E w) (hv : VRs ρ args args'.toList) {Q : Value → Prop} (hQ : ∀ x E' ρ' v r, κ x E' = some r → VR ρ' x v → Q v) : Calls P f args' w fun e w' => ∃ v, e = .returned v ∧ Q v ∧ Keeps w w' := by
  obtain ⟨res, _, hc⟩ := exec_calls hX h hR hv
  refine hc.mono ?_
  intro e w' he
  cases e with
  | returned v =>
    obtain ⟨x, E', ρ', h1, _, _, h2, h3⟩ := he
    exact ⟨v, rfl, hQ x E' ρ' v _ h1 h3, h2.size, h2.old, h2.tape, h2.os, h2.out⟩
  | _ => exact he.elim
end Go.Ex
