/- TopEntries: the contract of the row. -/
import Derived.Test.YtcmohdedlclcgaaGreatDoorOpen
import Derived.WalkKit
import Derived.ProofKit
import Derived.OpenShut
import Derived.ShutString
import Derived.ChangeOld
import Derived.Below
import Derived.SizedLaws
import Derived.Deep.DeepHandedRow
import Derived.Lib.LaidTab
import Derived.LaidMore
namespace Go.Proofs.YtcmohdedlclcgaaGreatDoor.topEntries
open Go.ChangeShapes Go.WideShapes Go.ChangeAt Go.RowKit
open Go.ChangeMaps (open_string shut_string)
open Go.Ex (Ent Pkt ListIs Tens entries_calls)
set_option linter.unusedVariables false
set_option maxRecDepth 100000
theorem own : ownKnob Tryz.prog.godebug = none := by kernel_rfl
theorem laidOut : laidOutB Tryz.prog = true := by kernel_rfl
theorem contract (H : Type) (enc : TypeId × Value → H) (W : World) (base : Nat) (args : Array Value) (ds gs : List (DataW H)) (before : List MemPlace)
    (hval0 : ∀ (j : Nat) t v, Tryz.f3.params[j]? = some t → args[j]? = some v → Value.okWide Tryz.prog W .any base t v)
    (hW : DataW.Whole enc Tryz.prog Tryz.f3.params.toList Rows.topEntriesSpec.vars false W args.toList ds gs before) (hL : laidMetH Tryz.prog Rows.topEntriesRow.laid W) :
    Calls Tryz.prog 3 args W fun e W' => ∃ v, e = .returned v ∧ Rows.topEntriesSpec.post enc Tryz.prog Tryz.f3 false true false false W args v W' := by
  have hval : ∀ (j : Nat) t v, Tryz.f3.params[j]? = some t → args[j]? = some v → Value.okWide Tryz.prog W .any base t v := hval0
  have hTE : Tens W := tens_of_laid (by have := hL; rw [MakeChecks.laidMetH_plain _ _ _ (by kernel_rfl)] at this; exact this)
  have hW' := hW
  obtain ⟨p, q, hA0, hV, rfl, hfz, hnd⟩ := hW
  have hA : DataW.TrodAll enc Tryz.prog W 0 (fun _ => true) true Tryz.f3.params.toList args.toList ds p := hA0
  rw [Tryz.params3] at hA hval
  obtain ⟨v0, vs0, d0, ds0, p0, q0, hargs, rfl, rfl, h0, r0⟩ := trodAll_cons hA
  obtain ⟨v1, vs1, d1, ds1, p1, q1, rfl, rfl, rfl, h1, r1⟩ := trodAll_cons r0
  obtain ⟨v2, vs2, d2, ds2, p2, q2, rfl, rfl, rfl, h2, r2⟩ := trodAll_cons r1
  obtain ⟨rfl, rfl, rfl⟩ := trodAll_nil r2
  obtain rfl : args = #[v0, v1, v2] := by cases args; simp_all
  obtain ⟨rfl, rfl⟩ := trodVars_none hV
  have k0 := h0
  have k2 := h2
  have lt0 : ∀ x ∈ p0, x.block < W.heap.size := by obtain ⟨m, hm⟩ := k0; exact DataW.trod_lt m _ _ _ hm
  have lt2 : ∀ x ∈ p2, x.block < W.heap.size := by obtain ⟨m, hm⟩ := k2; exact DataW.trod_lt m _ _ _ hm
  obtain ⟨a1, rfl, rfl, rfl, w1⟩ := open_int Tryz.underlying3 (hval 1 3 v1 rfl rfl) h1
  obtain ⟨_, _, _, rfl⟩ := okWide_slice Tryz.underlying36 (hval 2 36 v2 rfl rfl)
  obtain ⟨fuel2, hf2⟩ := h2
  obtain ⟨a, b, s, ha, hb, hl⟩ := open_list (hval 2 36 _ rfl rfl) hf2
  obtain ⟨pk, hpk, hR, rfl, rfl⟩ := open_packet (hval 0 35 v0 rfl rfl) a b ha hb
  subst hpk
  clear hA0 hval0
  refine (entries_calls pk hR a1 hTE hl).mono ?_
  rintro e W' ⟨v, he, rfl, hk⟩
  subst he
  have bel : Below W.heap.size W W' := ⟨hk.os, hk.tape, hk.out, hk.size, hk.old⟩
  exact ⟨_, rfl, _, _, _, [], _, [], hW', trodAll_mk1 (shut_bool Tryz.underlying4 _), (trodAll_cons_mk (Below.trod laidOut (by kernel_rfl) (of_decide_eq_true (by kernel_rfl)) k0 bel lt0) (trodAll_cons_mk (shut_int Tryz.underlying3 w1) (trodAll_cons_mk (Below.trod laidOut (by kernel_rfl) (of_decide_eq_true (by kernel_rfl)) k2 bel lt2) trodAll_mk0))), rfl, bel.frame _, fun h => by cases h⟩
/-- a packet and its datum, for a witness -/
def zPkt : Value := (⟨fun _ => 0, false, fun _ => .zero, .empty, 0⟩ : Pkt).val
theorem laid_met (os : Os) : laidMet Tryz.prog Rows.topEntriesRow.laid ((laidWorld os).forCall (fun _ _ => 0) ⟨#[], #[zPkt, .int .i64 0, .slice none 0 0], []⟩).memory :=
  laidMet_of_run' 8 (by kernel_rfl) (by kernel_rfl)
def zId {H : Type} : DataW H := .agg [.lit (.int .u32 0), .lit (.int .u32 0), .lit (.int .u32 0)]
def zEight {H : Type} : DataW H := .agg [.lit (.int .u32 0), .lit (.int .u32 0), .lit (.int .u32 0), .lit (.int .u32 0), .lit (.int .u32 0), .lit (.int .u32 0), .lit (.int .u32 0), .lit (.int .u32 0)]
def zEnt {H : Type} : DataW H := .agg [.lit (.int .i64 0), .lit (.int .i64 0), .lit (.int .i64 0), .lit (.int .u64 0), .lit (.int .u64 0), .lit (.string [])]
def zFrame {H : Type} : DataW H := .agg [.agg [zEnt, zEnt], .agg [zEnt, zEnt], .agg [zEnt, zEnt]]
def zD {H : Type} : DataW H := .agg [.lit (.int .u32 0), .lit (.int .u32 0), zId, zEight, zEight, zId, zEight, .lit (.bool false), .lit (.int .u32 0), .lit (.int .u32 0), zFrame, zFrame, .lit (.int .u32 0), .lit (.int .u32 0), zFrame]
theorem reads (os : Os) {H : Type} (enc : TypeId × Value → H) : ∃ places, DataW.whole enc Tryz.prog ((laidWorld os).forCall (fun _ _ => 0) ⟨#[], #[zPkt, .int .i64 0, .slice none 0 0], []⟩).memory Tryz.f3.params.toList Rows.topEntriesSpec.vars false (#[zPkt, .int .i64 0, .slice none 0 0] : Array Value).toList 8 = some ([zD, .lit (.int .i64 0), .nil], [], places) :=
  ⟨[], by kernel_rfl⟩
theorem lifted (os : Os) (started : os.Started) (H : Type) (enc : TypeId × Value → H) (F : Stop.Interp) :
    ReturnsInHanded {} Tryz.checked os 3 .any ((OpenSpec.ofChange Rows.topEntriesSpec).preRow enc Tryz.prog Tryz.f3 Rows.topEntriesRow.domain false Rows.topEntriesRow.laid) (((OpenSpec.ofChange Rows.topEntriesSpec).at F).post enc Tryz.prog Tryz.f3 false true false false) := by
  obtain ⟨places, hx⟩ := reads os enc
  refine returnsInHanded_of_row (C := Tryz.checked) (s := OpenSpec.ofChange Rows.topEntriesSpec) own started (by kernel_rfl) Tryz.func3
    (witness_row_at (enc := enc) (C := Tryz.checked) false (laidWorld os) #[zPkt, .int .i64 0, .slice none 0 0] rfl (by kernel_rfl) (by kernel_rfl) (by kernel_rfl)
      (OpenSpec.preRow_of_cond 8 hx (by kernel_rfl) (fun k hk => by cases hk) (by kernel_rfl) (laid_met os))) ?_
  intro W base args ds gs before hval hW _ hcond hsz hL _ _
  exact contract H enc W base args ds gs before hval hW hL
end Go.Proofs.YtcmohdedlclcgaaGreatDoor.topEntries
