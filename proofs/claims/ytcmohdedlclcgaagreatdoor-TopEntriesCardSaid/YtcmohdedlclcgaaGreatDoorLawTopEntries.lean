/- The card of TopEntries: what a tenant's lane has comes through a frame, a packet and its bytes as it was, and is no other tenant's: for every packet, tenant and list of entries; the listed variables being as the program's text lays them. -/
import Derived.Test.YtcmohdedlclcgaaGreatDoorCards
import Derived.Test.YtcmohdedlclcgaaGreatDoorTie
import Derived.Test.YtcmohdedlclcgaaGreatDoorLawRow
import Derived.Test.YtcmohdedlclcgaaGreatDoorFactsC
import Derived.Test.YtcmohdedlclcgaaGreatDoorFactsD
import Derived.Test.YtcmohdedlclcgaaGreatDoorFactsE
import Derived.WalkKit
import Derived.ProofKit
import Derived.OpenShut
import Derived.ShutString
import Derived.ChangeOld
import Derived.Below
import Derived.SizedLaws
import Derived.Deep.DeepHandedRow
import Derived.Lib.LaidTab
import Derived.LaidMore
namespace Go.Proofs.YtcmohdedlclcgaaGreatDoor.topEntries
open Go.ChangeShapes Go.WideShapes Go.ChangeAt Go.RowKit
open Go.ChangeMaps (open_string shut_string)
open Go.Ex (Ent Pkt ListIs Tens entries_calls)
set_option linter.unusedVariables false
set_option maxRecDepth 100000
theorem said : Rows.TopEntriesSaid :=
  OpenClaim.holds_of_cond 3 Tryz.f3 rfl rfl rfl rfl rfl rfl rfl ⟨rfl, rfl, rfl, rfl, rfl⟩ rfl rfl rfl rfl rfl named Tryz.func3 closed inst wrap
    (fun os started H enc _ F => by rw [OpenClaim.pre_eq_preRow]; exact lifted os started H enc F)
theorem plain (f : FuncId) (fn : Func) (hf : Tryz.pinned.checked.prog.funcNamed "congress/congresstop.TopEntries" = some f) (hfn : Tryz.pinned.checked.prog.funcs[f]? = some fn) :
    true = Tryz.pinned.checked.prog.looks [] ∧ ∀ (j : Nat) t, fn.params[j]? = some t → Tryz.pinned.checked.prog.wantsStandIn t = false := by
  obtain rfl : f = 3 := Option.some.inj (fnamed.symm.trans hf) |>.symm
  obtain rfl : fn = Tryz.f3 := (Option.some.inj (Tryz.func3.symm.trans hfn)).symm
  refine ⟨looks, fun j t ht => ?_⟩
  rw [Tryz.params3] at ht
  have hm : t ∈ [35, 3, 36] := by simpa using Array.mem_of_getElem? ht
  exact (show Tryz.prog.wantsStandIn t = false by simpa using List.all_eq_true.1 stand t hm)
theorem card : Rows.TopEntriesCardSaid :=
  Claim7.holds_tied_plain_at .later [] _ _ _ _ said (fun _ h => by cases h) byText (fun _ h => by cases h) topEntries_row_tie rfl ⟨rfl, rfl⟩ mainIs rfl plain goes
#print axioms card
end Go.Proofs.YtcmohdedlclcgaaGreatDoor.topEntries
namespace Go.Proofs.YtcmohdedlclcgaaGreatDoor
/-- The card, under a short name, for the claim. -/
theorem topEntries_holds : Rows.TopEntriesCardSaid := topEntries.card
end Go.Proofs.YtcmohdedlclcgaaGreatDoor
