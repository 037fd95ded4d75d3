/- Facts that TopEntries' row tells of the program, part 3. -/
import Derived.Test.YtcmohdedlclcgaaGreatDoorRows
import Derived.JoinedCond
import Derived.Test.YtcmohdedlclcgaaGreatDoorFactsA
import Derived.Test.YtcmohdedlclcgaaGreatDoorFactsB
import Derived.KernelRfl
set_option linter.unusedVariables false
set_option maxRecDepth 100000
namespace Go.Proofs.YtcmohdedlclcgaaGreatDoor.topEntries
theorem k13 : (Rows.topEntriesRow.named == Tryz.prog.varsNamed 3) = true := by kernel_rfl
theorem k14 : (Rows.topEntriesRow.maps == (Tryz.f3.params.toList ++ (OpenSpec.ofChange Rows.topEntriesSpec).bare.plain.varTypes Tryz.prog).any (Tryz.prog.mapsRec ·)) = true := by kernel_rfl
theorem k15 : (Rows.topEntriesRow.ifaces == (Tryz.f3.params.toList ++ (OpenSpec.ofChange Rows.topEntriesSpec).bare.plain.varTypes Tryz.prog).any (Tryz.prog.ifacesRec ·)) = true := by kernel_rfl
theorem k16 : (Rows.topEntriesRow.mapsOut == Tryz.prog.mapsAmong Tryz.f3.resultTypes.toList) = true := by kernel_rfl
theorem k17 : (Rows.topEntriesRow.loops == (Tryz.f3.params.toList ++ (OpenSpec.ofChange Rows.topEntriesSpec).bare.plain.varTypes Tryz.prog).any (Tryz.prog.loopsFrom ·)) = true := by kernel_rfl
theorem k17b : (Rows.topEntriesRow.wideKeys == (Tryz.f3.params.toList ++ (OpenSpec.ofChange Rows.topEntriesSpec).bare.plain.varTypes Tryz.prog ++ Tryz.f3.resultTypes.toList).any (Tryz.prog.wideKeysFrom ·)) = true := by kernel_rfl
theorem k18 : (OpenSpec.ofChange Rows.topEntriesSpec).bare.vars.all (Tryz.prog.varReadable ·) = true := by kernel_rfl
theorem k19 : Tryz.f3.resultTypes.all (fun t => Tryz.prog.readableRec t && decide (t < Tryz.prog.types.size)) = true := by kernel_rfl
theorem k20 : (Rows.topEntriesRow.ifacesOut == Tryz.f3.resultTypes.toList.any (Tryz.prog.ifacesRec ·)) = true := by kernel_rfl
theorem k21 : (Rows.topEntriesRow.loopsOut == Tryz.f3.resultTypes.toList.any (Tryz.prog.loopsFrom ·)) = true := by kernel_rfl
theorem k22 : (Rows.topEntriesRow.plainKeys == Tryz.prog.plainKeys) = true := by kernel_rfl
theorem k23 : Rows.topEntriesRow.shortTexts.isNone = true := by kernel_rfl
theorem k23b : Tryz.prog.stopsHeard = true := by kernel_rfl
theorem k24 : Tryz.prog.mayEnter = true := by kernel_rfl
theorem k24b : (Rows.topEntriesRow.lifted == Tryz.prog.liftsFinal) = true := by kernel_rfl
theorem k24c : (Tryz.prog.make == some Rows.topEntriesRow.make) = true := by kernel_rfl
theorem k25 : (Rows.topEntriesRow.kinds == (if Rows.topEntriesRow.domain.isEmpty then [] else Tryz.f3.params.toList.map fun t => match Tryz.prog.underlying t with | some (.int k) => some k | _ => none)) = true := by kernel_rfl
theorem k26 : (Rows.topEntriesRow.pinned == Rows.topEntriesRow.pinnedBy) = true := by kernel_rfl
theorem k27 : (Rows.topEntriesRow.veiled == (Tryz.f3.params.toList ++ (OpenSpec.ofChange Rows.topEntriesSpec).bare.plain.varTypes Tryz.prog ++ Tryz.f3.resultTypes.toList).any (Tryz.prog.veiledRec ·)) = true := by kernel_rfl
theorem k28 : Rows.topEntriesRow.veiledFits Tryz.prog Tryz.f3.params.toList (Tryz.f3.params.toList ++ (OpenSpec.ofChange Rows.topEntriesSpec).bare.plain.varTypes Tryz.prog ++ Tryz.f3.resultTypes.toList) = true := by kernel_rfl
theorem named : Tryz.pinned.checked.prog.funcNamed Rows.topEntriesRow.func = some 3 := by kernel_rfl
theorem inst : Tryz.f3.isInstance Tryz.pinned.checked.prog Rows.topEntriesRow.origin Rows.topEntriesRow.targs := of_decide_eq_true (by kernel_rfl)
theorem wrap : Tryz.f3.isWrapper Tryz.pinned.checked.prog Rows.topEntriesRow.wrapper Rows.topEntriesRow.mainSum := by unfold Func.isWrapper; first | (rw [if_pos (by decide +kernel)]; kernel_rfl) | (rw [if_neg (by decide +kernel)]; exact ⟨rfl, rfl⟩)
theorem closed : joinedFacts Tryz.prog 3 Tryz.f3 (OpenSpec.ofChange Rows.topEntriesSpec).bare Rows.topEntriesRow = true := by
  unfold joinedFacts
  exact (Bool.and_eq_true_iff.2 ⟨(Bool.and_eq_true_iff.2 ⟨(Bool.and_eq_true_iff.2 ⟨(Bool.and_eq_true_iff.2 ⟨(Bool.and_eq_true_iff.2 ⟨(Bool.and_eq_true_iff.2 ⟨(Bool.and_eq_true_iff.2 ⟨(Bool.and_eq_true_iff.2 ⟨(Bool.and_eq_true_iff.2 ⟨(Bool.and_eq_true_iff.2 ⟨(Bool.and_eq_true_iff.2 ⟨(Bool.and_eq_true_iff.2 ⟨(Bool.and_eq_true_iff.2 ⟨(Bool.and_eq_true_iff.2 ⟨(Bool.and_eq_true_iff.2 ⟨(Bool.and_eq_true_iff.2 ⟨(Bool.and_eq_true_iff.2 ⟨(Bool.and_eq_true_iff.2 ⟨(Bool.and_eq_true_iff.2 ⟨(Bool.and_eq_true_iff.2 ⟨(Bool.and_eq_true_iff.2 ⟨(Bool.and_eq_true_iff.2 ⟨(Bool.and_eq_true_iff.2 ⟨(Bool.and_eq_true_iff.2 ⟨(Bool.and_eq_true_iff.2 ⟨(Bool.and_eq_true_iff.2 ⟨(Bool.and_eq_true_iff.2 ⟨(Bool.and_eq_true_iff.2 ⟨(Bool.and_eq_true_iff.2 ⟨(Bool.and_eq_true_iff.2 ⟨(Bool.and_eq_true_iff.2 ⟨k1, k2⟩), k3⟩), k4⟩), k5⟩), k6⟩), k7⟩), k8⟩), k9⟩), k10⟩), k11⟩), k12⟩), k13⟩), k14⟩), k15⟩), k16⟩), k17⟩), k17b⟩), k18⟩), k19⟩), k20⟩), k21⟩), k22⟩), k23⟩), k23b⟩), k24⟩), k24b⟩), k24c⟩), k25⟩), k26⟩), k27⟩), k28⟩)
end Go.Proofs.YtcmohdedlclcgaaGreatDoor.topEntries
