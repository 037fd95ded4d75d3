/-
  DERIVED. GIVEN WITH THE SEED: THE CARDS: each row of YtcmohdedlclcgaaGreatDoorRows.lean that lists a variable, with what it lists TIED to the program's text (the seventh form; the later family's looks); each row that meets fmt, with fmt's text TOLD by the authors' own Lean function (tested against real Go, not proved from fmt's source: count such statements apart). THE CARD IS WHAT COUNTS. Prove the row's statement (the work); the ties are given (YtcmohdedlclcgaaGreatDoorTie.lean); close each card by the builder's one call (the guide's Derived/Test/ToyasCard.lean, 'card_holds'). Laid BY PROGRAM, IN A SANDBOX (cutbox-door.mjs). By AI agents, Wed Nov 11 2026. No macro, syntax, notation, axiom, sorry.
-/
import Derived.Test.YtcmohdedlclcgaaGreatDoorRows
import GoSem.ClaimSeven
namespace Go.Proofs.YtcmohdedlclcgaaGreatDoor
namespace Rows

/-- THE TIED CARD OF 'congresstop.TopEntries'. -/
def topEntriesCard : Claim7 := { stood := { row := topEntriesRow, standIns := [], harness := (true, "e6593e91c29feeeba6004f60d4fa1bb2ab609ce047e762dabbcfbcbad7b216f8"), looks := true }, kinds := [], alts := [], laidByText := true, laidKinds := [.data, .data, .data, .data, .sentinel, .sentinel, .pinned], laidTests := true, laidLooks := .later }
def TopEntriesCardSaid : Prop := Claim7.holds Tryz.pinned (.plain (OpenSpec.ofChange topEntriesSpec)) topEntriesCard

/-- THE TIED CARD OF 'congresstop.TopOrder'. -/
def topOrderCard : Claim7 := { stood := { row := topOrderRow, standIns := [], harness := (true, "e6593e91c29feeeba6004f60d4fa1bb2ab609ce047e762dabbcfbcbad7b216f8"), looks := true }, kinds := [], alts := [], laidByText := true, laidKinds := [.data, .data, .data, .data, .sentinel, .sentinel, .pinned], laidTests := true, laidLooks := .later }
def TopOrderCardSaid : Prop := Claim7.holds Tryz.pinned (.plain (OpenSpec.ofChange topOrderSpec)) topOrderCard

/-- THE TIED CARD OF 'congresstop.TopSafe'. -/
def topSafeCard : Claim7 := { stood := { row := topSafeRow, standIns := [], harness := (true, "e6593e91c29feeeba6004f60d4fa1bb2ab609ce047e762dabbcfbcbad7b216f8"), looks := true }, kinds := [], alts := [], laidByText := true, laidKinds := [.data, .data, .data, .data, .sentinel, .sentinel, .pinned], laidTests := true, laidLooks := .later }
def TopSafeCardSaid : Prop := Claim7.holds Tryz.pinned (.plain (OpenSpec.ofChange topSafeSpec)) topSafeCard

/-- THE SECOND FORM's CARD OF 'congresstop.TopEntries'. -/
def topEntriesUptoCard : Claim7 := { stood := { row := topEntriesUptoRow, standIns := [], harness := (true, "e6593e91c29feeeba6004f60d4fa1bb2ab609ce047e762dabbcfbcbad7b216f8"), looks := true }, kinds := [], alts := [], laidByText := true, laidKinds := [.data, .data, .data, .data, .sentinel, .sentinel, .pinned], laidTests := true, laidLooks := .later }
def TopEntriesUptoCardSaid : Prop := Claim7.holds Tryz.pinned (.plain (OpenSpec.upto topEntriesSpec)) topEntriesUptoCard

/-- THE SECOND FORM's CARD OF 'congresstop.TopOrder'. -/
def topOrderUptoCard : Claim7 := { stood := { row := topOrderUptoRow, standIns := [], harness := (true, "e6593e91c29feeeba6004f60d4fa1bb2ab609ce047e762dabbcfbcbad7b216f8"), looks := true }, kinds := [], alts := [], laidByText := true, laidKinds := [.data, .data, .data, .data, .sentinel, .sentinel, .pinned], laidTests := true, laidLooks := .later }
def TopOrderUptoCardSaid : Prop := Claim7.holds Tryz.pinned (.plain (OpenSpec.upto topOrderSpec)) topOrderUptoCard

/-- THE SECOND FORM's CARD OF 'congresstop.TopSafe'. -/
def topSafeUptoCard : Claim7 := { stood := { row := topSafeUptoRow, standIns := [], harness := (true, "e6593e91c29feeeba6004f60d4fa1bb2ab609ce047e762dabbcfbcbad7b216f8"), looks := true }, kinds := [], alts := [], laidByText := true, laidKinds := [.data, .data, .data, .data, .sentinel, .sentinel, .pinned], laidTests := true, laidLooks := .later }
def TopSafeUptoCardSaid : Prop := Claim7.holds Tryz.pinned (.plain (OpenSpec.upto topSafeSpec)) topSafeUptoCard
end Rows
end Go.Proofs.YtcmohdedlclcgaaGreatDoor
