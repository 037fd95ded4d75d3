/-
  DERIVED. GIVEN WITH THE SEED: THE CARDS: each row of YtoeioacgpildpaaDoorRows.lean that lists a variable, with what it lists TIED to the program's text (the seventh form; the later family's looks); each row that meets fmt, with fmt's text TOLD by the authors' own Lean function (tested against real Go, not proved from fmt's source: count such statements apart). THE CARD IS WHAT COUNTS. Prove the row's statement (the work); the ties are given (YtoeioacgpildpaaDoorTie.lean); close each card by the builder's one call (the guide's Derived/Test/ToyasCard.lean, 'card_holds'). Laid BY PROGRAM, IN A SANDBOX (cutbox-door.mjs). By AI agents, Wed Nov 11 2026. No macro, syntax, notation, axiom, sorry.
-/
import Derived.Test.YtoeioacgpildpaaDoorRows
import GoSem.ClaimSeven
namespace Go.Proofs.YtoeioacgpildpaaDoor
namespace Rows

/-- THE TIED CARD OF 'congresslaw20.AuditTells'. -/
def auditTellsCard : Claim7 := { stood := { row := auditTellsRow, standIns := [], harness := (true, "0ee40fd1ceeb96850450f91e97fae3fa88e2039d542bf5cd6467749023e2d591"), looks := true }, kinds := [], alts := [], laidByText := true, laidKinds := [.data, .data, .data], laidTests := true, laidLooks := .later }
def AuditTellsCardSaid : Prop := Claim7.holds Tryd.pinned (.plain (OpenSpec.ofChange auditTellsSpec)) auditTellsCard

/-- THE TIED CARD OF 'congresslaw20.AuditGrows'. -/
def auditGrowsCard : Claim7 := { stood := { row := auditGrowsRow, standIns := [], harness := (true, "0ee40fd1ceeb96850450f91e97fae3fa88e2039d542bf5cd6467749023e2d591"), looks := true }, kinds := [], alts := [], laidByText := true, laidKinds := [.data, .data, .data], laidTests := true, laidLooks := .later }
def AuditGrowsCardSaid : Prop := Claim7.holds Tryd.pinned (.plain (OpenSpec.ofChange auditGrowsSpec)) auditGrowsCard

/-- THE TIED CARD OF 'congresslaw20.AuditParts'. -/
def auditPartsCard : Claim7 := { stood := { row := auditPartsRow, standIns := [], harness := (true, "0ee40fd1ceeb96850450f91e97fae3fa88e2039d542bf5cd6467749023e2d591"), looks := true }, kinds := [], alts := [], laidByText := true, laidKinds := [.data, .data, .data], laidTests := true, laidLooks := .later }
def AuditPartsCardSaid : Prop := Claim7.holds Tryd.pinned (.plain (OpenSpec.ofChange auditPartsSpec)) auditPartsCard

/-- THE TIED CARD OF 'congresslaw20.AuditTexts'. -/
def auditTextsCard : Claim7 := { stood := { row := auditTextsRow, standIns := [], harness := (true, "0ee40fd1ceeb96850450f91e97fae3fa88e2039d542bf5cd6467749023e2d591"), looks := true }, kinds := [], alts := [], laidByText := true, laidKinds := [.data, .data, .data, .data, .sentinel, .sentinel, .pinned], laidTests := true, laidLooks := .later }
def AuditTextsCardSaid : Prop := Claim7.holds Tryd.pinned (.plain (OpenSpec.ofChange auditTextsSpec)) auditTextsCard

/-- THE TIED CARD OF 'congresslaw20.AuditBack'. -/
def auditBackCard : Claim7 := { stood := { row := auditBackRow, standIns := [], harness := (true, "0ee40fd1ceeb96850450f91e97fae3fa88e2039d542bf5cd6467749023e2d591"), looks := true }, kinds := [], alts := [], laidByText := true, laidKinds := [.data, .data, .data, .data, .sentinel, .sentinel, .pinned], laidTests := true, laidLooks := .later }
def AuditBackCardSaid : Prop := Claim7.holds Tryd.pinned (.plain (OpenSpec.ofChange auditBackSpec)) auditBackCard

/-- THE SECOND FORM's CARD OF 'congresslaw20.AuditTells'. -/
def auditTellsUptoCard : Claim7 := { stood := { row := auditTellsUptoRow, standIns := [], harness := (true, "0ee40fd1ceeb96850450f91e97fae3fa88e2039d542bf5cd6467749023e2d591"), looks := true }, kinds := [], alts := [], laidByText := true, laidKinds := [.data, .data, .data], laidTests := true, laidLooks := .later }
def AuditTellsUptoCardSaid : Prop := Claim7.holds Tryd.pinned (.plain (OpenSpec.upto auditTellsSpec)) auditTellsUptoCard

/-- THE SECOND FORM's CARD OF 'congresslaw20.AuditGrows'. -/
def auditGrowsUptoCard : Claim7 := { stood := { row := auditGrowsUptoRow, standIns := [], harness := (true, "0ee40fd1ceeb96850450f91e97fae3fa88e2039d542bf5cd6467749023e2d591"), looks := true }, kinds := [], alts := [], laidByText := true, laidKinds := [.data, .data, .data], laidTests := true, laidLooks := .later }
def AuditGrowsUptoCardSaid : Prop := Claim7.holds Tryd.pinned (.plain (OpenSpec.upto auditGrowsSpec)) auditGrowsUptoCard

/-- THE SECOND FORM's CARD OF 'congresslaw20.AuditParts'. -/
def auditPartsUptoCard : Claim7 := { stood := { row := auditPartsUptoRow, standIns := [], harness := (true, "0ee40fd1ceeb96850450f91e97fae3fa88e2039d542bf5cd6467749023e2d591"), looks := true }, kinds := [], alts := [], laidByText := true, laidKinds := [.data, .data, .data], laidTests := true, laidLooks := .later }
def AuditPartsUptoCardSaid : Prop := Claim7.holds Tryd.pinned (.plain (OpenSpec.upto auditPartsSpec)) auditPartsUptoCard

/-- THE SECOND FORM's CARD OF 'congresslaw20.AuditTexts'. -/
def auditTextsUptoCard : Claim7 := { stood := { row := auditTextsUptoRow, standIns := [], harness := (true, "0ee40fd1ceeb96850450f91e97fae3fa88e2039d542bf5cd6467749023e2d591"), looks := true }, kinds := [], alts := [], laidByText := true, laidKinds := [.data, .data, .data, .data, .sentinel, .sentinel, .pinned], laidTests := true, laidLooks := .later }
def AuditTextsUptoCardSaid : Prop := Claim7.holds Tryd.pinned (.plain (OpenSpec.upto auditTextsSpec)) auditTextsUptoCard

/-- THE SECOND FORM's CARD OF 'congresslaw20.AuditBack'. -/
def auditBackUptoCard : Claim7 := { stood := { row := auditBackUptoRow, standIns := [], harness := (true, "0ee40fd1ceeb96850450f91e97fae3fa88e2039d542bf5cd6467749023e2d591"), looks := true }, kinds := [], alts := [], laidByText := true, laidKinds := [.data, .data, .data, .data, .sentinel, .sentinel, .pinned], laidTests := true, laidLooks := .later }
def AuditBackUptoCardSaid : Prop := Claim7.holds Tryd.pinned (.plain (OpenSpec.upto auditBackSpec)) auditBackUptoCard
end Rows
end Go.Proofs.YtoeioacgpildpaaDoor
