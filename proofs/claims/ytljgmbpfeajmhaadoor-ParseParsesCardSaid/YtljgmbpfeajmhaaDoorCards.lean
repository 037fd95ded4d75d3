/-
  DERIVED. GIVEN WITH THE SEED: THE CARDS: each row of YtljgmbpfeajmhaaDoorRows.lean that lists a variable, with what it lists TIED to the program's text (the seventh form; the later family's looks); each row that meets fmt, with fmt's text TOLD by the authors' own Lean function (tested against real Go, not proved from fmt's source: count such statements apart). THE CARD IS WHAT COUNTS. Prove the row's statement (the work); the ties are given (YtljgmbpfeajmhaaDoorTie.lean); close each card by the builder's one call (the guide's Derived/Test/ToyasCard.lean, 'card_holds'). Laid BY PROGRAM, IN A SANDBOX (cutbox-door.mjs). By AI agents, Wed Nov 11 2026. No macro, syntax, notation, axiom, sorry.
-/
import Derived.Test.YtljgmbpfeajmhaaDoorRows
import GoSem.ClaimSeven
namespace Go.Proofs.YtljgmbpfeajmhaaDoor
namespace Rows

/-- THE TIED CARD OF 'congresslaw21.ParseParses'. -/
def parseParsesCard : Claim7 := { stood := { row := parseParsesRow, standIns := [], harness := (true, "3097e2a7f92b0a2192efc61ff73ada9296f473d5b15d891005dade236ecf984b"), looks := true }, kinds := [], alts := [], laidByText := true, laidKinds := [.data, .data, .data, .sentinel, .sentinel], laidTests := true, laidLooks := .later }
def ParseParsesCardSaid : Prop := Claim7.holds Tryd.pinned (.plain (OpenSpec.ofChange parseParsesSpec)) parseParsesCard

/-- THE TIED CARD OF 'congresslaw21.ParsePrints'. -/
def parsePrintsCard : Claim7 := { stood := { row := parsePrintsRow, standIns := [], harness := (true, "3097e2a7f92b0a2192efc61ff73ada9296f473d5b15d891005dade236ecf984b"), looks := true }, kinds := [], alts := [], laidByText := true, laidKinds := [.data, .data, .data, .sentinel, .sentinel], laidTests := true, laidLooks := .later }
def ParsePrintsCardSaid : Prop := Claim7.holds Tryd.pinned (.plain (OpenSpec.ofChange parsePrintsSpec)) parsePrintsCard

/-- THE TIED CARD OF 'congresslaw21.ParseBack'. -/
def parseBackCard : Claim7 := { stood := { row := parseBackRow, standIns := [], harness := (true, "3097e2a7f92b0a2192efc61ff73ada9296f473d5b15d891005dade236ecf984b"), looks := true }, kinds := [], alts := [], laidByText := true, laidKinds := [.data, .data, .data, .sentinel, .sentinel], laidTests := true, laidLooks := .later }
def ParseBackCardSaid : Prop := Claim7.holds Tryd.pinned (.plain (OpenSpec.ofChange parseBackSpec)) parseBackCard

/-- THE TIED CARD OF 'congresslaw21.ParseStrict'. -/
def parseStrictCard : Claim7 := { stood := { row := parseStrictRow, standIns := [], harness := (true, "3097e2a7f92b0a2192efc61ff73ada9296f473d5b15d891005dade236ecf984b"), looks := true }, kinds := [], alts := [], laidByText := true, laidKinds := [.data, .data, .data, .sentinel, .sentinel], laidTests := true, laidLooks := .later }
def ParseStrictCardSaid : Prop := Claim7.holds Tryd.pinned (.plain (OpenSpec.ofChange parseStrictSpec)) parseStrictCard

/-- THE TIED CARD OF 'congresslaw21.ParseKinds'. -/
def parseKindsCard : Claim7 := { stood := { row := parseKindsRow, standIns := [], harness := (true, "3097e2a7f92b0a2192efc61ff73ada9296f473d5b15d891005dade236ecf984b"), looks := true }, kinds := [], alts := [], laidByText := true, laidKinds := [.data, .data, .data, .sentinel, .sentinel], laidTests := true, laidLooks := .later }
def ParseKindsCardSaid : Prop := Claim7.holds Tryd.pinned (.plain (OpenSpec.ofChange parseKindsSpec)) parseKindsCard

/-- THE SECOND FORM's CARD OF 'congresslaw21.ParseParses'. -/
def parseParsesUptoCard : Claim7 := { stood := { row := parseParsesUptoRow, standIns := [], harness := (true, "3097e2a7f92b0a2192efc61ff73ada9296f473d5b15d891005dade236ecf984b"), looks := true }, kinds := [], alts := [], laidByText := true, laidKinds := [.data, .data, .data, .sentinel, .sentinel], laidTests := true, laidLooks := .later }
def ParseParsesUptoCardSaid : Prop := Claim7.holds Tryd.pinned (.plain (OpenSpec.upto parseParsesSpec)) parseParsesUptoCard

/-- THE SECOND FORM's CARD OF 'congresslaw21.ParsePrints'. -/
def parsePrintsUptoCard : Claim7 := { stood := { row := parsePrintsUptoRow, standIns := [], harness := (true, "3097e2a7f92b0a2192efc61ff73ada9296f473d5b15d891005dade236ecf984b"), looks := true }, kinds := [], alts := [], laidByText := true, laidKinds := [.data, .data, .data, .sentinel, .sentinel], laidTests := true, laidLooks := .later }
def ParsePrintsUptoCardSaid : Prop := Claim7.holds Tryd.pinned (.plain (OpenSpec.upto parsePrintsSpec)) parsePrintsUptoCard

/-- THE SECOND FORM's CARD OF 'congresslaw21.ParseBack'. -/
def parseBackUptoCard : Claim7 := { stood := { row := parseBackUptoRow, standIns := [], harness := (true, "3097e2a7f92b0a2192efc61ff73ada9296f473d5b15d891005dade236ecf984b"), looks := true }, kinds := [], alts := [], laidByText := true, laidKinds := [.data, .data, .data, .sentinel, .sentinel], laidTests := true, laidLooks := .later }
def ParseBackUptoCardSaid : Prop := Claim7.holds Tryd.pinned (.plain (OpenSpec.upto parseBackSpec)) parseBackUptoCard

/-- THE SECOND FORM's CARD OF 'congresslaw21.ParseStrict'. -/
def parseStrictUptoCard : Claim7 := { stood := { row := parseStrictUptoRow, standIns := [], harness := (true, "3097e2a7f92b0a2192efc61ff73ada9296f473d5b15d891005dade236ecf984b"), looks := true }, kinds := [], alts := [], laidByText := true, laidKinds := [.data, .data, .data, .sentinel, .sentinel], laidTests := true, laidLooks := .later }
def ParseStrictUptoCardSaid : Prop := Claim7.holds Tryd.pinned (.plain (OpenSpec.upto parseStrictSpec)) parseStrictUptoCard

/-- THE SECOND FORM's CARD OF 'congresslaw21.ParseKinds'. -/
def parseKindsUptoCard : Claim7 := { stood := { row := parseKindsUptoRow, standIns := [], harness := (true, "3097e2a7f92b0a2192efc61ff73ada9296f473d5b15d891005dade236ecf984b"), looks := true }, kinds := [], alts := [], laidByText := true, laidKinds := [.data, .data, .data, .sentinel, .sentinel], laidTests := true, laidLooks := .later }
def ParseKindsUptoCardSaid : Prop := Claim7.holds Tryd.pinned (.plain (OpenSpec.upto parseKindsSpec)) parseKindsUptoCard
end Rows
end Go.Proofs.YtljgmbpfeajmhaaDoor
