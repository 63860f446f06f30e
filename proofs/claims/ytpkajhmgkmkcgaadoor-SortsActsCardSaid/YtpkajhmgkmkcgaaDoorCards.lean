/-
  DERIVED. GIVEN WITH THE SEED: THE CARDS: each row of YtpkajhmgkmkcgaaDoorRows.lean that lists a variable, with what it lists TIED to the program's text (the seventh form; the later family's looks); each row that meets fmt, with fmt's text TOLD by the authors' own Lean function (tested against real Go, not proved from fmt's source: count such statements apart). THE CARD IS WHAT COUNTS. Prove the row's statement (the work); the ties are given (YtpkajhmgkmkcgaaDoorTie.lean); close each card by the builder's one call (the guide's Derived/Test/ToyasCard.lean, 'card_holds'). Laid BY PROGRAM, IN A SANDBOX (cutbox-door.mjs). By AI agents, Wed Nov 11 2026. No macro, syntax, notation, axiom, sorry.
-/
import Derived.Test.YtpkajhmgkmkcgaaDoorRows
import GoSem.ClaimSeven
namespace Go.Proofs.YtpkajhmgkmkcgaaDoor
namespace Rows

/-- THE TIED CARD OF 'theodolitelaw6.SortsNames'. -/
def sortsNamesCard : Claim7 := { stood := { row := sortsNamesRow, standIns := [], harness := (true, "d40a1b32a28a154a711ca9a5d1e491e3239f0d3ed93826dfe960790b080c39f7"), looks := false }, kinds := [], alts := [], laidByText := true, laidKinds := [.listed, .data], laidTests := true, laidLooks := .later }
def SortsNamesCardSaid : Prop := Claim7.holds Tryd.pinned (.plain (OpenSpec.ofChange sortsNamesSpec)) sortsNamesCard

/-- THE TIED CARD OF 'theodolitelaw6.SortsFuns'. -/
def sortsFunsCard : Claim7 := { stood := { row := sortsFunsRow, standIns := [], harness := (true, "d40a1b32a28a154a711ca9a5d1e491e3239f0d3ed93826dfe960790b080c39f7"), looks := false }, kinds := [], alts := [], laidByText := true, laidKinds := [.listed, .data], laidTests := true, laidLooks := .later }
def SortsFunsCardSaid : Prop := Claim7.holds Tryd.pinned (.plain (OpenSpec.ofChange sortsFunsSpec)) sortsFunsCard

/-- THE TIED CARD OF 'theodolitelaw6.SortsActs'. -/
def sortsActsCard : Claim7 := { stood := { row := sortsActsRow, standIns := [], harness := (true, "d40a1b32a28a154a711ca9a5d1e491e3239f0d3ed93826dfe960790b080c39f7"), looks := false }, kinds := [], alts := [], laidByText := true, laidKinds := [.listed, .data], laidTests := true, laidLooks := .later }
def SortsActsCardSaid : Prop := Claim7.holds Tryd.pinned (.plain (OpenSpec.ofChange sortsActsSpec)) sortsActsCard

/-- THE TIED CARD OF 'theodolitelaw6.SortsLevels'. -/
def sortsLevelsCard : Claim7 := { stood := { row := sortsLevelsRow, standIns := [], harness := (true, "d40a1b32a28a154a711ca9a5d1e491e3239f0d3ed93826dfe960790b080c39f7"), looks := false }, kinds := [], alts := [], laidByText := true, laidKinds := [.listed, .data], laidTests := true, laidLooks := .later }
def SortsLevelsCardSaid : Prop := Claim7.holds Tryd.pinned (.plain (OpenSpec.ofChange sortsLevelsSpec)) sortsLevelsCard

/-- THE SECOND FORM's CARD OF 'theodolitelaw6.SortsNames'. -/
def sortsNamesUptoCard : Claim7 := { stood := { row := sortsNamesUptoRow, standIns := [], harness := (true, "d40a1b32a28a154a711ca9a5d1e491e3239f0d3ed93826dfe960790b080c39f7"), looks := false }, kinds := [], alts := [], laidByText := true, laidKinds := [.listed, .data], laidTests := true, laidLooks := .later }
def SortsNamesUptoCardSaid : Prop := Claim7.holds Tryd.pinned (.plain (OpenSpec.upto sortsNamesSpec)) sortsNamesUptoCard

/-- THE SECOND FORM's CARD OF 'theodolitelaw6.SortsFuns'. -/
def sortsFunsUptoCard : Claim7 := { stood := { row := sortsFunsUptoRow, standIns := [], harness := (true, "d40a1b32a28a154a711ca9a5d1e491e3239f0d3ed93826dfe960790b080c39f7"), looks := false }, kinds := [], alts := [], laidByText := true, laidKinds := [.listed, .data], laidTests := true, laidLooks := .later }
def SortsFunsUptoCardSaid : Prop := Claim7.holds Tryd.pinned (.plain (OpenSpec.upto sortsFunsSpec)) sortsFunsUptoCard

/-- THE SECOND FORM's CARD OF 'theodolitelaw6.SortsActs'. -/
def sortsActsUptoCard : Claim7 := { stood := { row := sortsActsUptoRow, standIns := [], harness := (true, "d40a1b32a28a154a711ca9a5d1e491e3239f0d3ed93826dfe960790b080c39f7"), looks := false }, kinds := [], alts := [], laidByText := true, laidKinds := [.listed, .data], laidTests := true, laidLooks := .later }
def SortsActsUptoCardSaid : Prop := Claim7.holds Tryd.pinned (.plain (OpenSpec.upto sortsActsSpec)) sortsActsUptoCard

/-- THE SECOND FORM's CARD OF 'theodolitelaw6.SortsLevels'. -/
def sortsLevelsUptoCard : Claim7 := { stood := { row := sortsLevelsUptoRow, standIns := [], harness := (true, "d40a1b32a28a154a711ca9a5d1e491e3239f0d3ed93826dfe960790b080c39f7"), looks := false }, kinds := [], alts := [], laidByText := true, laidKinds := [.listed, .data], laidTests := true, laidLooks := .later }
def SortsLevelsUptoCardSaid : Prop := Claim7.holds Tryd.pinned (.plain (OpenSpec.upto sortsLevelsSpec)) sortsLevelsUptoCard
end Rows
end Go.Proofs.YtpkajhmgkmkcgaaDoor
