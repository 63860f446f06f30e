/-
  DERIVED. GIVEN WITH THE SEED: THE CARDS: each row of YtikmkalfdiiahaaGreatDoorRows.lean that lists a variable, with what it lists TIED to the program's text (the seventh form; the later family's looks); each row that meets fmt, with fmt's text TOLD by the authors' own Lean function (tested against real Go, not proved from fmt's source: count such statements apart). THE CARD IS WHAT COUNTS. Prove the row's statement (the work); the ties are given (YtikmkalfdiiahaaGreatDoorTie.lean); close each card by the builder's one call (the guide's Derived/Test/ToyasCard.lean, 'card_holds'). Laid BY PROGRAM, IN A SANDBOX (cutbox-door.mjs). By AI agents, Wed Nov 11 2026. No macro, syntax, notation, axiom, sorry.
-/
import Derived.Test.YtikmkalfdiiahaaGreatDoorRows
import GoSem.ClaimSeven
namespace Go.Proofs.YtikmkalfdiiahaaGreatDoor
namespace Rows

/-- THE TIED CARD OF 'theodolitelaw16.LiftNested'. -/
def liftNestedCard : Claim7 := { stood := { row := liftNestedRow, standIns := [], harness := (true, "ea60a2aa220553a758a69b1b4bd5704e807b36ac4a7a01a73156b4adb4b4df53"), looks := false }, kinds := [], alts := [], laidByText := true, laidKinds := [.data, .data, .data, .data, .listed, .data, .pinned, .pinned, .pinned, .pinned, .pinned, .pinned], laidTests := true, laidLooks := .later }
def LiftNestedCardSaid : Prop := Claim7.holds Tryz.pinned (.plain (OpenSpec.ofChange liftNestedSpec)) liftNestedCard

/-- THE TIED CARD OF 'theodolitelaw17.FlatNested'. -/
def flatNestedCard : Claim7 := { stood := { row := flatNestedRow, standIns := [], harness := (true, "ea60a2aa220553a758a69b1b4bd5704e807b36ac4a7a01a73156b4adb4b4df53"), looks := false }, kinds := [], alts := [], laidByText := true, laidKinds := [.data, .data, .data, .data, .listed, .data, .pinned, .pinned, .pinned, .pinned, .pinned, .pinned], laidTests := true, laidLooks := .later }
def FlatNestedCardSaid : Prop := Claim7.holds Tryz.pinned (.plain (OpenSpec.ofChange flatNestedSpec)) flatNestedCard

/-- THE TIED CARD OF 'theodolitelaw7.TermFresh'. -/
def termFreshCard : Claim7 := { stood := { row := termFreshRow, standIns := [], harness := (true, "ea60a2aa220553a758a69b1b4bd5704e807b36ac4a7a01a73156b4adb4b4df53"), looks := false }, kinds := [], alts := [], laidByText := true, laidKinds := [.data, .data, .data, .data, .listed, .data, .pinned, .pinned, .pinned, .pinned, .pinned, .pinned], laidTests := true, laidLooks := .later }
def TermFreshCardSaid : Prop := Claim7.holds Tryz.pinned (.plain (OpenSpec.ofChange termFreshSpec)) termFreshCard

/-- THE TIED CARD OF 'theodolitelaw7.TermSums'. -/
def termSumsCard : Claim7 := { stood := { row := termSumsRow, standIns := [], harness := (true, "ea60a2aa220553a758a69b1b4bd5704e807b36ac4a7a01a73156b4adb4b4df53"), looks := false }, kinds := [], alts := [], laidByText := true, laidKinds := [.data, .data, .data, .data, .listed, .data, .pinned, .pinned, .pinned, .pinned, .pinned, .pinned], laidTests := true, laidLooks := .later }
def TermSumsCardSaid : Prop := Claim7.holds Tryz.pinned (.plain (OpenSpec.ofChange termSumsSpec)) termSumsCard

/-- THE TIED CARD OF 'theodolitelaw7.TermSorts'. -/
def termSortsCard : Claim7 := { stood := { row := termSortsRow, standIns := [], harness := (true, "ea60a2aa220553a758a69b1b4bd5704e807b36ac4a7a01a73156b4adb4b4df53"), looks := false }, kinds := [], alts := [], laidByText := true, laidKinds := [.data, .data, .data, .data, .listed, .data, .pinned, .pinned, .pinned, .pinned, .pinned, .pinned], laidTests := true, laidLooks := .later }
def TermSortsCardSaid : Prop := Claim7.holds Tryz.pinned (.plain (OpenSpec.ofChange termSortsSpec)) termSortsCard

/-- THE SECOND FORM's CARD OF 'theodolitelaw16.LiftNested'. -/
def liftNestedUptoCard : Claim7 := { stood := { row := liftNestedUptoRow, standIns := [], harness := (true, "ea60a2aa220553a758a69b1b4bd5704e807b36ac4a7a01a73156b4adb4b4df53"), looks := false }, kinds := [], alts := [], laidByText := true, laidKinds := [.data, .data, .data, .data, .listed, .data, .pinned, .pinned, .pinned, .pinned, .pinned, .pinned], laidTests := true, laidLooks := .later }
def LiftNestedUptoCardSaid : Prop := Claim7.holds Tryz.pinned (.plain (OpenSpec.upto liftNestedSpec)) liftNestedUptoCard

/-- THE SECOND FORM's CARD OF 'theodolitelaw17.FlatNested'. -/
def flatNestedUptoCard : Claim7 := { stood := { row := flatNestedUptoRow, standIns := [], harness := (true, "ea60a2aa220553a758a69b1b4bd5704e807b36ac4a7a01a73156b4adb4b4df53"), looks := false }, kinds := [], alts := [], laidByText := true, laidKinds := [.data, .data, .data, .data, .listed, .data, .pinned, .pinned, .pinned, .pinned, .pinned, .pinned], laidTests := true, laidLooks := .later }
def FlatNestedUptoCardSaid : Prop := Claim7.holds Tryz.pinned (.plain (OpenSpec.upto flatNestedSpec)) flatNestedUptoCard

/-- THE SECOND FORM's CARD OF 'theodolitelaw7.TermFresh'. -/
def termFreshUptoCard : Claim7 := { stood := { row := termFreshUptoRow, standIns := [], harness := (true, "ea60a2aa220553a758a69b1b4bd5704e807b36ac4a7a01a73156b4adb4b4df53"), looks := false }, kinds := [], alts := [], laidByText := true, laidKinds := [.data, .data, .data, .data, .listed, .data, .pinned, .pinned, .pinned, .pinned, .pinned, .pinned], laidTests := true, laidLooks := .later }
def TermFreshUptoCardSaid : Prop := Claim7.holds Tryz.pinned (.plain (OpenSpec.upto termFreshSpec)) termFreshUptoCard

/-- THE SECOND FORM's CARD OF 'theodolitelaw7.TermSums'. -/
def termSumsUptoCard : Claim7 := { stood := { row := termSumsUptoRow, standIns := [], harness := (true, "ea60a2aa220553a758a69b1b4bd5704e807b36ac4a7a01a73156b4adb4b4df53"), looks := false }, kinds := [], alts := [], laidByText := true, laidKinds := [.data, .data, .data, .data, .listed, .data, .pinned, .pinned, .pinned, .pinned, .pinned, .pinned], laidTests := true, laidLooks := .later }
def TermSumsUptoCardSaid : Prop := Claim7.holds Tryz.pinned (.plain (OpenSpec.upto termSumsSpec)) termSumsUptoCard

/-- THE SECOND FORM's CARD OF 'theodolitelaw7.TermSorts'. -/
def termSortsUptoCard : Claim7 := { stood := { row := termSortsUptoRow, standIns := [], harness := (true, "ea60a2aa220553a758a69b1b4bd5704e807b36ac4a7a01a73156b4adb4b4df53"), looks := false }, kinds := [], alts := [], laidByText := true, laidKinds := [.data, .data, .data, .data, .listed, .data, .pinned, .pinned, .pinned, .pinned, .pinned, .pinned], laidTests := true, laidLooks := .later }
def TermSortsUptoCardSaid : Prop := Claim7.holds Tryz.pinned (.plain (OpenSpec.upto termSortsSpec)) termSortsUptoCard
end Rows
end Go.Proofs.YtikmkalfdiiahaaGreatDoor
