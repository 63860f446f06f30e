/-
  DERIVED. GIVEN WITH THE SEED: THE CARDS: each row of YtgoojkiccdjplaaGreatDoorRows.lean that lists a variable, with what it lists TIED to the program's text (the seventh form; the later family's looks); each row that meets fmt, with fmt's text TOLD by the authors' own Lean function (tested against real Go, not proved from fmt's source: count such statements apart). THE CARD IS WHAT COUNTS. Prove the row's statement (the work); the ties are given (YtgoojkiccdjplaaGreatDoorTie.lean); close each card by the builder's one call (the guide's Derived/Test/ToyasCard.lean, 'card_holds'). Laid BY PROGRAM, IN A SANDBOX (cutbox-door.mjs). By AI agents, Wed Nov 11 2026. No macro, syntax, notation, axiom, sorry.
-/
import Derived.Test.YtgoojkiccdjplaaGreatDoorRows
import GoSem.ClaimSeven
namespace Go.Proofs.YtgoojkiccdjplaaGreatDoor
namespace Rows

/-- THE TIED CARD OF 'theodolitelaw16.LiftOnce'. -/
def liftOnceCard : Claim7 := { stood := { row := liftOnceRow, standIns := [], harness := (true, "cdbd315eca063f9b58677fad9a348864165e43bf681ee324329fc1d73e041152"), looks := false }, kinds := [], alts := [], laidByText := true, laidKinds := [.data, .data, .data, .data, .listed, .data, .pinned, .pinned, .pinned, .pinned, .pinned, .pinned], laidTests := true, laidLooks := .later }
def LiftOnceCardSaid : Prop := Claim7.holds Tryz.pinned (.plain (OpenSpec.ofChange liftOnceSpec)) liftOnceCard

/-- THE TIED CARD OF 'theodolitelaw17.FlatPlain'. -/
def flatPlainCard : Claim7 := { stood := { row := flatPlainRow, standIns := [], harness := (true, "cdbd315eca063f9b58677fad9a348864165e43bf681ee324329fc1d73e041152"), looks := false }, kinds := [], alts := [], laidByText := true, laidKinds := [.data, .data, .data, .data, .listed, .data, .pinned, .pinned, .pinned, .pinned, .pinned, .pinned], laidTests := true, laidLooks := .later }
def FlatPlainCardSaid : Prop := Claim7.holds Tryz.pinned (.plain (OpenSpec.ofChange flatPlainSpec)) flatPlainCard

/-- THE TIED CARD OF 'theodolitelaw17.FlatOnce'. -/
def flatOnceCard : Claim7 := { stood := { row := flatOnceRow, standIns := [], harness := (true, "cdbd315eca063f9b58677fad9a348864165e43bf681ee324329fc1d73e041152"), looks := false }, kinds := [], alts := [], laidByText := true, laidKinds := [.data, .data, .data, .data, .listed, .data, .pinned, .pinned, .pinned, .pinned, .pinned, .pinned], laidTests := true, laidLooks := .later }
def FlatOnceCardSaid : Prop := Claim7.holds Tryz.pinned (.plain (OpenSpec.ofChange flatOnceSpec)) flatOnceCard

/-- THE TIED CARD OF 'theodolitelaw10.ModelLogic'. -/
def modelLogicCard : Claim7 := { stood := { row := modelLogicRow, standIns := [], harness := (true, "cdbd315eca063f9b58677fad9a348864165e43bf681ee324329fc1d73e041152"), looks := false }, kinds := [], alts := [], laidByText := true, laidKinds := [.data, .data, .data, .data, .listed, .data, .pinned, .pinned, .pinned, .pinned, .pinned, .pinned], laidTests := true, laidLooks := .later }
def ModelLogicCardSaid : Prop := Claim7.holds Tryz.pinned (.plain (OpenSpec.ofChange modelLogicSpec)) modelLogicCard

/-- THE TIED CARD OF 'theodolitelaw10.ModelTablesTell'. -/
def modelTablesTellCard : Claim7 := { stood := { row := modelTablesTellRow, standIns := [], harness := (true, "cdbd315eca063f9b58677fad9a348864165e43bf681ee324329fc1d73e041152"), looks := false }, kinds := [], alts := [], laidByText := true, laidKinds := [.data, .data, .data, .data, .listed, .data, .pinned, .pinned, .pinned, .pinned, .pinned, .pinned], laidTests := true, laidLooks := .later }
def ModelTablesTellCardSaid : Prop := Claim7.holds Tryz.pinned (.plain (OpenSpec.ofChange modelTablesTellSpec)) modelTablesTellCard

/-- THE TIED CARD OF 'theodolitelaw10.ModelSums'. -/
def modelSumsCard : Claim7 := { stood := { row := modelSumsRow, standIns := [], harness := (true, "cdbd315eca063f9b58677fad9a348864165e43bf681ee324329fc1d73e041152"), looks := false }, kinds := [], alts := [], laidByText := true, laidKinds := [.data, .data, .data, .data, .listed, .data, .pinned, .pinned, .pinned, .pinned, .pinned, .pinned], laidTests := true, laidLooks := .later }
def ModelSumsCardSaid : Prop := Claim7.holds Tryz.pinned (.plain (OpenSpec.ofChange modelSumsSpec)) modelSumsCard

/-- THE TIED CARD OF 'theodolitelaw16.LiftSays'. -/
def liftSaysCard : Claim7 := { stood := { row := liftSaysRow, standIns := [], harness := (true, "cdbd315eca063f9b58677fad9a348864165e43bf681ee324329fc1d73e041152"), looks := false }, kinds := [], alts := [], laidByText := true, laidKinds := [.data, .data, .data, .data, .listed, .data, .pinned, .pinned, .pinned, .pinned, .pinned, .pinned], laidTests := true, laidLooks := .later }
def LiftSaysCardSaid : Prop := Claim7.holds Tryz.pinned (.plain (OpenSpec.ofChange liftSaysSpec)) liftSaysCard

/-- THE TIED CARD OF 'theodolitelaw16.LiftChains'. -/
def liftChainsCard : Claim7 := { stood := { row := liftChainsRow, standIns := [], harness := (true, "cdbd315eca063f9b58677fad9a348864165e43bf681ee324329fc1d73e041152"), looks := false }, kinds := [], alts := [], laidByText := true, laidKinds := [.data, .data, .data, .data, .listed, .data, .pinned, .pinned, .pinned, .pinned, .pinned, .pinned], laidTests := true, laidLooks := .later }
def LiftChainsCardSaid : Prop := Claim7.holds Tryz.pinned (.plain (OpenSpec.ofChange liftChainsSpec)) liftChainsCard

/-- THE TIED CARD OF 'theodolitelaw17.FlatSays'. -/
def flatSaysCard : Claim7 := { stood := { row := flatSaysRow, standIns := [], harness := (true, "cdbd315eca063f9b58677fad9a348864165e43bf681ee324329fc1d73e041152"), looks := false }, kinds := [], alts := [], laidByText := true, laidKinds := [.data, .data, .data, .data, .listed, .data, .pinned, .pinned, .pinned, .pinned, .pinned, .pinned], laidTests := true, laidLooks := .later }
def FlatSaysCardSaid : Prop := Claim7.holds Tryz.pinned (.plain (OpenSpec.ofChange flatSaysSpec)) flatSaysCard

/-- THE TIED CARD OF 'theodolitelaw10.ModelTables'. -/
def modelTablesCard : Claim7 := { stood := { row := modelTablesRow, standIns := [], harness := (true, "cdbd315eca063f9b58677fad9a348864165e43bf681ee324329fc1d73e041152"), looks := false }, kinds := [], alts := [], laidByText := true, laidKinds := [.data, .data, .data, .data, .listed, .data, .pinned, .pinned, .pinned, .pinned, .pinned, .pinned], laidTests := true, laidLooks := .later }
def ModelTablesCardSaid : Prop := Claim7.holds Tryz.pinned (.plain (OpenSpec.ofChange modelTablesSpec)) modelTablesCard

/-- THE SECOND FORM's CARD OF 'theodolitelaw16.LiftOnce'. -/
def liftOnceUptoCard : Claim7 := { stood := { row := liftOnceUptoRow, standIns := [], harness := (true, "cdbd315eca063f9b58677fad9a348864165e43bf681ee324329fc1d73e041152"), looks := false }, kinds := [], alts := [], laidByText := true, laidKinds := [.data, .data, .data, .data, .listed, .data, .pinned, .pinned, .pinned, .pinned, .pinned, .pinned], laidTests := true, laidLooks := .later }
def LiftOnceUptoCardSaid : Prop := Claim7.holds Tryz.pinned (.plain (OpenSpec.upto liftOnceSpec)) liftOnceUptoCard

/-- THE SECOND FORM's CARD OF 'theodolitelaw17.FlatPlain'. -/
def flatPlainUptoCard : Claim7 := { stood := { row := flatPlainUptoRow, standIns := [], harness := (true, "cdbd315eca063f9b58677fad9a348864165e43bf681ee324329fc1d73e041152"), looks := false }, kinds := [], alts := [], laidByText := true, laidKinds := [.data, .data, .data, .data, .listed, .data, .pinned, .pinned, .pinned, .pinned, .pinned, .pinned], laidTests := true, laidLooks := .later }
def FlatPlainUptoCardSaid : Prop := Claim7.holds Tryz.pinned (.plain (OpenSpec.upto flatPlainSpec)) flatPlainUptoCard

/-- THE SECOND FORM's CARD OF 'theodolitelaw17.FlatOnce'. -/
def flatOnceUptoCard : Claim7 := { stood := { row := flatOnceUptoRow, standIns := [], harness := (true, "cdbd315eca063f9b58677fad9a348864165e43bf681ee324329fc1d73e041152"), looks := false }, kinds := [], alts := [], laidByText := true, laidKinds := [.data, .data, .data, .data, .listed, .data, .pinned, .pinned, .pinned, .pinned, .pinned, .pinned], laidTests := true, laidLooks := .later }
def FlatOnceUptoCardSaid : Prop := Claim7.holds Tryz.pinned (.plain (OpenSpec.upto flatOnceSpec)) flatOnceUptoCard

/-- THE SECOND FORM's CARD OF 'theodolitelaw10.ModelLogic'. -/
def modelLogicUptoCard : Claim7 := { stood := { row := modelLogicUptoRow, standIns := [], harness := (true, "cdbd315eca063f9b58677fad9a348864165e43bf681ee324329fc1d73e041152"), looks := false }, kinds := [], alts := [], laidByText := true, laidKinds := [.data, .data, .data, .data, .listed, .data, .pinned, .pinned, .pinned, .pinned, .pinned, .pinned], laidTests := true, laidLooks := .later }
def ModelLogicUptoCardSaid : Prop := Claim7.holds Tryz.pinned (.plain (OpenSpec.upto modelLogicSpec)) modelLogicUptoCard

/-- THE SECOND FORM's CARD OF 'theodolitelaw10.ModelTablesTell'. -/
def modelTablesTellUptoCard : Claim7 := { stood := { row := modelTablesTellUptoRow, standIns := [], harness := (true, "cdbd315eca063f9b58677fad9a348864165e43bf681ee324329fc1d73e041152"), looks := false }, kinds := [], alts := [], laidByText := true, laidKinds := [.data, .data, .data, .data, .listed, .data, .pinned, .pinned, .pinned, .pinned, .pinned, .pinned], laidTests := true, laidLooks := .later }
def ModelTablesTellUptoCardSaid : Prop := Claim7.holds Tryz.pinned (.plain (OpenSpec.upto modelTablesTellSpec)) modelTablesTellUptoCard

/-- THE SECOND FORM's CARD OF 'theodolitelaw10.ModelSums'. -/
def modelSumsUptoCard : Claim7 := { stood := { row := modelSumsUptoRow, standIns := [], harness := (true, "cdbd315eca063f9b58677fad9a348864165e43bf681ee324329fc1d73e041152"), looks := false }, kinds := [], alts := [], laidByText := true, laidKinds := [.data, .data, .data, .data, .listed, .data, .pinned, .pinned, .pinned, .pinned, .pinned, .pinned], laidTests := true, laidLooks := .later }
def ModelSumsUptoCardSaid : Prop := Claim7.holds Tryz.pinned (.plain (OpenSpec.upto modelSumsSpec)) modelSumsUptoCard

/-- THE SECOND FORM's CARD OF 'theodolitelaw16.LiftSays'. -/
def liftSaysUptoCard : Claim7 := { stood := { row := liftSaysUptoRow, standIns := [], harness := (true, "cdbd315eca063f9b58677fad9a348864165e43bf681ee324329fc1d73e041152"), looks := false }, kinds := [], alts := [], laidByText := true, laidKinds := [.data, .data, .data, .data, .listed, .data, .pinned, .pinned, .pinned, .pinned, .pinned, .pinned], laidTests := true, laidLooks := .later }
def LiftSaysUptoCardSaid : Prop := Claim7.holds Tryz.pinned (.plain (OpenSpec.upto liftSaysSpec)) liftSaysUptoCard

/-- THE SECOND FORM's CARD OF 'theodolitelaw16.LiftChains'. -/
def liftChainsUptoCard : Claim7 := { stood := { row := liftChainsUptoRow, standIns := [], harness := (true, "cdbd315eca063f9b58677fad9a348864165e43bf681ee324329fc1d73e041152"), looks := false }, kinds := [], alts := [], laidByText := true, laidKinds := [.data, .data, .data, .data, .listed, .data, .pinned, .pinned, .pinned, .pinned, .pinned, .pinned], laidTests := true, laidLooks := .later }
def LiftChainsUptoCardSaid : Prop := Claim7.holds Tryz.pinned (.plain (OpenSpec.upto liftChainsSpec)) liftChainsUptoCard

/-- THE SECOND FORM's CARD OF 'theodolitelaw17.FlatSays'. -/
def flatSaysUptoCard : Claim7 := { stood := { row := flatSaysUptoRow, standIns := [], harness := (true, "cdbd315eca063f9b58677fad9a348864165e43bf681ee324329fc1d73e041152"), looks := false }, kinds := [], alts := [], laidByText := true, laidKinds := [.data, .data, .data, .data, .listed, .data, .pinned, .pinned, .pinned, .pinned, .pinned, .pinned], laidTests := true, laidLooks := .later }
def FlatSaysUptoCardSaid : Prop := Claim7.holds Tryz.pinned (.plain (OpenSpec.upto flatSaysSpec)) flatSaysUptoCard

/-- THE SECOND FORM's CARD OF 'theodolitelaw10.ModelTables'. -/
def modelTablesUptoCard : Claim7 := { stood := { row := modelTablesUptoRow, standIns := [], harness := (true, "cdbd315eca063f9b58677fad9a348864165e43bf681ee324329fc1d73e041152"), looks := false }, kinds := [], alts := [], laidByText := true, laidKinds := [.data, .data, .data, .data, .listed, .data, .pinned, .pinned, .pinned, .pinned, .pinned, .pinned], laidTests := true, laidLooks := .later }
def ModelTablesUptoCardSaid : Prop := Claim7.holds Tryz.pinned (.plain (OpenSpec.upto modelTablesSpec)) modelTablesUptoCard
end Rows
end Go.Proofs.YtgoojkiccdjplaaGreatDoor
