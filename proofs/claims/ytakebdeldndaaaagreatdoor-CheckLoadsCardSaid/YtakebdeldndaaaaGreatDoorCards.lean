/-
  DERIVED. GIVEN WITH THE SEED: THE CARDS: each row of YtakebdeldndaaaaGreatDoorRows.lean that lists a variable, with what it lists TIED to the program's text (the seventh form; the later family's looks); each row that meets fmt, with fmt's text TOLD by the authors' own Lean function (tested against real Go, not proved from fmt's source: count such statements apart). THE CARD IS WHAT COUNTS. Prove the row's statement (the work); the ties are given (YtakebdeldndaaaaGreatDoorTie.lean); close each card by the builder's one call (the guide's Derived/Test/ToyasCard.lean, 'card_holds'). Laid BY PROGRAM, IN A SANDBOX (cutbox-door.mjs). By AI agents, Wed Nov 11 2026. No macro, syntax, notation, axiom, sorry.
-/
import Derived.Test.YtakebdeldndaaaaGreatDoorRows
import GoSem.ClaimSeven
namespace Go.Proofs.YtakebdeldndaaaaGreatDoor
namespace Rows

/-- THE TIED CARD OF 'registrarlaw17.CheckCleans'. -/
def checkCleansCard : Claim7 := { stood := { row := checkCleansRow, standIns := [], harness := (true, "961244be6a323c1aa7769c1615f682662ebbc2b0f67b63ea6d332ee11f5ee0a6"), looks := true }, kinds := [], alts := [], laidByText := true, laidKinds := [.data, .pinned], laidTests := true, laidLooks := .later }
def CheckCleansCardSaid : Prop := Claim7.holds Tryz.pinned (.plain (OpenSpec.ofChange checkCleansSpec)) checkCleansCard

/-- THE TIED CARD OF 'registrarlaw17.CheckLoads'. -/
def checkLoadsCard : Claim7 := { stood := { row := checkLoadsRow, standIns := [], harness := (true, "961244be6a323c1aa7769c1615f682662ebbc2b0f67b63ea6d332ee11f5ee0a6"), looks := true }, kinds := [], alts := [], laidByText := true, laidKinds := [.data, .pinned], laidTests := true, laidLooks := .later }
def CheckLoadsCardSaid : Prop := Claim7.holds Tryz.pinned (.plain (OpenSpec.ofChange checkLoadsSpec)) checkLoadsCard

/-- THE TIED CARD OF 'registrarlaw17.CheckCrash'. -/
def checkCrashCard : Claim7 := { stood := { row := checkCrashRow, standIns := [], harness := (true, "961244be6a323c1aa7769c1615f682662ebbc2b0f67b63ea6d332ee11f5ee0a6"), looks := true }, kinds := [], alts := [], laidByText := true, laidKinds := [.data, .pinned], laidTests := true, laidLooks := .later }
def CheckCrashCardSaid : Prop := Claim7.holds Tryz.pinned (.plain (OpenSpec.ofChange checkCrashSpec)) checkCrashCard

/-- THE TIED CARD OF 'registrarlaw17.CheckSaves'. -/
def checkSavesCard : Claim7 := { stood := { row := checkSavesRow, standIns := [], harness := (true, "961244be6a323c1aa7769c1615f682662ebbc2b0f67b63ea6d332ee11f5ee0a6"), looks := true }, kinds := [], alts := [], laidByText := true, laidKinds := [.data, .pinned], laidTests := true, laidLooks := .later }
def CheckSavesCardSaid : Prop := Claim7.holds Tryz.pinned (.plain (OpenSpec.ofChange checkSavesSpec)) checkSavesCard

/-- THE TIED CARD OF 'registrarlaw17.CheckAgain'. -/
def checkAgainCard : Claim7 := { stood := { row := checkAgainRow, standIns := [], harness := (true, "961244be6a323c1aa7769c1615f682662ebbc2b0f67b63ea6d332ee11f5ee0a6"), looks := true }, kinds := [], alts := [], laidByText := true, laidKinds := [.data, .pinned], laidTests := true, laidLooks := .later }
def CheckAgainCardSaid : Prop := Claim7.holds Tryz.pinned (.plain (OpenSpec.ofChange checkAgainSpec)) checkAgainCard

/-- THE SECOND FORM's CARD OF 'registrarlaw17.CheckCleans'. -/
def checkCleansUptoCard : Claim7 := { stood := { row := checkCleansUptoRow, standIns := [], harness := (true, "961244be6a323c1aa7769c1615f682662ebbc2b0f67b63ea6d332ee11f5ee0a6"), looks := true }, kinds := [], alts := [], laidByText := true, laidKinds := [.data, .pinned], laidTests := true, laidLooks := .later }
def CheckCleansUptoCardSaid : Prop := Claim7.holds Tryz.pinned (.plain (OpenSpec.upto checkCleansSpec)) checkCleansUptoCard

/-- THE SECOND FORM's CARD OF 'registrarlaw17.CheckLoads'. -/
def checkLoadsUptoCard : Claim7 := { stood := { row := checkLoadsUptoRow, standIns := [], harness := (true, "961244be6a323c1aa7769c1615f682662ebbc2b0f67b63ea6d332ee11f5ee0a6"), looks := true }, kinds := [], alts := [], laidByText := true, laidKinds := [.data, .pinned], laidTests := true, laidLooks := .later }
def CheckLoadsUptoCardSaid : Prop := Claim7.holds Tryz.pinned (.plain (OpenSpec.upto checkLoadsSpec)) checkLoadsUptoCard

/-- THE SECOND FORM's CARD OF 'registrarlaw17.CheckCrash'. -/
def checkCrashUptoCard : Claim7 := { stood := { row := checkCrashUptoRow, standIns := [], harness := (true, "961244be6a323c1aa7769c1615f682662ebbc2b0f67b63ea6d332ee11f5ee0a6"), looks := true }, kinds := [], alts := [], laidByText := true, laidKinds := [.data, .pinned], laidTests := true, laidLooks := .later }
def CheckCrashUptoCardSaid : Prop := Claim7.holds Tryz.pinned (.plain (OpenSpec.upto checkCrashSpec)) checkCrashUptoCard

/-- THE SECOND FORM's CARD OF 'registrarlaw17.CheckSaves'. -/
def checkSavesUptoCard : Claim7 := { stood := { row := checkSavesUptoRow, standIns := [], harness := (true, "961244be6a323c1aa7769c1615f682662ebbc2b0f67b63ea6d332ee11f5ee0a6"), looks := true }, kinds := [], alts := [], laidByText := true, laidKinds := [.data, .pinned], laidTests := true, laidLooks := .later }
def CheckSavesUptoCardSaid : Prop := Claim7.holds Tryz.pinned (.plain (OpenSpec.upto checkSavesSpec)) checkSavesUptoCard

/-- THE SECOND FORM's CARD OF 'registrarlaw17.CheckAgain'. -/
def checkAgainUptoCard : Claim7 := { stood := { row := checkAgainUptoRow, standIns := [], harness := (true, "961244be6a323c1aa7769c1615f682662ebbc2b0f67b63ea6d332ee11f5ee0a6"), looks := true }, kinds := [], alts := [], laidByText := true, laidKinds := [.data, .pinned], laidTests := true, laidLooks := .later }
def CheckAgainUptoCardSaid : Prop := Claim7.holds Tryz.pinned (.plain (OpenSpec.upto checkAgainSpec)) checkAgainUptoCard
end Rows
end Go.Proofs.YtakebdeldndaaaaGreatDoor
