/-
  DERIVED. GIVEN WITH THE SEED: THE CARDS: each row of YtpipmkaljkhgiaaDoorRows.lean that lists a variable, with what it lists TIED to the program's text (the seventh form; the later family's looks); each row that meets fmt, with fmt's text TOLD by the authors' own Lean function (tested against real Go, not proved from fmt's source: count such statements apart). THE CARD IS WHAT COUNTS. Prove the row's statement (the work); the ties are given (YtpipmkaljkhgiaaDoorTie.lean); close each card by the builder's one call (the guide's Derived/Test/ToyasCard.lean, 'card_holds'). Laid BY PROGRAM, IN A SANDBOX (cutbox-door.mjs). By AI agents, Wed Nov 11 2026. No macro, syntax, notation, axiom, sorry.
-/
import Derived.Test.YtpipmkaljkhgiaaDoorRows
import GoSem.ClaimSeven
namespace Go.Proofs.YtpipmkaljkhgiaaDoor
namespace Rows

/-- THE TIED CARD OF 'registrarlaw08.DiskCuts'. -/
def diskCutsCard : Claim7 := { stood := { row := diskCutsRow, standIns := [], harness := (true, "a1a3b1439ba9d501132c7456723c488c9c88272b786fccccb5d9a55c799e6e64"), looks := true }, kinds := [], alts := [], laidByText := true, laidKinds := [.data, .pinned], laidTests := true, laidLooks := .later }
def DiskCutsCardSaid : Prop := Claim7.holds Tryd.pinned (.plain (OpenSpec.ofChange diskCutsSpec)) diskCutsCard

/-- THE TIED CARD OF 'registrarlaw08.DiskRoom'. -/
def diskRoomCard : Claim7 := { stood := { row := diskRoomRow, standIns := [], harness := (true, "a1a3b1439ba9d501132c7456723c488c9c88272b786fccccb5d9a55c799e6e64"), looks := true }, kinds := [], alts := [], laidByText := true, laidKinds := [.data, .pinned], laidTests := true, laidLooks := .later }
def DiskRoomCardSaid : Prop := Claim7.holds Tryd.pinned (.plain (OpenSpec.ofChange diskRoomSpec)) diskRoomCard

/-- THE TIED CARD OF 'registrarlaw08.DiskTurns'. -/
def diskTurnsCard : Claim7 := { stood := { row := diskTurnsRow, standIns := [], harness := (true, "a1a3b1439ba9d501132c7456723c488c9c88272b786fccccb5d9a55c799e6e64"), looks := true }, kinds := [], alts := [], laidByText := true, laidKinds := [.data, .pinned], laidTests := true, laidLooks := .later }
def DiskTurnsCardSaid : Prop := Claim7.holds Tryd.pinned (.plain (OpenSpec.ofChange diskTurnsSpec)) diskTurnsCard

/-- THE TIED CARD OF 'registrarlaw08.DiskSafe'. -/
def diskSafeCard : Claim7 := { stood := { row := diskSafeRow, standIns := [], harness := (true, "a1a3b1439ba9d501132c7456723c488c9c88272b786fccccb5d9a55c799e6e64"), looks := true }, kinds := [], alts := [], laidByText := true, laidKinds := [.data, .pinned], laidTests := true, laidLooks := .later }
def DiskSafeCardSaid : Prop := Claim7.holds Tryd.pinned (.plain (OpenSpec.ofChange diskSafeSpec)) diskSafeCard

/-- THE TIED CARD OF 'registrarlaw08.DiskNames'. -/
def diskNamesCard : Claim7 := { stood := { row := diskNamesRow, standIns := [], harness := (true, "a1a3b1439ba9d501132c7456723c488c9c88272b786fccccb5d9a55c799e6e64"), looks := true }, kinds := [], alts := [], laidByText := true, laidKinds := [.data, .pinned], laidTests := true, laidLooks := .later }
def DiskNamesCardSaid : Prop := Claim7.holds Tryd.pinned (.plain (OpenSpec.ofChange diskNamesSpec)) diskNamesCard

/-- THE TIED CARD OF 'registrarlaw08.DiskPlays'. -/
def diskPlaysCard : Claim7 := { stood := { row := diskPlaysRow, standIns := [], harness := (true, "a1a3b1439ba9d501132c7456723c488c9c88272b786fccccb5d9a55c799e6e64"), looks := true }, kinds := [], alts := [], laidByText := true, laidKinds := [.data, .pinned], laidTests := true, laidLooks := .later }
def DiskPlaysCardSaid : Prop := Claim7.holds Tryd.pinned (.plain (OpenSpec.ofChange diskPlaysSpec)) diskPlaysCard

/-- THE SECOND FORM's CARD OF 'registrarlaw08.DiskCuts'. -/
def diskCutsUptoCard : Claim7 := { stood := { row := diskCutsUptoRow, standIns := [], harness := (true, "a1a3b1439ba9d501132c7456723c488c9c88272b786fccccb5d9a55c799e6e64"), looks := true }, kinds := [], alts := [], laidByText := true, laidKinds := [.data, .pinned], laidTests := true, laidLooks := .later }
def DiskCutsUptoCardSaid : Prop := Claim7.holds Tryd.pinned (.plain (OpenSpec.upto diskCutsSpec)) diskCutsUptoCard

/-- THE SECOND FORM's CARD OF 'registrarlaw08.DiskRoom'. -/
def diskRoomUptoCard : Claim7 := { stood := { row := diskRoomUptoRow, standIns := [], harness := (true, "a1a3b1439ba9d501132c7456723c488c9c88272b786fccccb5d9a55c799e6e64"), looks := true }, kinds := [], alts := [], laidByText := true, laidKinds := [.data, .pinned], laidTests := true, laidLooks := .later }
def DiskRoomUptoCardSaid : Prop := Claim7.holds Tryd.pinned (.plain (OpenSpec.upto diskRoomSpec)) diskRoomUptoCard

/-- THE SECOND FORM's CARD OF 'registrarlaw08.DiskTurns'. -/
def diskTurnsUptoCard : Claim7 := { stood := { row := diskTurnsUptoRow, standIns := [], harness := (true, "a1a3b1439ba9d501132c7456723c488c9c88272b786fccccb5d9a55c799e6e64"), looks := true }, kinds := [], alts := [], laidByText := true, laidKinds := [.data, .pinned], laidTests := true, laidLooks := .later }
def DiskTurnsUptoCardSaid : Prop := Claim7.holds Tryd.pinned (.plain (OpenSpec.upto diskTurnsSpec)) diskTurnsUptoCard

/-- THE SECOND FORM's CARD OF 'registrarlaw08.DiskSafe'. -/
def diskSafeUptoCard : Claim7 := { stood := { row := diskSafeUptoRow, standIns := [], harness := (true, "a1a3b1439ba9d501132c7456723c488c9c88272b786fccccb5d9a55c799e6e64"), looks := true }, kinds := [], alts := [], laidByText := true, laidKinds := [.data, .pinned], laidTests := true, laidLooks := .later }
def DiskSafeUptoCardSaid : Prop := Claim7.holds Tryd.pinned (.plain (OpenSpec.upto diskSafeSpec)) diskSafeUptoCard

/-- THE SECOND FORM's CARD OF 'registrarlaw08.DiskNames'. -/
def diskNamesUptoCard : Claim7 := { stood := { row := diskNamesUptoRow, standIns := [], harness := (true, "a1a3b1439ba9d501132c7456723c488c9c88272b786fccccb5d9a55c799e6e64"), looks := true }, kinds := [], alts := [], laidByText := true, laidKinds := [.data, .pinned], laidTests := true, laidLooks := .later }
def DiskNamesUptoCardSaid : Prop := Claim7.holds Tryd.pinned (.plain (OpenSpec.upto diskNamesSpec)) diskNamesUptoCard

/-- THE SECOND FORM's CARD OF 'registrarlaw08.DiskPlays'. -/
def diskPlaysUptoCard : Claim7 := { stood := { row := diskPlaysUptoRow, standIns := [], harness := (true, "a1a3b1439ba9d501132c7456723c488c9c88272b786fccccb5d9a55c799e6e64"), looks := true }, kinds := [], alts := [], laidByText := true, laidKinds := [.data, .pinned], laidTests := true, laidLooks := .later }
def DiskPlaysUptoCardSaid : Prop := Claim7.holds Tryd.pinned (.plain (OpenSpec.upto diskPlaysSpec)) diskPlaysUptoCard
end Rows
end Go.Proofs.YtpipmkaljkhgiaaDoor
