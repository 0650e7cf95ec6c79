/-
  DERIVED. GIVEN WITH THE SEED: THE CARDS: each row of YtlmjjhenoadndaaGreatDoorRows.lean that lists a variable, with what it lists TIED to the program's text (the seventh form; the later family's looks); each row that meets fmt, with fmt's text TOLD by the authors' own Lean function (tested against real Go, not proved from fmt's source: count such statements apart). THE CARD IS WHAT COUNTS. Prove the row's statement (the work); the ties are given (YtlmjjhenoadndaaGreatDoorTie.lean); close each card by the builder's one call (the guide's Derived/Test/ToyasCard.lean, 'card_holds'). Laid BY PROGRAM, IN A SANDBOX (cutbox-door.mjs). By AI agents, Wed Nov 11 2026. No macro, syntax, notation, axiom, sorry.
-/
import Derived.Test.YtlmjjhenoadndaaGreatDoorRows
import GoSem.ClaimSeven
namespace Go.Proofs.YtlmjjhenoadndaaGreatDoor
namespace Rows

/-- THE TIED CARD OF 'tributarylaw14.CkptReads'. -/
def ckptReadsCard : Claim7 := { stood := { row := ckptReadsRow, standIns := [], harness := (true, "a7a6c43296a8032da50a050a17ac17b4dd9b5e90ee02a3e6c2b4ef6f776052c7"), looks := true }, kinds := [], alts := [], laidByText := true, laidKinds := [.handle], laidTests := true, laidLooks := .later }
def CkptReadsCardSaid : Prop := Claim7.holds Tryz.pinned (.plain (OpenSpec.ofChange ckptReadsSpec)) ckptReadsCard

/-- THE TIED CARD OF 'tributarylaw14.CkptWhole'. -/
def ckptWholeCard : Claim7 := { stood := { row := ckptWholeRow, standIns := [], harness := (true, "a7a6c43296a8032da50a050a17ac17b4dd9b5e90ee02a3e6c2b4ef6f776052c7"), looks := true }, kinds := [], alts := [], laidByText := true, laidKinds := [.handle], laidTests := true, laidLooks := .later }
def CkptWholeCardSaid : Prop := Claim7.holds Tryz.pinned (.plain (OpenSpec.ofChange ckptWholeSpec)) ckptWholeCard

/-- THE TIED CARD OF 'tributarylaw14.CkptPlays'. -/
def ckptPlaysCard : Claim7 := { stood := { row := ckptPlaysRow, standIns := [], harness := (true, "a7a6c43296a8032da50a050a17ac17b4dd9b5e90ee02a3e6c2b4ef6f776052c7"), looks := true }, kinds := [], alts := [], laidByText := true, laidKinds := [.handle], laidTests := true, laidLooks := .later }
def CkptPlaysCardSaid : Prop := Claim7.holds Tryz.pinned (.plain (OpenSpec.ofChange ckptPlaysSpec)) ckptPlaysCard

/-- THE TIED CARD OF 'tributarylaw14.CkptKeeps'. -/
def ckptKeepsCard : Claim7 := { stood := { row := ckptKeepsRow, standIns := [], harness := (true, "a7a6c43296a8032da50a050a17ac17b4dd9b5e90ee02a3e6c2b4ef6f776052c7"), looks := true }, kinds := [], alts := [], laidByText := true, laidKinds := [.handle], laidTests := true, laidLooks := .later }
def CkptKeepsCardSaid : Prop := Claim7.holds Tryz.pinned (.plain (OpenSpec.ofChange ckptKeepsSpec)) ckptKeepsCard

/-- THE TIED CARD OF 'tributarylaw17.DriverAgain'. -/
def driverAgainCard : Claim7 := { stood := { row := driverAgainRow, standIns := [], harness := (true, "a7a6c43296a8032da50a050a17ac17b4dd9b5e90ee02a3e6c2b4ef6f776052c7"), looks := true }, kinds := [], alts := [], laidByText := true, laidKinds := [.handle], laidTests := true, laidLooks := .later }
def DriverAgainCardSaid : Prop := Claim7.holds Tryz.pinned (.plain (OpenSpec.ofChange driverAgainSpec)) driverAgainCard

/-- THE TIED CARD OF 'tributarylaw17.DriverPlays'. -/
def driverPlaysCard : Claim7 := { stood := { row := driverPlaysRow, standIns := [], harness := (true, "a7a6c43296a8032da50a050a17ac17b4dd9b5e90ee02a3e6c2b4ef6f776052c7"), looks := true }, kinds := [], alts := [], laidByText := true, laidKinds := [.handle], laidTests := true, laidLooks := .later }
def DriverPlaysCardSaid : Prop := Claim7.holds Tryz.pinned (.plain (OpenSpec.ofChange driverPlaysSpec)) driverPlaysCard

/-- THE SECOND FORM's CARD OF 'tributarylaw14.CkptReads'. -/
def ckptReadsUptoCard : Claim7 := { stood := { row := ckptReadsUptoRow, standIns := [], harness := (true, "a7a6c43296a8032da50a050a17ac17b4dd9b5e90ee02a3e6c2b4ef6f776052c7"), looks := true }, kinds := [], alts := [], laidByText := true, laidKinds := [.handle], laidTests := true, laidLooks := .later }
def CkptReadsUptoCardSaid : Prop := Claim7.holds Tryz.pinned (.plain (OpenSpec.upto ckptReadsSpec)) ckptReadsUptoCard

/-- THE SECOND FORM's CARD OF 'tributarylaw14.CkptWhole'. -/
def ckptWholeUptoCard : Claim7 := { stood := { row := ckptWholeUptoRow, standIns := [], harness := (true, "a7a6c43296a8032da50a050a17ac17b4dd9b5e90ee02a3e6c2b4ef6f776052c7"), looks := true }, kinds := [], alts := [], laidByText := true, laidKinds := [.handle], laidTests := true, laidLooks := .later }
def CkptWholeUptoCardSaid : Prop := Claim7.holds Tryz.pinned (.plain (OpenSpec.upto ckptWholeSpec)) ckptWholeUptoCard

/-- THE SECOND FORM's CARD OF 'tributarylaw14.CkptPlays'. -/
def ckptPlaysUptoCard : Claim7 := { stood := { row := ckptPlaysUptoRow, standIns := [], harness := (true, "a7a6c43296a8032da50a050a17ac17b4dd9b5e90ee02a3e6c2b4ef6f776052c7"), looks := true }, kinds := [], alts := [], laidByText := true, laidKinds := [.handle], laidTests := true, laidLooks := .later }
def CkptPlaysUptoCardSaid : Prop := Claim7.holds Tryz.pinned (.plain (OpenSpec.upto ckptPlaysSpec)) ckptPlaysUptoCard

/-- THE SECOND FORM's CARD OF 'tributarylaw14.CkptKeeps'. -/
def ckptKeepsUptoCard : Claim7 := { stood := { row := ckptKeepsUptoRow, standIns := [], harness := (true, "a7a6c43296a8032da50a050a17ac17b4dd9b5e90ee02a3e6c2b4ef6f776052c7"), looks := true }, kinds := [], alts := [], laidByText := true, laidKinds := [.handle], laidTests := true, laidLooks := .later }
def CkptKeepsUptoCardSaid : Prop := Claim7.holds Tryz.pinned (.plain (OpenSpec.upto ckptKeepsSpec)) ckptKeepsUptoCard

/-- THE SECOND FORM's CARD OF 'tributarylaw17.DriverAgain'. -/
def driverAgainUptoCard : Claim7 := { stood := { row := driverAgainUptoRow, standIns := [], harness := (true, "a7a6c43296a8032da50a050a17ac17b4dd9b5e90ee02a3e6c2b4ef6f776052c7"), looks := true }, kinds := [], alts := [], laidByText := true, laidKinds := [.handle], laidTests := true, laidLooks := .later }
def DriverAgainUptoCardSaid : Prop := Claim7.holds Tryz.pinned (.plain (OpenSpec.upto driverAgainSpec)) driverAgainUptoCard

/-- THE SECOND FORM's CARD OF 'tributarylaw17.DriverPlays'. -/
def driverPlaysUptoCard : Claim7 := { stood := { row := driverPlaysUptoRow, standIns := [], harness := (true, "a7a6c43296a8032da50a050a17ac17b4dd9b5e90ee02a3e6c2b4ef6f776052c7"), looks := true }, kinds := [], alts := [], laidByText := true, laidKinds := [.handle], laidTests := true, laidLooks := .later }
def DriverPlaysUptoCardSaid : Prop := Claim7.holds Tryz.pinned (.plain (OpenSpec.upto driverPlaysSpec)) driverPlaysUptoCard
end Rows
end Go.Proofs.YtlmjjhenoadndaaGreatDoor
