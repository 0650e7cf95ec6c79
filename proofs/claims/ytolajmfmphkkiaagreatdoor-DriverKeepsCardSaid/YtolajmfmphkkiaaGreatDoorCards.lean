/-
  DERIVED. GIVEN WITH THE SEED: THE CARDS: each row of YtolajmfmphkkiaaGreatDoorRows.lean that lists a variable, with what it lists TIED to the program's text (the seventh form; the later family's looks); each row that meets fmt, with fmt's text TOLD by the authors' own Lean function (tested against real Go, not proved from fmt's source: count such statements apart). THE CARD IS WHAT COUNTS. Prove the row's statement (the work); the ties are given (YtolajmfmphkkiaaGreatDoorTie.lean); close each card by the builder's one call (the guide's Derived/Test/ToyasCard.lean, 'card_holds'). Laid BY PROGRAM, IN A SANDBOX (cutbox-door.mjs). By AI agents, Wed Nov 11 2026. No macro, syntax, notation, axiom, sorry.
-/
import Derived.Test.YtolajmfmphkkiaaGreatDoorRows
import GoSem.ClaimSeven
namespace Go.Proofs.YtolajmfmphkkiaaGreatDoor
namespace Rows

/-- THE TIED CARD OF 'tributarylaw17.DriverMarks'. -/
def driverMarksCard : Claim7 := { stood := { row := driverMarksRow, standIns := [], harness := (true, "c5aa59a4ccb82a0eead9d5516945580cabe980069dd498ab984b9d8cfffb57af"), looks := true }, kinds := [], alts := [], laidByText := true, laidKinds := [.handle], laidTests := true, laidLooks := .later }
def DriverMarksCardSaid : Prop := Claim7.holds Tryz.pinned (.plain (OpenSpec.ofChange driverMarksSpec)) driverMarksCard

/-- THE TIED CARD OF 'tributarylaw17.DriverPower'. -/
def driverPowerCard : Claim7 := { stood := { row := driverPowerRow, standIns := [], harness := (true, "c5aa59a4ccb82a0eead9d5516945580cabe980069dd498ab984b9d8cfffb57af"), looks := true }, kinds := [], alts := [], laidByText := true, laidKinds := [.handle], laidTests := true, laidLooks := .later }
def DriverPowerCardSaid : Prop := Claim7.holds Tryz.pinned (.plain (OpenSpec.ofChange driverPowerSpec)) driverPowerCard

/-- THE TIED CARD OF 'tributarylaw17.DriverKeeps'. -/
def driverKeepsCard : Claim7 := { stood := { row := driverKeepsRow, standIns := [], harness := (true, "c5aa59a4ccb82a0eead9d5516945580cabe980069dd498ab984b9d8cfffb57af"), looks := true }, kinds := [], alts := [], laidByText := true, laidKinds := [.handle], laidTests := true, laidLooks := .later }
def DriverKeepsCardSaid : Prop := Claim7.holds Tryz.pinned (.plain (OpenSpec.ofChange driverKeepsSpec)) driverKeepsCard

/-- THE TIED CARD OF 'tributarylaw16.SchedOnce'. -/
def schedOnceCard : Claim7 := { stood := { row := schedOnceRow, standIns := [], harness := (true, "c5aa59a4ccb82a0eead9d5516945580cabe980069dd498ab984b9d8cfffb57af"), looks := true }, kinds := [], alts := [], laidByText := true, laidKinds := [.handle], laidTests := true, laidLooks := .later }
def SchedOnceCardSaid : Prop := Claim7.holds Tryz.pinned (.plain (OpenSpec.ofChange schedOnceSpec)) schedOnceCard

/-- THE TIED CARD OF 'tributarylaw16.SchedTold'. -/
def schedToldCard : Claim7 := { stood := { row := schedToldRow, standIns := [], harness := (true, "c5aa59a4ccb82a0eead9d5516945580cabe980069dd498ab984b9d8cfffb57af"), looks := true }, kinds := [], alts := [], laidByText := true, laidKinds := [.handle], laidTests := true, laidLooks := .later }
def SchedToldCardSaid : Prop := Claim7.holds Tryz.pinned (.plain (OpenSpec.ofChange schedToldSpec)) schedToldCard

/-- THE TIED CARD OF 'tributarylaw16.SchedPlays'. -/
def schedPlaysCard : Claim7 := { stood := { row := schedPlaysRow, standIns := [], harness := (true, "c5aa59a4ccb82a0eead9d5516945580cabe980069dd498ab984b9d8cfffb57af"), looks := true }, kinds := [], alts := [], laidByText := true, laidKinds := [.handle], laidTests := true, laidLooks := .later }
def SchedPlaysCardSaid : Prop := Claim7.holds Tryz.pinned (.plain (OpenSpec.ofChange schedPlaysSpec)) schedPlaysCard

/-- THE TIED CARD OF 'tributarylaw16.SchedNext'. -/
def schedNextCard : Claim7 := { stood := { row := schedNextRow, standIns := [], harness := (true, "c5aa59a4ccb82a0eead9d5516945580cabe980069dd498ab984b9d8cfffb57af"), looks := true }, kinds := [], alts := [], laidByText := true, laidKinds := [.handle], laidTests := true, laidLooks := .later }
def SchedNextCardSaid : Prop := Claim7.holds Tryz.pinned (.plain (OpenSpec.ofChange schedNextSpec)) schedNextCard

/-- THE SECOND FORM's CARD OF 'tributarylaw17.DriverMarks'. -/
def driverMarksUptoCard : Claim7 := { stood := { row := driverMarksUptoRow, standIns := [], harness := (true, "c5aa59a4ccb82a0eead9d5516945580cabe980069dd498ab984b9d8cfffb57af"), looks := true }, kinds := [], alts := [], laidByText := true, laidKinds := [.handle], laidTests := true, laidLooks := .later }
def DriverMarksUptoCardSaid : Prop := Claim7.holds Tryz.pinned (.plain (OpenSpec.upto driverMarksSpec)) driverMarksUptoCard

/-- THE SECOND FORM's CARD OF 'tributarylaw17.DriverPower'. -/
def driverPowerUptoCard : Claim7 := { stood := { row := driverPowerUptoRow, standIns := [], harness := (true, "c5aa59a4ccb82a0eead9d5516945580cabe980069dd498ab984b9d8cfffb57af"), looks := true }, kinds := [], alts := [], laidByText := true, laidKinds := [.handle], laidTests := true, laidLooks := .later }
def DriverPowerUptoCardSaid : Prop := Claim7.holds Tryz.pinned (.plain (OpenSpec.upto driverPowerSpec)) driverPowerUptoCard

/-- THE SECOND FORM's CARD OF 'tributarylaw17.DriverKeeps'. -/
def driverKeepsUptoCard : Claim7 := { stood := { row := driverKeepsUptoRow, standIns := [], harness := (true, "c5aa59a4ccb82a0eead9d5516945580cabe980069dd498ab984b9d8cfffb57af"), looks := true }, kinds := [], alts := [], laidByText := true, laidKinds := [.handle], laidTests := true, laidLooks := .later }
def DriverKeepsUptoCardSaid : Prop := Claim7.holds Tryz.pinned (.plain (OpenSpec.upto driverKeepsSpec)) driverKeepsUptoCard

/-- THE SECOND FORM's CARD OF 'tributarylaw16.SchedOnce'. -/
def schedOnceUptoCard : Claim7 := { stood := { row := schedOnceUptoRow, standIns := [], harness := (true, "c5aa59a4ccb82a0eead9d5516945580cabe980069dd498ab984b9d8cfffb57af"), looks := true }, kinds := [], alts := [], laidByText := true, laidKinds := [.handle], laidTests := true, laidLooks := .later }
def SchedOnceUptoCardSaid : Prop := Claim7.holds Tryz.pinned (.plain (OpenSpec.upto schedOnceSpec)) schedOnceUptoCard

/-- THE SECOND FORM's CARD OF 'tributarylaw16.SchedTold'. -/
def schedToldUptoCard : Claim7 := { stood := { row := schedToldUptoRow, standIns := [], harness := (true, "c5aa59a4ccb82a0eead9d5516945580cabe980069dd498ab984b9d8cfffb57af"), looks := true }, kinds := [], alts := [], laidByText := true, laidKinds := [.handle], laidTests := true, laidLooks := .later }
def SchedToldUptoCardSaid : Prop := Claim7.holds Tryz.pinned (.plain (OpenSpec.upto schedToldSpec)) schedToldUptoCard

/-- THE SECOND FORM's CARD OF 'tributarylaw16.SchedPlays'. -/
def schedPlaysUptoCard : Claim7 := { stood := { row := schedPlaysUptoRow, standIns := [], harness := (true, "c5aa59a4ccb82a0eead9d5516945580cabe980069dd498ab984b9d8cfffb57af"), looks := true }, kinds := [], alts := [], laidByText := true, laidKinds := [.handle], laidTests := true, laidLooks := .later }
def SchedPlaysUptoCardSaid : Prop := Claim7.holds Tryz.pinned (.plain (OpenSpec.upto schedPlaysSpec)) schedPlaysUptoCard

/-- THE SECOND FORM's CARD OF 'tributarylaw16.SchedNext'. -/
def schedNextUptoCard : Claim7 := { stood := { row := schedNextUptoRow, standIns := [], harness := (true, "c5aa59a4ccb82a0eead9d5516945580cabe980069dd498ab984b9d8cfffb57af"), looks := true }, kinds := [], alts := [], laidByText := true, laidKinds := [.handle], laidTests := true, laidLooks := .later }
def SchedNextUptoCardSaid : Prop := Claim7.holds Tryz.pinned (.plain (OpenSpec.upto schedNextSpec)) schedNextUptoCard
end Rows
end Go.Proofs.YtolajmfmphkkiaaGreatDoor
