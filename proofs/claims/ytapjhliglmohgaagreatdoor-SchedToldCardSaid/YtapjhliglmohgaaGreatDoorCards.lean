/-
  DERIVED. GIVEN WITH THE SEED: THE CARDS: each row of YtapjhliglmohgaaGreatDoorRows.lean that lists a variable, with what it lists TIED to the program's text (the seventh form; the later family's looks); each row that meets fmt, with fmt's text TOLD by the authors' own Lean function (tested against real Go, not proved from fmt's source: count such statements apart). THE CARD IS WHAT COUNTS. Prove the row's statement (the work); the ties are given (YtapjhliglmohgaaGreatDoorTie.lean); close each card by the builder's one call (the guide's Derived/Test/ToyasCard.lean, 'card_holds'). Laid BY PROGRAM, IN A SANDBOX (cutbox-door.mjs). By AI agents, Wed Nov 11 2026. No macro, syntax, notation, axiom, sorry.
-/
import Derived.Test.YtapjhliglmohgaaGreatDoorRows
import GoSem.ClaimSeven
namespace Go.Proofs.YtapjhliglmohgaaGreatDoor
namespace Rows

/-- THE TIED CARD OF 'tributarylaw16.SchedOnce'. -/
def schedOnceCard : Claim7 := { stood := { row := schedOnceRow, standIns := [], harness := (true, "605f0f98a7e658ec61a22c2b777b2cc64d833c6c05f20d2c4ed314916f57b52d"), looks := true }, kinds := [], alts := [], laidByText := true, laidKinds := [.handle], laidTests := true, laidLooks := .later }
def SchedOnceCardSaid : Prop := Claim7.holds Tryz.pinned (.plain (OpenSpec.ofChange schedOnceSpec)) schedOnceCard

/-- THE TIED CARD OF 'tributarylaw16.SchedTold'. -/
def schedToldCard : Claim7 := { stood := { row := schedToldRow, standIns := [], harness := (true, "605f0f98a7e658ec61a22c2b777b2cc64d833c6c05f20d2c4ed314916f57b52d"), looks := true }, kinds := [], alts := [], laidByText := true, laidKinds := [.handle], laidTests := true, laidLooks := .later }
def SchedToldCardSaid : Prop := Claim7.holds Tryz.pinned (.plain (OpenSpec.ofChange schedToldSpec)) schedToldCard

/-- THE TIED CARD OF 'tributarylaw16.SchedPlays'. -/
def schedPlaysCard : Claim7 := { stood := { row := schedPlaysRow, standIns := [], harness := (true, "605f0f98a7e658ec61a22c2b777b2cc64d833c6c05f20d2c4ed314916f57b52d"), looks := true }, kinds := [], alts := [], laidByText := true, laidKinds := [.handle], laidTests := true, laidLooks := .later }
def SchedPlaysCardSaid : Prop := Claim7.holds Tryz.pinned (.plain (OpenSpec.ofChange schedPlaysSpec)) schedPlaysCard

/-- THE TIED CARD OF 'tributarylaw16.SchedNext'. -/
def schedNextCard : Claim7 := { stood := { row := schedNextRow, standIns := [], harness := (true, "605f0f98a7e658ec61a22c2b777b2cc64d833c6c05f20d2c4ed314916f57b52d"), looks := true }, kinds := [], alts := [], laidByText := true, laidKinds := [.handle], laidTests := true, laidLooks := .later }
def SchedNextCardSaid : Prop := Claim7.holds Tryz.pinned (.plain (OpenSpec.ofChange schedNextSpec)) schedNextCard

/-- THE TIED CARD OF 'tributarylaw17.DriverPlays'. -/
def driverPlaysCard : Claim7 := { stood := { row := driverPlaysRow, standIns := [], harness := (true, "605f0f98a7e658ec61a22c2b777b2cc64d833c6c05f20d2c4ed314916f57b52d"), looks := true }, kinds := [], alts := [], laidByText := true, laidKinds := [.handle], laidTests := true, laidLooks := .later }
def DriverPlaysCardSaid : Prop := Claim7.holds Tryz.pinned (.plain (OpenSpec.ofChange driverPlaysSpec)) driverPlaysCard

/-- THE SECOND FORM's CARD OF 'tributarylaw16.SchedOnce'. -/
def schedOnceUptoCard : Claim7 := { stood := { row := schedOnceUptoRow, standIns := [], harness := (true, "605f0f98a7e658ec61a22c2b777b2cc64d833c6c05f20d2c4ed314916f57b52d"), looks := true }, kinds := [], alts := [], laidByText := true, laidKinds := [.handle], laidTests := true, laidLooks := .later }
def SchedOnceUptoCardSaid : Prop := Claim7.holds Tryz.pinned (.plain (OpenSpec.upto schedOnceSpec)) schedOnceUptoCard

/-- THE SECOND FORM's CARD OF 'tributarylaw16.SchedTold'. -/
def schedToldUptoCard : Claim7 := { stood := { row := schedToldUptoRow, standIns := [], harness := (true, "605f0f98a7e658ec61a22c2b777b2cc64d833c6c05f20d2c4ed314916f57b52d"), looks := true }, kinds := [], alts := [], laidByText := true, laidKinds := [.handle], laidTests := true, laidLooks := .later }
def SchedToldUptoCardSaid : Prop := Claim7.holds Tryz.pinned (.plain (OpenSpec.upto schedToldSpec)) schedToldUptoCard

/-- THE SECOND FORM's CARD OF 'tributarylaw16.SchedPlays'. -/
def schedPlaysUptoCard : Claim7 := { stood := { row := schedPlaysUptoRow, standIns := [], harness := (true, "605f0f98a7e658ec61a22c2b777b2cc64d833c6c05f20d2c4ed314916f57b52d"), looks := true }, kinds := [], alts := [], laidByText := true, laidKinds := [.handle], laidTests := true, laidLooks := .later }
def SchedPlaysUptoCardSaid : Prop := Claim7.holds Tryz.pinned (.plain (OpenSpec.upto schedPlaysSpec)) schedPlaysUptoCard

/-- THE SECOND FORM's CARD OF 'tributarylaw16.SchedNext'. -/
def schedNextUptoCard : Claim7 := { stood := { row := schedNextUptoRow, standIns := [], harness := (true, "605f0f98a7e658ec61a22c2b777b2cc64d833c6c05f20d2c4ed314916f57b52d"), looks := true }, kinds := [], alts := [], laidByText := true, laidKinds := [.handle], laidTests := true, laidLooks := .later }
def SchedNextUptoCardSaid : Prop := Claim7.holds Tryz.pinned (.plain (OpenSpec.upto schedNextSpec)) schedNextUptoCard

/-- THE SECOND FORM's CARD OF 'tributarylaw17.DriverPlays'. -/
def driverPlaysUptoCard : Claim7 := { stood := { row := driverPlaysUptoRow, standIns := [], harness := (true, "605f0f98a7e658ec61a22c2b777b2cc64d833c6c05f20d2c4ed314916f57b52d"), looks := true }, kinds := [], alts := [], laidByText := true, laidKinds := [.handle], laidTests := true, laidLooks := .later }
def DriverPlaysUptoCardSaid : Prop := Claim7.holds Tryz.pinned (.plain (OpenSpec.upto driverPlaysSpec)) driverPlaysUptoCard
end Rows
end Go.Proofs.YtapjhliglmohgaaGreatDoor
