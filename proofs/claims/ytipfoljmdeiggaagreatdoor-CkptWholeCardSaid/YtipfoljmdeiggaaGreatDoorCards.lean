/-
  DERIVED. GIVEN WITH THE SEED: THE CARDS: each row of YtipfoljmdeiggaaGreatDoorRows.lean that lists a variable, with what it lists TIED to the program's text (the seventh form; the later family's looks); each row that meets fmt, with fmt's text TOLD by the authors' own Lean function (tested against real Go, not proved from fmt's source: count such statements apart). THE CARD IS WHAT COUNTS. Prove the row's statement (the work); the ties are given (YtipfoljmdeiggaaGreatDoorTie.lean); close each card by the builder's one call (the guide's Derived/Test/ToyasCard.lean, 'card_holds'). Laid BY PROGRAM, IN A SANDBOX (cutbox-door.mjs). By AI agents, Wed Nov 11 2026. No macro, syntax, notation, axiom, sorry.
-/
import Derived.Test.YtipfoljmdeiggaaGreatDoorRows
import GoSem.ClaimSeven
namespace Go.Proofs.YtipfoljmdeiggaaGreatDoor
namespace Rows

/-- THE TIED CARD OF 'tributarylaw14.CkptReads'. -/
def ckptReadsCard : Claim7 := { stood := { row := ckptReadsRow, standIns := [], harness := (true, "faf9f5651c680a9cddf2865c2bc5c6111d9c6a666e41d47610c264fe618eec71"), looks := true }, kinds := [], alts := [], laidByText := true, laidKinds := [.handle], laidTests := true, laidLooks := .later }
def CkptReadsCardSaid : Prop := Claim7.holds Tryz.pinned (.plain (OpenSpec.ofChange ckptReadsSpec)) ckptReadsCard

/-- THE TIED CARD OF 'tributarylaw14.CkptWhole'. -/
def ckptWholeCard : Claim7 := { stood := { row := ckptWholeRow, standIns := [], harness := (true, "faf9f5651c680a9cddf2865c2bc5c6111d9c6a666e41d47610c264fe618eec71"), looks := true }, kinds := [], alts := [], laidByText := true, laidKinds := [.handle], laidTests := true, laidLooks := .later }
def CkptWholeCardSaid : Prop := Claim7.holds Tryz.pinned (.plain (OpenSpec.ofChange ckptWholeSpec)) ckptWholeCard

/-- THE TIED CARD OF 'tributarylaw14.CkptPlays'. -/
def ckptPlaysCard : Claim7 := { stood := { row := ckptPlaysRow, standIns := [], harness := (true, "faf9f5651c680a9cddf2865c2bc5c6111d9c6a666e41d47610c264fe618eec71"), looks := true }, kinds := [], alts := [], laidByText := true, laidKinds := [.handle], laidTests := true, laidLooks := .later }
def CkptPlaysCardSaid : Prop := Claim7.holds Tryz.pinned (.plain (OpenSpec.ofChange ckptPlaysSpec)) ckptPlaysCard

/-- THE TIED CARD OF 'tributarylaw14.CkptKeeps'. -/
def ckptKeepsCard : Claim7 := { stood := { row := ckptKeepsRow, standIns := [], harness := (true, "faf9f5651c680a9cddf2865c2bc5c6111d9c6a666e41d47610c264fe618eec71"), looks := true }, kinds := [], alts := [], laidByText := true, laidKinds := [.handle], laidTests := true, laidLooks := .later }
def CkptKeepsCardSaid : Prop := Claim7.holds Tryz.pinned (.plain (OpenSpec.ofChange ckptKeepsSpec)) ckptKeepsCard

/-- THE TIED CARD OF 'tributarylaw17.DriverPlays'. -/
def driverPlaysCard : Claim7 := { stood := { row := driverPlaysRow, standIns := [], harness := (true, "faf9f5651c680a9cddf2865c2bc5c6111d9c6a666e41d47610c264fe618eec71"), looks := true }, kinds := [], alts := [], laidByText := true, laidKinds := [.handle], laidTests := true, laidLooks := .later }
def DriverPlaysCardSaid : Prop := Claim7.holds Tryz.pinned (.plain (OpenSpec.ofChange driverPlaysSpec)) driverPlaysCard

/-- THE TIED CARD OF 'tributarylaw16.SchedOnce'. -/
def schedOnceCard : Claim7 := { stood := { row := schedOnceRow, standIns := [], harness := (true, "faf9f5651c680a9cddf2865c2bc5c6111d9c6a666e41d47610c264fe618eec71"), looks := true }, kinds := [], alts := [], laidByText := true, laidKinds := [.handle], laidTests := true, laidLooks := .later }
def SchedOnceCardSaid : Prop := Claim7.holds Tryz.pinned (.plain (OpenSpec.ofChange schedOnceSpec)) schedOnceCard

/-- THE TIED CARD OF 'tributarylaw16.SchedTold'. -/
def schedToldCard : Claim7 := { stood := { row := schedToldRow, standIns := [], harness := (true, "faf9f5651c680a9cddf2865c2bc5c6111d9c6a666e41d47610c264fe618eec71"), looks := true }, kinds := [], alts := [], laidByText := true, laidKinds := [.handle], laidTests := true, laidLooks := .later }
def SchedToldCardSaid : Prop := Claim7.holds Tryz.pinned (.plain (OpenSpec.ofChange schedToldSpec)) schedToldCard

/-- THE TIED CARD OF 'tributarylaw16.SchedPlays'. -/
def schedPlaysCard : Claim7 := { stood := { row := schedPlaysRow, standIns := [], harness := (true, "faf9f5651c680a9cddf2865c2bc5c6111d9c6a666e41d47610c264fe618eec71"), looks := true }, kinds := [], alts := [], laidByText := true, laidKinds := [.handle], laidTests := true, laidLooks := .later }
def SchedPlaysCardSaid : Prop := Claim7.holds Tryz.pinned (.plain (OpenSpec.ofChange schedPlaysSpec)) schedPlaysCard

/-- THE TIED CARD OF 'tributarylaw16.SchedNext'. -/
def schedNextCard : Claim7 := { stood := { row := schedNextRow, standIns := [], harness := (true, "faf9f5651c680a9cddf2865c2bc5c6111d9c6a666e41d47610c264fe618eec71"), looks := true }, kinds := [], alts := [], laidByText := true, laidKinds := [.handle], laidTests := true, laidLooks := .later }
def SchedNextCardSaid : Prop := Claim7.holds Tryz.pinned (.plain (OpenSpec.ofChange schedNextSpec)) schedNextCard

/-- THE TIED CARD OF 'tributarylaw6.FoldPieces'. -/
def foldPiecesCard : Claim7 := { stood := { row := foldPiecesRow, standIns := [], harness := (true, "faf9f5651c680a9cddf2865c2bc5c6111d9c6a666e41d47610c264fe618eec71"), looks := true }, kinds := [], alts := [], laidByText := true, laidKinds := [.handle], laidTests := true, laidLooks := .later }
def FoldPiecesCardSaid : Prop := Claim7.holds Tryz.pinned (.plain (OpenSpec.ofChange foldPiecesSpec)) foldPiecesCard

/-- THE TIED CARD OF 'tributarylaw6.FoldKeys'. -/
def foldKeysCard : Claim7 := { stood := { row := foldKeysRow, standIns := [], harness := (true, "faf9f5651c680a9cddf2865c2bc5c6111d9c6a666e41d47610c264fe618eec71"), looks := true }, kinds := [], alts := [], laidByText := true, laidKinds := [.handle], laidTests := true, laidLooks := .later }
def FoldKeysCardSaid : Prop := Claim7.holds Tryz.pinned (.plain (OpenSpec.ofChange foldKeysSpec)) foldKeysCard

/-- THE TIED CARD OF 'tributarylaw6.FoldOut'. -/
def foldOutCard : Claim7 := { stood := { row := foldOutRow, standIns := [], harness := (true, "faf9f5651c680a9cddf2865c2bc5c6111d9c6a666e41d47610c264fe618eec71"), looks := true }, kinds := [], alts := [], laidByText := true, laidKinds := [.handle], laidTests := true, laidLooks := .later }
def FoldOutCardSaid : Prop := Claim7.holds Tryz.pinned (.plain (OpenSpec.ofChange foldOutSpec)) foldOutCard

/-- THE SECOND FORM's CARD OF 'tributarylaw14.CkptReads'. -/
def ckptReadsUptoCard : Claim7 := { stood := { row := ckptReadsUptoRow, standIns := [], harness := (true, "faf9f5651c680a9cddf2865c2bc5c6111d9c6a666e41d47610c264fe618eec71"), looks := true }, kinds := [], alts := [], laidByText := true, laidKinds := [.handle], laidTests := true, laidLooks := .later }
def CkptReadsUptoCardSaid : Prop := Claim7.holds Tryz.pinned (.plain (OpenSpec.upto ckptReadsSpec)) ckptReadsUptoCard

/-- THE SECOND FORM's CARD OF 'tributarylaw14.CkptWhole'. -/
def ckptWholeUptoCard : Claim7 := { stood := { row := ckptWholeUptoRow, standIns := [], harness := (true, "faf9f5651c680a9cddf2865c2bc5c6111d9c6a666e41d47610c264fe618eec71"), looks := true }, kinds := [], alts := [], laidByText := true, laidKinds := [.handle], laidTests := true, laidLooks := .later }
def CkptWholeUptoCardSaid : Prop := Claim7.holds Tryz.pinned (.plain (OpenSpec.upto ckptWholeSpec)) ckptWholeUptoCard

/-- THE SECOND FORM's CARD OF 'tributarylaw14.CkptPlays'. -/
def ckptPlaysUptoCard : Claim7 := { stood := { row := ckptPlaysUptoRow, standIns := [], harness := (true, "faf9f5651c680a9cddf2865c2bc5c6111d9c6a666e41d47610c264fe618eec71"), looks := true }, kinds := [], alts := [], laidByText := true, laidKinds := [.handle], laidTests := true, laidLooks := .later }
def CkptPlaysUptoCardSaid : Prop := Claim7.holds Tryz.pinned (.plain (OpenSpec.upto ckptPlaysSpec)) ckptPlaysUptoCard

/-- THE SECOND FORM's CARD OF 'tributarylaw14.CkptKeeps'. -/
def ckptKeepsUptoCard : Claim7 := { stood := { row := ckptKeepsUptoRow, standIns := [], harness := (true, "faf9f5651c680a9cddf2865c2bc5c6111d9c6a666e41d47610c264fe618eec71"), looks := true }, kinds := [], alts := [], laidByText := true, laidKinds := [.handle], laidTests := true, laidLooks := .later }
def CkptKeepsUptoCardSaid : Prop := Claim7.holds Tryz.pinned (.plain (OpenSpec.upto ckptKeepsSpec)) ckptKeepsUptoCard

/-- THE SECOND FORM's CARD OF 'tributarylaw17.DriverPlays'. -/
def driverPlaysUptoCard : Claim7 := { stood := { row := driverPlaysUptoRow, standIns := [], harness := (true, "faf9f5651c680a9cddf2865c2bc5c6111d9c6a666e41d47610c264fe618eec71"), looks := true }, kinds := [], alts := [], laidByText := true, laidKinds := [.handle], laidTests := true, laidLooks := .later }
def DriverPlaysUptoCardSaid : Prop := Claim7.holds Tryz.pinned (.plain (OpenSpec.upto driverPlaysSpec)) driverPlaysUptoCard

/-- THE SECOND FORM's CARD OF 'tributarylaw16.SchedOnce'. -/
def schedOnceUptoCard : Claim7 := { stood := { row := schedOnceUptoRow, standIns := [], harness := (true, "faf9f5651c680a9cddf2865c2bc5c6111d9c6a666e41d47610c264fe618eec71"), looks := true }, kinds := [], alts := [], laidByText := true, laidKinds := [.handle], laidTests := true, laidLooks := .later }
def SchedOnceUptoCardSaid : Prop := Claim7.holds Tryz.pinned (.plain (OpenSpec.upto schedOnceSpec)) schedOnceUptoCard

/-- THE SECOND FORM's CARD OF 'tributarylaw16.SchedTold'. -/
def schedToldUptoCard : Claim7 := { stood := { row := schedToldUptoRow, standIns := [], harness := (true, "faf9f5651c680a9cddf2865c2bc5c6111d9c6a666e41d47610c264fe618eec71"), looks := true }, kinds := [], alts := [], laidByText := true, laidKinds := [.handle], laidTests := true, laidLooks := .later }
def SchedToldUptoCardSaid : Prop := Claim7.holds Tryz.pinned (.plain (OpenSpec.upto schedToldSpec)) schedToldUptoCard

/-- THE SECOND FORM's CARD OF 'tributarylaw16.SchedPlays'. -/
def schedPlaysUptoCard : Claim7 := { stood := { row := schedPlaysUptoRow, standIns := [], harness := (true, "faf9f5651c680a9cddf2865c2bc5c6111d9c6a666e41d47610c264fe618eec71"), looks := true }, kinds := [], alts := [], laidByText := true, laidKinds := [.handle], laidTests := true, laidLooks := .later }
def SchedPlaysUptoCardSaid : Prop := Claim7.holds Tryz.pinned (.plain (OpenSpec.upto schedPlaysSpec)) schedPlaysUptoCard

/-- THE SECOND FORM's CARD OF 'tributarylaw16.SchedNext'. -/
def schedNextUptoCard : Claim7 := { stood := { row := schedNextUptoRow, standIns := [], harness := (true, "faf9f5651c680a9cddf2865c2bc5c6111d9c6a666e41d47610c264fe618eec71"), looks := true }, kinds := [], alts := [], laidByText := true, laidKinds := [.handle], laidTests := true, laidLooks := .later }
def SchedNextUptoCardSaid : Prop := Claim7.holds Tryz.pinned (.plain (OpenSpec.upto schedNextSpec)) schedNextUptoCard

/-- THE SECOND FORM's CARD OF 'tributarylaw6.FoldPieces'. -/
def foldPiecesUptoCard : Claim7 := { stood := { row := foldPiecesUptoRow, standIns := [], harness := (true, "faf9f5651c680a9cddf2865c2bc5c6111d9c6a666e41d47610c264fe618eec71"), looks := true }, kinds := [], alts := [], laidByText := true, laidKinds := [.handle], laidTests := true, laidLooks := .later }
def FoldPiecesUptoCardSaid : Prop := Claim7.holds Tryz.pinned (.plain (OpenSpec.upto foldPiecesSpec)) foldPiecesUptoCard

/-- THE SECOND FORM's CARD OF 'tributarylaw6.FoldKeys'. -/
def foldKeysUptoCard : Claim7 := { stood := { row := foldKeysUptoRow, standIns := [], harness := (true, "faf9f5651c680a9cddf2865c2bc5c6111d9c6a666e41d47610c264fe618eec71"), looks := true }, kinds := [], alts := [], laidByText := true, laidKinds := [.handle], laidTests := true, laidLooks := .later }
def FoldKeysUptoCardSaid : Prop := Claim7.holds Tryz.pinned (.plain (OpenSpec.upto foldKeysSpec)) foldKeysUptoCard

/-- THE SECOND FORM's CARD OF 'tributarylaw6.FoldOut'. -/
def foldOutUptoCard : Claim7 := { stood := { row := foldOutUptoRow, standIns := [], harness := (true, "faf9f5651c680a9cddf2865c2bc5c6111d9c6a666e41d47610c264fe618eec71"), looks := true }, kinds := [], alts := [], laidByText := true, laidKinds := [.handle], laidTests := true, laidLooks := .later }
def FoldOutUptoCardSaid : Prop := Claim7.holds Tryz.pinned (.plain (OpenSpec.upto foldOutSpec)) foldOutUptoCard
end Rows
end Go.Proofs.YtipfoljmdeiggaaGreatDoor
