/-
  DERIVED. GIVEN WITH THE SEED: THE CARDS: each row of YtgigdhfdpabmoaaDoorRows.lean that lists a variable, with what it lists TIED to the program's text (the seventh form; the later family's looks); each row that meets fmt, with fmt's text TOLD by the authors' own Lean function (tested against real Go, not proved from fmt's source: count such statements apart). THE CARD IS WHAT COUNTS. Prove the row's statement (the work); the ties are given (YtgigdhfdpabmoaaDoorTie.lean); close each card by the builder's one call (the guide's Derived/Test/ToyasCard.lean, 'card_holds'). Laid BY PROGRAM, IN A SANDBOX (cutbox-door.mjs). By AI agents, Wed Nov 11 2026. No macro, syntax, notation, axiom, sorry.
-/
import Derived.Test.YtgigdhfdpabmoaaDoorRows
import GoSem.ClaimSeven
namespace Go.Proofs.YtgigdhfdpabmoaaDoor
namespace Rows

/-- THE TIED CARD OF 'tributarylaw10.MemOldest'. -/
def memOldestCard : Claim7 := { stood := { row := memOldestRow, standIns := [], harness := (true, "878139fba64ab9adbb6915fe68ab55baf5daefb533b0a3adff105abd5f51ebd2"), looks := true }, kinds := [], alts := [], laidByText := true, laidKinds := [.handle], laidTests := true, laidLooks := .later }
def MemOldestCardSaid : Prop := Claim7.holds Tryd.pinned (.plain (OpenSpec.ofChange memOldestSpec)) memOldestCard

/-- THE TIED CARD OF 'tributarylaw10.MemBounds'. -/
def memBoundsCard : Claim7 := { stood := { row := memBoundsRow, standIns := [], harness := (true, "878139fba64ab9adbb6915fe68ab55baf5daefb533b0a3adff105abd5f51ebd2"), looks := true }, kinds := [], alts := [], laidByText := true, laidKinds := [.handle], laidTests := true, laidLooks := .later }
def MemBoundsCardSaid : Prop := Claim7.holds Tryd.pinned (.plain (OpenSpec.ofChange memBoundsSpec)) memBoundsCard

/-- THE TIED CARD OF 'tributarylaw10.MemPlays'. -/
def memPlaysCard : Claim7 := { stood := { row := memPlaysRow, standIns := [], harness := (true, "878139fba64ab9adbb6915fe68ab55baf5daefb533b0a3adff105abd5f51ebd2"), looks := true }, kinds := [], alts := [], laidByText := true, laidKinds := [.handle], laidTests := true, laidLooks := .later }
def MemPlaysCardSaid : Prop := Claim7.holds Tryd.pinned (.plain (OpenSpec.ofChange memPlaysSpec)) memPlaysCard

/-- THE SECOND FORM's CARD OF 'tributarylaw10.MemOldest'. -/
def memOldestUptoCard : Claim7 := { stood := { row := memOldestUptoRow, standIns := [], harness := (true, "878139fba64ab9adbb6915fe68ab55baf5daefb533b0a3adff105abd5f51ebd2"), looks := true }, kinds := [], alts := [], laidByText := true, laidKinds := [.handle], laidTests := true, laidLooks := .later }
def MemOldestUptoCardSaid : Prop := Claim7.holds Tryd.pinned (.plain (OpenSpec.upto memOldestSpec)) memOldestUptoCard

/-- THE SECOND FORM's CARD OF 'tributarylaw10.MemBounds'. -/
def memBoundsUptoCard : Claim7 := { stood := { row := memBoundsUptoRow, standIns := [], harness := (true, "878139fba64ab9adbb6915fe68ab55baf5daefb533b0a3adff105abd5f51ebd2"), looks := true }, kinds := [], alts := [], laidByText := true, laidKinds := [.handle], laidTests := true, laidLooks := .later }
def MemBoundsUptoCardSaid : Prop := Claim7.holds Tryd.pinned (.plain (OpenSpec.upto memBoundsSpec)) memBoundsUptoCard

/-- THE SECOND FORM's CARD OF 'tributarylaw10.MemPlays'. -/
def memPlaysUptoCard : Claim7 := { stood := { row := memPlaysUptoRow, standIns := [], harness := (true, "878139fba64ab9adbb6915fe68ab55baf5daefb533b0a3adff105abd5f51ebd2"), looks := true }, kinds := [], alts := [], laidByText := true, laidKinds := [.handle], laidTests := true, laidLooks := .later }
def MemPlaysUptoCardSaid : Prop := Claim7.holds Tryd.pinned (.plain (OpenSpec.upto memPlaysSpec)) memPlaysUptoCard
end Rows
end Go.Proofs.YtgigdhfdpabmoaaDoor
