/-
  DERIVED. GIVEN WITH THE SEED: THE CARDS: each row of YtajkhbpffakmfaaGreatDoorRows.lean that lists a variable, with what it lists TIED to the program's text (the seventh form; the later family's looks); each row that meets fmt, with fmt's text TOLD by the authors' own Lean function (tested against real Go, not proved from fmt's source: count such statements apart). THE CARD IS WHAT COUNTS. Prove the row's statement (the work); the ties are given (YtajkhbpffakmfaaGreatDoorTie.lean); close each card by the builder's one call (the guide's Derived/Test/ToyasCard.lean, 'card_holds'). Laid BY PROGRAM, IN A SANDBOX (cutbox-door.mjs). By AI agents, Wed Nov 11 2026. No macro, syntax, notation, axiom, sorry.
-/
import Derived.Test.YtajkhbpffakmfaaGreatDoorRows
import GoSem.ClaimSeven
namespace Go.Proofs.YtajkhbpffakmfaaGreatDoor
namespace Rows

/-- THE TIED CARD OF 'sandpilelaw03.MatrixRows'. -/
def matrixRowsCard : Claim7 := { stood := { row := matrixRowsRow, standIns := [], harness := (true, "d81d37980f5667139c3e79272179b0ff1a731a3afdb37b3ec713b5c268cfe99f"), looks := true }, kinds := [], alts := [], laidByText := true, laidKinds := [.data, .data, .data, .sentinel, .sentinel], laidTests := true, laidLooks := .later }
def MatrixRowsCardSaid : Prop := Claim7.holds Tryz.pinned (.plain (OpenSpec.ofChange matrixRowsSpec)) matrixRowsCard

/-- THE TIED CARD OF 'sandpilelaw05.AbelianLists'. -/
def abelianListsCard : Claim7 := { stood := { row := abelianListsRow, standIns := [], harness := (true, "d81d37980f5667139c3e79272179b0ff1a731a3afdb37b3ec713b5c268cfe99f"), looks := true }, kinds := [], alts := [], laidByText := true, laidKinds := [.data, .data, .data, .sentinel, .sentinel], laidTests := true, laidLooks := .later }
def AbelianListsCardSaid : Prop := Claim7.holds Tryz.pinned (.plain (OpenSpec.ofChange abelianListsSpec)) abelianListsCard

/-- THE TIED CARD OF 'sandpilelaw05.AbelianCounts'. -/
def abelianCountsCard : Claim7 := { stood := { row := abelianCountsRow, standIns := [], harness := (true, "d81d37980f5667139c3e79272179b0ff1a731a3afdb37b3ec713b5c268cfe99f"), looks := true }, kinds := [], alts := [], laidByText := true, laidKinds := [.data, .data, .data, .sentinel, .sentinel], laidTests := true, laidLooks := .later }
def AbelianCountsCardSaid : Prop := Claim7.holds Tryz.pinned (.plain (OpenSpec.ofChange abelianCountsSpec)) abelianCountsCard

/-- THE SECOND FORM's CARD OF 'sandpilelaw03.MatrixRows'. -/
def matrixRowsUptoCard : Claim7 := { stood := { row := matrixRowsUptoRow, standIns := [], harness := (true, "d81d37980f5667139c3e79272179b0ff1a731a3afdb37b3ec713b5c268cfe99f"), looks := true }, kinds := [], alts := [], laidByText := true, laidKinds := [.data, .data, .data, .sentinel, .sentinel], laidTests := true, laidLooks := .later }
def MatrixRowsUptoCardSaid : Prop := Claim7.holds Tryz.pinned (.plain (OpenSpec.upto matrixRowsSpec)) matrixRowsUptoCard

/-- THE SECOND FORM's CARD OF 'sandpilelaw05.AbelianLists'. -/
def abelianListsUptoCard : Claim7 := { stood := { row := abelianListsUptoRow, standIns := [], harness := (true, "d81d37980f5667139c3e79272179b0ff1a731a3afdb37b3ec713b5c268cfe99f"), looks := true }, kinds := [], alts := [], laidByText := true, laidKinds := [.data, .data, .data, .sentinel, .sentinel], laidTests := true, laidLooks := .later }
def AbelianListsUptoCardSaid : Prop := Claim7.holds Tryz.pinned (.plain (OpenSpec.upto abelianListsSpec)) abelianListsUptoCard

/-- THE SECOND FORM's CARD OF 'sandpilelaw05.AbelianCounts'. -/
def abelianCountsUptoCard : Claim7 := { stood := { row := abelianCountsUptoRow, standIns := [], harness := (true, "d81d37980f5667139c3e79272179b0ff1a731a3afdb37b3ec713b5c268cfe99f"), looks := true }, kinds := [], alts := [], laidByText := true, laidKinds := [.data, .data, .data, .sentinel, .sentinel], laidTests := true, laidLooks := .later }
def AbelianCountsUptoCardSaid : Prop := Claim7.holds Tryz.pinned (.plain (OpenSpec.upto abelianCountsSpec)) abelianCountsUptoCard
end Rows
end Go.Proofs.YtajkhbpffakmfaaGreatDoor
