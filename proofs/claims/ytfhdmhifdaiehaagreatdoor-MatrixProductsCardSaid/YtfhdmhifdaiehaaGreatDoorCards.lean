/-
  DERIVED. GIVEN WITH THE SEED: THE CARDS: each row of YtfhdmhifdaiehaaGreatDoorRows.lean that lists a variable, with what it lists TIED to the program's text (the seventh form; the later family's looks); each row that meets fmt, with fmt's text TOLD by the authors' own Lean function (tested against real Go, not proved from fmt's source: count such statements apart). THE CARD IS WHAT COUNTS. Prove the row's statement (the work); the ties are given (YtfhdmhifdaiehaaGreatDoorTie.lean); close each card by the builder's one call (the guide's Derived/Test/ToyasCard.lean, 'card_holds'). Laid BY PROGRAM, IN A SANDBOX (cutbox-door.mjs). By AI agents, Wed Nov 11 2026. No macro, syntax, notation, axiom, sorry.
-/
import Derived.Test.YtfhdmhifdaiehaaGreatDoorRows
import GoSem.ClaimSeven
namespace Go.Proofs.YtfhdmhifdaiehaaGreatDoor
namespace Rows

/-- THE TIED CARD OF 'sandpilelaw03.MatrixDeterminants'. -/
def matrixDeterminantsCard : Claim7 := { stood := { row := matrixDeterminantsRow, standIns := [], harness := (true, "5b222c7ae2ddd973219aa7fc27a3b3fff5c05d85a4fd40c6faa785211b2d6da5"), looks := true }, kinds := [], alts := [], laidByText := true, laidKinds := [.data, .data, .data, .sentinel, .sentinel], laidTests := true, laidLooks := .later }
def MatrixDeterminantsCardSaid : Prop := Claim7.holds Tryz.pinned (.plain (OpenSpec.ofChange matrixDeterminantsSpec)) matrixDeterminantsCard

/-- THE TIED CARD OF 'sandpilelaw03.MatrixRanks'. -/
def matrixRanksCard : Claim7 := { stood := { row := matrixRanksRow, standIns := [], harness := (true, "5b222c7ae2ddd973219aa7fc27a3b3fff5c05d85a4fd40c6faa785211b2d6da5"), looks := true }, kinds := [], alts := [], laidByText := true, laidKinds := [.data, .data, .data, .sentinel, .sentinel], laidTests := true, laidLooks := .later }
def MatrixRanksCardSaid : Prop := Claim7.holds Tryz.pinned (.plain (OpenSpec.ofChange matrixRanksSpec)) matrixRanksCard

/-- THE TIED CARD OF 'sandpilelaw03.MatrixRows'. -/
def matrixRowsCard : Claim7 := { stood := { row := matrixRowsRow, standIns := [], harness := (true, "5b222c7ae2ddd973219aa7fc27a3b3fff5c05d85a4fd40c6faa785211b2d6da5"), looks := true }, kinds := [], alts := [], laidByText := true, laidKinds := [.data, .data, .data, .sentinel, .sentinel], laidTests := true, laidLooks := .later }
def MatrixRowsCardSaid : Prop := Claim7.holds Tryz.pinned (.plain (OpenSpec.ofChange matrixRowsSpec)) matrixRowsCard

/-- THE TIED CARD OF 'sandpilelaw03.MatrixMultiplies'. -/
def matrixMultipliesCard : Claim7 := { stood := { row := matrixMultipliesRow, standIns := [], harness := (true, "5b222c7ae2ddd973219aa7fc27a3b3fff5c05d85a4fd40c6faa785211b2d6da5"), looks := true }, kinds := [], alts := [], laidByText := true, laidKinds := [.data, .data, .data, .sentinel, .sentinel], laidTests := true, laidLooks := .later }
def MatrixMultipliesCardSaid : Prop := Claim7.holds Tryz.pinned (.plain (OpenSpec.ofChange matrixMultipliesSpec)) matrixMultipliesCard

/-- THE TIED CARD OF 'sandpilelaw03.MatrixCofactors'. -/
def matrixCofactorsCard : Claim7 := { stood := { row := matrixCofactorsRow, standIns := [], harness := (true, "5b222c7ae2ddd973219aa7fc27a3b3fff5c05d85a4fd40c6faa785211b2d6da5"), looks := true }, kinds := [], alts := [], laidByText := true, laidKinds := [.data, .data, .data, .sentinel, .sentinel], laidTests := true, laidLooks := .later }
def MatrixCofactorsCardSaid : Prop := Claim7.holds Tryz.pinned (.plain (OpenSpec.ofChange matrixCofactorsSpec)) matrixCofactorsCard

/-- THE TIED CARD OF 'sandpilelaw03.MatrixShrinks'. -/
def matrixShrinksCard : Claim7 := { stood := { row := matrixShrinksRow, standIns := [], harness := (true, "5b222c7ae2ddd973219aa7fc27a3b3fff5c05d85a4fd40c6faa785211b2d6da5"), looks := true }, kinds := [], alts := [], laidByText := true, laidKinds := [.data, .data, .data, .sentinel, .sentinel], laidTests := true, laidLooks := .later }
def MatrixShrinksCardSaid : Prop := Claim7.holds Tryz.pinned (.plain (OpenSpec.ofChange matrixShrinksSpec)) matrixShrinksCard

/-- THE TIED CARD OF 'sandpilelaw03.MatrixMinors'. -/
def matrixMinorsCard : Claim7 := { stood := { row := matrixMinorsRow, standIns := [], harness := (true, "5b222c7ae2ddd973219aa7fc27a3b3fff5c05d85a4fd40c6faa785211b2d6da5"), looks := true }, kinds := [], alts := [], laidByText := true, laidKinds := [.data, .data, .data, .sentinel, .sentinel], laidTests := true, laidLooks := .later }
def MatrixMinorsCardSaid : Prop := Claim7.holds Tryz.pinned (.plain (OpenSpec.ofChange matrixMinorsSpec)) matrixMinorsCard

/-- THE TIED CARD OF 'sandpilelaw03.MatrixChecks'. -/
def matrixChecksCard : Claim7 := { stood := { row := matrixChecksRow, standIns := [], harness := (true, "5b222c7ae2ddd973219aa7fc27a3b3fff5c05d85a4fd40c6faa785211b2d6da5"), looks := true }, kinds := [], alts := [], laidByText := true, laidKinds := [.data, .data, .data, .sentinel, .sentinel], laidTests := true, laidLooks := .later }
def MatrixChecksCardSaid : Prop := Claim7.holds Tryz.pinned (.plain (OpenSpec.ofChange matrixChecksSpec)) matrixChecksCard

/-- THE TIED CARD OF 'sandpilelaw03.MatrixProducts'. -/
def matrixProductsCard : Claim7 := { stood := { row := matrixProductsRow, standIns := [], harness := (true, "5b222c7ae2ddd973219aa7fc27a3b3fff5c05d85a4fd40c6faa785211b2d6da5"), looks := true }, kinds := [], alts := [], laidByText := true, laidKinds := [.data, .data, .data, .sentinel, .sentinel], laidTests := true, laidLooks := .later }
def MatrixProductsCardSaid : Prop := Claim7.holds Tryz.pinned (.plain (OpenSpec.ofChange matrixProductsSpec)) matrixProductsCard

/-- THE SECOND FORM's CARD OF 'sandpilelaw03.MatrixDeterminants'. -/
def matrixDeterminantsUptoCard : Claim7 := { stood := { row := matrixDeterminantsUptoRow, standIns := [], harness := (true, "5b222c7ae2ddd973219aa7fc27a3b3fff5c05d85a4fd40c6faa785211b2d6da5"), looks := true }, kinds := [], alts := [], laidByText := true, laidKinds := [.data, .data, .data, .sentinel, .sentinel], laidTests := true, laidLooks := .later }
def MatrixDeterminantsUptoCardSaid : Prop := Claim7.holds Tryz.pinned (.plain (OpenSpec.upto matrixDeterminantsSpec)) matrixDeterminantsUptoCard

/-- THE SECOND FORM's CARD OF 'sandpilelaw03.MatrixRanks'. -/
def matrixRanksUptoCard : Claim7 := { stood := { row := matrixRanksUptoRow, standIns := [], harness := (true, "5b222c7ae2ddd973219aa7fc27a3b3fff5c05d85a4fd40c6faa785211b2d6da5"), looks := true }, kinds := [], alts := [], laidByText := true, laidKinds := [.data, .data, .data, .sentinel, .sentinel], laidTests := true, laidLooks := .later }
def MatrixRanksUptoCardSaid : Prop := Claim7.holds Tryz.pinned (.plain (OpenSpec.upto matrixRanksSpec)) matrixRanksUptoCard

/-- THE SECOND FORM's CARD OF 'sandpilelaw03.MatrixRows'. -/
def matrixRowsUptoCard : Claim7 := { stood := { row := matrixRowsUptoRow, standIns := [], harness := (true, "5b222c7ae2ddd973219aa7fc27a3b3fff5c05d85a4fd40c6faa785211b2d6da5"), looks := true }, kinds := [], alts := [], laidByText := true, laidKinds := [.data, .data, .data, .sentinel, .sentinel], laidTests := true, laidLooks := .later }
def MatrixRowsUptoCardSaid : Prop := Claim7.holds Tryz.pinned (.plain (OpenSpec.upto matrixRowsSpec)) matrixRowsUptoCard

/-- THE SECOND FORM's CARD OF 'sandpilelaw03.MatrixMultiplies'. -/
def matrixMultipliesUptoCard : Claim7 := { stood := { row := matrixMultipliesUptoRow, standIns := [], harness := (true, "5b222c7ae2ddd973219aa7fc27a3b3fff5c05d85a4fd40c6faa785211b2d6da5"), looks := true }, kinds := [], alts := [], laidByText := true, laidKinds := [.data, .data, .data, .sentinel, .sentinel], laidTests := true, laidLooks := .later }
def MatrixMultipliesUptoCardSaid : Prop := Claim7.holds Tryz.pinned (.plain (OpenSpec.upto matrixMultipliesSpec)) matrixMultipliesUptoCard

/-- THE SECOND FORM's CARD OF 'sandpilelaw03.MatrixCofactors'. -/
def matrixCofactorsUptoCard : Claim7 := { stood := { row := matrixCofactorsUptoRow, standIns := [], harness := (true, "5b222c7ae2ddd973219aa7fc27a3b3fff5c05d85a4fd40c6faa785211b2d6da5"), looks := true }, kinds := [], alts := [], laidByText := true, laidKinds := [.data, .data, .data, .sentinel, .sentinel], laidTests := true, laidLooks := .later }
def MatrixCofactorsUptoCardSaid : Prop := Claim7.holds Tryz.pinned (.plain (OpenSpec.upto matrixCofactorsSpec)) matrixCofactorsUptoCard

/-- THE SECOND FORM's CARD OF 'sandpilelaw03.MatrixShrinks'. -/
def matrixShrinksUptoCard : Claim7 := { stood := { row := matrixShrinksUptoRow, standIns := [], harness := (true, "5b222c7ae2ddd973219aa7fc27a3b3fff5c05d85a4fd40c6faa785211b2d6da5"), looks := true }, kinds := [], alts := [], laidByText := true, laidKinds := [.data, .data, .data, .sentinel, .sentinel], laidTests := true, laidLooks := .later }
def MatrixShrinksUptoCardSaid : Prop := Claim7.holds Tryz.pinned (.plain (OpenSpec.upto matrixShrinksSpec)) matrixShrinksUptoCard

/-- THE SECOND FORM's CARD OF 'sandpilelaw03.MatrixMinors'. -/
def matrixMinorsUptoCard : Claim7 := { stood := { row := matrixMinorsUptoRow, standIns := [], harness := (true, "5b222c7ae2ddd973219aa7fc27a3b3fff5c05d85a4fd40c6faa785211b2d6da5"), looks := true }, kinds := [], alts := [], laidByText := true, laidKinds := [.data, .data, .data, .sentinel, .sentinel], laidTests := true, laidLooks := .later }
def MatrixMinorsUptoCardSaid : Prop := Claim7.holds Tryz.pinned (.plain (OpenSpec.upto matrixMinorsSpec)) matrixMinorsUptoCard

/-- THE SECOND FORM's CARD OF 'sandpilelaw03.MatrixChecks'. -/
def matrixChecksUptoCard : Claim7 := { stood := { row := matrixChecksUptoRow, standIns := [], harness := (true, "5b222c7ae2ddd973219aa7fc27a3b3fff5c05d85a4fd40c6faa785211b2d6da5"), looks := true }, kinds := [], alts := [], laidByText := true, laidKinds := [.data, .data, .data, .sentinel, .sentinel], laidTests := true, laidLooks := .later }
def MatrixChecksUptoCardSaid : Prop := Claim7.holds Tryz.pinned (.plain (OpenSpec.upto matrixChecksSpec)) matrixChecksUptoCard

/-- THE SECOND FORM's CARD OF 'sandpilelaw03.MatrixProducts'. -/
def matrixProductsUptoCard : Claim7 := { stood := { row := matrixProductsUptoRow, standIns := [], harness := (true, "5b222c7ae2ddd973219aa7fc27a3b3fff5c05d85a4fd40c6faa785211b2d6da5"), looks := true }, kinds := [], alts := [], laidByText := true, laidKinds := [.data, .data, .data, .sentinel, .sentinel], laidTests := true, laidLooks := .later }
def MatrixProductsUptoCardSaid : Prop := Claim7.holds Tryz.pinned (.plain (OpenSpec.upto matrixProductsSpec)) matrixProductsUptoCard
end Rows
end Go.Proofs.YtfhdmhifdaiehaaGreatDoor
