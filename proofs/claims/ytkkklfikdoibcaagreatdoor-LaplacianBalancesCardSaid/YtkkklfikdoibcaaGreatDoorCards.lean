/-
  DERIVED. GIVEN WITH THE SEED: THE CARDS: each row of YtkkklfikdoibcaaGreatDoorRows.lean that lists a variable, with what it lists TIED to the program's text (the seventh form; the later family's looks); each row that meets fmt, with fmt's text TOLD by the authors' own Lean function (tested against real Go, not proved from fmt's source: count such statements apart). THE CARD IS WHAT COUNTS. Prove the row's statement (the work); the ties are given (YtkkklfikdoibcaaGreatDoorTie.lean); close each card by the builder's one call (the guide's Derived/Test/ToyasCard.lean, 'card_holds'). Laid BY PROGRAM, IN A SANDBOX (cutbox-door.mjs). By AI agents, Wed Nov 11 2026. No macro, syntax, notation, axiom, sorry.
-/
import Derived.Test.YtkkklfikdoibcaaGreatDoorRows
import GoSem.ClaimSeven
namespace Go.Proofs.YtkkklfikdoibcaaGreatDoor
namespace Rows

/-- THE TIED CARD OF 'sandpilelaw15.LaplacianMatrices'. -/
def laplacianMatricesCard : Claim7 := { stood := { row := laplacianMatricesRow, standIns := [], harness := (true, "900545f78ad2a89e8b6152be0d449cc353f690349f53db226032785a7bc1aa87"), looks := true }, kinds := [], alts := [], laidByText := true, laidKinds := [.data, .data, .data, .sentinel, .sentinel], laidTests := true, laidLooks := .later }
def LaplacianMatricesCardSaid : Prop := Claim7.holds Tryz.pinned (.plain (OpenSpec.ofChange laplacianMatricesSpec)) laplacianMatricesCard

/-- THE TIED CARD OF 'sandpilelaw15.LaplacianImages'. -/
def laplacianImagesCard : Claim7 := { stood := { row := laplacianImagesRow, standIns := [], harness := (true, "900545f78ad2a89e8b6152be0d449cc353f690349f53db226032785a7bc1aa87"), looks := true }, kinds := [], alts := [], laidByText := true, laidKinds := [.data, .data, .data, .sentinel, .sentinel], laidTests := true, laidLooks := .later }
def LaplacianImagesCardSaid : Prop := Claim7.holds Tryz.pinned (.plain (OpenSpec.ofChange laplacianImagesSpec)) laplacianImagesCard

/-- THE TIED CARD OF 'sandpilelaw15.LaplacianCounts'. -/
def laplacianCountsCard : Claim7 := { stood := { row := laplacianCountsRow, standIns := [], harness := (true, "900545f78ad2a89e8b6152be0d449cc353f690349f53db226032785a7bc1aa87"), looks := true }, kinds := [], alts := [], laidByText := true, laidKinds := [.data, .data, .data, .sentinel, .sentinel], laidTests := true, laidLooks := .later }
def LaplacianCountsCardSaid : Prop := Claim7.holds Tryz.pinned (.plain (OpenSpec.ofChange laplacianCountsSpec)) laplacianCountsCard

/-- THE TIED CARD OF 'sandpilelaw15.LaplacianCofactors'. -/
def laplacianCofactorsCard : Claim7 := { stood := { row := laplacianCofactorsRow, standIns := [], harness := (true, "900545f78ad2a89e8b6152be0d449cc353f690349f53db226032785a7bc1aa87"), looks := true }, kinds := [], alts := [], laidByText := true, laidKinds := [.data, .data, .data, .sentinel, .sentinel], laidTests := true, laidLooks := .later }
def LaplacianCofactorsCardSaid : Prop := Claim7.holds Tryz.pinned (.plain (OpenSpec.ofChange laplacianCofactorsSpec)) laplacianCofactorsCard

/-- THE TIED CARD OF 'sandpilelaw15.LaplacianMoves'. -/
def laplacianMovesCard : Claim7 := { stood := { row := laplacianMovesRow, standIns := [], harness := (true, "900545f78ad2a89e8b6152be0d449cc353f690349f53db226032785a7bc1aa87"), looks := true }, kinds := [], alts := [], laidByText := true, laidKinds := [.data, .data, .data, .sentinel, .sentinel], laidTests := true, laidLooks := .later }
def LaplacianMovesCardSaid : Prop := Claim7.holds Tryz.pinned (.plain (OpenSpec.ofChange laplacianMovesSpec)) laplacianMovesCard

/-- THE TIED CARD OF 'sandpilelaw15.LaplacianBalances'. -/
def laplacianBalancesCard : Claim7 := { stood := { row := laplacianBalancesRow, standIns := [], harness := (true, "900545f78ad2a89e8b6152be0d449cc353f690349f53db226032785a7bc1aa87"), looks := true }, kinds := [], alts := [], laidByText := true, laidKinds := [.data, .data, .data, .sentinel, .sentinel], laidTests := true, laidLooks := .later }
def LaplacianBalancesCardSaid : Prop := Claim7.holds Tryz.pinned (.plain (OpenSpec.ofChange laplacianBalancesSpec)) laplacianBalancesCard

/-- THE TIED CARD OF 'sandpilelaw47.EulerDoubles'. -/
def eulerDoublesCard : Claim7 := { stood := { row := eulerDoublesRow, standIns := [], harness := (true, "900545f78ad2a89e8b6152be0d449cc353f690349f53db226032785a7bc1aa87"), looks := true }, kinds := [], alts := [], laidByText := true, laidKinds := [.data, .data, .data, .sentinel, .sentinel], laidTests := true, laidLooks := .later }
def EulerDoublesCardSaid : Prop := Claim7.holds Tryz.pinned (.plain (OpenSpec.ofChange eulerDoublesSpec)) eulerDoublesCard

/-- THE TIED CARD OF 'sandpilelaw47.EulerWalks'. -/
def eulerWalksCard : Claim7 := { stood := { row := eulerWalksRow, standIns := [], harness := (true, "900545f78ad2a89e8b6152be0d449cc353f690349f53db226032785a7bc1aa87"), looks := true }, kinds := [], alts := [], laidByText := true, laidKinds := [.data, .data, .data, .sentinel, .sentinel], laidTests := true, laidLooks := .later }
def EulerWalksCardSaid : Prop := Claim7.holds Tryz.pinned (.plain (OpenSpec.ofChange eulerWalksSpec)) eulerWalksCard

/-- THE TIED CARD OF 'sandpilelaw47.EulerDegrees'. -/
def eulerDegreesCard : Claim7 := { stood := { row := eulerDegreesRow, standIns := [], harness := (true, "900545f78ad2a89e8b6152be0d449cc353f690349f53db226032785a7bc1aa87"), looks := true }, kinds := [], alts := [], laidByText := true, laidKinds := [.data, .data, .data, .sentinel, .sentinel], laidTests := true, laidLooks := .later }
def EulerDegreesCardSaid : Prop := Claim7.holds Tryz.pinned (.plain (OpenSpec.ofChange eulerDegreesSpec)) eulerDegreesCard

/-- THE TIED CARD OF 'sandpilelaw47.EulerTurns'. -/
def eulerTurnsCard : Claim7 := { stood := { row := eulerTurnsRow, standIns := [], harness := (true, "900545f78ad2a89e8b6152be0d449cc353f690349f53db226032785a7bc1aa87"), looks := true }, kinds := [], alts := [], laidByText := true, laidKinds := [.data, .data, .data, .sentinel, .sentinel], laidTests := true, laidLooks := .later }
def EulerTurnsCardSaid : Prop := Claim7.holds Tryz.pinned (.plain (OpenSpec.ofChange eulerTurnsSpec)) eulerTurnsCard

/-- THE TIED CARD OF 'sandpilelaw47.EulerProves'. -/
def eulerProvesCard : Claim7 := { stood := { row := eulerProvesRow, standIns := [], harness := (true, "900545f78ad2a89e8b6152be0d449cc353f690349f53db226032785a7bc1aa87"), looks := true }, kinds := [], alts := [], laidByText := true, laidKinds := [.data, .data, .data, .sentinel, .sentinel], laidTests := true, laidLooks := .later }
def EulerProvesCardSaid : Prop := Claim7.holds Tryz.pinned (.plain (OpenSpec.ofChange eulerProvesSpec)) eulerProvesCard

/-- THE SECOND FORM's CARD OF 'sandpilelaw15.LaplacianMatrices'. -/
def laplacianMatricesUptoCard : Claim7 := { stood := { row := laplacianMatricesUptoRow, standIns := [], harness := (true, "900545f78ad2a89e8b6152be0d449cc353f690349f53db226032785a7bc1aa87"), looks := true }, kinds := [], alts := [], laidByText := true, laidKinds := [.data, .data, .data, .sentinel, .sentinel], laidTests := true, laidLooks := .later }
def LaplacianMatricesUptoCardSaid : Prop := Claim7.holds Tryz.pinned (.plain (OpenSpec.upto laplacianMatricesSpec)) laplacianMatricesUptoCard

/-- THE SECOND FORM's CARD OF 'sandpilelaw15.LaplacianImages'. -/
def laplacianImagesUptoCard : Claim7 := { stood := { row := laplacianImagesUptoRow, standIns := [], harness := (true, "900545f78ad2a89e8b6152be0d449cc353f690349f53db226032785a7bc1aa87"), looks := true }, kinds := [], alts := [], laidByText := true, laidKinds := [.data, .data, .data, .sentinel, .sentinel], laidTests := true, laidLooks := .later }
def LaplacianImagesUptoCardSaid : Prop := Claim7.holds Tryz.pinned (.plain (OpenSpec.upto laplacianImagesSpec)) laplacianImagesUptoCard

/-- THE SECOND FORM's CARD OF 'sandpilelaw15.LaplacianCounts'. -/
def laplacianCountsUptoCard : Claim7 := { stood := { row := laplacianCountsUptoRow, standIns := [], harness := (true, "900545f78ad2a89e8b6152be0d449cc353f690349f53db226032785a7bc1aa87"), looks := true }, kinds := [], alts := [], laidByText := true, laidKinds := [.data, .data, .data, .sentinel, .sentinel], laidTests := true, laidLooks := .later }
def LaplacianCountsUptoCardSaid : Prop := Claim7.holds Tryz.pinned (.plain (OpenSpec.upto laplacianCountsSpec)) laplacianCountsUptoCard

/-- THE SECOND FORM's CARD OF 'sandpilelaw15.LaplacianCofactors'. -/
def laplacianCofactorsUptoCard : Claim7 := { stood := { row := laplacianCofactorsUptoRow, standIns := [], harness := (true, "900545f78ad2a89e8b6152be0d449cc353f690349f53db226032785a7bc1aa87"), looks := true }, kinds := [], alts := [], laidByText := true, laidKinds := [.data, .data, .data, .sentinel, .sentinel], laidTests := true, laidLooks := .later }
def LaplacianCofactorsUptoCardSaid : Prop := Claim7.holds Tryz.pinned (.plain (OpenSpec.upto laplacianCofactorsSpec)) laplacianCofactorsUptoCard

/-- THE SECOND FORM's CARD OF 'sandpilelaw15.LaplacianMoves'. -/
def laplacianMovesUptoCard : Claim7 := { stood := { row := laplacianMovesUptoRow, standIns := [], harness := (true, "900545f78ad2a89e8b6152be0d449cc353f690349f53db226032785a7bc1aa87"), looks := true }, kinds := [], alts := [], laidByText := true, laidKinds := [.data, .data, .data, .sentinel, .sentinel], laidTests := true, laidLooks := .later }
def LaplacianMovesUptoCardSaid : Prop := Claim7.holds Tryz.pinned (.plain (OpenSpec.upto laplacianMovesSpec)) laplacianMovesUptoCard

/-- THE SECOND FORM's CARD OF 'sandpilelaw15.LaplacianBalances'. -/
def laplacianBalancesUptoCard : Claim7 := { stood := { row := laplacianBalancesUptoRow, standIns := [], harness := (true, "900545f78ad2a89e8b6152be0d449cc353f690349f53db226032785a7bc1aa87"), looks := true }, kinds := [], alts := [], laidByText := true, laidKinds := [.data, .data, .data, .sentinel, .sentinel], laidTests := true, laidLooks := .later }
def LaplacianBalancesUptoCardSaid : Prop := Claim7.holds Tryz.pinned (.plain (OpenSpec.upto laplacianBalancesSpec)) laplacianBalancesUptoCard

/-- THE SECOND FORM's CARD OF 'sandpilelaw47.EulerDoubles'. -/
def eulerDoublesUptoCard : Claim7 := { stood := { row := eulerDoublesUptoRow, standIns := [], harness := (true, "900545f78ad2a89e8b6152be0d449cc353f690349f53db226032785a7bc1aa87"), looks := true }, kinds := [], alts := [], laidByText := true, laidKinds := [.data, .data, .data, .sentinel, .sentinel], laidTests := true, laidLooks := .later }
def EulerDoublesUptoCardSaid : Prop := Claim7.holds Tryz.pinned (.plain (OpenSpec.upto eulerDoublesSpec)) eulerDoublesUptoCard

/-- THE SECOND FORM's CARD OF 'sandpilelaw47.EulerWalks'. -/
def eulerWalksUptoCard : Claim7 := { stood := { row := eulerWalksUptoRow, standIns := [], harness := (true, "900545f78ad2a89e8b6152be0d449cc353f690349f53db226032785a7bc1aa87"), looks := true }, kinds := [], alts := [], laidByText := true, laidKinds := [.data, .data, .data, .sentinel, .sentinel], laidTests := true, laidLooks := .later }
def EulerWalksUptoCardSaid : Prop := Claim7.holds Tryz.pinned (.plain (OpenSpec.upto eulerWalksSpec)) eulerWalksUptoCard

/-- THE SECOND FORM's CARD OF 'sandpilelaw47.EulerDegrees'. -/
def eulerDegreesUptoCard : Claim7 := { stood := { row := eulerDegreesUptoRow, standIns := [], harness := (true, "900545f78ad2a89e8b6152be0d449cc353f690349f53db226032785a7bc1aa87"), looks := true }, kinds := [], alts := [], laidByText := true, laidKinds := [.data, .data, .data, .sentinel, .sentinel], laidTests := true, laidLooks := .later }
def EulerDegreesUptoCardSaid : Prop := Claim7.holds Tryz.pinned (.plain (OpenSpec.upto eulerDegreesSpec)) eulerDegreesUptoCard

/-- THE SECOND FORM's CARD OF 'sandpilelaw47.EulerTurns'. -/
def eulerTurnsUptoCard : Claim7 := { stood := { row := eulerTurnsUptoRow, standIns := [], harness := (true, "900545f78ad2a89e8b6152be0d449cc353f690349f53db226032785a7bc1aa87"), looks := true }, kinds := [], alts := [], laidByText := true, laidKinds := [.data, .data, .data, .sentinel, .sentinel], laidTests := true, laidLooks := .later }
def EulerTurnsUptoCardSaid : Prop := Claim7.holds Tryz.pinned (.plain (OpenSpec.upto eulerTurnsSpec)) eulerTurnsUptoCard

/-- THE SECOND FORM's CARD OF 'sandpilelaw47.EulerProves'. -/
def eulerProvesUptoCard : Claim7 := { stood := { row := eulerProvesUptoRow, standIns := [], harness := (true, "900545f78ad2a89e8b6152be0d449cc353f690349f53db226032785a7bc1aa87"), looks := true }, kinds := [], alts := [], laidByText := true, laidKinds := [.data, .data, .data, .sentinel, .sentinel], laidTests := true, laidLooks := .later }
def EulerProvesUptoCardSaid : Prop := Claim7.holds Tryz.pinned (.plain (OpenSpec.upto eulerProvesSpec)) eulerProvesUptoCard
end Rows
end Go.Proofs.YtkkklfikdoibcaaGreatDoor
