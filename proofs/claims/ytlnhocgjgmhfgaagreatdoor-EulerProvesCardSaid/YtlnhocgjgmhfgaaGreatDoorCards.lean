/-
  DERIVED. GIVEN WITH THE SEED: THE CARDS: each row of YtlnhocgjgmhfgaaGreatDoorRows.lean that lists a variable, with what it lists TIED to the program's text (the seventh form; the later family's looks); each row that meets fmt, with fmt's text TOLD by the authors' own Lean function (tested against real Go, not proved from fmt's source: count such statements apart). THE CARD IS WHAT COUNTS. Prove the row's statement (the work); the ties are given (YtlnhocgjgmhfgaaGreatDoorTie.lean); close each card by the builder's one call (the guide's Derived/Test/ToyasCard.lean, 'card_holds'). Laid BY PROGRAM, IN A SANDBOX (cutbox-door.mjs). By AI agents, Wed Nov 11 2026. No macro, syntax, notation, axiom, sorry.
-/
import Derived.Test.YtlnhocgjgmhfgaaGreatDoorRows
import GoSem.ClaimSeven
namespace Go.Proofs.YtlnhocgjgmhfgaaGreatDoor
namespace Rows

/-- THE TIED CARD OF 'sandpilelaw47.EulerDoubles'. -/
def eulerDoublesCard : Claim7 := { stood := { row := eulerDoublesRow, standIns := [], harness := (true, "b339482cb85ab6f1ff043b2b1673a055cc7db73d85cd27bef3c44cb4479ae5dc"), looks := true }, kinds := [], alts := [], laidByText := true, laidKinds := [.data, .data, .data, .sentinel, .sentinel], laidTests := true, laidLooks := .later }
def EulerDoublesCardSaid : Prop := Claim7.holds Tryz.pinned (.plain (OpenSpec.ofChange eulerDoublesSpec)) eulerDoublesCard

/-- THE TIED CARD OF 'sandpilelaw47.EulerWalks'. -/
def eulerWalksCard : Claim7 := { stood := { row := eulerWalksRow, standIns := [], harness := (true, "b339482cb85ab6f1ff043b2b1673a055cc7db73d85cd27bef3c44cb4479ae5dc"), looks := true }, kinds := [], alts := [], laidByText := true, laidKinds := [.data, .data, .data, .sentinel, .sentinel], laidTests := true, laidLooks := .later }
def EulerWalksCardSaid : Prop := Claim7.holds Tryz.pinned (.plain (OpenSpec.ofChange eulerWalksSpec)) eulerWalksCard

/-- THE TIED CARD OF 'sandpilelaw47.EulerDegrees'. -/
def eulerDegreesCard : Claim7 := { stood := { row := eulerDegreesRow, standIns := [], harness := (true, "b339482cb85ab6f1ff043b2b1673a055cc7db73d85cd27bef3c44cb4479ae5dc"), looks := true }, kinds := [], alts := [], laidByText := true, laidKinds := [.data, .data, .data, .sentinel, .sentinel], laidTests := true, laidLooks := .later }
def EulerDegreesCardSaid : Prop := Claim7.holds Tryz.pinned (.plain (OpenSpec.ofChange eulerDegreesSpec)) eulerDegreesCard

/-- THE TIED CARD OF 'sandpilelaw47.EulerTurns'. -/
def eulerTurnsCard : Claim7 := { stood := { row := eulerTurnsRow, standIns := [], harness := (true, "b339482cb85ab6f1ff043b2b1673a055cc7db73d85cd27bef3c44cb4479ae5dc"), looks := true }, kinds := [], alts := [], laidByText := true, laidKinds := [.data, .data, .data, .sentinel, .sentinel], laidTests := true, laidLooks := .later }
def EulerTurnsCardSaid : Prop := Claim7.holds Tryz.pinned (.plain (OpenSpec.ofChange eulerTurnsSpec)) eulerTurnsCard

/-- THE TIED CARD OF 'sandpilelaw47.EulerProves'. -/
def eulerProvesCard : Claim7 := { stood := { row := eulerProvesRow, standIns := [], harness := (true, "b339482cb85ab6f1ff043b2b1673a055cc7db73d85cd27bef3c44cb4479ae5dc"), looks := true }, kinds := [], alts := [], laidByText := true, laidKinds := [.data, .data, .data, .sentinel, .sentinel], laidTests := true, laidLooks := .later }
def EulerProvesCardSaid : Prop := Claim7.holds Tryz.pinned (.plain (OpenSpec.ofChange eulerProvesSpec)) eulerProvesCard

/-- THE SECOND FORM's CARD OF 'sandpilelaw47.EulerDoubles'. -/
def eulerDoublesUptoCard : Claim7 := { stood := { row := eulerDoublesUptoRow, standIns := [], harness := (true, "b339482cb85ab6f1ff043b2b1673a055cc7db73d85cd27bef3c44cb4479ae5dc"), looks := true }, kinds := [], alts := [], laidByText := true, laidKinds := [.data, .data, .data, .sentinel, .sentinel], laidTests := true, laidLooks := .later }
def EulerDoublesUptoCardSaid : Prop := Claim7.holds Tryz.pinned (.plain (OpenSpec.upto eulerDoublesSpec)) eulerDoublesUptoCard

/-- THE SECOND FORM's CARD OF 'sandpilelaw47.EulerWalks'. -/
def eulerWalksUptoCard : Claim7 := { stood := { row := eulerWalksUptoRow, standIns := [], harness := (true, "b339482cb85ab6f1ff043b2b1673a055cc7db73d85cd27bef3c44cb4479ae5dc"), looks := true }, kinds := [], alts := [], laidByText := true, laidKinds := [.data, .data, .data, .sentinel, .sentinel], laidTests := true, laidLooks := .later }
def EulerWalksUptoCardSaid : Prop := Claim7.holds Tryz.pinned (.plain (OpenSpec.upto eulerWalksSpec)) eulerWalksUptoCard

/-- THE SECOND FORM's CARD OF 'sandpilelaw47.EulerDegrees'. -/
def eulerDegreesUptoCard : Claim7 := { stood := { row := eulerDegreesUptoRow, standIns := [], harness := (true, "b339482cb85ab6f1ff043b2b1673a055cc7db73d85cd27bef3c44cb4479ae5dc"), looks := true }, kinds := [], alts := [], laidByText := true, laidKinds := [.data, .data, .data, .sentinel, .sentinel], laidTests := true, laidLooks := .later }
def EulerDegreesUptoCardSaid : Prop := Claim7.holds Tryz.pinned (.plain (OpenSpec.upto eulerDegreesSpec)) eulerDegreesUptoCard

/-- THE SECOND FORM's CARD OF 'sandpilelaw47.EulerTurns'. -/
def eulerTurnsUptoCard : Claim7 := { stood := { row := eulerTurnsUptoRow, standIns := [], harness := (true, "b339482cb85ab6f1ff043b2b1673a055cc7db73d85cd27bef3c44cb4479ae5dc"), looks := true }, kinds := [], alts := [], laidByText := true, laidKinds := [.data, .data, .data, .sentinel, .sentinel], laidTests := true, laidLooks := .later }
def EulerTurnsUptoCardSaid : Prop := Claim7.holds Tryz.pinned (.plain (OpenSpec.upto eulerTurnsSpec)) eulerTurnsUptoCard

/-- THE SECOND FORM's CARD OF 'sandpilelaw47.EulerProves'. -/
def eulerProvesUptoCard : Claim7 := { stood := { row := eulerProvesUptoRow, standIns := [], harness := (true, "b339482cb85ab6f1ff043b2b1673a055cc7db73d85cd27bef3c44cb4479ae5dc"), looks := true }, kinds := [], alts := [], laidByText := true, laidKinds := [.data, .data, .data, .sentinel, .sentinel], laidTests := true, laidLooks := .later }
def EulerProvesUptoCardSaid : Prop := Claim7.holds Tryz.pinned (.plain (OpenSpec.upto eulerProvesSpec)) eulerProvesUptoCard
end Rows
end Go.Proofs.YtlnhocgjgmhfgaaGreatDoor
