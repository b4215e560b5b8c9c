/-
  DERIVED. GIVEN WITH THE SEED: THE CARDS: each row of YtdpdkojeapaflaaGreatDoorRows.lean that lists a variable, with what it lists TIED to the program's text (the seventh form; the later family's looks); each row that meets fmt, with fmt's text TOLD by the authors' own Lean function (tested against real Go, not proved from fmt's source: count such statements apart). THE CARD IS WHAT COUNTS. Prove the row's statement (the work); the ties are given (YtdpdkojeapaflaaGreatDoorTie.lean); close each card by the builder's one call (the guide's Derived/Test/ToyasCard.lean, 'card_holds'). Laid BY PROGRAM, IN A SANDBOX (cutbox-door.mjs). By AI agents, Wed Nov 11 2026. No macro, syntax, notation, axiom, sorry.
-/
import Derived.Test.YtdpdkojeapaflaaGreatDoorRows
import GoSem.ClaimSeven
namespace Go.Proofs.YtdpdkojeapaflaaGreatDoor
namespace Rows

/-- THE TIED CARD OF 'sandpilelaw05.AbelianOrders'. -/
def abelianOrdersCard : Claim7 := { stood := { row := abelianOrdersRow, standIns := [], harness := (true, "2c842ad10b1e70c7540f965e3d7ad05d98c0301f3e3e668e26c93e81f21eeeb4"), looks := true }, kinds := [], alts := [], laidByText := true, laidKinds := [.data, .data, .data, .sentinel, .sentinel], laidTests := true, laidLooks := .later }
def AbelianOrdersCardSaid : Prop := Claim7.holds Tryz.pinned (.plain (OpenSpec.ofChange abelianOrdersSpec)) abelianOrdersCard

/-- THE TIED CARD OF 'sandpilelaw05.AbelianChecks'. -/
def abelianChecksCard : Claim7 := { stood := { row := abelianChecksRow, standIns := [], harness := (true, "2c842ad10b1e70c7540f965e3d7ad05d98c0301f3e3e668e26c93e81f21eeeb4"), looks := true }, kinds := [], alts := [], laidByText := true, laidKinds := [.data, .data, .data, .sentinel, .sentinel], laidTests := true, laidLooks := .later }
def AbelianChecksCardSaid : Prop := Claim7.holds Tryz.pinned (.plain (OpenSpec.ofChange abelianChecksSpec)) abelianChecksCard

/-- THE TIED CARD OF 'sandpilelaw05.AbelianReduces'. -/
def abelianReducesCard : Claim7 := { stood := { row := abelianReducesRow, standIns := [], harness := (true, "2c842ad10b1e70c7540f965e3d7ad05d98c0301f3e3e668e26c93e81f21eeeb4"), looks := true }, kinds := [], alts := [], laidByText := true, laidKinds := [.data, .data, .data, .sentinel, .sentinel], laidTests := true, laidLooks := .later }
def AbelianReducesCardSaid : Prop := Claim7.holds Tryz.pinned (.plain (OpenSpec.ofChange abelianReducesSpec)) abelianReducesCard

/-- THE TIED CARD OF 'sandpilelaw05.AbelianDivides'. -/
def abelianDividesCard : Claim7 := { stood := { row := abelianDividesRow, standIns := [], harness := (true, "2c842ad10b1e70c7540f965e3d7ad05d98c0301f3e3e668e26c93e81f21eeeb4"), looks := true }, kinds := [], alts := [], laidByText := true, laidKinds := [.data, .data, .data, .sentinel, .sentinel], laidTests := true, laidLooks := .later }
def AbelianDividesCardSaid : Prop := Claim7.holds Tryz.pinned (.plain (OpenSpec.ofChange abelianDividesSpec)) abelianDividesCard

/-- THE TIED CARD OF 'sandpilelaw05.AbelianSums'. -/
def abelianSumsCard : Claim7 := { stood := { row := abelianSumsRow, standIns := [], harness := (true, "2c842ad10b1e70c7540f965e3d7ad05d98c0301f3e3e668e26c93e81f21eeeb4"), looks := true }, kinds := [], alts := [], laidByText := true, laidKinds := [.data, .data, .data, .sentinel, .sentinel], laidTests := true, laidLooks := .later }
def AbelianSumsCardSaid : Prop := Claim7.holds Tryz.pinned (.plain (OpenSpec.ofChange abelianSumsSpec)) abelianSumsCard

/-- THE TIED CARD OF 'sandpilelaw05.AbelianGroups'. -/
def abelianGroupsCard : Claim7 := { stood := { row := abelianGroupsRow, standIns := [], harness := (true, "2c842ad10b1e70c7540f965e3d7ad05d98c0301f3e3e668e26c93e81f21eeeb4"), looks := true }, kinds := [], alts := [], laidByText := true, laidKinds := [.data, .data, .data, .sentinel, .sentinel], laidTests := true, laidLooks := .later }
def AbelianGroupsCardSaid : Prop := Claim7.holds Tryz.pinned (.plain (OpenSpec.ofChange abelianGroupsSpec)) abelianGroupsCard

/-- THE TIED CARD OF 'sandpilelaw05.AbelianLists'. -/
def abelianListsCard : Claim7 := { stood := { row := abelianListsRow, standIns := [], harness := (true, "2c842ad10b1e70c7540f965e3d7ad05d98c0301f3e3e668e26c93e81f21eeeb4"), looks := true }, kinds := [], alts := [], laidByText := true, laidKinds := [.data, .data, .data, .sentinel, .sentinel], laidTests := true, laidLooks := .later }
def AbelianListsCardSaid : Prop := Claim7.holds Tryz.pinned (.plain (OpenSpec.ofChange abelianListsSpec)) abelianListsCard

/-- THE TIED CARD OF 'sandpilelaw05.AbelianCounts'. -/
def abelianCountsCard : Claim7 := { stood := { row := abelianCountsRow, standIns := [], harness := (true, "2c842ad10b1e70c7540f965e3d7ad05d98c0301f3e3e668e26c93e81f21eeeb4"), looks := true }, kinds := [], alts := [], laidByText := true, laidKinds := [.data, .data, .data, .sentinel, .sentinel], laidTests := true, laidLooks := .later }
def AbelianCountsCardSaid : Prop := Claim7.holds Tryz.pinned (.plain (OpenSpec.ofChange abelianCountsSpec)) abelianCountsCard

/-- THE SECOND FORM's CARD OF 'sandpilelaw05.AbelianOrders'. -/
def abelianOrdersUptoCard : Claim7 := { stood := { row := abelianOrdersUptoRow, standIns := [], harness := (true, "2c842ad10b1e70c7540f965e3d7ad05d98c0301f3e3e668e26c93e81f21eeeb4"), looks := true }, kinds := [], alts := [], laidByText := true, laidKinds := [.data, .data, .data, .sentinel, .sentinel], laidTests := true, laidLooks := .later }
def AbelianOrdersUptoCardSaid : Prop := Claim7.holds Tryz.pinned (.plain (OpenSpec.upto abelianOrdersSpec)) abelianOrdersUptoCard

/-- THE SECOND FORM's CARD OF 'sandpilelaw05.AbelianChecks'. -/
def abelianChecksUptoCard : Claim7 := { stood := { row := abelianChecksUptoRow, standIns := [], harness := (true, "2c842ad10b1e70c7540f965e3d7ad05d98c0301f3e3e668e26c93e81f21eeeb4"), looks := true }, kinds := [], alts := [], laidByText := true, laidKinds := [.data, .data, .data, .sentinel, .sentinel], laidTests := true, laidLooks := .later }
def AbelianChecksUptoCardSaid : Prop := Claim7.holds Tryz.pinned (.plain (OpenSpec.upto abelianChecksSpec)) abelianChecksUptoCard

/-- THE SECOND FORM's CARD OF 'sandpilelaw05.AbelianReduces'. -/
def abelianReducesUptoCard : Claim7 := { stood := { row := abelianReducesUptoRow, standIns := [], harness := (true, "2c842ad10b1e70c7540f965e3d7ad05d98c0301f3e3e668e26c93e81f21eeeb4"), looks := true }, kinds := [], alts := [], laidByText := true, laidKinds := [.data, .data, .data, .sentinel, .sentinel], laidTests := true, laidLooks := .later }
def AbelianReducesUptoCardSaid : Prop := Claim7.holds Tryz.pinned (.plain (OpenSpec.upto abelianReducesSpec)) abelianReducesUptoCard

/-- THE SECOND FORM's CARD OF 'sandpilelaw05.AbelianDivides'. -/
def abelianDividesUptoCard : Claim7 := { stood := { row := abelianDividesUptoRow, standIns := [], harness := (true, "2c842ad10b1e70c7540f965e3d7ad05d98c0301f3e3e668e26c93e81f21eeeb4"), looks := true }, kinds := [], alts := [], laidByText := true, laidKinds := [.data, .data, .data, .sentinel, .sentinel], laidTests := true, laidLooks := .later }
def AbelianDividesUptoCardSaid : Prop := Claim7.holds Tryz.pinned (.plain (OpenSpec.upto abelianDividesSpec)) abelianDividesUptoCard

/-- THE SECOND FORM's CARD OF 'sandpilelaw05.AbelianSums'. -/
def abelianSumsUptoCard : Claim7 := { stood := { row := abelianSumsUptoRow, standIns := [], harness := (true, "2c842ad10b1e70c7540f965e3d7ad05d98c0301f3e3e668e26c93e81f21eeeb4"), looks := true }, kinds := [], alts := [], laidByText := true, laidKinds := [.data, .data, .data, .sentinel, .sentinel], laidTests := true, laidLooks := .later }
def AbelianSumsUptoCardSaid : Prop := Claim7.holds Tryz.pinned (.plain (OpenSpec.upto abelianSumsSpec)) abelianSumsUptoCard

/-- THE SECOND FORM's CARD OF 'sandpilelaw05.AbelianGroups'. -/
def abelianGroupsUptoCard : Claim7 := { stood := { row := abelianGroupsUptoRow, standIns := [], harness := (true, "2c842ad10b1e70c7540f965e3d7ad05d98c0301f3e3e668e26c93e81f21eeeb4"), looks := true }, kinds := [], alts := [], laidByText := true, laidKinds := [.data, .data, .data, .sentinel, .sentinel], laidTests := true, laidLooks := .later }
def AbelianGroupsUptoCardSaid : Prop := Claim7.holds Tryz.pinned (.plain (OpenSpec.upto abelianGroupsSpec)) abelianGroupsUptoCard

/-- THE SECOND FORM's CARD OF 'sandpilelaw05.AbelianLists'. -/
def abelianListsUptoCard : Claim7 := { stood := { row := abelianListsUptoRow, standIns := [], harness := (true, "2c842ad10b1e70c7540f965e3d7ad05d98c0301f3e3e668e26c93e81f21eeeb4"), looks := true }, kinds := [], alts := [], laidByText := true, laidKinds := [.data, .data, .data, .sentinel, .sentinel], laidTests := true, laidLooks := .later }
def AbelianListsUptoCardSaid : Prop := Claim7.holds Tryz.pinned (.plain (OpenSpec.upto abelianListsSpec)) abelianListsUptoCard

/-- THE SECOND FORM's CARD OF 'sandpilelaw05.AbelianCounts'. -/
def abelianCountsUptoCard : Claim7 := { stood := { row := abelianCountsUptoRow, standIns := [], harness := (true, "2c842ad10b1e70c7540f965e3d7ad05d98c0301f3e3e668e26c93e81f21eeeb4"), looks := true }, kinds := [], alts := [], laidByText := true, laidKinds := [.data, .data, .data, .sentinel, .sentinel], laidTests := true, laidLooks := .later }
def AbelianCountsUptoCardSaid : Prop := Claim7.holds Tryz.pinned (.plain (OpenSpec.upto abelianCountsSpec)) abelianCountsUptoCard
end Rows
end Go.Proofs.YtdpdkojeapaflaaGreatDoor
