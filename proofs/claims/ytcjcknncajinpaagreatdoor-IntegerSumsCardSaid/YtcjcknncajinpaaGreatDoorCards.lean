/-
  DERIVED. GIVEN WITH THE SEED: THE CARDS: each row of YtcjcknncajinpaaGreatDoorRows.lean that lists a variable, with what it lists TIED to the program's text (the seventh form; the later family's looks); each row that meets fmt, with fmt's text TOLD by the authors' own Lean function (tested against real Go, not proved from fmt's source: count such statements apart). THE CARD IS WHAT COUNTS. Prove the row's statement (the work); the ties are given (YtcjcknncajinpaaGreatDoorTie.lean); close each card by the builder's one call (the guide's Derived/Test/ToyasCard.lean, 'card_holds'). Laid BY PROGRAM, IN A SANDBOX (cutbox-door.mjs). By AI agents, Wed Nov 11 2026. No macro, syntax, notation, axiom, sorry.
-/
import Derived.Test.YtcjcknncajinpaaGreatDoorRows
import GoSem.ClaimSeven
namespace Go.Proofs.YtcjcknncajinpaaGreatDoor
namespace Rows

/-- THE TIED CARD OF 'sandpilelaw01.IntegerDivides'. -/
def integerDividesCard : Claim7 := { stood := { row := integerDividesRow, standIns := [], harness := (true, "09c7fd20e8c13e828f9cf493b1cb0ce34e36ff5ff3e035debbc0138b7a332b5a"), looks := true }, kinds := [], alts := [], laidByText := true, laidKinds := [.data, .data, .data, .sentinel, .sentinel], laidTests := true, laidLooks := .later }
def IntegerDividesCardSaid : Prop := Claim7.holds Tryz.pinned (.plain (OpenSpec.ofChange integerDividesSpec)) integerDividesCard

/-- THE TIED CARD OF 'sandpilelaw01.IntegerSums'. -/
def integerSumsCard : Claim7 := { stood := { row := integerSumsRow, standIns := [], harness := (true, "09c7fd20e8c13e828f9cf493b1cb0ce34e36ff5ff3e035debbc0138b7a332b5a"), looks := true }, kinds := [], alts := [], laidByText := true, laidKinds := [.data, .data, .data, .sentinel, .sentinel], laidTests := true, laidLooks := .later }
def IntegerSumsCardSaid : Prop := Claim7.holds Tryz.pinned (.plain (OpenSpec.ofChange integerSumsSpec)) integerSumsCard

/-- THE SECOND FORM's CARD OF 'sandpilelaw01.IntegerDivides'. -/
def integerDividesUptoCard : Claim7 := { stood := { row := integerDividesUptoRow, standIns := [], harness := (true, "09c7fd20e8c13e828f9cf493b1cb0ce34e36ff5ff3e035debbc0138b7a332b5a"), looks := true }, kinds := [], alts := [], laidByText := true, laidKinds := [.data, .data, .data, .sentinel, .sentinel], laidTests := true, laidLooks := .later }
def IntegerDividesUptoCardSaid : Prop := Claim7.holds Tryz.pinned (.plain (OpenSpec.upto integerDividesSpec)) integerDividesUptoCard

/-- THE SECOND FORM's CARD OF 'sandpilelaw01.IntegerSums'. -/
def integerSumsUptoCard : Claim7 := { stood := { row := integerSumsUptoRow, standIns := [], harness := (true, "09c7fd20e8c13e828f9cf493b1cb0ce34e36ff5ff3e035debbc0138b7a332b5a"), looks := true }, kinds := [], alts := [], laidByText := true, laidKinds := [.data, .data, .data, .sentinel, .sentinel], laidTests := true, laidLooks := .later }
def IntegerSumsUptoCardSaid : Prop := Claim7.holds Tryz.pinned (.plain (OpenSpec.upto integerSumsSpec)) integerSumsUptoCard
end Rows
end Go.Proofs.YtcjcknncajinpaaGreatDoor
