/-
  DERIVED. GIVEN WITH THE SEED: THE CARDS: each row of YtcjcknncajinpaaDoorRows.lean that lists a variable, with what it lists TIED to the program's text (the seventh form; the later family's looks); each row that meets fmt, with fmt's text TOLD by the authors' own Lean function (tested against real Go, not proved from fmt's source: count such statements apart). THE CARD IS WHAT COUNTS. Prove the row's statement (the work); the ties are given (YtcjcknncajinpaaDoorTie.lean); close each card by the builder's one call (the guide's Derived/Test/ToyasCard.lean, 'card_holds'). Laid BY PROGRAM, IN A SANDBOX (cutbox-door.mjs). By AI agents, Wed Nov 11 2026. No macro, syntax, notation, axiom, sorry.
-/
import Derived.Test.YtcjcknncajinpaaDoorRows
import GoSem.ClaimSeven
namespace Go.Proofs.YtcjcknncajinpaaDoor
namespace Rows

/-- THE TIED CARD OF 'sandpilelaw01.IntegerProducts'. -/
def integerProductsCard : Claim7 := { stood := { row := integerProductsRow, standIns := [], harness := (true, "874277ede39214eed992158d684d65523b87ce8c7d134a72256777561ef8c25a"), looks := true }, kinds := [], alts := [], laidByText := true, laidKinds := [.data, .data, .data, .sentinel, .sentinel], laidTests := true, laidLooks := .later }
def IntegerProductsCardSaid : Prop := Claim7.holds Tryd.pinned (.plain (OpenSpec.ofChange integerProductsSpec)) integerProductsCard

/-- THE TIED CARD OF 'sandpilelaw01.IntegerPowers'. -/
def integerPowersCard : Claim7 := { stood := { row := integerPowersRow, standIns := [], harness := (true, "874277ede39214eed992158d684d65523b87ce8c7d134a72256777561ef8c25a"), looks := true }, kinds := [], alts := [], laidByText := true, laidKinds := [.data, .data, .data, .sentinel, .sentinel], laidTests := true, laidLooks := .later }
def IntegerPowersCardSaid : Prop := Claim7.holds Tryd.pinned (.plain (OpenSpec.ofChange integerPowersSpec)) integerPowersCard

/-- THE TIED CARD OF 'sandpilelaw01.IntegerTotals'. -/
def integerTotalsCard : Claim7 := { stood := { row := integerTotalsRow, standIns := [], harness := (true, "874277ede39214eed992158d684d65523b87ce8c7d134a72256777561ef8c25a"), looks := true }, kinds := [], alts := [], laidByText := true, laidKinds := [.data, .data, .data, .sentinel, .sentinel], laidTests := true, laidLooks := .later }
def IntegerTotalsCardSaid : Prop := Claim7.holds Tryd.pinned (.plain (OpenSpec.ofChange integerTotalsSpec)) integerTotalsCard

/-- THE TIED CARD OF 'sandpilelaw01.IntegerRing'. -/
def integerRingCard : Claim7 := { stood := { row := integerRingRow, standIns := [], harness := (true, "874277ede39214eed992158d684d65523b87ce8c7d134a72256777561ef8c25a"), looks := true }, kinds := [], alts := [], laidByText := true, laidKinds := [.data, .data, .data, .sentinel, .sentinel], laidTests := true, laidLooks := .later }
def IntegerRingCardSaid : Prop := Claim7.holds Tryd.pinned (.plain (OpenSpec.ofChange integerRingSpec)) integerRingCard

/-- THE TIED CARD OF 'sandpilelaw01.IntegerOrders'. -/
def integerOrdersCard : Claim7 := { stood := { row := integerOrdersRow, standIns := [], harness := (true, "874277ede39214eed992158d684d65523b87ce8c7d134a72256777561ef8c25a"), looks := true }, kinds := [], alts := [], laidByText := true, laidKinds := [.data, .data, .data, .sentinel, .sentinel], laidTests := true, laidLooks := .later }
def IntegerOrdersCardSaid : Prop := Claim7.holds Tryd.pinned (.plain (OpenSpec.ofChange integerOrdersSpec)) integerOrdersCard

/-- THE TIED CARD OF 'sandpilelaw01.IntegerCombines'. -/
def integerCombinesCard : Claim7 := { stood := { row := integerCombinesRow, standIns := [], harness := (true, "874277ede39214eed992158d684d65523b87ce8c7d134a72256777561ef8c25a"), looks := true }, kinds := [], alts := [], laidByText := true, laidKinds := [.data, .data, .data, .sentinel, .sentinel], laidTests := true, laidLooks := .later }
def IntegerCombinesCardSaid : Prop := Claim7.holds Tryd.pinned (.plain (OpenSpec.ofChange integerCombinesSpec)) integerCombinesCard

/-- THE TIED CARD OF 'sandpilelaw01.IntegerRests'. -/
def integerRestsCard : Claim7 := { stood := { row := integerRestsRow, standIns := [], harness := (true, "874277ede39214eed992158d684d65523b87ce8c7d134a72256777561ef8c25a"), looks := true }, kinds := [], alts := [], laidByText := true, laidKinds := [.data, .data, .data, .sentinel, .sentinel], laidTests := true, laidLooks := .later }
def IntegerRestsCardSaid : Prop := Claim7.holds Tryd.pinned (.plain (OpenSpec.ofChange integerRestsSpec)) integerRestsCard

/-- THE TIED CARD OF 'sandpilelaw01.IntegerChecks'. -/
def integerChecksCard : Claim7 := { stood := { row := integerChecksRow, standIns := [], harness := (true, "874277ede39214eed992158d684d65523b87ce8c7d134a72256777561ef8c25a"), looks := true }, kinds := [], alts := [], laidByText := true, laidKinds := [.data, .data, .data, .sentinel, .sentinel], laidTests := true, laidLooks := .later }
def IntegerChecksCardSaid : Prop := Claim7.holds Tryd.pinned (.plain (OpenSpec.ofChange integerChecksSpec)) integerChecksCard

/-- THE TIED CARD OF 'sandpilelaw01.IntegerCounts'. -/
def integerCountsCard : Claim7 := { stood := { row := integerCountsRow, standIns := [], harness := (true, "874277ede39214eed992158d684d65523b87ce8c7d134a72256777561ef8c25a"), looks := true }, kinds := [], alts := [], laidByText := true, laidKinds := [.data, .data, .data, .sentinel, .sentinel], laidTests := true, laidLooks := .later }
def IntegerCountsCardSaid : Prop := Claim7.holds Tryd.pinned (.plain (OpenSpec.ofChange integerCountsSpec)) integerCountsCard

/-- THE SECOND FORM's CARD OF 'sandpilelaw01.IntegerProducts'. -/
def integerProductsUptoCard : Claim7 := { stood := { row := integerProductsUptoRow, standIns := [], harness := (true, "874277ede39214eed992158d684d65523b87ce8c7d134a72256777561ef8c25a"), looks := true }, kinds := [], alts := [], laidByText := true, laidKinds := [.data, .data, .data, .sentinel, .sentinel], laidTests := true, laidLooks := .later }
def IntegerProductsUptoCardSaid : Prop := Claim7.holds Tryd.pinned (.plain (OpenSpec.upto integerProductsSpec)) integerProductsUptoCard

/-- THE SECOND FORM's CARD OF 'sandpilelaw01.IntegerPowers'. -/
def integerPowersUptoCard : Claim7 := { stood := { row := integerPowersUptoRow, standIns := [], harness := (true, "874277ede39214eed992158d684d65523b87ce8c7d134a72256777561ef8c25a"), looks := true }, kinds := [], alts := [], laidByText := true, laidKinds := [.data, .data, .data, .sentinel, .sentinel], laidTests := true, laidLooks := .later }
def IntegerPowersUptoCardSaid : Prop := Claim7.holds Tryd.pinned (.plain (OpenSpec.upto integerPowersSpec)) integerPowersUptoCard

/-- THE SECOND FORM's CARD OF 'sandpilelaw01.IntegerTotals'. -/
def integerTotalsUptoCard : Claim7 := { stood := { row := integerTotalsUptoRow, standIns := [], harness := (true, "874277ede39214eed992158d684d65523b87ce8c7d134a72256777561ef8c25a"), looks := true }, kinds := [], alts := [], laidByText := true, laidKinds := [.data, .data, .data, .sentinel, .sentinel], laidTests := true, laidLooks := .later }
def IntegerTotalsUptoCardSaid : Prop := Claim7.holds Tryd.pinned (.plain (OpenSpec.upto integerTotalsSpec)) integerTotalsUptoCard

/-- THE SECOND FORM's CARD OF 'sandpilelaw01.IntegerRing'. -/
def integerRingUptoCard : Claim7 := { stood := { row := integerRingUptoRow, standIns := [], harness := (true, "874277ede39214eed992158d684d65523b87ce8c7d134a72256777561ef8c25a"), looks := true }, kinds := [], alts := [], laidByText := true, laidKinds := [.data, .data, .data, .sentinel, .sentinel], laidTests := true, laidLooks := .later }
def IntegerRingUptoCardSaid : Prop := Claim7.holds Tryd.pinned (.plain (OpenSpec.upto integerRingSpec)) integerRingUptoCard

/-- THE SECOND FORM's CARD OF 'sandpilelaw01.IntegerOrders'. -/
def integerOrdersUptoCard : Claim7 := { stood := { row := integerOrdersUptoRow, standIns := [], harness := (true, "874277ede39214eed992158d684d65523b87ce8c7d134a72256777561ef8c25a"), looks := true }, kinds := [], alts := [], laidByText := true, laidKinds := [.data, .data, .data, .sentinel, .sentinel], laidTests := true, laidLooks := .later }
def IntegerOrdersUptoCardSaid : Prop := Claim7.holds Tryd.pinned (.plain (OpenSpec.upto integerOrdersSpec)) integerOrdersUptoCard

/-- THE SECOND FORM's CARD OF 'sandpilelaw01.IntegerCombines'. -/
def integerCombinesUptoCard : Claim7 := { stood := { row := integerCombinesUptoRow, standIns := [], harness := (true, "874277ede39214eed992158d684d65523b87ce8c7d134a72256777561ef8c25a"), looks := true }, kinds := [], alts := [], laidByText := true, laidKinds := [.data, .data, .data, .sentinel, .sentinel], laidTests := true, laidLooks := .later }
def IntegerCombinesUptoCardSaid : Prop := Claim7.holds Tryd.pinned (.plain (OpenSpec.upto integerCombinesSpec)) integerCombinesUptoCard

/-- THE SECOND FORM's CARD OF 'sandpilelaw01.IntegerRests'. -/
def integerRestsUptoCard : Claim7 := { stood := { row := integerRestsUptoRow, standIns := [], harness := (true, "874277ede39214eed992158d684d65523b87ce8c7d134a72256777561ef8c25a"), looks := true }, kinds := [], alts := [], laidByText := true, laidKinds := [.data, .data, .data, .sentinel, .sentinel], laidTests := true, laidLooks := .later }
def IntegerRestsUptoCardSaid : Prop := Claim7.holds Tryd.pinned (.plain (OpenSpec.upto integerRestsSpec)) integerRestsUptoCard

/-- THE SECOND FORM's CARD OF 'sandpilelaw01.IntegerChecks'. -/
def integerChecksUptoCard : Claim7 := { stood := { row := integerChecksUptoRow, standIns := [], harness := (true, "874277ede39214eed992158d684d65523b87ce8c7d134a72256777561ef8c25a"), looks := true }, kinds := [], alts := [], laidByText := true, laidKinds := [.data, .data, .data, .sentinel, .sentinel], laidTests := true, laidLooks := .later }
def IntegerChecksUptoCardSaid : Prop := Claim7.holds Tryd.pinned (.plain (OpenSpec.upto integerChecksSpec)) integerChecksUptoCard

/-- THE SECOND FORM's CARD OF 'sandpilelaw01.IntegerCounts'. -/
def integerCountsUptoCard : Claim7 := { stood := { row := integerCountsUptoRow, standIns := [], harness := (true, "874277ede39214eed992158d684d65523b87ce8c7d134a72256777561ef8c25a"), looks := true }, kinds := [], alts := [], laidByText := true, laidKinds := [.data, .data, .data, .sentinel, .sentinel], laidTests := true, laidLooks := .later }
def IntegerCountsUptoCardSaid : Prop := Claim7.holds Tryd.pinned (.plain (OpenSpec.upto integerCountsSpec)) integerCountsUptoCard
end Rows
end Go.Proofs.YtcjcknncajinpaaDoor
