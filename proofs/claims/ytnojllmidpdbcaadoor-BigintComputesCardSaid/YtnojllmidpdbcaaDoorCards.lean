/-
  DERIVED. GIVEN WITH THE SEED: THE CARDS: each row of YtnojllmidpdbcaaDoorRows.lean that lists a variable, with what it lists TIED to the program's text (the seventh form; the later family's looks); each row that meets fmt, with fmt's text TOLD by the authors' own Lean function (tested against real Go, not proved from fmt's source: count such statements apart). THE CARD IS WHAT COUNTS. Prove the row's statement (the work); the ties are given (YtnojllmidpdbcaaDoorTie.lean); close each card by the builder's one call (the guide's Derived/Test/ToyasCard.lean, 'card_holds'). Laid BY PROGRAM, IN A SANDBOX (cutbox-door.mjs). By AI agents, Wed Nov 11 2026. No macro, syntax, notation, axiom, sorry.
-/
import Derived.Test.YtnojllmidpdbcaaDoorRows
import GoSem.ClaimSeven
namespace Go.Proofs.YtnojllmidpdbcaaDoor
namespace Rows

/-- THE TIED CARD OF 'ontimelaw01.BigintParses'. -/
def bigintParsesCard : Claim7 := { stood := { row := bigintParsesRow, standIns := [], harness := (true, "5c3df4e6284899faeb04cc386945ef9fa03375838674f9d0980627eb662a4746"), looks := false }, kinds := [], alts := [], laidByText := true, laidKinds := [.data, .data, .data], laidTests := true, laidLooks := .later }
def BigintParsesCardSaid : Prop := Claim7.holds Tryd.pinned (.plain (OpenSpec.ofChange bigintParsesSpec)) bigintParsesCard

/-- THE TIED CARD OF 'ontimelaw01.BigintInts'. -/
def bigintIntsCard : Claim7 := { stood := { row := bigintIntsRow, standIns := [], harness := (true, "5c3df4e6284899faeb04cc386945ef9fa03375838674f9d0980627eb662a4746"), looks := false }, kinds := [], alts := [], laidByText := true, laidKinds := [.data, .data, .data], laidTests := true, laidLooks := .later }
def BigintIntsCardSaid : Prop := Claim7.holds Tryd.pinned (.plain (OpenSpec.ofChange bigintIntsSpec)) bigintIntsCard

/-- THE TIED CARD OF 'ontimelaw01.BigintDivides'. -/
def bigintDividesCard : Claim7 := { stood := { row := bigintDividesRow, standIns := [], harness := (true, "5c3df4e6284899faeb04cc386945ef9fa03375838674f9d0980627eb662a4746"), looks := false }, kinds := [], alts := [], laidByText := true, laidKinds := [.data, .data, .data], laidTests := true, laidLooks := .later }
def BigintDividesCardSaid : Prop := Claim7.holds Tryd.pinned (.plain (OpenSpec.ofChange bigintDividesSpec)) bigintDividesCard

/-- THE TIED CARD OF 'ontimelaw01.BigintBits'. -/
def bigintBitsCard : Claim7 := { stood := { row := bigintBitsRow, standIns := [], harness := (true, "5c3df4e6284899faeb04cc386945ef9fa03375838674f9d0980627eb662a4746"), looks := false }, kinds := [], alts := [], laidByText := true, laidKinds := [.data, .data, .data], laidTests := true, laidLooks := .later }
def BigintBitsCardSaid : Prop := Claim7.holds Tryd.pinned (.plain (OpenSpec.ofChange bigintBitsSpec)) bigintBitsCard

/-- THE TIED CARD OF 'ontimelaw01.BigintFull'. -/
def bigintFullCard : Claim7 := { stood := { row := bigintFullRow, standIns := [], harness := (true, "5c3df4e6284899faeb04cc386945ef9fa03375838674f9d0980627eb662a4746"), looks := false }, kinds := [], alts := [], laidByText := true, laidKinds := [.data, .data, .data], laidTests := true, laidLooks := .later }
def BigintFullCardSaid : Prop := Claim7.holds Tryd.pinned (.plain (OpenSpec.ofChange bigintFullSpec)) bigintFullCard

/-- THE TIED CARD OF 'ontimelaw01.BigintSmall'. -/
def bigintSmallCard : Claim7 := { stood := { row := bigintSmallRow, standIns := [], harness := (true, "5c3df4e6284899faeb04cc386945ef9fa03375838674f9d0980627eb662a4746"), looks := false }, kinds := [], alts := [], laidByText := true, laidKinds := [.data, .data, .data], laidTests := true, laidLooks := .later }
def BigintSmallCardSaid : Prop := Claim7.holds Tryd.pinned (.plain (OpenSpec.ofChange bigintSmallSpec)) bigintSmallCard

/-- THE TIED CARD OF 'ontimelaw01.BigintComputes'. -/
def bigintComputesCard : Claim7 := { stood := { row := bigintComputesRow, standIns := [], harness := (true, "5c3df4e6284899faeb04cc386945ef9fa03375838674f9d0980627eb662a4746"), looks := false }, kinds := [], alts := [], laidByText := true, laidKinds := [.data, .data, .data], laidTests := true, laidLooks := .later }
def BigintComputesCardSaid : Prop := Claim7.holds Tryd.pinned (.plain (OpenSpec.ofChange bigintComputesSpec)) bigintComputesCard

/-- THE TIED CARD OF 'ontimelaw01.BigintRing'. -/
def bigintRingCard : Claim7 := { stood := { row := bigintRingRow, standIns := [], harness := (true, "5c3df4e6284899faeb04cc386945ef9fa03375838674f9d0980627eb662a4746"), looks := false }, kinds := [], alts := [], laidByText := true, laidKinds := [.data, .data, .data], laidTests := true, laidLooks := .later }
def BigintRingCardSaid : Prop := Claim7.holds Tryd.pinned (.plain (OpenSpec.ofChange bigintRingSpec)) bigintRingCard

/-- THE TIED CARD OF 'ontimelaw01.BigintOrders'. -/
def bigintOrdersCard : Claim7 := { stood := { row := bigintOrdersRow, standIns := [], harness := (true, "5c3df4e6284899faeb04cc386945ef9fa03375838674f9d0980627eb662a4746"), looks := false }, kinds := [], alts := [], laidByText := true, laidKinds := [.data, .data, .data], laidTests := true, laidLooks := .later }
def BigintOrdersCardSaid : Prop := Claim7.holds Tryd.pinned (.plain (OpenSpec.ofChange bigintOrdersSpec)) bigintOrdersCard

/-- THE TIED CARD OF 'ontimelaw01.BigintGcd'. -/
def bigintGcdCard : Claim7 := { stood := { row := bigintGcdRow, standIns := [], harness := (true, "5c3df4e6284899faeb04cc386945ef9fa03375838674f9d0980627eb662a4746"), looks := false }, kinds := [], alts := [], laidByText := true, laidKinds := [.data, .data, .data], laidTests := true, laidLooks := .later }
def BigintGcdCardSaid : Prop := Claim7.holds Tryd.pinned (.plain (OpenSpec.ofChange bigintGcdSpec)) bigintGcdCard

/-- THE SECOND FORM's CARD OF 'ontimelaw01.BigintParses'. -/
def bigintParsesUptoCard : Claim7 := { stood := { row := bigintParsesUptoRow, standIns := [], harness := (true, "5c3df4e6284899faeb04cc386945ef9fa03375838674f9d0980627eb662a4746"), looks := false }, kinds := [], alts := [], laidByText := true, laidKinds := [.data, .data, .data], laidTests := true, laidLooks := .later }
def BigintParsesUptoCardSaid : Prop := Claim7.holds Tryd.pinned (.plain (OpenSpec.upto bigintParsesSpec)) bigintParsesUptoCard

/-- THE SECOND FORM's CARD OF 'ontimelaw01.BigintInts'. -/
def bigintIntsUptoCard : Claim7 := { stood := { row := bigintIntsUptoRow, standIns := [], harness := (true, "5c3df4e6284899faeb04cc386945ef9fa03375838674f9d0980627eb662a4746"), looks := false }, kinds := [], alts := [], laidByText := true, laidKinds := [.data, .data, .data], laidTests := true, laidLooks := .later }
def BigintIntsUptoCardSaid : Prop := Claim7.holds Tryd.pinned (.plain (OpenSpec.upto bigintIntsSpec)) bigintIntsUptoCard

/-- THE SECOND FORM's CARD OF 'ontimelaw01.BigintDivides'. -/
def bigintDividesUptoCard : Claim7 := { stood := { row := bigintDividesUptoRow, standIns := [], harness := (true, "5c3df4e6284899faeb04cc386945ef9fa03375838674f9d0980627eb662a4746"), looks := false }, kinds := [], alts := [], laidByText := true, laidKinds := [.data, .data, .data], laidTests := true, laidLooks := .later }
def BigintDividesUptoCardSaid : Prop := Claim7.holds Tryd.pinned (.plain (OpenSpec.upto bigintDividesSpec)) bigintDividesUptoCard

/-- THE SECOND FORM's CARD OF 'ontimelaw01.BigintBits'. -/
def bigintBitsUptoCard : Claim7 := { stood := { row := bigintBitsUptoRow, standIns := [], harness := (true, "5c3df4e6284899faeb04cc386945ef9fa03375838674f9d0980627eb662a4746"), looks := false }, kinds := [], alts := [], laidByText := true, laidKinds := [.data, .data, .data], laidTests := true, laidLooks := .later }
def BigintBitsUptoCardSaid : Prop := Claim7.holds Tryd.pinned (.plain (OpenSpec.upto bigintBitsSpec)) bigintBitsUptoCard

/-- THE SECOND FORM's CARD OF 'ontimelaw01.BigintFull'. -/
def bigintFullUptoCard : Claim7 := { stood := { row := bigintFullUptoRow, standIns := [], harness := (true, "5c3df4e6284899faeb04cc386945ef9fa03375838674f9d0980627eb662a4746"), looks := false }, kinds := [], alts := [], laidByText := true, laidKinds := [.data, .data, .data], laidTests := true, laidLooks := .later }
def BigintFullUptoCardSaid : Prop := Claim7.holds Tryd.pinned (.plain (OpenSpec.upto bigintFullSpec)) bigintFullUptoCard

/-- THE SECOND FORM's CARD OF 'ontimelaw01.BigintSmall'. -/
def bigintSmallUptoCard : Claim7 := { stood := { row := bigintSmallUptoRow, standIns := [], harness := (true, "5c3df4e6284899faeb04cc386945ef9fa03375838674f9d0980627eb662a4746"), looks := false }, kinds := [], alts := [], laidByText := true, laidKinds := [.data, .data, .data], laidTests := true, laidLooks := .later }
def BigintSmallUptoCardSaid : Prop := Claim7.holds Tryd.pinned (.plain (OpenSpec.upto bigintSmallSpec)) bigintSmallUptoCard

/-- THE SECOND FORM's CARD OF 'ontimelaw01.BigintComputes'. -/
def bigintComputesUptoCard : Claim7 := { stood := { row := bigintComputesUptoRow, standIns := [], harness := (true, "5c3df4e6284899faeb04cc386945ef9fa03375838674f9d0980627eb662a4746"), looks := false }, kinds := [], alts := [], laidByText := true, laidKinds := [.data, .data, .data], laidTests := true, laidLooks := .later }
def BigintComputesUptoCardSaid : Prop := Claim7.holds Tryd.pinned (.plain (OpenSpec.upto bigintComputesSpec)) bigintComputesUptoCard

/-- THE SECOND FORM's CARD OF 'ontimelaw01.BigintRing'. -/
def bigintRingUptoCard : Claim7 := { stood := { row := bigintRingUptoRow, standIns := [], harness := (true, "5c3df4e6284899faeb04cc386945ef9fa03375838674f9d0980627eb662a4746"), looks := false }, kinds := [], alts := [], laidByText := true, laidKinds := [.data, .data, .data], laidTests := true, laidLooks := .later }
def BigintRingUptoCardSaid : Prop := Claim7.holds Tryd.pinned (.plain (OpenSpec.upto bigintRingSpec)) bigintRingUptoCard

/-- THE SECOND FORM's CARD OF 'ontimelaw01.BigintOrders'. -/
def bigintOrdersUptoCard : Claim7 := { stood := { row := bigintOrdersUptoRow, standIns := [], harness := (true, "5c3df4e6284899faeb04cc386945ef9fa03375838674f9d0980627eb662a4746"), looks := false }, kinds := [], alts := [], laidByText := true, laidKinds := [.data, .data, .data], laidTests := true, laidLooks := .later }
def BigintOrdersUptoCardSaid : Prop := Claim7.holds Tryd.pinned (.plain (OpenSpec.upto bigintOrdersSpec)) bigintOrdersUptoCard

/-- THE SECOND FORM's CARD OF 'ontimelaw01.BigintGcd'. -/
def bigintGcdUptoCard : Claim7 := { stood := { row := bigintGcdUptoRow, standIns := [], harness := (true, "5c3df4e6284899faeb04cc386945ef9fa03375838674f9d0980627eb662a4746"), looks := false }, kinds := [], alts := [], laidByText := true, laidKinds := [.data, .data, .data], laidTests := true, laidLooks := .later }
def BigintGcdUptoCardSaid : Prop := Claim7.holds Tryd.pinned (.plain (OpenSpec.upto bigintGcdSpec)) bigintGcdUptoCard
end Rows
end Go.Proofs.YtnojllmidpdbcaaDoor
