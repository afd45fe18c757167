/-
  DERIVED. GIVEN WITH THE SEED: THE CARDS: each row of YteohdiaegnfbaaaDoorRows.lean that lists a variable, with what it lists TIED to the program's text (the seventh form; the later family's looks); each row that meets fmt, with fmt's text TOLD by the authors' own Lean function (tested against real Go, not proved from fmt's source: count such statements apart). THE CARD IS WHAT COUNTS. Prove the row's statement (the work); the ties are given (YteohdiaegnfbaaaDoorTie.lean); close each card by the builder's one call (the guide's Derived/Test/ToyasCard.lean, 'card_holds'). Laid BY PROGRAM, IN A SANDBOX (cutbox-door.mjs). By AI agents, Wed Nov 11 2026. No macro, syntax, notation, axiom, sorry.
-/
import Derived.Test.YteohdiaegnfbaaaDoorRows
import GoSem.ClaimSeven
namespace Go.Proofs.YteohdiaegnfbaaaDoor
namespace Rows

/-- THE TIED CARD OF 'ontimelaw02.RationalFull'. -/
def rationalFullCard : Claim7 := { stood := { row := rationalFullRow, standIns := [], harness := (true, "904d651faa9b1a8d0e688f7fb5414dcf405031e653fbf12e1eaab181c2944079"), looks := false }, kinds := [], alts := [], laidByText := true, laidKinds := [.data, .data, .data], laidTests := true, laidLooks := .later }
def RationalFullCardSaid : Prop := Claim7.holds Tryd.pinned (.plain (OpenSpec.ofChange rationalFullSpec)) rationalFullCard

/-- THE TIED CARD OF 'ontimelaw02.RationalParses'. -/
def rationalParsesCard : Claim7 := { stood := { row := rationalParsesRow, standIns := [], harness := (true, "904d651faa9b1a8d0e688f7fb5414dcf405031e653fbf12e1eaab181c2944079"), looks := false }, kinds := [], alts := [], laidByText := true, laidKinds := [.data, .data, .data], laidTests := true, laidLooks := .later }
def RationalParsesCardSaid : Prop := Claim7.holds Tryd.pinned (.plain (OpenSpec.ofChange rationalParsesSpec)) rationalParsesCard

/-- THE TIED CARD OF 'ontimelaw02.RationalMakes'. -/
def rationalMakesCard : Claim7 := { stood := { row := rationalMakesRow, standIns := [], harness := (true, "904d651faa9b1a8d0e688f7fb5414dcf405031e653fbf12e1eaab181c2944079"), looks := false }, kinds := [], alts := [], laidByText := true, laidKinds := [.data, .data, .data], laidTests := true, laidLooks := .later }
def RationalMakesCardSaid : Prop := Claim7.holds Tryd.pinned (.plain (OpenSpec.ofChange rationalMakesSpec)) rationalMakesCard

/-- THE TIED CARD OF 'ontimelaw02.RationalRounds'. -/
def rationalRoundsCard : Claim7 := { stood := { row := rationalRoundsRow, standIns := [], harness := (true, "904d651faa9b1a8d0e688f7fb5414dcf405031e653fbf12e1eaab181c2944079"), looks := false }, kinds := [], alts := [], laidByText := true, laidKinds := [.data, .data, .data], laidTests := true, laidLooks := .later }
def RationalRoundsCardSaid : Prop := Claim7.holds Tryd.pinned (.plain (OpenSpec.ofChange rationalRoundsSpec)) rationalRoundsCard

/-- THE TIED CARD OF 'ontimelaw02.RationalOrders'. -/
def rationalOrdersCard : Claim7 := { stood := { row := rationalOrdersRow, standIns := [], harness := (true, "904d651faa9b1a8d0e688f7fb5414dcf405031e653fbf12e1eaab181c2944079"), looks := false }, kinds := [], alts := [], laidByText := true, laidKinds := [.data, .data, .data], laidTests := true, laidLooks := .later }
def RationalOrdersCardSaid : Prop := Claim7.holds Tryd.pinned (.plain (OpenSpec.ofChange rationalOrdersSpec)) rationalOrdersCard

/-- THE TIED CARD OF 'ontimelaw02.RationalField'. -/
def rationalFieldCard : Claim7 := { stood := { row := rationalFieldRow, standIns := [], harness := (true, "904d651faa9b1a8d0e688f7fb5414dcf405031e653fbf12e1eaab181c2944079"), looks := false }, kinds := [], alts := [], laidByText := true, laidKinds := [.data, .data, .data], laidTests := true, laidLooks := .later }
def RationalFieldCardSaid : Prop := Claim7.holds Tryd.pinned (.plain (OpenSpec.ofChange rationalFieldSpec)) rationalFieldCard

/-- THE TIED CARD OF 'ontimelaw02.RationalSmall'. -/
def rationalSmallCard : Claim7 := { stood := { row := rationalSmallRow, standIns := [], harness := (true, "904d651faa9b1a8d0e688f7fb5414dcf405031e653fbf12e1eaab181c2944079"), looks := false }, kinds := [], alts := [], laidByText := true, laidKinds := [.data, .data, .data], laidTests := true, laidLooks := .later }
def RationalSmallCardSaid : Prop := Claim7.holds Tryd.pinned (.plain (OpenSpec.ofChange rationalSmallSpec)) rationalSmallCard

/-- THE TIED CARD OF 'ontimelaw02.RationalZero'. -/
def rationalZeroCard : Claim7 := { stood := { row := rationalZeroRow, standIns := [], harness := (true, "904d651faa9b1a8d0e688f7fb5414dcf405031e653fbf12e1eaab181c2944079"), looks := false }, kinds := [], alts := [], laidByText := true, laidKinds := [.data, .data, .data], laidTests := true, laidLooks := .later }
def RationalZeroCardSaid : Prop := Claim7.holds Tryd.pinned (.plain (OpenSpec.ofChange rationalZeroSpec)) rationalZeroCard

/-- THE SECOND FORM's CARD OF 'ontimelaw02.RationalFull'. -/
def rationalFullUptoCard : Claim7 := { stood := { row := rationalFullUptoRow, standIns := [], harness := (true, "904d651faa9b1a8d0e688f7fb5414dcf405031e653fbf12e1eaab181c2944079"), looks := false }, kinds := [], alts := [], laidByText := true, laidKinds := [.data, .data, .data], laidTests := true, laidLooks := .later }
def RationalFullUptoCardSaid : Prop := Claim7.holds Tryd.pinned (.plain (OpenSpec.upto rationalFullSpec)) rationalFullUptoCard

/-- THE SECOND FORM's CARD OF 'ontimelaw02.RationalParses'. -/
def rationalParsesUptoCard : Claim7 := { stood := { row := rationalParsesUptoRow, standIns := [], harness := (true, "904d651faa9b1a8d0e688f7fb5414dcf405031e653fbf12e1eaab181c2944079"), looks := false }, kinds := [], alts := [], laidByText := true, laidKinds := [.data, .data, .data], laidTests := true, laidLooks := .later }
def RationalParsesUptoCardSaid : Prop := Claim7.holds Tryd.pinned (.plain (OpenSpec.upto rationalParsesSpec)) rationalParsesUptoCard

/-- THE SECOND FORM's CARD OF 'ontimelaw02.RationalMakes'. -/
def rationalMakesUptoCard : Claim7 := { stood := { row := rationalMakesUptoRow, standIns := [], harness := (true, "904d651faa9b1a8d0e688f7fb5414dcf405031e653fbf12e1eaab181c2944079"), looks := false }, kinds := [], alts := [], laidByText := true, laidKinds := [.data, .data, .data], laidTests := true, laidLooks := .later }
def RationalMakesUptoCardSaid : Prop := Claim7.holds Tryd.pinned (.plain (OpenSpec.upto rationalMakesSpec)) rationalMakesUptoCard

/-- THE SECOND FORM's CARD OF 'ontimelaw02.RationalRounds'. -/
def rationalRoundsUptoCard : Claim7 := { stood := { row := rationalRoundsUptoRow, standIns := [], harness := (true, "904d651faa9b1a8d0e688f7fb5414dcf405031e653fbf12e1eaab181c2944079"), looks := false }, kinds := [], alts := [], laidByText := true, laidKinds := [.data, .data, .data], laidTests := true, laidLooks := .later }
def RationalRoundsUptoCardSaid : Prop := Claim7.holds Tryd.pinned (.plain (OpenSpec.upto rationalRoundsSpec)) rationalRoundsUptoCard

/-- THE SECOND FORM's CARD OF 'ontimelaw02.RationalOrders'. -/
def rationalOrdersUptoCard : Claim7 := { stood := { row := rationalOrdersUptoRow, standIns := [], harness := (true, "904d651faa9b1a8d0e688f7fb5414dcf405031e653fbf12e1eaab181c2944079"), looks := false }, kinds := [], alts := [], laidByText := true, laidKinds := [.data, .data, .data], laidTests := true, laidLooks := .later }
def RationalOrdersUptoCardSaid : Prop := Claim7.holds Tryd.pinned (.plain (OpenSpec.upto rationalOrdersSpec)) rationalOrdersUptoCard

/-- THE SECOND FORM's CARD OF 'ontimelaw02.RationalField'. -/
def rationalFieldUptoCard : Claim7 := { stood := { row := rationalFieldUptoRow, standIns := [], harness := (true, "904d651faa9b1a8d0e688f7fb5414dcf405031e653fbf12e1eaab181c2944079"), looks := false }, kinds := [], alts := [], laidByText := true, laidKinds := [.data, .data, .data], laidTests := true, laidLooks := .later }
def RationalFieldUptoCardSaid : Prop := Claim7.holds Tryd.pinned (.plain (OpenSpec.upto rationalFieldSpec)) rationalFieldUptoCard

/-- THE SECOND FORM's CARD OF 'ontimelaw02.RationalSmall'. -/
def rationalSmallUptoCard : Claim7 := { stood := { row := rationalSmallUptoRow, standIns := [], harness := (true, "904d651faa9b1a8d0e688f7fb5414dcf405031e653fbf12e1eaab181c2944079"), looks := false }, kinds := [], alts := [], laidByText := true, laidKinds := [.data, .data, .data], laidTests := true, laidLooks := .later }
def RationalSmallUptoCardSaid : Prop := Claim7.holds Tryd.pinned (.plain (OpenSpec.upto rationalSmallSpec)) rationalSmallUptoCard

/-- THE SECOND FORM's CARD OF 'ontimelaw02.RationalZero'. -/
def rationalZeroUptoCard : Claim7 := { stood := { row := rationalZeroUptoRow, standIns := [], harness := (true, "904d651faa9b1a8d0e688f7fb5414dcf405031e653fbf12e1eaab181c2944079"), looks := false }, kinds := [], alts := [], laidByText := true, laidKinds := [.data, .data, .data], laidTests := true, laidLooks := .later }
def RationalZeroUptoCardSaid : Prop := Claim7.holds Tryd.pinned (.plain (OpenSpec.upto rationalZeroSpec)) rationalZeroUptoCard
end Rows
end Go.Proofs.YteohdiaegnfbaaaDoor
