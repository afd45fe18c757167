/-
  DERIVED. GIVEN WITH THE SEED: THE CARDS: each row of YtgffcblldebelaaDoorRows.lean that lists a variable, with what it lists TIED to the program's text (the seventh form; the later family's looks); each row that meets fmt, with fmt's text TOLD by the authors' own Lean function (tested against real Go, not proved from fmt's source: count such statements apart). THE CARD IS WHAT COUNTS. Prove the row's statement (the work); the ties are given (YtgffcblldebelaaDoorTie.lean); close each card by the builder's one call (the guide's Derived/Test/ToyasCard.lean, 'card_holds'). Laid BY PROGRAM, IN A SANDBOX (cutbox-door.mjs). By AI agents, Wed Nov 11 2026. No macro, syntax, notation, axiom, sorry.
-/
import Derived.Test.YtgffcblldebelaaDoorRows
import GoSem.ClaimSeven
namespace Go.Proofs.YtgffcblldebelaaDoor
namespace Rows

/-- THE TIED CARD OF 'ontimelaw35.LpInfeasible'. -/
def lpInfeasibleCard : Claim7 := { stood := { row := lpInfeasibleRow, standIns := [], harness := (true, "662999f5b3538c03bb969b9d2ef03a81a4cb536e5dda08ce1aeea8dbb70489bd"), looks := false }, kinds := [], alts := [], laidByText := true, laidKinds := [.data, .data, .data], laidTests := true, laidLooks := .later }
def LpInfeasibleCardSaid : Prop := Claim7.holds Tryd.pinned (.plain (OpenSpec.ofChange lpInfeasibleSpec)) lpInfeasibleCard

/-- THE TIED CARD OF 'ontimelaw35.LpUnbounded'. -/
def lpUnboundedCard : Claim7 := { stood := { row := lpUnboundedRow, standIns := [], harness := (true, "662999f5b3538c03bb969b9d2ef03a81a4cb536e5dda08ce1aeea8dbb70489bd"), looks := false }, kinds := [], alts := [], laidByText := true, laidKinds := [.data, .data, .data], laidTests := true, laidLooks := .later }
def LpUnboundedCardSaid : Prop := Claim7.holds Tryd.pinned (.plain (OpenSpec.ofChange lpUnboundedSpec)) lpUnboundedCard

/-- THE TIED CARD OF 'ontimelaw35.LpSmall'. -/
def lpSmallCard : Claim7 := { stood := { row := lpSmallRow, standIns := [], harness := (true, "662999f5b3538c03bb969b9d2ef03a81a4cb536e5dda08ce1aeea8dbb70489bd"), looks := false }, kinds := [], alts := [], laidByText := true, laidKinds := [.data, .data, .data], laidTests := true, laidLooks := .later }
def LpSmallCardSaid : Prop := Claim7.holds Tryd.pinned (.plain (OpenSpec.ofChange lpSmallSpec)) lpSmallCard

/-- THE TIED CARD OF 'ontimelaw35.LpPermutes'. -/
def lpPermutesCard : Claim7 := { stood := { row := lpPermutesRow, standIns := [], harness := (true, "662999f5b3538c03bb969b9d2ef03a81a4cb536e5dda08ce1aeea8dbb70489bd"), looks := false }, kinds := [], alts := [], laidByText := true, laidKinds := [.data, .data, .data], laidTests := true, laidLooks := .later }
def LpPermutesCardSaid : Prop := Claim7.holds Tryd.pinned (.plain (OpenSpec.ofChange lpPermutesSpec)) lpPermutesCard

/-- THE TIED CARD OF 'ontimelaw35.LpScales'. -/
def lpScalesCard : Claim7 := { stood := { row := lpScalesRow, standIns := [], harness := (true, "662999f5b3538c03bb969b9d2ef03a81a4cb536e5dda08ce1aeea8dbb70489bd"), looks := false }, kinds := [], alts := [], laidByText := true, laidKinds := [.data, .data, .data], laidTests := true, laidLooks := .later }
def LpScalesCardSaid : Prop := Claim7.holds Tryd.pinned (.plain (OpenSpec.ofChange lpScalesSpec)) lpScalesCard

/-- THE TIED CARD OF 'ontimelaw35.LpMore'. -/
def lpMoreCard : Claim7 := { stood := { row := lpMoreRow, standIns := [], harness := (true, "662999f5b3538c03bb969b9d2ef03a81a4cb536e5dda08ce1aeea8dbb70489bd"), looks := false }, kinds := [], alts := [], laidByText := true, laidKinds := [.data, .data, .data], laidTests := true, laidLooks := .later }
def LpMoreCardSaid : Prop := Claim7.holds Tryd.pinned (.plain (OpenSpec.ofChange lpMoreSpec)) lpMoreCard

/-- THE TIED CARD OF 'ontimelaw35.LpDual'. -/
def lpDualCard : Claim7 := { stood := { row := lpDualRow, standIns := [], harness := (true, "662999f5b3538c03bb969b9d2ef03a81a4cb536e5dda08ce1aeea8dbb70489bd"), looks := false }, kinds := [], alts := [], laidByText := true, laidKinds := [.data, .data, .data], laidTests := true, laidLooks := .later }
def LpDualCardSaid : Prop := Claim7.holds Tryd.pinned (.plain (OpenSpec.ofChange lpDualSpec)) lpDualCard

/-- THE TIED CARD OF 'ontimelaw35.LpBox'. -/
def lpBoxCard : Claim7 := { stood := { row := lpBoxRow, standIns := [], harness := (true, "662999f5b3538c03bb969b9d2ef03a81a4cb536e5dda08ce1aeea8dbb70489bd"), looks := false }, kinds := [], alts := [], laidByText := true, laidKinds := [.data, .data, .data], laidTests := true, laidLooks := .later }
def LpBoxCardSaid : Prop := Claim7.holds Tryd.pinned (.plain (OpenSpec.ofChange lpBoxSpec)) lpBoxCard

/-- THE TIED CARD OF 'ontimelaw35.LpValues'. -/
def lpValuesCard : Claim7 := { stood := { row := lpValuesRow, standIns := [], harness := (true, "662999f5b3538c03bb969b9d2ef03a81a4cb536e5dda08ce1aeea8dbb70489bd"), looks := false }, kinds := [], alts := [], laidByText := true, laidKinds := [.data, .data, .data], laidTests := true, laidLooks := .later }
def LpValuesCardSaid : Prop := Claim7.holds Tryd.pinned (.plain (OpenSpec.ofChange lpValuesSpec)) lpValuesCard

/-- THE TIED CARD OF 'ontimelaw35.LpOptimal'. -/
def lpOptimalCard : Claim7 := { stood := { row := lpOptimalRow, standIns := [], harness := (true, "662999f5b3538c03bb969b9d2ef03a81a4cb536e5dda08ce1aeea8dbb70489bd"), looks := false }, kinds := [], alts := [], laidByText := true, laidKinds := [.data, .data, .data], laidTests := true, laidLooks := .later }
def LpOptimalCardSaid : Prop := Claim7.holds Tryd.pinned (.plain (OpenSpec.ofChange lpOptimalSpec)) lpOptimalCard

/-- THE TIED CARD OF 'ontimelaw35.LpFeasible'. -/
def lpFeasibleCard : Claim7 := { stood := { row := lpFeasibleRow, standIns := [], harness := (true, "662999f5b3538c03bb969b9d2ef03a81a4cb536e5dda08ce1aeea8dbb70489bd"), looks := false }, kinds := [], alts := [], laidByText := true, laidKinds := [.data, .data, .data], laidTests := true, laidLooks := .later }
def LpFeasibleCardSaid : Prop := Claim7.holds Tryd.pinned (.plain (OpenSpec.ofChange lpFeasibleSpec)) lpFeasibleCard

/-- THE SECOND FORM's CARD OF 'ontimelaw35.LpInfeasible'. -/
def lpInfeasibleUptoCard : Claim7 := { stood := { row := lpInfeasibleUptoRow, standIns := [], harness := (true, "662999f5b3538c03bb969b9d2ef03a81a4cb536e5dda08ce1aeea8dbb70489bd"), looks := false }, kinds := [], alts := [], laidByText := true, laidKinds := [.data, .data, .data], laidTests := true, laidLooks := .later }
def LpInfeasibleUptoCardSaid : Prop := Claim7.holds Tryd.pinned (.plain (OpenSpec.upto lpInfeasibleSpec)) lpInfeasibleUptoCard

/-- THE SECOND FORM's CARD OF 'ontimelaw35.LpUnbounded'. -/
def lpUnboundedUptoCard : Claim7 := { stood := { row := lpUnboundedUptoRow, standIns := [], harness := (true, "662999f5b3538c03bb969b9d2ef03a81a4cb536e5dda08ce1aeea8dbb70489bd"), looks := false }, kinds := [], alts := [], laidByText := true, laidKinds := [.data, .data, .data], laidTests := true, laidLooks := .later }
def LpUnboundedUptoCardSaid : Prop := Claim7.holds Tryd.pinned (.plain (OpenSpec.upto lpUnboundedSpec)) lpUnboundedUptoCard

/-- THE SECOND FORM's CARD OF 'ontimelaw35.LpSmall'. -/
def lpSmallUptoCard : Claim7 := { stood := { row := lpSmallUptoRow, standIns := [], harness := (true, "662999f5b3538c03bb969b9d2ef03a81a4cb536e5dda08ce1aeea8dbb70489bd"), looks := false }, kinds := [], alts := [], laidByText := true, laidKinds := [.data, .data, .data], laidTests := true, laidLooks := .later }
def LpSmallUptoCardSaid : Prop := Claim7.holds Tryd.pinned (.plain (OpenSpec.upto lpSmallSpec)) lpSmallUptoCard

/-- THE SECOND FORM's CARD OF 'ontimelaw35.LpPermutes'. -/
def lpPermutesUptoCard : Claim7 := { stood := { row := lpPermutesUptoRow, standIns := [], harness := (true, "662999f5b3538c03bb969b9d2ef03a81a4cb536e5dda08ce1aeea8dbb70489bd"), looks := false }, kinds := [], alts := [], laidByText := true, laidKinds := [.data, .data, .data], laidTests := true, laidLooks := .later }
def LpPermutesUptoCardSaid : Prop := Claim7.holds Tryd.pinned (.plain (OpenSpec.upto lpPermutesSpec)) lpPermutesUptoCard

/-- THE SECOND FORM's CARD OF 'ontimelaw35.LpScales'. -/
def lpScalesUptoCard : Claim7 := { stood := { row := lpScalesUptoRow, standIns := [], harness := (true, "662999f5b3538c03bb969b9d2ef03a81a4cb536e5dda08ce1aeea8dbb70489bd"), looks := false }, kinds := [], alts := [], laidByText := true, laidKinds := [.data, .data, .data], laidTests := true, laidLooks := .later }
def LpScalesUptoCardSaid : Prop := Claim7.holds Tryd.pinned (.plain (OpenSpec.upto lpScalesSpec)) lpScalesUptoCard

/-- THE SECOND FORM's CARD OF 'ontimelaw35.LpMore'. -/
def lpMoreUptoCard : Claim7 := { stood := { row := lpMoreUptoRow, standIns := [], harness := (true, "662999f5b3538c03bb969b9d2ef03a81a4cb536e5dda08ce1aeea8dbb70489bd"), looks := false }, kinds := [], alts := [], laidByText := true, laidKinds := [.data, .data, .data], laidTests := true, laidLooks := .later }
def LpMoreUptoCardSaid : Prop := Claim7.holds Tryd.pinned (.plain (OpenSpec.upto lpMoreSpec)) lpMoreUptoCard

/-- THE SECOND FORM's CARD OF 'ontimelaw35.LpDual'. -/
def lpDualUptoCard : Claim7 := { stood := { row := lpDualUptoRow, standIns := [], harness := (true, "662999f5b3538c03bb969b9d2ef03a81a4cb536e5dda08ce1aeea8dbb70489bd"), looks := false }, kinds := [], alts := [], laidByText := true, laidKinds := [.data, .data, .data], laidTests := true, laidLooks := .later }
def LpDualUptoCardSaid : Prop := Claim7.holds Tryd.pinned (.plain (OpenSpec.upto lpDualSpec)) lpDualUptoCard

/-- THE SECOND FORM's CARD OF 'ontimelaw35.LpBox'. -/
def lpBoxUptoCard : Claim7 := { stood := { row := lpBoxUptoRow, standIns := [], harness := (true, "662999f5b3538c03bb969b9d2ef03a81a4cb536e5dda08ce1aeea8dbb70489bd"), looks := false }, kinds := [], alts := [], laidByText := true, laidKinds := [.data, .data, .data], laidTests := true, laidLooks := .later }
def LpBoxUptoCardSaid : Prop := Claim7.holds Tryd.pinned (.plain (OpenSpec.upto lpBoxSpec)) lpBoxUptoCard

/-- THE SECOND FORM's CARD OF 'ontimelaw35.LpValues'. -/
def lpValuesUptoCard : Claim7 := { stood := { row := lpValuesUptoRow, standIns := [], harness := (true, "662999f5b3538c03bb969b9d2ef03a81a4cb536e5dda08ce1aeea8dbb70489bd"), looks := false }, kinds := [], alts := [], laidByText := true, laidKinds := [.data, .data, .data], laidTests := true, laidLooks := .later }
def LpValuesUptoCardSaid : Prop := Claim7.holds Tryd.pinned (.plain (OpenSpec.upto lpValuesSpec)) lpValuesUptoCard

/-- THE SECOND FORM's CARD OF 'ontimelaw35.LpOptimal'. -/
def lpOptimalUptoCard : Claim7 := { stood := { row := lpOptimalUptoRow, standIns := [], harness := (true, "662999f5b3538c03bb969b9d2ef03a81a4cb536e5dda08ce1aeea8dbb70489bd"), looks := false }, kinds := [], alts := [], laidByText := true, laidKinds := [.data, .data, .data], laidTests := true, laidLooks := .later }
def LpOptimalUptoCardSaid : Prop := Claim7.holds Tryd.pinned (.plain (OpenSpec.upto lpOptimalSpec)) lpOptimalUptoCard

/-- THE SECOND FORM's CARD OF 'ontimelaw35.LpFeasible'. -/
def lpFeasibleUptoCard : Claim7 := { stood := { row := lpFeasibleUptoRow, standIns := [], harness := (true, "662999f5b3538c03bb969b9d2ef03a81a4cb536e5dda08ce1aeea8dbb70489bd"), looks := false }, kinds := [], alts := [], laidByText := true, laidKinds := [.data, .data, .data], laidTests := true, laidLooks := .later }
def LpFeasibleUptoCardSaid : Prop := Claim7.holds Tryd.pinned (.plain (OpenSpec.upto lpFeasibleSpec)) lpFeasibleUptoCard
end Rows
end Go.Proofs.YtgffcblldebelaaDoor
