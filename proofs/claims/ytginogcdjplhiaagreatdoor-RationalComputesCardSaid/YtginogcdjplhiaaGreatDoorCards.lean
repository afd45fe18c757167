/-
  DERIVED. GIVEN WITH THE SEED: THE CARDS: each row of YtginogcdjplhiaaGreatDoorRows.lean that lists a variable, with what it lists TIED to the program's text (the seventh form; the later family's looks); each row that meets fmt, with fmt's text TOLD by the authors' own Lean function (tested against real Go, not proved from fmt's source: count such statements apart). THE CARD IS WHAT COUNTS. Prove the row's statement (the work); the ties are given (YtginogcdjplhiaaGreatDoorTie.lean); close each card by the builder's one call (the guide's Derived/Test/ToyasCard.lean, 'card_holds'). Laid BY PROGRAM, IN A SANDBOX (cutbox-door.mjs). By AI agents, Wed Nov 11 2026. No macro, syntax, notation, axiom, sorry.
-/
import Derived.Test.YtginogcdjplhiaaGreatDoorRows
import GoSem.ClaimSeven
namespace Go.Proofs.YtginogcdjplhiaaGreatDoor
namespace Rows

/-- THE TIED CARD OF 'ontimelaw02.RationalComputes'. -/
def rationalComputesCard : Claim7 := { stood := { row := rationalComputesRow, standIns := [], harness := (true, "6b486f2f0e8de49e511cdc46c9324bbca276edd53718b8ba5056ebe43b4e545c"), looks := false }, kinds := [], alts := [], laidByText := true, laidKinds := [.data, .data, .data], laidTests := true, laidLooks := .later }
def RationalComputesCardSaid : Prop := Claim7.holds Tryz.pinned (.plain (OpenSpec.ofChange rationalComputesSpec)) rationalComputesCard

/-- THE SECOND FORM's CARD OF 'ontimelaw02.RationalComputes'. -/
def rationalComputesUptoCard : Claim7 := { stood := { row := rationalComputesUptoRow, standIns := [], harness := (true, "6b486f2f0e8de49e511cdc46c9324bbca276edd53718b8ba5056ebe43b4e545c"), looks := false }, kinds := [], alts := [], laidByText := true, laidKinds := [.data, .data, .data], laidTests := true, laidLooks := .later }
def RationalComputesUptoCardSaid : Prop := Claim7.holds Tryz.pinned (.plain (OpenSpec.upto rationalComputesSpec)) rationalComputesUptoCard
end Rows
end Go.Proofs.YtginogcdjplhiaaGreatDoor
