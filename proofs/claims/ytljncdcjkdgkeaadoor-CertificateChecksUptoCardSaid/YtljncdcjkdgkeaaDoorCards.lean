/-
  DERIVED. GIVEN WITH THE SEED: THE CARDS: each row of YtljncdcjkdgkeaaDoorRows.lean that lists a variable, with what it lists TIED to the program's text (the seventh form; the later family's looks); each row that meets fmt, with fmt's text TOLD by the authors' own Lean function (tested against real Go, not proved from fmt's source: count such statements apart). THE CARD IS WHAT COUNTS. Prove the row's statement (the work); the ties are given (YtljncdcjkdgkeaaDoorTie.lean); close each card by the builder's one call (the guide's Derived/Test/ToyasCard.lean, 'card_holds'). Laid BY PROGRAM, IN A SANDBOX (cutbox-door.mjs). By AI agents, Wed Nov 11 2026. No macro, syntax, notation, axiom, sorry.
-/
import Derived.Test.YtljncdcjkdgkeaaDoorRows
import GoSem.ClaimSeven
namespace Go.Proofs.YtljncdcjkdgkeaaDoor
namespace Rows

/-- THE TIED CARD OF 'ontimelaw37.CertificateLeaf'. -/
def certificateLeafCard : Claim7 := { stood := { row := certificateLeafRow, standIns := [], harness := (true, "7218472bc58a0ca69e4132a8192dc3d17e358d9b07031a93327a51cac333a54e"), looks := false }, kinds := [], alts := [], laidByText := true, laidKinds := [.data, .data, .data], laidTests := true, laidLooks := .later }
def CertificateLeafCardSaid : Prop := Claim7.holds Tryd.pinned (.plain (OpenSpec.ofChange certificateLeafSpec)) certificateLeafCard

/-- THE TIED CARD OF 'ontimelaw37.CertificateChecks'. -/
def certificateChecksCard : Claim7 := { stood := { row := certificateChecksRow, standIns := [], harness := (true, "7218472bc58a0ca69e4132a8192dc3d17e358d9b07031a93327a51cac333a54e"), looks := false }, kinds := [], alts := [], laidByText := true, laidKinds := [.data, .data, .data], laidTests := true, laidLooks := .later }
def CertificateChecksCardSaid : Prop := Claim7.holds Tryd.pinned (.plain (OpenSpec.ofChange certificateChecksSpec)) certificateChecksCard

/-- THE SECOND FORM's CARD OF 'ontimelaw37.CertificateLeaf'. -/
def certificateLeafUptoCard : Claim7 := { stood := { row := certificateLeafUptoRow, standIns := [], harness := (true, "7218472bc58a0ca69e4132a8192dc3d17e358d9b07031a93327a51cac333a54e"), looks := false }, kinds := [], alts := [], laidByText := true, laidKinds := [.data, .data, .data], laidTests := true, laidLooks := .later }
def CertificateLeafUptoCardSaid : Prop := Claim7.holds Tryd.pinned (.plain (OpenSpec.upto certificateLeafSpec)) certificateLeafUptoCard

/-- THE SECOND FORM's CARD OF 'ontimelaw37.CertificateChecks'. -/
def certificateChecksUptoCard : Claim7 := { stood := { row := certificateChecksUptoRow, standIns := [], harness := (true, "7218472bc58a0ca69e4132a8192dc3d17e358d9b07031a93327a51cac333a54e"), looks := false }, kinds := [], alts := [], laidByText := true, laidKinds := [.data, .data, .data], laidTests := true, laidLooks := .later }
def CertificateChecksUptoCardSaid : Prop := Claim7.holds Tryd.pinned (.plain (OpenSpec.upto certificateChecksSpec)) certificateChecksUptoCard
end Rows
end Go.Proofs.YtljncdcjkdgkeaaDoor
