/-
  DERIVED. GIVEN WITH THE SEED: THE CARDS: each row of YtljncdcjkdgkeaaGreatDoorRows.lean that lists a variable, with what it lists TIED to the program's text (the seventh form; the later family's looks); each row that meets fmt, with fmt's text TOLD by the authors' own Lean function (tested against real Go, not proved from fmt's source: count such statements apart). THE CARD IS WHAT COUNTS. Prove the row's statement (the work); the ties are given (YtljncdcjkdgkeaaGreatDoorTie.lean); close each card by the builder's one call (the guide's Derived/Test/ToyasCard.lean, 'card_holds'). Laid BY PROGRAM, IN A SANDBOX (cutbox-door.mjs). By AI agents, Wed Nov 11 2026. No macro, syntax, notation, axiom, sorry.
-/
import Derived.Test.YtljncdcjkdgkeaaGreatDoorRows
import GoSem.ClaimSeven
namespace Go.Proofs.YtljncdcjkdgkeaaGreatDoor
namespace Rows

/-- THE TIED CARD OF 'ontimelaw37.CertificateCuts'. -/
def certificateCutsCard : Claim7 := { stood := { row := certificateCutsRow, standIns := [], harness := (true, "16aa00c9548437ef56a2acfa22f3ff7e92880762c0813d6154572cbf8eccc55e"), looks := true }, kinds := [], alts := [], laidByText := true, laidKinds := [.data, .data, .data, .data, .sentinel, .sentinel, .pinned], laidTests := true, laidLooks := .later }
def CertificateCutsCardSaid : Prop := Claim7.holds Tryz.pinned (.plain (OpenSpec.ofChange certificateCutsSpec)) certificateCutsCard

/-- THE TIED CARD OF 'ontimelaw37.CertificateNone'. -/
def certificateNoneCard : Claim7 := { stood := { row := certificateNoneRow, standIns := [], harness := (true, "16aa00c9548437ef56a2acfa22f3ff7e92880762c0813d6154572cbf8eccc55e"), looks := true }, kinds := [], alts := [], laidByText := true, laidKinds := [.data, .data, .data, .data, .sentinel, .sentinel, .pinned], laidTests := true, laidLooks := .later }
def CertificateNoneCardSaid : Prop := Claim7.holds Tryz.pinned (.plain (OpenSpec.ofChange certificateNoneSpec)) certificateNoneCard

/-- THE TIED CARD OF 'ontimelaw37.CertificateTampers'. -/
def certificateTampersCard : Claim7 := { stood := { row := certificateTampersRow, standIns := [], harness := (true, "16aa00c9548437ef56a2acfa22f3ff7e92880762c0813d6154572cbf8eccc55e"), looks := true }, kinds := [], alts := [], laidByText := true, laidKinds := [.data, .data, .data], laidTests := true, laidLooks := .later }
def CertificateTampersCardSaid : Prop := Claim7.holds Tryz.pinned (.plain (OpenSpec.ofChange certificateTampersSpec)) certificateTampersCard

/-- THE TIED CARD OF 'ontimelaw37.CertificateSound'. -/
def certificateSoundCard : Claim7 := { stood := { row := certificateSoundRow, standIns := [], harness := (true, "16aa00c9548437ef56a2acfa22f3ff7e92880762c0813d6154572cbf8eccc55e"), looks := true }, kinds := [], alts := [], laidByText := true, laidKinds := [.data, .data, .data], laidTests := true, laidLooks := .later }
def CertificateSoundCardSaid : Prop := Claim7.holds Tryz.pinned (.plain (OpenSpec.ofChange certificateSoundSpec)) certificateSoundCard

/-- THE TIED CARD OF 'ontimelaw37.CertificateText'. -/
def certificateTextCard : Claim7 := { stood := { row := certificateTextRow, standIns := [], harness := (true, "16aa00c9548437ef56a2acfa22f3ff7e92880762c0813d6154572cbf8eccc55e"), looks := true }, kinds := [], alts := [], laidByText := true, laidKinds := [.data, .data, .data, .data, .sentinel, .sentinel, .pinned], laidTests := true, laidLooks := .later }
def CertificateTextCardSaid : Prop := Claim7.holds Tryz.pinned (.plain (OpenSpec.ofChange certificateTextSpec)) certificateTextCard

/-- THE TIED CARD OF 'ontimelaw37.CertificateReads'. -/
def certificateReadsCard : Claim7 := { stood := { row := certificateReadsRow, standIns := [], harness := (true, "16aa00c9548437ef56a2acfa22f3ff7e92880762c0813d6154572cbf8eccc55e"), looks := true }, kinds := [], alts := [], laidByText := true, laidKinds := [.data, .data, .data, .data, .sentinel, .sentinel, .pinned], laidTests := true, laidLooks := .later }
def CertificateReadsCardSaid : Prop := Claim7.holds Tryz.pinned (.plain (OpenSpec.ofChange certificateReadsSpec)) certificateReadsCard

/-- THE SECOND FORM's CARD OF 'ontimelaw37.CertificateCuts'. -/
def certificateCutsUptoCard : Claim7 := { stood := { row := certificateCutsUptoRow, standIns := [], harness := (true, "16aa00c9548437ef56a2acfa22f3ff7e92880762c0813d6154572cbf8eccc55e"), looks := true }, kinds := [], alts := [], laidByText := true, laidKinds := [.data, .data, .data, .data, .sentinel, .sentinel, .pinned], laidTests := true, laidLooks := .later }
def CertificateCutsUptoCardSaid : Prop := Claim7.holds Tryz.pinned (.plain (OpenSpec.upto certificateCutsSpec)) certificateCutsUptoCard

/-- THE SECOND FORM's CARD OF 'ontimelaw37.CertificateNone'. -/
def certificateNoneUptoCard : Claim7 := { stood := { row := certificateNoneUptoRow, standIns := [], harness := (true, "16aa00c9548437ef56a2acfa22f3ff7e92880762c0813d6154572cbf8eccc55e"), looks := true }, kinds := [], alts := [], laidByText := true, laidKinds := [.data, .data, .data, .data, .sentinel, .sentinel, .pinned], laidTests := true, laidLooks := .later }
def CertificateNoneUptoCardSaid : Prop := Claim7.holds Tryz.pinned (.plain (OpenSpec.upto certificateNoneSpec)) certificateNoneUptoCard

/-- THE SECOND FORM's CARD OF 'ontimelaw37.CertificateTampers'. -/
def certificateTampersUptoCard : Claim7 := { stood := { row := certificateTampersUptoRow, standIns := [], harness := (true, "16aa00c9548437ef56a2acfa22f3ff7e92880762c0813d6154572cbf8eccc55e"), looks := true }, kinds := [], alts := [], laidByText := true, laidKinds := [.data, .data, .data], laidTests := true, laidLooks := .later }
def CertificateTampersUptoCardSaid : Prop := Claim7.holds Tryz.pinned (.plain (OpenSpec.upto certificateTampersSpec)) certificateTampersUptoCard

/-- THE SECOND FORM's CARD OF 'ontimelaw37.CertificateSound'. -/
def certificateSoundUptoCard : Claim7 := { stood := { row := certificateSoundUptoRow, standIns := [], harness := (true, "16aa00c9548437ef56a2acfa22f3ff7e92880762c0813d6154572cbf8eccc55e"), looks := true }, kinds := [], alts := [], laidByText := true, laidKinds := [.data, .data, .data], laidTests := true, laidLooks := .later }
def CertificateSoundUptoCardSaid : Prop := Claim7.holds Tryz.pinned (.plain (OpenSpec.upto certificateSoundSpec)) certificateSoundUptoCard

/-- THE SECOND FORM's CARD OF 'ontimelaw37.CertificateText'. -/
def certificateTextUptoCard : Claim7 := { stood := { row := certificateTextUptoRow, standIns := [], harness := (true, "16aa00c9548437ef56a2acfa22f3ff7e92880762c0813d6154572cbf8eccc55e"), looks := true }, kinds := [], alts := [], laidByText := true, laidKinds := [.data, .data, .data, .data, .sentinel, .sentinel, .pinned], laidTests := true, laidLooks := .later }
def CertificateTextUptoCardSaid : Prop := Claim7.holds Tryz.pinned (.plain (OpenSpec.upto certificateTextSpec)) certificateTextUptoCard

/-- THE SECOND FORM's CARD OF 'ontimelaw37.CertificateReads'. -/
def certificateReadsUptoCard : Claim7 := { stood := { row := certificateReadsUptoRow, standIns := [], harness := (true, "16aa00c9548437ef56a2acfa22f3ff7e92880762c0813d6154572cbf8eccc55e"), looks := true }, kinds := [], alts := [], laidByText := true, laidKinds := [.data, .data, .data, .data, .sentinel, .sentinel, .pinned], laidTests := true, laidLooks := .later }
def CertificateReadsUptoCardSaid : Prop := Claim7.holds Tryz.pinned (.plain (OpenSpec.upto certificateReadsSpec)) certificateReadsUptoCard
end Rows
end Go.Proofs.YtljncdcjkdgkeaaGreatDoor
