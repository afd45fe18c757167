/-
  DERIVED. GIVEN WITH THE SEED: THE CARDS: each row of YtpdijhplelpmhaaDoorRows.lean that lists a variable, with what it lists TIED to the program's text (the seventh form; the later family's looks); each row that meets fmt, with fmt's text TOLD by the authors' own Lean function (tested against real Go, not proved from fmt's source: count such statements apart). THE CARD IS WHAT COUNTS. Prove the row's statement (the work); the ties are given (YtpdijhplelpmhaaDoorTie.lean); close each card by the builder's one call (the guide's Derived/Test/ToyasCard.lean, 'card_holds'). Laid BY PROGRAM, IN A SANDBOX (cutbox-door.mjs). By AI agents, Wed Nov 11 2026. No macro, syntax, notation, axiom, sorry.
-/
import Derived.Test.YtpdijhplelpmhaaDoorRows
import GoSem.ClaimSeven
namespace Go.Proofs.YtpdijhplelpmhaaDoor
namespace Rows

/-- THE TIED CARD OF 'ontimelaw51.ScriptErrors'. -/
def scriptErrorsCard : Claim7 := { stood := { row := scriptErrorsRow, standIns := [], harness := (true, "9da461855e3b629ee0f2c3f228e5b50612c741d65e47ddb8b9b41bc7a0fc830c"), looks := true }, kinds := [], alts := [], laidByText := true, laidKinds := [.data, .data, .data, .data, .sentinel, .sentinel, .data, .data, .pinned], laidTests := true, laidLooks := .later }
def ScriptErrorsCardSaid : Prop := Claim7.holds Tryd.pinned (.plain (OpenSpec.ofChange scriptErrorsSpec)) scriptErrorsCard

/-- THE TIED CARD OF 'ontimelaw51.ScriptParses'. -/
def scriptParsesCard : Claim7 := { stood := { row := scriptParsesRow, standIns := [], harness := (true, "9da461855e3b629ee0f2c3f228e5b50612c741d65e47ddb8b9b41bc7a0fc830c"), looks := true }, kinds := [], alts := [], laidByText := true, laidKinds := [.data, .data, .data, .data, .sentinel, .sentinel, .data, .data, .pinned], laidTests := true, laidLooks := .later }
def ScriptParsesCardSaid : Prop := Claim7.holds Tryd.pinned (.plain (OpenSpec.ofChange scriptParsesSpec)) scriptParsesCard

/-- THE TIED CARD OF 'ontimelaw51.ScriptFormats'. -/
def scriptFormatsCard : Claim7 := { stood := { row := scriptFormatsRow, standIns := [], harness := (true, "9da461855e3b629ee0f2c3f228e5b50612c741d65e47ddb8b9b41bc7a0fc830c"), looks := true }, kinds := [], alts := [], laidByText := true, laidKinds := [.data, .data, .data, .data, .sentinel, .sentinel, .data, .data, .pinned], laidTests := true, laidLooks := .later }
def ScriptFormatsCardSaid : Prop := Claim7.holds Tryd.pinned (.plain (OpenSpec.ofChange scriptFormatsSpec)) scriptFormatsCard

/-- THE TIED CARD OF 'ontimelaw51.ScriptTexts'. -/
def scriptTextsCard : Claim7 := { stood := { row := scriptTextsRow, standIns := [], harness := (true, "9da461855e3b629ee0f2c3f228e5b50612c741d65e47ddb8b9b41bc7a0fc830c"), looks := true }, kinds := [], alts := [], laidByText := true, laidKinds := [.data, .data, .data, .data, .sentinel, .sentinel, .data, .data, .pinned], laidTests := true, laidLooks := .later }
def ScriptTextsCardSaid : Prop := Claim7.holds Tryd.pinned (.plain (OpenSpec.ofChange scriptTextsSpec)) scriptTextsCard

/-- THE TIED CARD OF 'ontimelaw51.ScriptInverse'. -/
def scriptInverseCard : Claim7 := { stood := { row := scriptInverseRow, standIns := [], harness := (true, "9da461855e3b629ee0f2c3f228e5b50612c741d65e47ddb8b9b41bc7a0fc830c"), looks := true }, kinds := [], alts := [], laidByText := true, laidKinds := [.data, .data, .data, .data, .sentinel, .sentinel, .data, .data, .pinned], laidTests := true, laidLooks := .later }
def ScriptInverseCardSaid : Prop := Claim7.holds Tryd.pinned (.plain (OpenSpec.ofChange scriptInverseSpec)) scriptInverseCard

/-- THE TIED CARD OF 'ontimelaw51.ScriptJoins'. -/
def scriptJoinsCard : Claim7 := { stood := { row := scriptJoinsRow, standIns := [], harness := (true, "9da461855e3b629ee0f2c3f228e5b50612c741d65e47ddb8b9b41bc7a0fc830c"), looks := true }, kinds := [], alts := [], laidByText := true, laidKinds := [.data, .data, .data, .data, .sentinel, .sentinel, .data, .data, .pinned], laidTests := true, laidLooks := .later }
def ScriptJoinsCardSaid : Prop := Claim7.holds Tryd.pinned (.plain (OpenSpec.ofChange scriptJoinsSpec)) scriptJoinsCard

/-- THE TIED CARD OF 'ontimelaw51.ScriptCuts'. -/
def scriptCutsCard : Claim7 := { stood := { row := scriptCutsRow, standIns := [], harness := (true, "9da461855e3b629ee0f2c3f228e5b50612c741d65e47ddb8b9b41bc7a0fc830c"), looks := true }, kinds := [], alts := [], laidByText := true, laidKinds := [.data, .data, .data, .data, .sentinel, .sentinel, .data, .data, .pinned], laidTests := true, laidLooks := .later }
def ScriptCutsCardSaid : Prop := Claim7.holds Tryd.pinned (.plain (OpenSpec.ofChange scriptCutsSpec)) scriptCutsCard

/-- THE TIED CARD OF 'ontimelaw51.ScriptNumbers'. -/
def scriptNumbersCard : Claim7 := { stood := { row := scriptNumbersRow, standIns := [], harness := (true, "9da461855e3b629ee0f2c3f228e5b50612c741d65e47ddb8b9b41bc7a0fc830c"), looks := true }, kinds := [], alts := [], laidByText := true, laidKinds := [.data, .data, .data, .data, .sentinel, .sentinel, .data, .data, .pinned], laidTests := true, laidLooks := .later }
def ScriptNumbersCardSaid : Prop := Claim7.holds Tryd.pinned (.plain (OpenSpec.ofChange scriptNumbersSpec)) scriptNumbersCard

/-- THE TIED CARD OF 'ontimelaw51.ScriptFull'. -/
def scriptFullCard : Claim7 := { stood := { row := scriptFullRow, standIns := [], harness := (true, "9da461855e3b629ee0f2c3f228e5b50612c741d65e47ddb8b9b41bc7a0fc830c"), looks := true }, kinds := [], alts := [], laidByText := true, laidKinds := [.data, .data, .data, .data, .sentinel, .sentinel, .data, .data, .pinned], laidTests := true, laidLooks := .later }
def ScriptFullCardSaid : Prop := Claim7.holds Tryd.pinned (.plain (OpenSpec.ofChange scriptFullSpec)) scriptFullCard

/-- THE SECOND FORM's CARD OF 'ontimelaw51.ScriptErrors'. -/
def scriptErrorsUptoCard : Claim7 := { stood := { row := scriptErrorsUptoRow, standIns := [], harness := (true, "9da461855e3b629ee0f2c3f228e5b50612c741d65e47ddb8b9b41bc7a0fc830c"), looks := true }, kinds := [], alts := [], laidByText := true, laidKinds := [.data, .data, .data, .data, .sentinel, .sentinel, .data, .data, .pinned], laidTests := true, laidLooks := .later }
def ScriptErrorsUptoCardSaid : Prop := Claim7.holds Tryd.pinned (.plain (OpenSpec.upto scriptErrorsSpec)) scriptErrorsUptoCard

/-- THE SECOND FORM's CARD OF 'ontimelaw51.ScriptParses'. -/
def scriptParsesUptoCard : Claim7 := { stood := { row := scriptParsesUptoRow, standIns := [], harness := (true, "9da461855e3b629ee0f2c3f228e5b50612c741d65e47ddb8b9b41bc7a0fc830c"), looks := true }, kinds := [], alts := [], laidByText := true, laidKinds := [.data, .data, .data, .data, .sentinel, .sentinel, .data, .data, .pinned], laidTests := true, laidLooks := .later }
def ScriptParsesUptoCardSaid : Prop := Claim7.holds Tryd.pinned (.plain (OpenSpec.upto scriptParsesSpec)) scriptParsesUptoCard

/-- THE SECOND FORM's CARD OF 'ontimelaw51.ScriptFormats'. -/
def scriptFormatsUptoCard : Claim7 := { stood := { row := scriptFormatsUptoRow, standIns := [], harness := (true, "9da461855e3b629ee0f2c3f228e5b50612c741d65e47ddb8b9b41bc7a0fc830c"), looks := true }, kinds := [], alts := [], laidByText := true, laidKinds := [.data, .data, .data, .data, .sentinel, .sentinel, .data, .data, .pinned], laidTests := true, laidLooks := .later }
def ScriptFormatsUptoCardSaid : Prop := Claim7.holds Tryd.pinned (.plain (OpenSpec.upto scriptFormatsSpec)) scriptFormatsUptoCard

/-- THE SECOND FORM's CARD OF 'ontimelaw51.ScriptTexts'. -/
def scriptTextsUptoCard : Claim7 := { stood := { row := scriptTextsUptoRow, standIns := [], harness := (true, "9da461855e3b629ee0f2c3f228e5b50612c741d65e47ddb8b9b41bc7a0fc830c"), looks := true }, kinds := [], alts := [], laidByText := true, laidKinds := [.data, .data, .data, .data, .sentinel, .sentinel, .data, .data, .pinned], laidTests := true, laidLooks := .later }
def ScriptTextsUptoCardSaid : Prop := Claim7.holds Tryd.pinned (.plain (OpenSpec.upto scriptTextsSpec)) scriptTextsUptoCard

/-- THE SECOND FORM's CARD OF 'ontimelaw51.ScriptInverse'. -/
def scriptInverseUptoCard : Claim7 := { stood := { row := scriptInverseUptoRow, standIns := [], harness := (true, "9da461855e3b629ee0f2c3f228e5b50612c741d65e47ddb8b9b41bc7a0fc830c"), looks := true }, kinds := [], alts := [], laidByText := true, laidKinds := [.data, .data, .data, .data, .sentinel, .sentinel, .data, .data, .pinned], laidTests := true, laidLooks := .later }
def ScriptInverseUptoCardSaid : Prop := Claim7.holds Tryd.pinned (.plain (OpenSpec.upto scriptInverseSpec)) scriptInverseUptoCard

/-- THE SECOND FORM's CARD OF 'ontimelaw51.ScriptJoins'. -/
def scriptJoinsUptoCard : Claim7 := { stood := { row := scriptJoinsUptoRow, standIns := [], harness := (true, "9da461855e3b629ee0f2c3f228e5b50612c741d65e47ddb8b9b41bc7a0fc830c"), looks := true }, kinds := [], alts := [], laidByText := true, laidKinds := [.data, .data, .data, .data, .sentinel, .sentinel, .data, .data, .pinned], laidTests := true, laidLooks := .later }
def ScriptJoinsUptoCardSaid : Prop := Claim7.holds Tryd.pinned (.plain (OpenSpec.upto scriptJoinsSpec)) scriptJoinsUptoCard

/-- THE SECOND FORM's CARD OF 'ontimelaw51.ScriptCuts'. -/
def scriptCutsUptoCard : Claim7 := { stood := { row := scriptCutsUptoRow, standIns := [], harness := (true, "9da461855e3b629ee0f2c3f228e5b50612c741d65e47ddb8b9b41bc7a0fc830c"), looks := true }, kinds := [], alts := [], laidByText := true, laidKinds := [.data, .data, .data, .data, .sentinel, .sentinel, .data, .data, .pinned], laidTests := true, laidLooks := .later }
def ScriptCutsUptoCardSaid : Prop := Claim7.holds Tryd.pinned (.plain (OpenSpec.upto scriptCutsSpec)) scriptCutsUptoCard

/-- THE SECOND FORM's CARD OF 'ontimelaw51.ScriptNumbers'. -/
def scriptNumbersUptoCard : Claim7 := { stood := { row := scriptNumbersUptoRow, standIns := [], harness := (true, "9da461855e3b629ee0f2c3f228e5b50612c741d65e47ddb8b9b41bc7a0fc830c"), looks := true }, kinds := [], alts := [], laidByText := true, laidKinds := [.data, .data, .data, .data, .sentinel, .sentinel, .data, .data, .pinned], laidTests := true, laidLooks := .later }
def ScriptNumbersUptoCardSaid : Prop := Claim7.holds Tryd.pinned (.plain (OpenSpec.upto scriptNumbersSpec)) scriptNumbersUptoCard

/-- THE SECOND FORM's CARD OF 'ontimelaw51.ScriptFull'. -/
def scriptFullUptoCard : Claim7 := { stood := { row := scriptFullUptoRow, standIns := [], harness := (true, "9da461855e3b629ee0f2c3f228e5b50612c741d65e47ddb8b9b41bc7a0fc830c"), looks := true }, kinds := [], alts := [], laidByText := true, laidKinds := [.data, .data, .data, .data, .sentinel, .sentinel, .data, .data, .pinned], laidTests := true, laidLooks := .later }
def ScriptFullUptoCardSaid : Prop := Claim7.holds Tryd.pinned (.plain (OpenSpec.upto scriptFullSpec)) scriptFullUptoCard
end Rows
end Go.Proofs.YtpdijhplelpmhaaDoor
