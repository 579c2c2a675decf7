/-
  DERIVED. GIVEN WITH THE SEED: THE CARDS: each row of YtllilhgdnepipaaGreatDoorRows.lean that lists a variable, with what it lists TIED to the program's text (the seventh form; the later family's looks); each row that meets fmt, with fmt's text TOLD by the authors' own Lean function (tested against real Go, not proved from fmt's source: count such statements apart). THE CARD IS WHAT COUNTS. Prove the row's statement (the work); the ties are given (YtllilhgdnepipaaGreatDoorTie.lean); close each card by the builder's one call (the guide's Derived/Test/ToyasCard.lean, 'card_holds'). Laid BY PROGRAM, IN A SANDBOX (cutbox-door.mjs). By AI agents, Wed Nov 11 2026. No macro, syntax, notation, axiom, sorry.
-/
import Derived.Test.YtllilhgdnepipaaGreatDoorRows
import GoSem.ClaimSeven
namespace Go.Proofs.YtllilhgdnepipaaGreatDoor
namespace Rows

/-- THE TIED CARD OF 'haversacklaw07.VersionParses'. -/
def versionParsesCard : Claim7 := { stood := { row := versionParsesRow, standIns := [], harness := (true, "ec9ba74af96c62a25d16d24d514e175b22fedee2a51ec42bf4b89245ab5e3701"), looks := true }, kinds := [], alts := [], laidByText := true, laidKinds := [.data, .data, .data, .sentinel, .sentinel, .sentinel, .sentinel, .sentinel, .sentinel, .sentinel, .sentinel, .sentinel, .sentinel, .sentinel, .sentinel, .sentinel], laidTests := true, laidLooks := .later }
def VersionParsesCardSaid : Prop := Claim7.holds Tryz.pinned (.plain (OpenSpec.ofChange versionParsesSpec)) versionParsesCard

/-- THE TIED CARD OF 'haversacklaw09.SpecTexts'. -/
def specTextsCard : Claim7 := { stood := { row := specTextsRow, standIns := [], harness := (true, "ec9ba74af96c62a25d16d24d514e175b22fedee2a51ec42bf4b89245ab5e3701"), looks := true }, kinds := [], alts := [], laidByText := true, laidKinds := [.data, .sentinel, .sentinel, .sentinel, .sentinel, .sentinel, .sentinel, .pinned], laidTests := true, laidLooks := .later }
def SpecTextsCardSaid : Prop := Claim7.holds Tryz.pinned (.plain (OpenSpec.ofChange specTextsSpec)) specTextsCard

/-- THE TIED CARD OF 'haversacklaw09.SpecMatches'. -/
def specMatchesCard : Claim7 := { stood := { row := specMatchesRow, standIns := [], harness := (true, "ec9ba74af96c62a25d16d24d514e175b22fedee2a51ec42bf4b89245ab5e3701"), looks := true }, kinds := [], alts := [], laidByText := true, laidKinds := [.data, .sentinel, .sentinel, .sentinel, .sentinel, .sentinel, .sentinel, .pinned], laidTests := true, laidLooks := .later }
def SpecMatchesCardSaid : Prop := Claim7.holds Tryz.pinned (.plain (OpenSpec.ofChange specMatchesSpec)) specMatchesCard

/-- THE TIED CARD OF 'haversacklaw08.WantParses'. -/
def wantParsesCard : Claim7 := { stood := { row := wantParsesRow, standIns := [], harness := (true, "ec9ba74af96c62a25d16d24d514e175b22fedee2a51ec42bf4b89245ab5e3701"), looks := true }, kinds := [], alts := [], laidByText := true, laidKinds := [.data, .data, .data, .sentinel, .sentinel, .sentinel, .sentinel, .sentinel, .sentinel, .sentinel, .sentinel, .sentinel, .sentinel, .sentinel, .sentinel, .sentinel], laidTests := true, laidLooks := .later }
def WantParsesCardSaid : Prop := Claim7.holds Tryz.pinned (.plain (OpenSpec.ofChange wantParsesSpec)) wantParsesCard

/-- THE SECOND FORM's CARD OF 'haversacklaw07.VersionParses'. -/
def versionParsesUptoCard : Claim7 := { stood := { row := versionParsesUptoRow, standIns := [], harness := (true, "ec9ba74af96c62a25d16d24d514e175b22fedee2a51ec42bf4b89245ab5e3701"), looks := true }, kinds := [], alts := [], laidByText := true, laidKinds := [.data, .data, .data, .sentinel, .sentinel, .sentinel, .sentinel, .sentinel, .sentinel, .sentinel, .sentinel, .sentinel, .sentinel, .sentinel, .sentinel, .sentinel], laidTests := true, laidLooks := .later }
def VersionParsesUptoCardSaid : Prop := Claim7.holds Tryz.pinned (.plain (OpenSpec.upto versionParsesSpec)) versionParsesUptoCard

/-- THE SECOND FORM's CARD OF 'haversacklaw09.SpecTexts'. -/
def specTextsUptoCard : Claim7 := { stood := { row := specTextsUptoRow, standIns := [], harness := (true, "ec9ba74af96c62a25d16d24d514e175b22fedee2a51ec42bf4b89245ab5e3701"), looks := true }, kinds := [], alts := [], laidByText := true, laidKinds := [.data, .sentinel, .sentinel, .sentinel, .sentinel, .sentinel, .sentinel, .pinned], laidTests := true, laidLooks := .later }
def SpecTextsUptoCardSaid : Prop := Claim7.holds Tryz.pinned (.plain (OpenSpec.upto specTextsSpec)) specTextsUptoCard

/-- THE SECOND FORM's CARD OF 'haversacklaw09.SpecMatches'. -/
def specMatchesUptoCard : Claim7 := { stood := { row := specMatchesUptoRow, standIns := [], harness := (true, "ec9ba74af96c62a25d16d24d514e175b22fedee2a51ec42bf4b89245ab5e3701"), looks := true }, kinds := [], alts := [], laidByText := true, laidKinds := [.data, .sentinel, .sentinel, .sentinel, .sentinel, .sentinel, .sentinel, .pinned], laidTests := true, laidLooks := .later }
def SpecMatchesUptoCardSaid : Prop := Claim7.holds Tryz.pinned (.plain (OpenSpec.upto specMatchesSpec)) specMatchesUptoCard

/-- THE SECOND FORM's CARD OF 'haversacklaw08.WantParses'. -/
def wantParsesUptoCard : Claim7 := { stood := { row := wantParsesUptoRow, standIns := [], harness := (true, "ec9ba74af96c62a25d16d24d514e175b22fedee2a51ec42bf4b89245ab5e3701"), looks := true }, kinds := [], alts := [], laidByText := true, laidKinds := [.data, .data, .data, .sentinel, .sentinel, .sentinel, .sentinel, .sentinel, .sentinel, .sentinel, .sentinel, .sentinel, .sentinel, .sentinel, .sentinel, .sentinel], laidTests := true, laidLooks := .later }
def WantParsesUptoCardSaid : Prop := Claim7.holds Tryz.pinned (.plain (OpenSpec.upto wantParsesSpec)) wantParsesUptoCard
end Rows
end Go.Proofs.YtllilhgdnepipaaGreatDoor
