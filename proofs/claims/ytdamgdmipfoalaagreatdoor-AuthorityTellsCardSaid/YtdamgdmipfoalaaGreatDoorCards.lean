/-
  DERIVED. GIVEN WITH THE SEED: THE CARDS: each row of YtdamgdmipfoalaaGreatDoorRows.lean that lists a variable, with what it lists TIED to the program's text (the seventh form; the later family's looks); each row that meets fmt, with fmt's text TOLD by the authors' own Lean function (tested against real Go, not proved from fmt's source: count such statements apart). THE CARD IS WHAT COUNTS. Prove the row's statement (the work); the ties are given (YtdamgdmipfoalaaGreatDoorTie.lean); close each card by the builder's one call (the guide's Derived/Test/ToyasCard.lean, 'card_holds'). Laid BY PROGRAM, IN A SANDBOX (cutbox-door.mjs). By AI agents, Wed Nov 11 2026. No macro, syntax, notation, axiom, sorry.
-/
import Derived.Test.YtdamgdmipfoalaaGreatDoorRows
import GoSem.ClaimSeven
namespace Go.Proofs.YtdamgdmipfoalaaGreatDoor
namespace Rows

/-- THE TIED CARD OF 'hagioscopelaw13.AuthorityParses'. -/
def authorityParsesCard : Claim7 := { stood := { row := authorityParsesRow, standIns := [], harness := (true, "0adb7f35584105bba3450d3c20ea03ec016c4cb5780d141a568651b3326b5f73"), looks := true }, kinds := [], alts := [], laidByText := true, laidKinds := [.data, .data, .data, .data, .sentinel, .sentinel, .widerDeep, .pinned], laidTests := true, laidLooks := .later }
def AuthorityParsesCardSaid : Prop := Claim7.holds Tryz.pinned (.plain (OpenSpec.ofChange authorityParsesSpec)) authorityParsesCard

/-- THE TIED CARD OF 'hagioscopelaw13.AuthorityTells'. -/
def authorityTellsCard : Claim7 := { stood := { row := authorityTellsRow, standIns := [], harness := (true, "0adb7f35584105bba3450d3c20ea03ec016c4cb5780d141a568651b3326b5f73"), looks := true }, kinds := [], alts := [], laidByText := true, laidKinds := [.data, .data, .data, .data, .sentinel, .sentinel, .widerDeep, .pinned], laidTests := true, laidLooks := .later }
def AuthorityTellsCardSaid : Prop := Claim7.holds Tryz.pinned (.plain (OpenSpec.ofChange authorityTellsSpec)) authorityTellsCard

/-- THE SECOND FORM's CARD OF 'hagioscopelaw13.AuthorityParses'. -/
def authorityParsesUptoCard : Claim7 := { stood := { row := authorityParsesUptoRow, standIns := [], harness := (true, "0adb7f35584105bba3450d3c20ea03ec016c4cb5780d141a568651b3326b5f73"), looks := true }, kinds := [], alts := [], laidByText := true, laidKinds := [.data, .data, .data, .data, .sentinel, .sentinel, .widerDeep, .pinned], laidTests := true, laidLooks := .later }
def AuthorityParsesUptoCardSaid : Prop := Claim7.holds Tryz.pinned (.plain (OpenSpec.upto authorityParsesSpec)) authorityParsesUptoCard

/-- THE SECOND FORM's CARD OF 'hagioscopelaw13.AuthorityTells'. -/
def authorityTellsUptoCard : Claim7 := { stood := { row := authorityTellsUptoRow, standIns := [], harness := (true, "0adb7f35584105bba3450d3c20ea03ec016c4cb5780d141a568651b3326b5f73"), looks := true }, kinds := [], alts := [], laidByText := true, laidKinds := [.data, .data, .data, .data, .sentinel, .sentinel, .widerDeep, .pinned], laidTests := true, laidLooks := .later }
def AuthorityTellsUptoCardSaid : Prop := Claim7.holds Tryz.pinned (.plain (OpenSpec.upto authorityTellsSpec)) authorityTellsUptoCard
end Rows
end Go.Proofs.YtdamgdmipfoalaaGreatDoor
