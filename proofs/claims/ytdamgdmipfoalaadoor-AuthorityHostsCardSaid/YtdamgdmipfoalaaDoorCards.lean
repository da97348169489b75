/-
  DERIVED. GIVEN WITH THE SEED: THE CARDS: each row of YtdamgdmipfoalaaDoorRows.lean that lists a variable, with what it lists TIED to the program's text (the seventh form; the later family's looks); each row that meets fmt, with fmt's text TOLD by the authors' own Lean function (tested against real Go, not proved from fmt's source: count such statements apart). THE CARD IS WHAT COUNTS. Prove the row's statement (the work); the ties are given (YtdamgdmipfoalaaDoorTie.lean); close each card by the builder's one call (the guide's Derived/Test/ToyasCard.lean, 'card_holds'). Laid BY PROGRAM, IN A SANDBOX (cutbox-door.mjs). By AI agents, Wed Nov 11 2026. No macro, syntax, notation, axiom, sorry.
-/
import Derived.Test.YtdamgdmipfoalaaDoorRows
import GoSem.ClaimSeven
namespace Go.Proofs.YtdamgdmipfoalaaDoor
namespace Rows

/-- THE TIED CARD OF 'hagioscopelaw13.AuthorityBack'. -/
def authorityBackCard : Claim7 := { stood := { row := authorityBackRow, standIns := [], harness := (true, "efc3781c87a91c2acfc75f16437c01de675bdfd8ed3cff058b325341e5a78bf8"), looks := true }, kinds := [], alts := [], laidByText := true, laidKinds := [.data, .data, .data, .data, .sentinel, .sentinel, .widerDeep, .pinned], laidTests := true, laidLooks := .later }
def AuthorityBackCardSaid : Prop := Claim7.holds Tryd.pinned (.plain (OpenSpec.ofChange authorityBackSpec)) authorityBackCard

/-- THE TIED CARD OF 'hagioscopelaw13.AuthorityPorts'. -/
def authorityPortsCard : Claim7 := { stood := { row := authorityPortsRow, standIns := [], harness := (true, "efc3781c87a91c2acfc75f16437c01de675bdfd8ed3cff058b325341e5a78bf8"), looks := true }, kinds := [], alts := [], laidByText := true, laidKinds := [.data, .data, .data, .data, .sentinel, .sentinel, .widerDeep, .pinned], laidTests := true, laidLooks := .later }
def AuthorityPortsCardSaid : Prop := Claim7.holds Tryd.pinned (.plain (OpenSpec.ofChange authorityPortsSpec)) authorityPortsCard

/-- THE TIED CARD OF 'hagioscopelaw13.AuthorityHosts'. -/
def authorityHostsCard : Claim7 := { stood := { row := authorityHostsRow, standIns := [], harness := (true, "efc3781c87a91c2acfc75f16437c01de675bdfd8ed3cff058b325341e5a78bf8"), looks := true }, kinds := [], alts := [], laidByText := true, laidKinds := [.data, .data, .data, .data, .sentinel, .sentinel, .widerDeep, .pinned], laidTests := true, laidLooks := .later }
def AuthorityHostsCardSaid : Prop := Claim7.holds Tryd.pinned (.plain (OpenSpec.ofChange authorityHostsSpec)) authorityHostsCard

/-- THE TIED CARD OF 'hagioscopelaw11.ReqlineLimits'. -/
def reqlineLimitsCard : Claim7 := { stood := { row := reqlineLimitsRow, standIns := [], harness := (true, "efc3781c87a91c2acfc75f16437c01de675bdfd8ed3cff058b325341e5a78bf8"), looks := true }, kinds := [], alts := [], laidByText := true, laidKinds := [.data, .pinned], laidTests := true, laidLooks := .later }
def ReqlineLimitsCardSaid : Prop := Claim7.holds Tryd.pinned (.plain (OpenSpec.ofChange reqlineLimitsSpec)) reqlineLimitsCard

/-- THE SECOND FORM's CARD OF 'hagioscopelaw13.AuthorityBack'. -/
def authorityBackUptoCard : Claim7 := { stood := { row := authorityBackUptoRow, standIns := [], harness := (true, "efc3781c87a91c2acfc75f16437c01de675bdfd8ed3cff058b325341e5a78bf8"), looks := true }, kinds := [], alts := [], laidByText := true, laidKinds := [.data, .data, .data, .data, .sentinel, .sentinel, .widerDeep, .pinned], laidTests := true, laidLooks := .later }
def AuthorityBackUptoCardSaid : Prop := Claim7.holds Tryd.pinned (.plain (OpenSpec.upto authorityBackSpec)) authorityBackUptoCard

/-- THE SECOND FORM's CARD OF 'hagioscopelaw13.AuthorityPorts'. -/
def authorityPortsUptoCard : Claim7 := { stood := { row := authorityPortsUptoRow, standIns := [], harness := (true, "efc3781c87a91c2acfc75f16437c01de675bdfd8ed3cff058b325341e5a78bf8"), looks := true }, kinds := [], alts := [], laidByText := true, laidKinds := [.data, .data, .data, .data, .sentinel, .sentinel, .widerDeep, .pinned], laidTests := true, laidLooks := .later }
def AuthorityPortsUptoCardSaid : Prop := Claim7.holds Tryd.pinned (.plain (OpenSpec.upto authorityPortsSpec)) authorityPortsUptoCard

/-- THE SECOND FORM's CARD OF 'hagioscopelaw13.AuthorityHosts'. -/
def authorityHostsUptoCard : Claim7 := { stood := { row := authorityHostsUptoRow, standIns := [], harness := (true, "efc3781c87a91c2acfc75f16437c01de675bdfd8ed3cff058b325341e5a78bf8"), looks := true }, kinds := [], alts := [], laidByText := true, laidKinds := [.data, .data, .data, .data, .sentinel, .sentinel, .widerDeep, .pinned], laidTests := true, laidLooks := .later }
def AuthorityHostsUptoCardSaid : Prop := Claim7.holds Tryd.pinned (.plain (OpenSpec.upto authorityHostsSpec)) authorityHostsUptoCard

/-- THE SECOND FORM's CARD OF 'hagioscopelaw11.ReqlineLimits'. -/
def reqlineLimitsUptoCard : Claim7 := { stood := { row := reqlineLimitsUptoRow, standIns := [], harness := (true, "efc3781c87a91c2acfc75f16437c01de675bdfd8ed3cff058b325341e5a78bf8"), looks := true }, kinds := [], alts := [], laidByText := true, laidKinds := [.data, .pinned], laidTests := true, laidLooks := .later }
def ReqlineLimitsUptoCardSaid : Prop := Claim7.holds Tryd.pinned (.plain (OpenSpec.upto reqlineLimitsSpec)) reqlineLimitsUptoCard
end Rows
end Go.Proofs.YtdamgdmipfoalaaDoor
