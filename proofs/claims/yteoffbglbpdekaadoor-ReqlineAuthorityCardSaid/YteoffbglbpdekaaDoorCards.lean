/-
  DERIVED. GIVEN WITH THE SEED: THE CARDS: each row of YteoffbglbpdekaaDoorRows.lean that lists a variable, with what it lists TIED to the program's text (the seventh form; the later family's looks); each row that meets fmt, with fmt's text TOLD by the authors' own Lean function (tested against real Go, not proved from fmt's source: count such statements apart). THE CARD IS WHAT COUNTS. Prove the row's statement (the work); the ties are given (YteoffbglbpdekaaDoorTie.lean); close each card by the builder's one call (the guide's Derived/Test/ToyasCard.lean, 'card_holds'). Laid BY PROGRAM, IN A SANDBOX (cutbox-door.mjs). By AI agents, Wed Nov 11 2026. No macro, syntax, notation, axiom, sorry.
-/
import Derived.Test.YteoffbglbpdekaaDoorRows
import GoSem.ClaimSeven
namespace Go.Proofs.YteoffbglbpdekaaDoor
namespace Rows

/-- THE TIED CARD OF 'hagioscopelaw12.FieldParses'. -/
def fieldParsesCard : Claim7 := { stood := { row := fieldParsesRow, standIns := [], harness := (true, "87abb2d9fd4f3367af4c97d5686bf7a699d19abf2b4db1559ee3b128bc0a6c91"), looks := true }, kinds := [], alts := [], laidByText := true, laidKinds := [.pinned, .data], laidTests := true, laidLooks := .later }
def FieldParsesCardSaid : Prop := Claim7.holds Tryd.pinned (.plain (OpenSpec.ofChange fieldParsesSpec)) fieldParsesCard

/-- THE TIED CARD OF 'hagioscopelaw12.FieldTells'. -/
def fieldTellsCard : Claim7 := { stood := { row := fieldTellsRow, standIns := [], harness := (true, "87abb2d9fd4f3367af4c97d5686bf7a699d19abf2b4db1559ee3b128bc0a6c91"), looks := true }, kinds := [], alts := [], laidByText := true, laidKinds := [.pinned, .data], laidTests := true, laidLooks := .later }
def FieldTellsCardSaid : Prop := Claim7.holds Tryd.pinned (.plain (OpenSpec.ofChange fieldTellsSpec)) fieldTellsCard

/-- THE TIED CARD OF 'hagioscopelaw12.FieldBack'. -/
def fieldBackCard : Claim7 := { stood := { row := fieldBackRow, standIns := [], harness := (true, "87abb2d9fd4f3367af4c97d5686bf7a699d19abf2b4db1559ee3b128bc0a6c91"), looks := true }, kinds := [], alts := [], laidByText := true, laidKinds := [.pinned, .data], laidTests := true, laidLooks := .later }
def FieldBackCardSaid : Prop := Claim7.holds Tryd.pinned (.plain (OpenSpec.ofChange fieldBackSpec)) fieldBackCard

/-- THE TIED CARD OF 'hagioscopelaw12.FieldBlanks'. -/
def fieldBlanksCard : Claim7 := { stood := { row := fieldBlanksRow, standIns := [], harness := (true, "87abb2d9fd4f3367af4c97d5686bf7a699d19abf2b4db1559ee3b128bc0a6c91"), looks := true }, kinds := [], alts := [], laidByText := true, laidKinds := [.pinned, .data], laidTests := true, laidLooks := .later }
def FieldBlanksCardSaid : Prop := Claim7.holds Tryd.pinned (.plain (OpenSpec.ofChange fieldBlanksSpec)) fieldBlanksCard

/-- THE TIED CARD OF 'hagioscopelaw12.FieldFinds'. -/
def fieldFindsCard : Claim7 := { stood := { row := fieldFindsRow, standIns := [], harness := (true, "87abb2d9fd4f3367af4c97d5686bf7a699d19abf2b4db1559ee3b128bc0a6c91"), looks := true }, kinds := [], alts := [], laidByText := true, laidKinds := [.pinned, .data], laidTests := true, laidLooks := .later }
def FieldFindsCardSaid : Prop := Claim7.holds Tryd.pinned (.plain (OpenSpec.ofChange fieldFindsSpec)) fieldFindsCard

/-- THE TIED CARD OF 'hagioscopelaw11.ReqlineTells'. -/
def reqlineTellsCard : Claim7 := { stood := { row := reqlineTellsRow, standIns := [], harness := (true, "87abb2d9fd4f3367af4c97d5686bf7a699d19abf2b4db1559ee3b128bc0a6c91"), looks := true }, kinds := [], alts := [], laidByText := true, laidKinds := [.pinned, .data], laidTests := true, laidLooks := .later }
def ReqlineTellsCardSaid : Prop := Claim7.holds Tryd.pinned (.plain (OpenSpec.ofChange reqlineTellsSpec)) reqlineTellsCard

/-- THE TIED CARD OF 'hagioscopelaw11.ReqlineBack'. -/
def reqlineBackCard : Claim7 := { stood := { row := reqlineBackRow, standIns := [], harness := (true, "87abb2d9fd4f3367af4c97d5686bf7a699d19abf2b4db1559ee3b128bc0a6c91"), looks := true }, kinds := [], alts := [], laidByText := true, laidKinds := [.pinned, .data], laidTests := true, laidLooks := .later }
def ReqlineBackCardSaid : Prop := Claim7.holds Tryd.pinned (.plain (OpenSpec.ofChange reqlineBackSpec)) reqlineBackCard

/-- THE TIED CARD OF 'hagioscopelaw11.ReqlineLimits'. -/
def reqlineLimitsCard : Claim7 := { stood := { row := reqlineLimitsRow, standIns := [], harness := (true, "87abb2d9fd4f3367af4c97d5686bf7a699d19abf2b4db1559ee3b128bc0a6c91"), looks := true }, kinds := [], alts := [], laidByText := true, laidKinds := [.pinned, .data], laidTests := true, laidLooks := .later }
def ReqlineLimitsCardSaid : Prop := Claim7.holds Tryd.pinned (.plain (OpenSpec.ofChange reqlineLimitsSpec)) reqlineLimitsCard

/-- THE TIED CARD OF 'hagioscopelaw11.ReqlineAuthority'. -/
def reqlineAuthorityCard : Claim7 := { stood := { row := reqlineAuthorityRow, standIns := [], harness := (true, "87abb2d9fd4f3367af4c97d5686bf7a699d19abf2b4db1559ee3b128bc0a6c91"), looks := true }, kinds := [], alts := [], laidByText := true, laidKinds := [.pinned, .data], laidTests := true, laidLooks := .later }
def ReqlineAuthorityCardSaid : Prop := Claim7.holds Tryd.pinned (.plain (OpenSpec.ofChange reqlineAuthoritySpec)) reqlineAuthorityCard

/-- THE TIED CARD OF 'hagioscopelaw02.AsciiTells'. -/
def asciiTellsCard : Claim7 := { stood := { row := asciiTellsRow, standIns := [], harness := (true, "87abb2d9fd4f3367af4c97d5686bf7a699d19abf2b4db1559ee3b128bc0a6c91"), looks := true }, kinds := [], alts := [], laidByText := true, laidKinds := [.sentinel, .sentinel, .data, .data, .data, .pinned, .data], laidTests := true, laidLooks := .later }
def AsciiTellsCardSaid : Prop := Claim7.holds Tryd.pinned (.plain (OpenSpec.ofChange asciiTellsSpec)) asciiTellsCard

/-- THE TIED CARD OF 'hagioscopelaw02.AsciiNumbers'. -/
def asciiNumbersCard : Claim7 := { stood := { row := asciiNumbersRow, standIns := [], harness := (true, "87abb2d9fd4f3367af4c97d5686bf7a699d19abf2b4db1559ee3b128bc0a6c91"), looks := true }, kinds := [], alts := [], laidByText := true, laidKinds := [.sentinel, .sentinel, .data, .data, .data, .pinned, .data], laidTests := true, laidLooks := .later }
def AsciiNumbersCardSaid : Prop := Claim7.holds Tryd.pinned (.plain (OpenSpec.ofChange asciiNumbersSpec)) asciiNumbersCard

/-- THE TIED CARD OF 'hagioscopelaw02.AsciiBack'. -/
def asciiBackCard : Claim7 := { stood := { row := asciiBackRow, standIns := [], harness := (true, "87abb2d9fd4f3367af4c97d5686bf7a699d19abf2b4db1559ee3b128bc0a6c91"), looks := true }, kinds := [], alts := [], laidByText := true, laidKinds := [.sentinel, .sentinel, .data, .data, .data, .pinned, .data], laidTests := true, laidLooks := .later }
def AsciiBackCardSaid : Prop := Claim7.holds Tryd.pinned (.plain (OpenSpec.ofChange asciiBackSpec)) asciiBackCard

/-- THE TIED CARD OF 'hagioscopelaw02.AsciiTokens'. -/
def asciiTokensCard : Claim7 := { stood := { row := asciiTokensRow, standIns := [], harness := (true, "87abb2d9fd4f3367af4c97d5686bf7a699d19abf2b4db1559ee3b128bc0a6c91"), looks := true }, kinds := [], alts := [], laidByText := true, laidKinds := [.sentinel, .sentinel, .data, .data, .data, .pinned, .data], laidTests := true, laidLooks := .later }
def AsciiTokensCardSaid : Prop := Claim7.holds Tryd.pinned (.plain (OpenSpec.ofChange asciiTokensSpec)) asciiTokensCard

/-- THE TIED CARD OF 'hagioscopelaw02.AsciiTrims'. -/
def asciiTrimsCard : Claim7 := { stood := { row := asciiTrimsRow, standIns := [], harness := (true, "87abb2d9fd4f3367af4c97d5686bf7a699d19abf2b4db1559ee3b128bc0a6c91"), looks := true }, kinds := [], alts := [], laidByText := true, laidKinds := [.sentinel, .sentinel, .data, .data, .data, .pinned, .data], laidTests := true, laidLooks := .later }
def AsciiTrimsCardSaid : Prop := Claim7.holds Tryd.pinned (.plain (OpenSpec.ofChange asciiTrimsSpec)) asciiTrimsCard

/-- THE TIED CARD OF 'hagioscopelaw02.AsciiHex'. -/
def asciiHexCard : Claim7 := { stood := { row := asciiHexRow, standIns := [], harness := (true, "87abb2d9fd4f3367af4c97d5686bf7a699d19abf2b4db1559ee3b128bc0a6c91"), looks := true }, kinds := [], alts := [], laidByText := true, laidKinds := [.sentinel, .sentinel, .data, .data, .data, .pinned, .data], laidTests := true, laidLooks := .later }
def AsciiHexCardSaid : Prop := Claim7.holds Tryd.pinned (.plain (OpenSpec.ofChange asciiHexSpec)) asciiHexCard

/-- THE TIED CARD OF 'hagioscopelaw22.AnswerPage'. -/
def answerPageCard : Claim7 := { stood := { row := answerPageRow, standIns := [], harness := (true, "87abb2d9fd4f3367af4c97d5686bf7a699d19abf2b4db1559ee3b128bc0a6c91"), looks := true }, kinds := [], alts := [], laidByText := true, laidKinds := [.data, .data, .data, .pinned, .data], laidTests := true, laidLooks := .later }
def AnswerPageCardSaid : Prop := Claim7.holds Tryd.pinned (.plain (OpenSpec.ofChange answerPageSpec)) answerPageCard

/-- THE SECOND FORM's CARD OF 'hagioscopelaw12.FieldParses'. -/
def fieldParsesUptoCard : Claim7 := { stood := { row := fieldParsesUptoRow, standIns := [], harness := (true, "87abb2d9fd4f3367af4c97d5686bf7a699d19abf2b4db1559ee3b128bc0a6c91"), looks := true }, kinds := [], alts := [], laidByText := true, laidKinds := [.pinned, .data], laidTests := true, laidLooks := .later }
def FieldParsesUptoCardSaid : Prop := Claim7.holds Tryd.pinned (.plain (OpenSpec.upto fieldParsesSpec)) fieldParsesUptoCard

/-- THE SECOND FORM's CARD OF 'hagioscopelaw12.FieldTells'. -/
def fieldTellsUptoCard : Claim7 := { stood := { row := fieldTellsUptoRow, standIns := [], harness := (true, "87abb2d9fd4f3367af4c97d5686bf7a699d19abf2b4db1559ee3b128bc0a6c91"), looks := true }, kinds := [], alts := [], laidByText := true, laidKinds := [.pinned, .data], laidTests := true, laidLooks := .later }
def FieldTellsUptoCardSaid : Prop := Claim7.holds Tryd.pinned (.plain (OpenSpec.upto fieldTellsSpec)) fieldTellsUptoCard

/-- THE SECOND FORM's CARD OF 'hagioscopelaw12.FieldBack'. -/
def fieldBackUptoCard : Claim7 := { stood := { row := fieldBackUptoRow, standIns := [], harness := (true, "87abb2d9fd4f3367af4c97d5686bf7a699d19abf2b4db1559ee3b128bc0a6c91"), looks := true }, kinds := [], alts := [], laidByText := true, laidKinds := [.pinned, .data], laidTests := true, laidLooks := .later }
def FieldBackUptoCardSaid : Prop := Claim7.holds Tryd.pinned (.plain (OpenSpec.upto fieldBackSpec)) fieldBackUptoCard

/-- THE SECOND FORM's CARD OF 'hagioscopelaw12.FieldBlanks'. -/
def fieldBlanksUptoCard : Claim7 := { stood := { row := fieldBlanksUptoRow, standIns := [], harness := (true, "87abb2d9fd4f3367af4c97d5686bf7a699d19abf2b4db1559ee3b128bc0a6c91"), looks := true }, kinds := [], alts := [], laidByText := true, laidKinds := [.pinned, .data], laidTests := true, laidLooks := .later }
def FieldBlanksUptoCardSaid : Prop := Claim7.holds Tryd.pinned (.plain (OpenSpec.upto fieldBlanksSpec)) fieldBlanksUptoCard

/-- THE SECOND FORM's CARD OF 'hagioscopelaw12.FieldFinds'. -/
def fieldFindsUptoCard : Claim7 := { stood := { row := fieldFindsUptoRow, standIns := [], harness := (true, "87abb2d9fd4f3367af4c97d5686bf7a699d19abf2b4db1559ee3b128bc0a6c91"), looks := true }, kinds := [], alts := [], laidByText := true, laidKinds := [.pinned, .data], laidTests := true, laidLooks := .later }
def FieldFindsUptoCardSaid : Prop := Claim7.holds Tryd.pinned (.plain (OpenSpec.upto fieldFindsSpec)) fieldFindsUptoCard

/-- THE SECOND FORM's CARD OF 'hagioscopelaw11.ReqlineTells'. -/
def reqlineTellsUptoCard : Claim7 := { stood := { row := reqlineTellsUptoRow, standIns := [], harness := (true, "87abb2d9fd4f3367af4c97d5686bf7a699d19abf2b4db1559ee3b128bc0a6c91"), looks := true }, kinds := [], alts := [], laidByText := true, laidKinds := [.pinned, .data], laidTests := true, laidLooks := .later }
def ReqlineTellsUptoCardSaid : Prop := Claim7.holds Tryd.pinned (.plain (OpenSpec.upto reqlineTellsSpec)) reqlineTellsUptoCard

/-- THE SECOND FORM's CARD OF 'hagioscopelaw11.ReqlineBack'. -/
def reqlineBackUptoCard : Claim7 := { stood := { row := reqlineBackUptoRow, standIns := [], harness := (true, "87abb2d9fd4f3367af4c97d5686bf7a699d19abf2b4db1559ee3b128bc0a6c91"), looks := true }, kinds := [], alts := [], laidByText := true, laidKinds := [.pinned, .data], laidTests := true, laidLooks := .later }
def ReqlineBackUptoCardSaid : Prop := Claim7.holds Tryd.pinned (.plain (OpenSpec.upto reqlineBackSpec)) reqlineBackUptoCard

/-- THE SECOND FORM's CARD OF 'hagioscopelaw11.ReqlineLimits'. -/
def reqlineLimitsUptoCard : Claim7 := { stood := { row := reqlineLimitsUptoRow, standIns := [], harness := (true, "87abb2d9fd4f3367af4c97d5686bf7a699d19abf2b4db1559ee3b128bc0a6c91"), looks := true }, kinds := [], alts := [], laidByText := true, laidKinds := [.pinned, .data], laidTests := true, laidLooks := .later }
def ReqlineLimitsUptoCardSaid : Prop := Claim7.holds Tryd.pinned (.plain (OpenSpec.upto reqlineLimitsSpec)) reqlineLimitsUptoCard

/-- THE SECOND FORM's CARD OF 'hagioscopelaw11.ReqlineAuthority'. -/
def reqlineAuthorityUptoCard : Claim7 := { stood := { row := reqlineAuthorityUptoRow, standIns := [], harness := (true, "87abb2d9fd4f3367af4c97d5686bf7a699d19abf2b4db1559ee3b128bc0a6c91"), looks := true }, kinds := [], alts := [], laidByText := true, laidKinds := [.pinned, .data], laidTests := true, laidLooks := .later }
def ReqlineAuthorityUptoCardSaid : Prop := Claim7.holds Tryd.pinned (.plain (OpenSpec.upto reqlineAuthoritySpec)) reqlineAuthorityUptoCard

/-- THE SECOND FORM's CARD OF 'hagioscopelaw02.AsciiTells'. -/
def asciiTellsUptoCard : Claim7 := { stood := { row := asciiTellsUptoRow, standIns := [], harness := (true, "87abb2d9fd4f3367af4c97d5686bf7a699d19abf2b4db1559ee3b128bc0a6c91"), looks := true }, kinds := [], alts := [], laidByText := true, laidKinds := [.sentinel, .sentinel, .data, .data, .data, .pinned, .data], laidTests := true, laidLooks := .later }
def AsciiTellsUptoCardSaid : Prop := Claim7.holds Tryd.pinned (.plain (OpenSpec.upto asciiTellsSpec)) asciiTellsUptoCard

/-- THE SECOND FORM's CARD OF 'hagioscopelaw02.AsciiNumbers'. -/
def asciiNumbersUptoCard : Claim7 := { stood := { row := asciiNumbersUptoRow, standIns := [], harness := (true, "87abb2d9fd4f3367af4c97d5686bf7a699d19abf2b4db1559ee3b128bc0a6c91"), looks := true }, kinds := [], alts := [], laidByText := true, laidKinds := [.sentinel, .sentinel, .data, .data, .data, .pinned, .data], laidTests := true, laidLooks := .later }
def AsciiNumbersUptoCardSaid : Prop := Claim7.holds Tryd.pinned (.plain (OpenSpec.upto asciiNumbersSpec)) asciiNumbersUptoCard

/-- THE SECOND FORM's CARD OF 'hagioscopelaw02.AsciiBack'. -/
def asciiBackUptoCard : Claim7 := { stood := { row := asciiBackUptoRow, standIns := [], harness := (true, "87abb2d9fd4f3367af4c97d5686bf7a699d19abf2b4db1559ee3b128bc0a6c91"), looks := true }, kinds := [], alts := [], laidByText := true, laidKinds := [.sentinel, .sentinel, .data, .data, .data, .pinned, .data], laidTests := true, laidLooks := .later }
def AsciiBackUptoCardSaid : Prop := Claim7.holds Tryd.pinned (.plain (OpenSpec.upto asciiBackSpec)) asciiBackUptoCard

/-- THE SECOND FORM's CARD OF 'hagioscopelaw02.AsciiTokens'. -/
def asciiTokensUptoCard : Claim7 := { stood := { row := asciiTokensUptoRow, standIns := [], harness := (true, "87abb2d9fd4f3367af4c97d5686bf7a699d19abf2b4db1559ee3b128bc0a6c91"), looks := true }, kinds := [], alts := [], laidByText := true, laidKinds := [.sentinel, .sentinel, .data, .data, .data, .pinned, .data], laidTests := true, laidLooks := .later }
def AsciiTokensUptoCardSaid : Prop := Claim7.holds Tryd.pinned (.plain (OpenSpec.upto asciiTokensSpec)) asciiTokensUptoCard

/-- THE SECOND FORM's CARD OF 'hagioscopelaw02.AsciiTrims'. -/
def asciiTrimsUptoCard : Claim7 := { stood := { row := asciiTrimsUptoRow, standIns := [], harness := (true, "87abb2d9fd4f3367af4c97d5686bf7a699d19abf2b4db1559ee3b128bc0a6c91"), looks := true }, kinds := [], alts := [], laidByText := true, laidKinds := [.sentinel, .sentinel, .data, .data, .data, .pinned, .data], laidTests := true, laidLooks := .later }
def AsciiTrimsUptoCardSaid : Prop := Claim7.holds Tryd.pinned (.plain (OpenSpec.upto asciiTrimsSpec)) asciiTrimsUptoCard

/-- THE SECOND FORM's CARD OF 'hagioscopelaw02.AsciiHex'. -/
def asciiHexUptoCard : Claim7 := { stood := { row := asciiHexUptoRow, standIns := [], harness := (true, "87abb2d9fd4f3367af4c97d5686bf7a699d19abf2b4db1559ee3b128bc0a6c91"), looks := true }, kinds := [], alts := [], laidByText := true, laidKinds := [.sentinel, .sentinel, .data, .data, .data, .pinned, .data], laidTests := true, laidLooks := .later }
def AsciiHexUptoCardSaid : Prop := Claim7.holds Tryd.pinned (.plain (OpenSpec.upto asciiHexSpec)) asciiHexUptoCard

/-- THE SECOND FORM's CARD OF 'hagioscopelaw22.AnswerPage'. -/
def answerPageUptoCard : Claim7 := { stood := { row := answerPageUptoRow, standIns := [], harness := (true, "87abb2d9fd4f3367af4c97d5686bf7a699d19abf2b4db1559ee3b128bc0a6c91"), looks := true }, kinds := [], alts := [], laidByText := true, laidKinds := [.data, .data, .data, .pinned, .data], laidTests := true, laidLooks := .later }
def AnswerPageUptoCardSaid : Prop := Claim7.holds Tryd.pinned (.plain (OpenSpec.upto answerPageSpec)) answerPageUptoCard
end Rows
end Go.Proofs.YteoffbglbpdekaaDoor
