/-
  DERIVED. GIVEN WITH THE SEED: THE CARDS: each row of YtkpfkdcfakhmjaaDoorRows.lean that lists a variable, with what it lists TIED to the program's text (the seventh form; the later family's looks); each row that meets fmt, with fmt's text TOLD by the authors' own Lean function (tested against real Go, not proved from fmt's source: count such statements apart). THE CARD IS WHAT COUNTS. Prove the row's statement (the work); the ties are given (YtkpfkdcfakhmjaaDoorTie.lean); close each card by the builder's one call (the guide's Derived/Test/ToyasCard.lean, 'card_holds'). Laid BY PROGRAM, IN A SANDBOX (cutbox-door.mjs). By AI agents, Wed Nov 11 2026. No macro, syntax, notation, axiom, sorry.
-/
import Derived.Test.YtkpfkdcfakhmjaaDoorRows
import GoSem.ClaimSeven
namespace Go.Proofs.YtkpfkdcfakhmjaaDoor
namespace Rows

/-- THE TIED CARD OF 'hagioscopelaw22.AnswerTells'. -/
def answerTellsCard : Claim7 := { stood := { row := answerTellsRow, standIns := [], harness := (true, "9f45d9312be82203d4e6cd00e9d37ce4928406bd07d7b0669d8c7ba0b5862540"), looks := false }, kinds := [], alts := [], laidByText := true, laidKinds := [.data, .data, .data], laidTests := true, laidLooks := .later }
def AnswerTellsCardSaid : Prop := Claim7.holds Tryd.pinned (.plain (OpenSpec.ofChange answerTellsSpec)) answerTellsCard

/-- THE TIED CARD OF 'hagioscopelaw22.AnswerReads'. -/
def answerReadsCard : Claim7 := { stood := { row := answerReadsRow, standIns := [], harness := (true, "9f45d9312be82203d4e6cd00e9d37ce4928406bd07d7b0669d8c7ba0b5862540"), looks := false }, kinds := [], alts := [], laidByText := true, laidKinds := [.data, .data, .data], laidTests := true, laidLooks := .later }
def AnswerReadsCardSaid : Prop := Claim7.holds Tryd.pinned (.plain (OpenSpec.ofChange answerReadsSpec)) answerReadsCard

/-- THE TIED CARD OF 'hagioscopelaw22.AnswerBack'. -/
def answerBackCard : Claim7 := { stood := { row := answerBackRow, standIns := [], harness := (true, "9f45d9312be82203d4e6cd00e9d37ce4928406bd07d7b0669d8c7ba0b5862540"), looks := false }, kinds := [], alts := [], laidByText := true, laidKinds := [.data, .data, .data], laidTests := true, laidLooks := .later }
def AnswerBackCardSaid : Prop := Claim7.holds Tryd.pinned (.plain (OpenSpec.ofChange answerBackSpec)) answerBackCard

/-- THE TIED CARD OF 'hagioscopelaw22.AnswerWhy'. -/
def answerWhyCard : Claim7 := { stood := { row := answerWhyRow, standIns := [], harness := (true, "9f45d9312be82203d4e6cd00e9d37ce4928406bd07d7b0669d8c7ba0b5862540"), looks := false }, kinds := [], alts := [], laidByText := true, laidKinds := [.data, .data, .data], laidTests := true, laidLooks := .later }
def AnswerWhyCardSaid : Prop := Claim7.holds Tryd.pinned (.plain (OpenSpec.ofChange answerWhySpec)) answerWhyCard

/-- THE TIED CARD OF 'hagioscopelaw22.AnswerPage'. -/
def answerPageCard : Claim7 := { stood := { row := answerPageRow, standIns := [], harness := (true, "9f45d9312be82203d4e6cd00e9d37ce4928406bd07d7b0669d8c7ba0b5862540"), looks := false }, kinds := [], alts := [], laidByText := true, laidKinds := [.data, .data, .data, .data, .pinned], laidTests := true, laidLooks := .later }
def AnswerPageCardSaid : Prop := Claim7.holds Tryd.pinned (.plain (OpenSpec.ofChange answerPageSpec)) answerPageCard

/-- THE SECOND FORM's CARD OF 'hagioscopelaw22.AnswerTells'. -/
def answerTellsUptoCard : Claim7 := { stood := { row := answerTellsUptoRow, standIns := [], harness := (true, "9f45d9312be82203d4e6cd00e9d37ce4928406bd07d7b0669d8c7ba0b5862540"), looks := false }, kinds := [], alts := [], laidByText := true, laidKinds := [.data, .data, .data], laidTests := true, laidLooks := .later }
def AnswerTellsUptoCardSaid : Prop := Claim7.holds Tryd.pinned (.plain (OpenSpec.upto answerTellsSpec)) answerTellsUptoCard

/-- THE SECOND FORM's CARD OF 'hagioscopelaw22.AnswerReads'. -/
def answerReadsUptoCard : Claim7 := { stood := { row := answerReadsUptoRow, standIns := [], harness := (true, "9f45d9312be82203d4e6cd00e9d37ce4928406bd07d7b0669d8c7ba0b5862540"), looks := false }, kinds := [], alts := [], laidByText := true, laidKinds := [.data, .data, .data], laidTests := true, laidLooks := .later }
def AnswerReadsUptoCardSaid : Prop := Claim7.holds Tryd.pinned (.plain (OpenSpec.upto answerReadsSpec)) answerReadsUptoCard

/-- THE SECOND FORM's CARD OF 'hagioscopelaw22.AnswerBack'. -/
def answerBackUptoCard : Claim7 := { stood := { row := answerBackUptoRow, standIns := [], harness := (true, "9f45d9312be82203d4e6cd00e9d37ce4928406bd07d7b0669d8c7ba0b5862540"), looks := false }, kinds := [], alts := [], laidByText := true, laidKinds := [.data, .data, .data], laidTests := true, laidLooks := .later }
def AnswerBackUptoCardSaid : Prop := Claim7.holds Tryd.pinned (.plain (OpenSpec.upto answerBackSpec)) answerBackUptoCard

/-- THE SECOND FORM's CARD OF 'hagioscopelaw22.AnswerWhy'. -/
def answerWhyUptoCard : Claim7 := { stood := { row := answerWhyUptoRow, standIns := [], harness := (true, "9f45d9312be82203d4e6cd00e9d37ce4928406bd07d7b0669d8c7ba0b5862540"), looks := false }, kinds := [], alts := [], laidByText := true, laidKinds := [.data, .data, .data], laidTests := true, laidLooks := .later }
def AnswerWhyUptoCardSaid : Prop := Claim7.holds Tryd.pinned (.plain (OpenSpec.upto answerWhySpec)) answerWhyUptoCard

/-- THE SECOND FORM's CARD OF 'hagioscopelaw22.AnswerPage'. -/
def answerPageUptoCard : Claim7 := { stood := { row := answerPageUptoRow, standIns := [], harness := (true, "9f45d9312be82203d4e6cd00e9d37ce4928406bd07d7b0669d8c7ba0b5862540"), looks := false }, kinds := [], alts := [], laidByText := true, laidKinds := [.data, .data, .data, .data, .pinned], laidTests := true, laidLooks := .later }
def AnswerPageUptoCardSaid : Prop := Claim7.holds Tryd.pinned (.plain (OpenSpec.upto answerPageSpec)) answerPageUptoCard
end Rows
end Go.Proofs.YtkpfkdcfakhmjaaDoor
