/-
  NARROWER THAN 'FOR EVERY INPUT', by the rows' own cells (each row's printed sentence says how): FieldParses: laid · FieldTells: laid · FieldBack: laid · FieldBlanks: laid · FieldFinds: laid · ReqlineTells: laid · ReqlineBack: laid · ReqlineLimits: laid · ReqlineAuthority: laid · AsciiTells: laid · AsciiNumbers: laid · AsciiBack: laid · AsciiTokens: laid · AsciiTrims: laid · AsciiHex: laid · AnswerPage: laid.
  DERIVED. THE GIVEN ROWS OF THIS SEAT. 16 by the template 'for every input the law returns true; each argument reads behind the call as it read before'; 0 by the template 'total and deterministic' (their statements: YteoffbglbpdekaaDoorTotals.lean).
  GIVEN WITH THE SEED: the statements are not yours to turn. If you find one false, say at which input.
  Laid BY PROGRAM, IN A SANDBOX (cutbox-rows.mjs): the forced cells as the released guide's own fill.sh prints them over the translation cb471080062bb128… (all of the seat's roots in one cut). By AI agents, Wed Nov 11 2026. No macro, syntax, notation, axiom, sorry.
-/
import Derived.Test.YteoffbglbpdekaaDoorChecked
import GoSem.PinnedTables
import GoSem.Claim
import GoSem.ClaimJoined
import GoSem.ClaimMapViews
import Derived.JoinedTies
import Derived.KernelRfl
namespace Go.Proofs.YteoffbglbpdekaaDoor
/- THE CELL 'sum', in the pinned program and in every row, IS THE sha256 OF THE DUMP (.gsa) THAT YteoffbglbpdekaaDoorProg.lean LOADS. Nothing in Lean hashes anything: it is a label: what it is worth is what the hold of that sum in a sandbox is worth. -/
noncomputable def Tryd.pinned : Pinned := { name := "yteoffbglbpdekaadoor", sum := "cb471080062bb128de59993c04ad42dd154017f892e792e6cc33f5c9e5fc627c", checked := Tryd.checked }
namespace Rows
def none {H : Type} : Left H := { results := [], args := [] }

/- WHAT THE LISTED PACKAGE-LEVEL VARIABLES READ AS WHEN THE CALL BEGINS. Each datum BY PROGRAM (the guide's laid-datum.mjs) off the statement by which the dump's own 'gosem.cut.vars' lays the variable. In a bare row this is a premise. The card (YteoffbglbpdekaaDoorCards.lean) ties it to the program's text. -/
/-- One of Go's own tables, pinned by name: the form's constant. -/
def laid_unicode_utf8_first : DataW Unit := Go.Pinned.utf8First
def laid_unicode_utf8_acceptRanges {H : Type} : DataW H := .agg [.agg [.lit (.int .u8 128), .lit (.int .u8 191)], .agg [.lit (.int .u8 160), .lit (.int .u8 191)], .agg [.lit (.int .u8 128), .lit (.int .u8 159)], .agg [.lit (.int .u8 144), .lit (.int .u8 191)], .agg [.lit (.int .u8 128), .lit (.int .u8 143)], .agg [.lit (.int .u8 0), .lit (.int .u8 0)], .agg [.lit (.int .u8 0), .lit (.int .u8 0)], .agg [.lit (.int .u8 0), .lit (.int .u8 0)], .agg [.lit (.int .u8 0), .lit (.int .u8 0)], .agg [.lit (.int .u8 0), .lit (.int .u8 0)], .agg [.lit (.int .u8 0), .lit (.int .u8 0)], .agg [.lit (.int .u8 0), .lit (.int .u8 0)], .agg [.lit (.int .u8 0), .lit (.int .u8 0)], .agg [.lit (.int .u8 0), .lit (.int .u8 0)], .agg [.lit (.int .u8 0), .lit (.int .u8 0)], .agg [.lit (.int .u8 0), .lit (.int .u8 0)]]
def laid_strconv_ErrSyntax {H : Type} : DataW H := .iface "*errors.errorString" (.ptr (.agg [.lit (.string [105, 110, 118, 97, 108, 105, 100, 32, 115, 121, 110, 116, 97, 120])]))
def laid_strconv_ErrRange {H : Type} : DataW H := .iface "*errors.errorString" (.ptr (.agg [.lit (.string [118, 97, 108, 117, 101, 32, 111, 117, 116, 32, 111, 102, 32, 114, 97, 110, 103, 101])]))
def laid_internal_strconv_uint64pow10 {H : Type} : DataW H := .agg [.lit (.int .u64 1), .lit (.int .u64 10), .lit (.int .u64 100), .lit (.int .u64 1000), .lit (.int .u64 10000), .lit (.int .u64 100000), .lit (.int .u64 1000000), .lit (.int .u64 10000000), .lit (.int .u64 100000000), .lit (.int .u64 1000000000), .lit (.int .u64 10000000000), .lit (.int .u64 100000000000), .lit (.int .u64 1000000000000), .lit (.int .u64 10000000000000), .lit (.int .u64 100000000000000), .lit (.int .u64 1000000000000000), .lit (.int .u64 10000000000000000), .lit (.int .u64 100000000000000000), .lit (.int .u64 1000000000000000000), .lit (.int .u64 10000000000000000000)]
def laid_math_bits_deBruijn32tab {H : Type} : DataW H := .agg [.lit (.int .u8 0), .lit (.int .u8 1), .lit (.int .u8 28), .lit (.int .u8 2), .lit (.int .u8 29), .lit (.int .u8 14), .lit (.int .u8 24), .lit (.int .u8 3), .lit (.int .u8 30), .lit (.int .u8 22), .lit (.int .u8 20), .lit (.int .u8 15), .lit (.int .u8 25), .lit (.int .u8 17), .lit (.int .u8 4), .lit (.int .u8 8), .lit (.int .u8 31), .lit (.int .u8 27), .lit (.int .u8 13), .lit (.int .u8 23), .lit (.int .u8 21), .lit (.int .u8 19), .lit (.int .u8 16), .lit (.int .u8 7), .lit (.int .u8 26), .lit (.int .u8 12), .lit (.int .u8 18), .lit (.int .u8 6), .lit (.int .u8 11), .lit (.int .u8 5), .lit (.int .u8 10), .lit (.int .u8 9)]
def laid_math_bits_deBruijn64tab {H : Type} : DataW H := .agg [.lit (.int .u8 0), .lit (.int .u8 1), .lit (.int .u8 56), .lit (.int .u8 2), .lit (.int .u8 57), .lit (.int .u8 49), .lit (.int .u8 28), .lit (.int .u8 3), .lit (.int .u8 61), .lit (.int .u8 58), .lit (.int .u8 42), .lit (.int .u8 50), .lit (.int .u8 38), .lit (.int .u8 29), .lit (.int .u8 17), .lit (.int .u8 4), .lit (.int .u8 62), .lit (.int .u8 47), .lit (.int .u8 59), .lit (.int .u8 36), .lit (.int .u8 45), .lit (.int .u8 43), .lit (.int .u8 51), .lit (.int .u8 22), .lit (.int .u8 53), .lit (.int .u8 39), .lit (.int .u8 33), .lit (.int .u8 30), .lit (.int .u8 24), .lit (.int .u8 18), .lit (.int .u8 12), .lit (.int .u8 5), .lit (.int .u8 63), .lit (.int .u8 55), .lit (.int .u8 48), .lit (.int .u8 27), .lit (.int .u8 60), .lit (.int .u8 41), .lit (.int .u8 37), .lit (.int .u8 16), .lit (.int .u8 46), .lit (.int .u8 35), .lit (.int .u8 44), .lit (.int .u8 21), .lit (.int .u8 52), .lit (.int .u8 32), .lit (.int .u8 23), .lit (.int .u8 11), .lit (.int .u8 54), .lit (.int .u8 26), .lit (.int .u8 40), .lit (.int .u8 15), .lit (.int .u8 34), .lit (.int .u8 20), .lit (.int .u8 31), .lit (.int .u8 10), .lit (.int .u8 25), .lit (.int .u8 14), .lit (.int .u8 19), .lit (.int .u8 9), .lit (.int .u8 13), .lit (.int .u8 8), .lit (.int .u8 7), .lit (.int .u8 6)]

/-- 'hagioscopelaw12.FieldParses': WHATEVER THE INPUT: true; the input reads as it did. -/
def fieldParsesSpec : ChangeSpec := { name := "fieldParses", fn := fun _ => fun
  | [d] => { results := [.lit (.bool true)], args := [d] }
  | _ => none }
def fieldParsesRow : OpenClaim := { program := "yteoffbglbpdekaadoor", sum := "cb471080062bb128de59993c04ad42dd154017f892e792e6cc33f5c9e5fc627c", func := "hagioscope/hagioscopelaw12.FieldParses", spec := "fieldParses", inPlace := ["internal/bytealg.IndexByteString", "internal/bytealg.IndexString"], unfollowed := true, recurses := true, named := ["internal/bytealg.MaxLen", "unicode/utf8.first", "unicode/utf8.acceptRanges"], apart := false, laid := [("unicode/utf8.first", laid_unicode_utf8_first), ("unicode/utf8.acceptRanges", laid_unicode_utf8_acceptRanges)] }
def FieldParsesSaid : Prop := fieldParsesRow.holds Tryd.pinned (OpenSpec.ofChange fieldParsesSpec)

/-- ITS FALSE NEIGHBOUR: 'it returns false'. Refute it at one input. -/
def fieldParsesWrong : ChangeSpec := { name := "fieldParses", fn := fun _ => fun
  | [d] => { results := [.lit (.bool false)], args := [d] }
  | _ => none }
def FieldParsesWrongFalsely : Prop := fieldParsesRow.holds Tryd.pinned (OpenSpec.ofChange fieldParsesWrong)

/-- 'hagioscopelaw12.FieldTells': WHATEVER THE INPUT: true; the input reads as it did. -/
def fieldTellsSpec : ChangeSpec := { name := "fieldTells", fn := fun _ => fun
  | [d1, d2] => { results := [.lit (.bool true)], args := [d1, d2] }
  | _ => none }
def fieldTellsRow : OpenClaim := { program := "yteoffbglbpdekaadoor", sum := "cb471080062bb128de59993c04ad42dd154017f892e792e6cc33f5c9e5fc627c", func := "hagioscope/hagioscopelaw12.FieldTells", spec := "fieldTells", inPlace := ["internal/bytealg.IndexByteString", "internal/bytealg.IndexString"], unfollowed := true, recurses := true, named := ["internal/bytealg.MaxLen", "unicode/utf8.first", "unicode/utf8.acceptRanges"], apart := false, laid := [("unicode/utf8.first", laid_unicode_utf8_first), ("unicode/utf8.acceptRanges", laid_unicode_utf8_acceptRanges)] }
def FieldTellsSaid : Prop := fieldTellsRow.holds Tryd.pinned (OpenSpec.ofChange fieldTellsSpec)

/-- ITS FALSE NEIGHBOUR: 'it returns false'. Refute it at one input. -/
def fieldTellsWrong : ChangeSpec := { name := "fieldTells", fn := fun _ => fun
  | [d1, d2] => { results := [.lit (.bool false)], args := [d1, d2] }
  | _ => none }
def FieldTellsWrongFalsely : Prop := fieldTellsRow.holds Tryd.pinned (OpenSpec.ofChange fieldTellsWrong)

/-- 'hagioscopelaw12.FieldBack': WHATEVER THE INPUT: true; the input reads as it did. -/
def fieldBackSpec : ChangeSpec := { name := "fieldBack", fn := fun _ => fun
  | [d1, d2] => { results := [.lit (.bool true)], args := [d1, d2] }
  | _ => none }
def fieldBackRow : OpenClaim := { program := "yteoffbglbpdekaadoor", sum := "cb471080062bb128de59993c04ad42dd154017f892e792e6cc33f5c9e5fc627c", func := "hagioscope/hagioscopelaw12.FieldBack", spec := "fieldBack", inPlace := ["internal/bytealg.IndexByteString", "internal/bytealg.IndexString"], unfollowed := true, recurses := true, named := ["internal/bytealg.MaxLen", "unicode/utf8.first", "unicode/utf8.acceptRanges"], apart := false, laid := [("unicode/utf8.first", laid_unicode_utf8_first), ("unicode/utf8.acceptRanges", laid_unicode_utf8_acceptRanges)] }
def FieldBackSaid : Prop := fieldBackRow.holds Tryd.pinned (OpenSpec.ofChange fieldBackSpec)

/-- ITS FALSE NEIGHBOUR: 'it returns false'. Refute it at one input. -/
def fieldBackWrong : ChangeSpec := { name := "fieldBack", fn := fun _ => fun
  | [d1, d2] => { results := [.lit (.bool false)], args := [d1, d2] }
  | _ => none }
def FieldBackWrongFalsely : Prop := fieldBackRow.holds Tryd.pinned (OpenSpec.ofChange fieldBackWrong)

/-- 'hagioscopelaw12.FieldBlanks': WHATEVER THE INPUT: true; the input reads as it did. -/
def fieldBlanksSpec : ChangeSpec := { name := "fieldBlanks", fn := fun _ => fun
  | [d1, d2, d3] => { results := [.lit (.bool true)], args := [d1, d2, d3] }
  | _ => none }
def fieldBlanksRow : OpenClaim := { program := "yteoffbglbpdekaadoor", sum := "cb471080062bb128de59993c04ad42dd154017f892e792e6cc33f5c9e5fc627c", func := "hagioscope/hagioscopelaw12.FieldBlanks", spec := "fieldBlanks", inPlace := ["internal/bytealg.IndexByteString", "internal/bytealg.IndexString"], unfollowed := true, recurses := true, named := ["internal/bytealg.MaxLen", "unicode/utf8.first", "unicode/utf8.acceptRanges"], apart := false, laid := [("unicode/utf8.first", laid_unicode_utf8_first), ("unicode/utf8.acceptRanges", laid_unicode_utf8_acceptRanges)] }
def FieldBlanksSaid : Prop := fieldBlanksRow.holds Tryd.pinned (OpenSpec.ofChange fieldBlanksSpec)

/-- ITS FALSE NEIGHBOUR: 'it returns false'. Refute it at one input. -/
def fieldBlanksWrong : ChangeSpec := { name := "fieldBlanks", fn := fun _ => fun
  | [d1, d2, d3] => { results := [.lit (.bool false)], args := [d1, d2, d3] }
  | _ => none }
def FieldBlanksWrongFalsely : Prop := fieldBlanksRow.holds Tryd.pinned (OpenSpec.ofChange fieldBlanksWrong)

/-- 'hagioscopelaw12.FieldFinds': WHATEVER THE INPUT: true; the input reads as it did. -/
def fieldFindsSpec : ChangeSpec := { name := "fieldFinds", fn := fun _ => fun
  | [d1, d2] => { results := [.lit (.bool true)], args := [d1, d2] }
  | _ => none }
def fieldFindsRow : OpenClaim := { program := "yteoffbglbpdekaadoor", sum := "cb471080062bb128de59993c04ad42dd154017f892e792e6cc33f5c9e5fc627c", func := "hagioscope/hagioscopelaw12.FieldFinds", spec := "fieldFinds", inPlace := ["internal/bytealg.IndexByteString", "internal/bytealg.IndexString"], unfollowed := true, recurses := true, named := ["internal/bytealg.MaxLen", "unicode/utf8.first", "unicode/utf8.acceptRanges"], apart := false, laid := [("unicode/utf8.first", laid_unicode_utf8_first), ("unicode/utf8.acceptRanges", laid_unicode_utf8_acceptRanges)] }
def FieldFindsSaid : Prop := fieldFindsRow.holds Tryd.pinned (OpenSpec.ofChange fieldFindsSpec)

/-- ITS FALSE NEIGHBOUR: 'it returns false'. Refute it at one input. -/
def fieldFindsWrong : ChangeSpec := { name := "fieldFinds", fn := fun _ => fun
  | [d1, d2] => { results := [.lit (.bool false)], args := [d1, d2] }
  | _ => none }
def FieldFindsWrongFalsely : Prop := fieldFindsRow.holds Tryd.pinned (OpenSpec.ofChange fieldFindsWrong)

/-- 'hagioscopelaw11.ReqlineTells': WHATEVER THE INPUT: true; the input reads as it did. -/
def reqlineTellsSpec : ChangeSpec := { name := "reqlineTells", fn := fun _ => fun
  | [d] => { results := [.lit (.bool true)], args := [d] }
  | _ => none }
def reqlineTellsRow : OpenClaim := { program := "yteoffbglbpdekaadoor", sum := "cb471080062bb128de59993c04ad42dd154017f892e792e6cc33f5c9e5fc627c", func := "hagioscope/hagioscopelaw11.ReqlineTells", spec := "reqlineTells", inPlace := ["internal/bytealg.CountString", "internal/bytealg.IndexByteString", "internal/bytealg.IndexString", "internal/abi.NoEscape", "internal/bytealg.MakeNoZero"], unfollowed := true, recurses := true, named := ["unicode/utf8.first", "unicode/utf8.acceptRanges", "internal/bytealg.MaxLen"], apart := false, laid := [("unicode/utf8.first", laid_unicode_utf8_first), ("unicode/utf8.acceptRanges", laid_unicode_utf8_acceptRanges)] }
def ReqlineTellsSaid : Prop := reqlineTellsRow.holds Tryd.pinned (OpenSpec.ofChange reqlineTellsSpec)

/-- ITS FALSE NEIGHBOUR: 'it returns false'. Refute it at one input. -/
def reqlineTellsWrong : ChangeSpec := { name := "reqlineTells", fn := fun _ => fun
  | [d] => { results := [.lit (.bool false)], args := [d] }
  | _ => none }
def ReqlineTellsWrongFalsely : Prop := reqlineTellsRow.holds Tryd.pinned (OpenSpec.ofChange reqlineTellsWrong)

/-- 'hagioscopelaw11.ReqlineBack': WHATEVER THE INPUT: true; the input reads as it did. -/
def reqlineBackSpec : ChangeSpec := { name := "reqlineBack", fn := fun _ => fun
  | [d1, d2] => { results := [.lit (.bool true)], args := [d1, d2] }
  | _ => none }
def reqlineBackRow : OpenClaim := { program := "yteoffbglbpdekaadoor", sum := "cb471080062bb128de59993c04ad42dd154017f892e792e6cc33f5c9e5fc627c", func := "hagioscope/hagioscopelaw11.ReqlineBack", spec := "reqlineBack", inPlace := ["internal/bytealg.CountString", "internal/bytealg.IndexByteString", "internal/bytealg.IndexString", "internal/abi.NoEscape", "internal/bytealg.MakeNoZero"], unfollowed := true, recurses := true, named := ["unicode/utf8.first", "unicode/utf8.acceptRanges", "internal/bytealg.MaxLen"], apart := false, laid := [("unicode/utf8.first", laid_unicode_utf8_first), ("unicode/utf8.acceptRanges", laid_unicode_utf8_acceptRanges)] }
def ReqlineBackSaid : Prop := reqlineBackRow.holds Tryd.pinned (OpenSpec.ofChange reqlineBackSpec)

/-- ITS FALSE NEIGHBOUR: 'it returns false'. Refute it at one input. -/
def reqlineBackWrong : ChangeSpec := { name := "reqlineBack", fn := fun _ => fun
  | [d1, d2] => { results := [.lit (.bool false)], args := [d1, d2] }
  | _ => none }
def ReqlineBackWrongFalsely : Prop := reqlineBackRow.holds Tryd.pinned (OpenSpec.ofChange reqlineBackWrong)

/-- 'hagioscopelaw11.ReqlineLimits': WHATEVER THE INPUT: true; the input reads as it did. -/
def reqlineLimitsSpec : ChangeSpec := { name := "reqlineLimits", fn := fun _ => fun
  | [d1, d2] => { results := [.lit (.bool true)], args := [d1, d2] }
  | _ => none }
def reqlineLimitsRow : OpenClaim := { program := "yteoffbglbpdekaadoor", sum := "cb471080062bb128de59993c04ad42dd154017f892e792e6cc33f5c9e5fc627c", func := "hagioscope/hagioscopelaw11.ReqlineLimits", spec := "reqlineLimits", inPlace := ["internal/bytealg.CountString", "internal/bytealg.IndexByteString", "internal/bytealg.IndexString", "internal/abi.NoEscape", "internal/bytealg.MakeNoZero"], unfollowed := true, recurses := true, named := ["unicode/utf8.first", "unicode/utf8.acceptRanges", "internal/bytealg.MaxLen"], apart := false, laid := [("unicode/utf8.first", laid_unicode_utf8_first), ("unicode/utf8.acceptRanges", laid_unicode_utf8_acceptRanges)] }
def ReqlineLimitsSaid : Prop := reqlineLimitsRow.holds Tryd.pinned (OpenSpec.ofChange reqlineLimitsSpec)

/-- ITS FALSE NEIGHBOUR: 'it returns false'. Refute it at one input. -/
def reqlineLimitsWrong : ChangeSpec := { name := "reqlineLimits", fn := fun _ => fun
  | [d1, d2] => { results := [.lit (.bool false)], args := [d1, d2] }
  | _ => none }
def ReqlineLimitsWrongFalsely : Prop := reqlineLimitsRow.holds Tryd.pinned (OpenSpec.ofChange reqlineLimitsWrong)

/-- 'hagioscopelaw11.ReqlineAuthority': WHATEVER THE INPUT: true; the input reads as it did. -/
def reqlineAuthoritySpec : ChangeSpec := { name := "reqlineAuthority", fn := fun _ => fun
  | [d1, d2, d3] => { results := [.lit (.bool true)], args := [d1, d2, d3] }
  | _ => none }
def reqlineAuthorityRow : OpenClaim := { program := "yteoffbglbpdekaadoor", sum := "cb471080062bb128de59993c04ad42dd154017f892e792e6cc33f5c9e5fc627c", func := "hagioscope/hagioscopelaw11.ReqlineAuthority", spec := "reqlineAuthority", inPlace := ["internal/bytealg.CountString", "internal/bytealg.IndexByteString", "internal/bytealg.IndexString", "internal/abi.NoEscape", "internal/bytealg.MakeNoZero"], unfollowed := true, recurses := true, named := ["unicode/utf8.first", "unicode/utf8.acceptRanges", "internal/bytealg.MaxLen"], apart := false, laid := [("unicode/utf8.first", laid_unicode_utf8_first), ("unicode/utf8.acceptRanges", laid_unicode_utf8_acceptRanges)] }
def ReqlineAuthoritySaid : Prop := reqlineAuthorityRow.holds Tryd.pinned (OpenSpec.ofChange reqlineAuthoritySpec)

/-- ITS FALSE NEIGHBOUR: 'it returns false'. Refute it at one input. -/
def reqlineAuthorityWrong : ChangeSpec := { name := "reqlineAuthority", fn := fun _ => fun
  | [d1, d2, d3] => { results := [.lit (.bool false)], args := [d1, d2, d3] }
  | _ => none }
def ReqlineAuthorityWrongFalsely : Prop := reqlineAuthorityRow.holds Tryd.pinned (OpenSpec.ofChange reqlineAuthorityWrong)

/-- 'hagioscopelaw02.AsciiTells': WHATEVER THE INPUT: true; the input reads as it did. -/
def asciiTellsSpec : ChangeSpec := { name := "asciiTells", fn := fun _ => fun
  | [d1, d2] => { results := [.lit (.bool true)], args := [d1, d2] }
  | _ => none }
def asciiTellsRow : OpenClaim := { program := "yteoffbglbpdekaadoor", sum := "cb471080062bb128de59993c04ad42dd154017f892e792e6cc33f5c9e5fc627c", func := "hagioscope/hagioscopelaw02.AsciiTells", spec := "asciiTells", inPlace := ["internal/bytealg.IndexByteString", "internal/bytealg.IndexString"], unfollowed := true, recurses := true, named := ["strconv.ErrSyntax", "strconv.ErrRange", "internal/strconv.uint64pow10", "math/bits.deBruijn32tab", "math/bits.deBruijn64tab", "unicode/utf8.first", "unicode/utf8.acceptRanges", "internal/bytealg.MaxLen"], apart := false, laid := [("strconv.ErrSyntax", laid_strconv_ErrSyntax), ("strconv.ErrRange", laid_strconv_ErrRange), ("internal/strconv.uint64pow10", laid_internal_strconv_uint64pow10), ("math/bits.deBruijn32tab", laid_math_bits_deBruijn32tab), ("math/bits.deBruijn64tab", laid_math_bits_deBruijn64tab), ("unicode/utf8.first", laid_unicode_utf8_first), ("unicode/utf8.acceptRanges", laid_unicode_utf8_acceptRanges)] }
def AsciiTellsSaid : Prop := asciiTellsRow.holds Tryd.pinned (OpenSpec.ofChange asciiTellsSpec)

/-- ITS FALSE NEIGHBOUR: 'it returns false'. Refute it at one input. -/
def asciiTellsWrong : ChangeSpec := { name := "asciiTells", fn := fun _ => fun
  | [d1, d2] => { results := [.lit (.bool false)], args := [d1, d2] }
  | _ => none }
def AsciiTellsWrongFalsely : Prop := asciiTellsRow.holds Tryd.pinned (OpenSpec.ofChange asciiTellsWrong)

/-- 'hagioscopelaw02.AsciiNumbers': WHATEVER THE INPUT: true; the input reads as it did. -/
def asciiNumbersSpec : ChangeSpec := { name := "asciiNumbers", fn := fun _ => fun
  | [d1, d2] => { results := [.lit (.bool true)], args := [d1, d2] }
  | _ => none }
def asciiNumbersRow : OpenClaim := { program := "yteoffbglbpdekaadoor", sum := "cb471080062bb128de59993c04ad42dd154017f892e792e6cc33f5c9e5fc627c", func := "hagioscope/hagioscopelaw02.AsciiNumbers", spec := "asciiNumbers", inPlace := ["internal/bytealg.IndexByteString", "internal/bytealg.IndexString"], unfollowed := true, recurses := true, named := ["strconv.ErrSyntax", "strconv.ErrRange", "internal/strconv.uint64pow10", "math/bits.deBruijn32tab", "math/bits.deBruijn64tab", "unicode/utf8.first", "unicode/utf8.acceptRanges", "internal/bytealg.MaxLen"], apart := false, laid := [("strconv.ErrSyntax", laid_strconv_ErrSyntax), ("strconv.ErrRange", laid_strconv_ErrRange), ("internal/strconv.uint64pow10", laid_internal_strconv_uint64pow10), ("math/bits.deBruijn32tab", laid_math_bits_deBruijn32tab), ("math/bits.deBruijn64tab", laid_math_bits_deBruijn64tab), ("unicode/utf8.first", laid_unicode_utf8_first), ("unicode/utf8.acceptRanges", laid_unicode_utf8_acceptRanges)] }
def AsciiNumbersSaid : Prop := asciiNumbersRow.holds Tryd.pinned (OpenSpec.ofChange asciiNumbersSpec)

/-- ITS FALSE NEIGHBOUR: 'it returns false'. Refute it at one input. -/
def asciiNumbersWrong : ChangeSpec := { name := "asciiNumbers", fn := fun _ => fun
  | [d1, d2] => { results := [.lit (.bool false)], args := [d1, d2] }
  | _ => none }
def AsciiNumbersWrongFalsely : Prop := asciiNumbersRow.holds Tryd.pinned (OpenSpec.ofChange asciiNumbersWrong)

/-- 'hagioscopelaw02.AsciiBack': WHATEVER THE INPUT: true; the input reads as it did. -/
def asciiBackSpec : ChangeSpec := { name := "asciiBack", fn := fun _ => fun
  | [d1, d2] => { results := [.lit (.bool true)], args := [d1, d2] }
  | _ => none }
def asciiBackRow : OpenClaim := { program := "yteoffbglbpdekaadoor", sum := "cb471080062bb128de59993c04ad42dd154017f892e792e6cc33f5c9e5fc627c", func := "hagioscope/hagioscopelaw02.AsciiBack", spec := "asciiBack", inPlace := ["internal/bytealg.IndexByteString", "internal/bytealg.IndexString"], unfollowed := true, recurses := true, named := ["strconv.ErrSyntax", "strconv.ErrRange", "internal/strconv.uint64pow10", "math/bits.deBruijn32tab", "math/bits.deBruijn64tab", "unicode/utf8.first", "unicode/utf8.acceptRanges", "internal/bytealg.MaxLen"], apart := false, laid := [("strconv.ErrSyntax", laid_strconv_ErrSyntax), ("strconv.ErrRange", laid_strconv_ErrRange), ("internal/strconv.uint64pow10", laid_internal_strconv_uint64pow10), ("math/bits.deBruijn32tab", laid_math_bits_deBruijn32tab), ("math/bits.deBruijn64tab", laid_math_bits_deBruijn64tab), ("unicode/utf8.first", laid_unicode_utf8_first), ("unicode/utf8.acceptRanges", laid_unicode_utf8_acceptRanges)] }
def AsciiBackSaid : Prop := asciiBackRow.holds Tryd.pinned (OpenSpec.ofChange asciiBackSpec)

/-- ITS FALSE NEIGHBOUR: 'it returns false'. Refute it at one input. -/
def asciiBackWrong : ChangeSpec := { name := "asciiBack", fn := fun _ => fun
  | [d1, d2] => { results := [.lit (.bool false)], args := [d1, d2] }
  | _ => none }
def AsciiBackWrongFalsely : Prop := asciiBackRow.holds Tryd.pinned (OpenSpec.ofChange asciiBackWrong)

/-- 'hagioscopelaw02.AsciiTokens': WHATEVER THE INPUT: true; the input reads as it did. -/
def asciiTokensSpec : ChangeSpec := { name := "asciiTokens", fn := fun _ => fun
  | [d1, d2] => { results := [.lit (.bool true)], args := [d1, d2] }
  | _ => none }
def asciiTokensRow : OpenClaim := { program := "yteoffbglbpdekaadoor", sum := "cb471080062bb128de59993c04ad42dd154017f892e792e6cc33f5c9e5fc627c", func := "hagioscope/hagioscopelaw02.AsciiTokens", spec := "asciiTokens", inPlace := ["internal/bytealg.IndexByteString", "internal/bytealg.IndexString"], unfollowed := true, recurses := true, named := ["strconv.ErrSyntax", "strconv.ErrRange", "internal/strconv.uint64pow10", "math/bits.deBruijn32tab", "math/bits.deBruijn64tab", "unicode/utf8.first", "unicode/utf8.acceptRanges", "internal/bytealg.MaxLen"], apart := false, laid := [("strconv.ErrSyntax", laid_strconv_ErrSyntax), ("strconv.ErrRange", laid_strconv_ErrRange), ("internal/strconv.uint64pow10", laid_internal_strconv_uint64pow10), ("math/bits.deBruijn32tab", laid_math_bits_deBruijn32tab), ("math/bits.deBruijn64tab", laid_math_bits_deBruijn64tab), ("unicode/utf8.first", laid_unicode_utf8_first), ("unicode/utf8.acceptRanges", laid_unicode_utf8_acceptRanges)] }
def AsciiTokensSaid : Prop := asciiTokensRow.holds Tryd.pinned (OpenSpec.ofChange asciiTokensSpec)

/-- ITS FALSE NEIGHBOUR: 'it returns false'. Refute it at one input. -/
def asciiTokensWrong : ChangeSpec := { name := "asciiTokens", fn := fun _ => fun
  | [d1, d2] => { results := [.lit (.bool false)], args := [d1, d2] }
  | _ => none }
def AsciiTokensWrongFalsely : Prop := asciiTokensRow.holds Tryd.pinned (OpenSpec.ofChange asciiTokensWrong)

/-- 'hagioscopelaw02.AsciiTrims': WHATEVER THE INPUT: true; the input reads as it did. -/
def asciiTrimsSpec : ChangeSpec := { name := "asciiTrims", fn := fun _ => fun
  | [d1, d2, d3] => { results := [.lit (.bool true)], args := [d1, d2, d3] }
  | _ => none }
def asciiTrimsRow : OpenClaim := { program := "yteoffbglbpdekaadoor", sum := "cb471080062bb128de59993c04ad42dd154017f892e792e6cc33f5c9e5fc627c", func := "hagioscope/hagioscopelaw02.AsciiTrims", spec := "asciiTrims", inPlace := ["internal/bytealg.IndexByteString", "internal/bytealg.IndexString"], unfollowed := true, recurses := true, named := ["strconv.ErrSyntax", "strconv.ErrRange", "internal/strconv.uint64pow10", "math/bits.deBruijn32tab", "math/bits.deBruijn64tab", "unicode/utf8.first", "unicode/utf8.acceptRanges", "internal/bytealg.MaxLen"], apart := false, laid := [("strconv.ErrSyntax", laid_strconv_ErrSyntax), ("strconv.ErrRange", laid_strconv_ErrRange), ("internal/strconv.uint64pow10", laid_internal_strconv_uint64pow10), ("math/bits.deBruijn32tab", laid_math_bits_deBruijn32tab), ("math/bits.deBruijn64tab", laid_math_bits_deBruijn64tab), ("unicode/utf8.first", laid_unicode_utf8_first), ("unicode/utf8.acceptRanges", laid_unicode_utf8_acceptRanges)] }
def AsciiTrimsSaid : Prop := asciiTrimsRow.holds Tryd.pinned (OpenSpec.ofChange asciiTrimsSpec)

/-- ITS FALSE NEIGHBOUR: 'it returns false'. Refute it at one input. -/
def asciiTrimsWrong : ChangeSpec := { name := "asciiTrims", fn := fun _ => fun
  | [d1, d2, d3] => { results := [.lit (.bool false)], args := [d1, d2, d3] }
  | _ => none }
def AsciiTrimsWrongFalsely : Prop := asciiTrimsRow.holds Tryd.pinned (OpenSpec.ofChange asciiTrimsWrong)

/-- 'hagioscopelaw02.AsciiHex': WHATEVER THE INPUT: true; the input reads as it did. -/
def asciiHexSpec : ChangeSpec := { name := "asciiHex", fn := fun _ => fun
  | [d1, d2] => { results := [.lit (.bool true)], args := [d1, d2] }
  | _ => none }
def asciiHexRow : OpenClaim := { program := "yteoffbglbpdekaadoor", sum := "cb471080062bb128de59993c04ad42dd154017f892e792e6cc33f5c9e5fc627c", func := "hagioscope/hagioscopelaw02.AsciiHex", spec := "asciiHex", inPlace := ["internal/bytealg.IndexByteString", "internal/bytealg.IndexString"], unfollowed := true, recurses := true, named := ["strconv.ErrSyntax", "strconv.ErrRange", "internal/strconv.uint64pow10", "math/bits.deBruijn32tab", "math/bits.deBruijn64tab", "unicode/utf8.first", "unicode/utf8.acceptRanges", "internal/bytealg.MaxLen"], apart := false, laid := [("strconv.ErrSyntax", laid_strconv_ErrSyntax), ("strconv.ErrRange", laid_strconv_ErrRange), ("internal/strconv.uint64pow10", laid_internal_strconv_uint64pow10), ("math/bits.deBruijn32tab", laid_math_bits_deBruijn32tab), ("math/bits.deBruijn64tab", laid_math_bits_deBruijn64tab), ("unicode/utf8.first", laid_unicode_utf8_first), ("unicode/utf8.acceptRanges", laid_unicode_utf8_acceptRanges)] }
def AsciiHexSaid : Prop := asciiHexRow.holds Tryd.pinned (OpenSpec.ofChange asciiHexSpec)

/-- ITS FALSE NEIGHBOUR: 'it returns false'. Refute it at one input. -/
def asciiHexWrong : ChangeSpec := { name := "asciiHex", fn := fun _ => fun
  | [d1, d2] => { results := [.lit (.bool false)], args := [d1, d2] }
  | _ => none }
def AsciiHexWrongFalsely : Prop := asciiHexRow.holds Tryd.pinned (OpenSpec.ofChange asciiHexWrong)

/-- 'hagioscopelaw22.AnswerPage': WHATEVER THE INPUT: true; the input reads as it did. -/
def answerPageSpec : ChangeSpec := { name := "answerPage", fn := fun _ => fun
  | [d] => { results := [.lit (.bool true)], args := [d] }
  | _ => none }
def answerPageRow : OpenClaim := { program := "yteoffbglbpdekaadoor", sum := "cb471080062bb128de59993c04ad42dd154017f892e792e6cc33f5c9e5fc627c", func := "hagioscope/hagioscopelaw22.AnswerPage", spec := "answerPage", inPlace := ["internal/abi.NoEscape", "internal/bytealg.MakeNoZero", "internal/bytealg.IndexByteString", "internal/bytealg.IndexString"], unfollowed := true, recurses := true, named := ["internal/strconv.uint64pow10", "math/bits.deBruijn32tab", "math/bits.deBruijn64tab", "internal/bytealg.MaxLen", "unicode/utf8.first", "unicode/utf8.acceptRanges"], apart := false, laid := [("internal/strconv.uint64pow10", laid_internal_strconv_uint64pow10), ("math/bits.deBruijn32tab", laid_math_bits_deBruijn32tab), ("math/bits.deBruijn64tab", laid_math_bits_deBruijn64tab), ("unicode/utf8.first", laid_unicode_utf8_first), ("unicode/utf8.acceptRanges", laid_unicode_utf8_acceptRanges)] }
def AnswerPageSaid : Prop := answerPageRow.holds Tryd.pinned (OpenSpec.ofChange answerPageSpec)

/-- ITS FALSE NEIGHBOUR: 'it returns false'. Refute it at one input. -/
def answerPageWrong : ChangeSpec := { name := "answerPage", fn := fun _ => fun
  | [d] => { results := [.lit (.bool false)], args := [d] }
  | _ => none }
def AnswerPageWrongFalsely : Prop := answerPageRow.holds Tryd.pinned (OpenSpec.ofChange answerPageWrong)

/- THE SECOND FORM. 'bulk': how many values and letters a reading holds, each counted each time it is reached (what is shared counts as often as it is met; a slice's spare places count too). A statement '..UptoSaid' is the law's where the arguments, and the package variables that the reading takes, are together of bulk at most 1048576: NARROWER than '..Said'. Prove '..Said' where nothing that the law and all that it calls make is longer than what came in: it says more and counts as full. Else prove '..UptoSaid'. A law counts once. -/
mutual
def uptoBulk {H : Type} : DataW H → Nat
  | .lit (.string bytes) => bytes.length + 1
  | .lit _ => 1
  | .nil => 1
  | .ptr d => uptoBulk d + 1
  | .slice elems spare => uptoBulkAll elems + uptoBulkAll spare + 1
  | .agg parts => uptoBulkAll parts + 1
  | .iface _ d => uptoBulk d + 1
  | .map entries => uptoBulkEntries entries + 1
  | .held _ => 1
def uptoBulkAll {H : Type} : List (DataW H) → Nat
  | [] => 0
  | d :: r => uptoBulk d + uptoBulkAll r
def uptoBulkEntries {H : Type} : List (Lit × DataW H) → Nat
  | [] => 0
  | x :: r => uptoBulkEntry x + uptoBulkEntries r
def uptoBulkEntry {H : Type} : Lit × DataW H → Nat
  | (.string bytes, d) => bytes.length + uptoBulk d + 1
  | (_, d) => uptoBulk d + 1
 end
def uptoSmall : (H : Type) → List (DataW H) → Bool := fun _ ds => decide (uptoBulkAll ds ≤ 1048576)
def OpenSpec.upto (s : _root_.Go.ChangeSpec) : _root_.Go.OpenSpec := { _root_.Go.OpenSpec.ofChange s with cond := some uptoSmall }

/-- 'hagioscopelaw12.FieldParses', WHERE WHAT IT READS IS OF BULK AT MOST 1048576: true; the input reads as it did. -/
def fieldParsesUptoRow : OpenClaim := { program := "yteoffbglbpdekaadoor", sum := "cb471080062bb128de59993c04ad42dd154017f892e792e6cc33f5c9e5fc627c", func := "hagioscope/hagioscopelaw12.FieldParses", spec := "fieldParses", inPlace := ["internal/bytealg.IndexByteString", "internal/bytealg.IndexString"], unfollowed := true, recurses := true, named := ["internal/bytealg.MaxLen", "unicode/utf8.first", "unicode/utf8.acceptRanges"], apart := false, laid := [("unicode/utf8.first", laid_unicode_utf8_first), ("unicode/utf8.acceptRanges", laid_unicode_utf8_acceptRanges)], narrowed := true }
def FieldParsesUptoSaid : Prop := fieldParsesUptoRow.holds Tryd.pinned (OpenSpec.upto fieldParsesSpec)

/-- 'hagioscopelaw12.FieldTells', WHERE WHAT IT READS IS OF BULK AT MOST 1048576: true; the input reads as it did. -/
def fieldTellsUptoRow : OpenClaim := { program := "yteoffbglbpdekaadoor", sum := "cb471080062bb128de59993c04ad42dd154017f892e792e6cc33f5c9e5fc627c", func := "hagioscope/hagioscopelaw12.FieldTells", spec := "fieldTells", inPlace := ["internal/bytealg.IndexByteString", "internal/bytealg.IndexString"], unfollowed := true, recurses := true, named := ["internal/bytealg.MaxLen", "unicode/utf8.first", "unicode/utf8.acceptRanges"], apart := false, laid := [("unicode/utf8.first", laid_unicode_utf8_first), ("unicode/utf8.acceptRanges", laid_unicode_utf8_acceptRanges)], narrowed := true }
def FieldTellsUptoSaid : Prop := fieldTellsUptoRow.holds Tryd.pinned (OpenSpec.upto fieldTellsSpec)

/-- 'hagioscopelaw12.FieldBack', WHERE WHAT IT READS IS OF BULK AT MOST 1048576: true; the input reads as it did. -/
def fieldBackUptoRow : OpenClaim := { program := "yteoffbglbpdekaadoor", sum := "cb471080062bb128de59993c04ad42dd154017f892e792e6cc33f5c9e5fc627c", func := "hagioscope/hagioscopelaw12.FieldBack", spec := "fieldBack", inPlace := ["internal/bytealg.IndexByteString", "internal/bytealg.IndexString"], unfollowed := true, recurses := true, named := ["internal/bytealg.MaxLen", "unicode/utf8.first", "unicode/utf8.acceptRanges"], apart := false, laid := [("unicode/utf8.first", laid_unicode_utf8_first), ("unicode/utf8.acceptRanges", laid_unicode_utf8_acceptRanges)], narrowed := true }
def FieldBackUptoSaid : Prop := fieldBackUptoRow.holds Tryd.pinned (OpenSpec.upto fieldBackSpec)

/-- 'hagioscopelaw12.FieldBlanks', WHERE WHAT IT READS IS OF BULK AT MOST 1048576: true; the input reads as it did. -/
def fieldBlanksUptoRow : OpenClaim := { program := "yteoffbglbpdekaadoor", sum := "cb471080062bb128de59993c04ad42dd154017f892e792e6cc33f5c9e5fc627c", func := "hagioscope/hagioscopelaw12.FieldBlanks", spec := "fieldBlanks", inPlace := ["internal/bytealg.IndexByteString", "internal/bytealg.IndexString"], unfollowed := true, recurses := true, named := ["internal/bytealg.MaxLen", "unicode/utf8.first", "unicode/utf8.acceptRanges"], apart := false, laid := [("unicode/utf8.first", laid_unicode_utf8_first), ("unicode/utf8.acceptRanges", laid_unicode_utf8_acceptRanges)], narrowed := true }
def FieldBlanksUptoSaid : Prop := fieldBlanksUptoRow.holds Tryd.pinned (OpenSpec.upto fieldBlanksSpec)

/-- 'hagioscopelaw12.FieldFinds', WHERE WHAT IT READS IS OF BULK AT MOST 1048576: true; the input reads as it did. -/
def fieldFindsUptoRow : OpenClaim := { program := "yteoffbglbpdekaadoor", sum := "cb471080062bb128de59993c04ad42dd154017f892e792e6cc33f5c9e5fc627c", func := "hagioscope/hagioscopelaw12.FieldFinds", spec := "fieldFinds", inPlace := ["internal/bytealg.IndexByteString", "internal/bytealg.IndexString"], unfollowed := true, recurses := true, named := ["internal/bytealg.MaxLen", "unicode/utf8.first", "unicode/utf8.acceptRanges"], apart := false, laid := [("unicode/utf8.first", laid_unicode_utf8_first), ("unicode/utf8.acceptRanges", laid_unicode_utf8_acceptRanges)], narrowed := true }
def FieldFindsUptoSaid : Prop := fieldFindsUptoRow.holds Tryd.pinned (OpenSpec.upto fieldFindsSpec)

/-- 'hagioscopelaw11.ReqlineTells', WHERE WHAT IT READS IS OF BULK AT MOST 1048576: true; the input reads as it did. -/
def reqlineTellsUptoRow : OpenClaim := { program := "yteoffbglbpdekaadoor", sum := "cb471080062bb128de59993c04ad42dd154017f892e792e6cc33f5c9e5fc627c", func := "hagioscope/hagioscopelaw11.ReqlineTells", spec := "reqlineTells", inPlace := ["internal/bytealg.CountString", "internal/bytealg.IndexByteString", "internal/bytealg.IndexString", "internal/abi.NoEscape", "internal/bytealg.MakeNoZero"], unfollowed := true, recurses := true, named := ["unicode/utf8.first", "unicode/utf8.acceptRanges", "internal/bytealg.MaxLen"], apart := false, laid := [("unicode/utf8.first", laid_unicode_utf8_first), ("unicode/utf8.acceptRanges", laid_unicode_utf8_acceptRanges)], narrowed := true }
def ReqlineTellsUptoSaid : Prop := reqlineTellsUptoRow.holds Tryd.pinned (OpenSpec.upto reqlineTellsSpec)

/-- 'hagioscopelaw11.ReqlineBack', WHERE WHAT IT READS IS OF BULK AT MOST 1048576: true; the input reads as it did. -/
def reqlineBackUptoRow : OpenClaim := { program := "yteoffbglbpdekaadoor", sum := "cb471080062bb128de59993c04ad42dd154017f892e792e6cc33f5c9e5fc627c", func := "hagioscope/hagioscopelaw11.ReqlineBack", spec := "reqlineBack", inPlace := ["internal/bytealg.CountString", "internal/bytealg.IndexByteString", "internal/bytealg.IndexString", "internal/abi.NoEscape", "internal/bytealg.MakeNoZero"], unfollowed := true, recurses := true, named := ["unicode/utf8.first", "unicode/utf8.acceptRanges", "internal/bytealg.MaxLen"], apart := false, laid := [("unicode/utf8.first", laid_unicode_utf8_first), ("unicode/utf8.acceptRanges", laid_unicode_utf8_acceptRanges)], narrowed := true }
def ReqlineBackUptoSaid : Prop := reqlineBackUptoRow.holds Tryd.pinned (OpenSpec.upto reqlineBackSpec)

/-- 'hagioscopelaw11.ReqlineLimits', WHERE WHAT IT READS IS OF BULK AT MOST 1048576: true; the input reads as it did. -/
def reqlineLimitsUptoRow : OpenClaim := { program := "yteoffbglbpdekaadoor", sum := "cb471080062bb128de59993c04ad42dd154017f892e792e6cc33f5c9e5fc627c", func := "hagioscope/hagioscopelaw11.ReqlineLimits", spec := "reqlineLimits", inPlace := ["internal/bytealg.CountString", "internal/bytealg.IndexByteString", "internal/bytealg.IndexString", "internal/abi.NoEscape", "internal/bytealg.MakeNoZero"], unfollowed := true, recurses := true, named := ["unicode/utf8.first", "unicode/utf8.acceptRanges", "internal/bytealg.MaxLen"], apart := false, laid := [("unicode/utf8.first", laid_unicode_utf8_first), ("unicode/utf8.acceptRanges", laid_unicode_utf8_acceptRanges)], narrowed := true }
def ReqlineLimitsUptoSaid : Prop := reqlineLimitsUptoRow.holds Tryd.pinned (OpenSpec.upto reqlineLimitsSpec)

/-- 'hagioscopelaw11.ReqlineAuthority', WHERE WHAT IT READS IS OF BULK AT MOST 1048576: true; the input reads as it did. -/
def reqlineAuthorityUptoRow : OpenClaim := { program := "yteoffbglbpdekaadoor", sum := "cb471080062bb128de59993c04ad42dd154017f892e792e6cc33f5c9e5fc627c", func := "hagioscope/hagioscopelaw11.ReqlineAuthority", spec := "reqlineAuthority", inPlace := ["internal/bytealg.CountString", "internal/bytealg.IndexByteString", "internal/bytealg.IndexString", "internal/abi.NoEscape", "internal/bytealg.MakeNoZero"], unfollowed := true, recurses := true, named := ["unicode/utf8.first", "unicode/utf8.acceptRanges", "internal/bytealg.MaxLen"], apart := false, laid := [("unicode/utf8.first", laid_unicode_utf8_first), ("unicode/utf8.acceptRanges", laid_unicode_utf8_acceptRanges)], narrowed := true }
def ReqlineAuthorityUptoSaid : Prop := reqlineAuthorityUptoRow.holds Tryd.pinned (OpenSpec.upto reqlineAuthoritySpec)

/-- 'hagioscopelaw02.AsciiTells', WHERE WHAT IT READS IS OF BULK AT MOST 1048576: true; the input reads as it did. -/
def asciiTellsUptoRow : OpenClaim := { program := "yteoffbglbpdekaadoor", sum := "cb471080062bb128de59993c04ad42dd154017f892e792e6cc33f5c9e5fc627c", func := "hagioscope/hagioscopelaw02.AsciiTells", spec := "asciiTells", inPlace := ["internal/bytealg.IndexByteString", "internal/bytealg.IndexString"], unfollowed := true, recurses := true, named := ["strconv.ErrSyntax", "strconv.ErrRange", "internal/strconv.uint64pow10", "math/bits.deBruijn32tab", "math/bits.deBruijn64tab", "unicode/utf8.first", "unicode/utf8.acceptRanges", "internal/bytealg.MaxLen"], apart := false, laid := [("strconv.ErrSyntax", laid_strconv_ErrSyntax), ("strconv.ErrRange", laid_strconv_ErrRange), ("internal/strconv.uint64pow10", laid_internal_strconv_uint64pow10), ("math/bits.deBruijn32tab", laid_math_bits_deBruijn32tab), ("math/bits.deBruijn64tab", laid_math_bits_deBruijn64tab), ("unicode/utf8.first", laid_unicode_utf8_first), ("unicode/utf8.acceptRanges", laid_unicode_utf8_acceptRanges)], narrowed := true }
def AsciiTellsUptoSaid : Prop := asciiTellsUptoRow.holds Tryd.pinned (OpenSpec.upto asciiTellsSpec)

/-- 'hagioscopelaw02.AsciiNumbers', WHERE WHAT IT READS IS OF BULK AT MOST 1048576: true; the input reads as it did. -/
def asciiNumbersUptoRow : OpenClaim := { program := "yteoffbglbpdekaadoor", sum := "cb471080062bb128de59993c04ad42dd154017f892e792e6cc33f5c9e5fc627c", func := "hagioscope/hagioscopelaw02.AsciiNumbers", spec := "asciiNumbers", inPlace := ["internal/bytealg.IndexByteString", "internal/bytealg.IndexString"], unfollowed := true, recurses := true, named := ["strconv.ErrSyntax", "strconv.ErrRange", "internal/strconv.uint64pow10", "math/bits.deBruijn32tab", "math/bits.deBruijn64tab", "unicode/utf8.first", "unicode/utf8.acceptRanges", "internal/bytealg.MaxLen"], apart := false, laid := [("strconv.ErrSyntax", laid_strconv_ErrSyntax), ("strconv.ErrRange", laid_strconv_ErrRange), ("internal/strconv.uint64pow10", laid_internal_strconv_uint64pow10), ("math/bits.deBruijn32tab", laid_math_bits_deBruijn32tab), ("math/bits.deBruijn64tab", laid_math_bits_deBruijn64tab), ("unicode/utf8.first", laid_unicode_utf8_first), ("unicode/utf8.acceptRanges", laid_unicode_utf8_acceptRanges)], narrowed := true }
def AsciiNumbersUptoSaid : Prop := asciiNumbersUptoRow.holds Tryd.pinned (OpenSpec.upto asciiNumbersSpec)

/-- 'hagioscopelaw02.AsciiBack', WHERE WHAT IT READS IS OF BULK AT MOST 1048576: true; the input reads as it did. -/
def asciiBackUptoRow : OpenClaim := { program := "yteoffbglbpdekaadoor", sum := "cb471080062bb128de59993c04ad42dd154017f892e792e6cc33f5c9e5fc627c", func := "hagioscope/hagioscopelaw02.AsciiBack", spec := "asciiBack", inPlace := ["internal/bytealg.IndexByteString", "internal/bytealg.IndexString"], unfollowed := true, recurses := true, named := ["strconv.ErrSyntax", "strconv.ErrRange", "internal/strconv.uint64pow10", "math/bits.deBruijn32tab", "math/bits.deBruijn64tab", "unicode/utf8.first", "unicode/utf8.acceptRanges", "internal/bytealg.MaxLen"], apart := false, laid := [("strconv.ErrSyntax", laid_strconv_ErrSyntax), ("strconv.ErrRange", laid_strconv_ErrRange), ("internal/strconv.uint64pow10", laid_internal_strconv_uint64pow10), ("math/bits.deBruijn32tab", laid_math_bits_deBruijn32tab), ("math/bits.deBruijn64tab", laid_math_bits_deBruijn64tab), ("unicode/utf8.first", laid_unicode_utf8_first), ("unicode/utf8.acceptRanges", laid_unicode_utf8_acceptRanges)], narrowed := true }
def AsciiBackUptoSaid : Prop := asciiBackUptoRow.holds Tryd.pinned (OpenSpec.upto asciiBackSpec)

/-- 'hagioscopelaw02.AsciiTokens', WHERE WHAT IT READS IS OF BULK AT MOST 1048576: true; the input reads as it did. -/
def asciiTokensUptoRow : OpenClaim := { program := "yteoffbglbpdekaadoor", sum := "cb471080062bb128de59993c04ad42dd154017f892e792e6cc33f5c9e5fc627c", func := "hagioscope/hagioscopelaw02.AsciiTokens", spec := "asciiTokens", inPlace := ["internal/bytealg.IndexByteString", "internal/bytealg.IndexString"], unfollowed := true, recurses := true, named := ["strconv.ErrSyntax", "strconv.ErrRange", "internal/strconv.uint64pow10", "math/bits.deBruijn32tab", "math/bits.deBruijn64tab", "unicode/utf8.first", "unicode/utf8.acceptRanges", "internal/bytealg.MaxLen"], apart := false, laid := [("strconv.ErrSyntax", laid_strconv_ErrSyntax), ("strconv.ErrRange", laid_strconv_ErrRange), ("internal/strconv.uint64pow10", laid_internal_strconv_uint64pow10), ("math/bits.deBruijn32tab", laid_math_bits_deBruijn32tab), ("math/bits.deBruijn64tab", laid_math_bits_deBruijn64tab), ("unicode/utf8.first", laid_unicode_utf8_first), ("unicode/utf8.acceptRanges", laid_unicode_utf8_acceptRanges)], narrowed := true }
def AsciiTokensUptoSaid : Prop := asciiTokensUptoRow.holds Tryd.pinned (OpenSpec.upto asciiTokensSpec)

/-- 'hagioscopelaw02.AsciiTrims', WHERE WHAT IT READS IS OF BULK AT MOST 1048576: true; the input reads as it did. -/
def asciiTrimsUptoRow : OpenClaim := { program := "yteoffbglbpdekaadoor", sum := "cb471080062bb128de59993c04ad42dd154017f892e792e6cc33f5c9e5fc627c", func := "hagioscope/hagioscopelaw02.AsciiTrims", spec := "asciiTrims", inPlace := ["internal/bytealg.IndexByteString", "internal/bytealg.IndexString"], unfollowed := true, recurses := true, named := ["strconv.ErrSyntax", "strconv.ErrRange", "internal/strconv.uint64pow10", "math/bits.deBruijn32tab", "math/bits.deBruijn64tab", "unicode/utf8.first", "unicode/utf8.acceptRanges", "internal/bytealg.MaxLen"], apart := false, laid := [("strconv.ErrSyntax", laid_strconv_ErrSyntax), ("strconv.ErrRange", laid_strconv_ErrRange), ("internal/strconv.uint64pow10", laid_internal_strconv_uint64pow10), ("math/bits.deBruijn32tab", laid_math_bits_deBruijn32tab), ("math/bits.deBruijn64tab", laid_math_bits_deBruijn64tab), ("unicode/utf8.first", laid_unicode_utf8_first), ("unicode/utf8.acceptRanges", laid_unicode_utf8_acceptRanges)], narrowed := true }
def AsciiTrimsUptoSaid : Prop := asciiTrimsUptoRow.holds Tryd.pinned (OpenSpec.upto asciiTrimsSpec)

/-- 'hagioscopelaw02.AsciiHex', WHERE WHAT IT READS IS OF BULK AT MOST 1048576: true; the input reads as it did. -/
def asciiHexUptoRow : OpenClaim := { program := "yteoffbglbpdekaadoor", sum := "cb471080062bb128de59993c04ad42dd154017f892e792e6cc33f5c9e5fc627c", func := "hagioscope/hagioscopelaw02.AsciiHex", spec := "asciiHex", inPlace := ["internal/bytealg.IndexByteString", "internal/bytealg.IndexString"], unfollowed := true, recurses := true, named := ["strconv.ErrSyntax", "strconv.ErrRange", "internal/strconv.uint64pow10", "math/bits.deBruijn32tab", "math/bits.deBruijn64tab", "unicode/utf8.first", "unicode/utf8.acceptRanges", "internal/bytealg.MaxLen"], apart := false, laid := [("strconv.ErrSyntax", laid_strconv_ErrSyntax), ("strconv.ErrRange", laid_strconv_ErrRange), ("internal/strconv.uint64pow10", laid_internal_strconv_uint64pow10), ("math/bits.deBruijn32tab", laid_math_bits_deBruijn32tab), ("math/bits.deBruijn64tab", laid_math_bits_deBruijn64tab), ("unicode/utf8.first", laid_unicode_utf8_first), ("unicode/utf8.acceptRanges", laid_unicode_utf8_acceptRanges)], narrowed := true }
def AsciiHexUptoSaid : Prop := asciiHexUptoRow.holds Tryd.pinned (OpenSpec.upto asciiHexSpec)

/-- 'hagioscopelaw22.AnswerPage', WHERE WHAT IT READS IS OF BULK AT MOST 1048576: true; the input reads as it did. -/
def answerPageUptoRow : OpenClaim := { program := "yteoffbglbpdekaadoor", sum := "cb471080062bb128de59993c04ad42dd154017f892e792e6cc33f5c9e5fc627c", func := "hagioscope/hagioscopelaw22.AnswerPage", spec := "answerPage", inPlace := ["internal/abi.NoEscape", "internal/bytealg.MakeNoZero", "internal/bytealg.IndexByteString", "internal/bytealg.IndexString"], unfollowed := true, recurses := true, named := ["internal/strconv.uint64pow10", "math/bits.deBruijn32tab", "math/bits.deBruijn64tab", "internal/bytealg.MaxLen", "unicode/utf8.first", "unicode/utf8.acceptRanges"], apart := false, laid := [("internal/strconv.uint64pow10", laid_internal_strconv_uint64pow10), ("math/bits.deBruijn32tab", laid_math_bits_deBruijn32tab), ("math/bits.deBruijn64tab", laid_math_bits_deBruijn64tab), ("unicode/utf8.first", laid_unicode_utf8_first), ("unicode/utf8.acceptRanges", laid_unicode_utf8_acceptRanges)], narrowed := true }
def AnswerPageUptoSaid : Prop := answerPageUptoRow.holds Tryd.pinned (OpenSpec.upto answerPageSpec)

end Rows
end Go.Proofs.YteoffbglbpdekaaDoor
