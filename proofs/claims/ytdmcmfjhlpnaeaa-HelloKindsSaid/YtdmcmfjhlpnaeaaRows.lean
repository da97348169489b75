/-
  No cell of these rows narrows 'for every input' (looked for: loops, veiled, ifaces, maps, wideKeys, modest, calm, conditions, laid).
  DERIVED. THE GIVEN ROWS OF THIS SEAT. 18 by the template 'for every input the law returns true; each argument reads behind the call as it read before'; 0 by the template 'total and deterministic' (their statements: YtdmcmfjhlpnaeaaTotals.lean).
  GIVEN WITH THE SEED: the statements are not yours to turn. If you find one false, say at which input.
  Laid BY PROGRAM, IN A SANDBOX (cutbox-rows.mjs): the forced cells as the released guide's own fill.sh prints them over the translation beaf63c1596d88e5… (all of the seat's roots in one cut). By AI agents, Wed Nov 11 2026. No macro, syntax, notation, axiom, sorry.
-/
import Derived.Test.YtdmcmfjhlpnaeaaChecked
import GoSem.Claim
import GoSem.ClaimJoined
import GoSem.ClaimMapViews
import Derived.JoinedTies
import Derived.KernelRfl
namespace Go.Proofs.Ytdmcmfjhlpnaeaa
/- THE CELL 'sum', in the pinned program and in every row, IS THE sha256 OF THE DUMP (.gsa) THAT YtdmcmfjhlpnaeaaProg.lean LOADS. Nothing in Lean hashes anything: it is a label: what it is worth is what the hold of that sum in a sandbox is worth. -/
noncomputable def Try.pinned : Pinned := { name := "ytdmcmfjhlpnaeaa", sum := "beaf63c1596d88e5552c22de32752a5f0e93e058a2d535bf6493763714e0830c", checked := Try.checked }
namespace Rows
def none {H : Type} : Left H := { results := [], args := [] }

/-- 'hagioscopelaw01.BePuts': WHATEVER THE INPUT: true; the input reads as it did. -/
def bePutsSpec : ChangeSpec := { name := "bePuts", fn := fun _ => fun
  | [d1, d2, d3, d4] => { results := [.lit (.bool true)], args := [d1, d2, d3, d4] }
  | _ => none }
def bePutsRow : OpenClaim := { program := "ytdmcmfjhlpnaeaa", sum := "beaf63c1596d88e5552c22de32752a5f0e93e058a2d535bf6493763714e0830c", func := "hagioscope/hagioscopelaw01.BePuts", spec := "bePuts", apart := false }
def BePutsSaid : Prop := bePutsRow.holds Try.pinned (OpenSpec.ofChange bePutsSpec)

/-- ITS FALSE NEIGHBOUR: 'it returns false'. Refute it at one input. -/
def bePutsWrong : ChangeSpec := { name := "bePuts", fn := fun _ => fun
  | [d1, d2, d3, d4] => { results := [.lit (.bool false)], args := [d1, d2, d3, d4] }
  | _ => none }
def BePutsWrongFalsely : Prop := bePutsRow.holds Try.pinned (OpenSpec.ofChange bePutsWrong)

/-- 'hagioscopelaw01.BeReads': WHATEVER THE INPUT: true; the input reads as it did. -/
def beReadsSpec : ChangeSpec := { name := "beReads", fn := fun _ => fun
  | [d1, d2] => { results := [.lit (.bool true)], args := [d1, d2] }
  | _ => none }
def beReadsRow : OpenClaim := { program := "ytdmcmfjhlpnaeaa", sum := "beaf63c1596d88e5552c22de32752a5f0e93e058a2d535bf6493763714e0830c", func := "hagioscope/hagioscopelaw01.BeReads", spec := "beReads", apart := false }
def BeReadsSaid : Prop := beReadsRow.holds Try.pinned (OpenSpec.ofChange beReadsSpec)

/-- ITS FALSE NEIGHBOUR: 'it returns false'. Refute it at one input. -/
def beReadsWrong : ChangeSpec := { name := "beReads", fn := fun _ => fun
  | [d1, d2] => { results := [.lit (.bool false)], args := [d1, d2] }
  | _ => none }
def BeReadsWrongFalsely : Prop := beReadsRow.holds Try.pinned (OpenSpec.ofChange beReadsWrong)

/-- 'hagioscopelaw01.BeBack': WHATEVER THE INPUT: true; the input reads as it did. -/
def beBackSpec : ChangeSpec := { name := "beBack", fn := fun _ => fun
  | [d1, d2] => { results := [.lit (.bool true)], args := [d1, d2] }
  | _ => none }
def beBackRow : OpenClaim := { program := "ytdmcmfjhlpnaeaa", sum := "beaf63c1596d88e5552c22de32752a5f0e93e058a2d535bf6493763714e0830c", func := "hagioscope/hagioscopelaw01.BeBack", spec := "beBack", apart := false }
def BeBackSaid : Prop := beBackRow.holds Try.pinned (OpenSpec.ofChange beBackSpec)

/-- ITS FALSE NEIGHBOUR: 'it returns false'. Refute it at one input. -/
def beBackWrong : ChangeSpec := { name := "beBack", fn := fun _ => fun
  | [d1, d2] => { results := [.lit (.bool false)], args := [d1, d2] }
  | _ => none }
def BeBackWrongFalsely : Prop := beBackRow.holds Try.pinned (OpenSpec.ofChange beBackWrong)

/-- 'hagioscopelaw01.BeSizes': WHATEVER THE INPUT: true; the input reads as it did. -/
def beSizesSpec : ChangeSpec := { name := "beSizes", fn := fun _ => fun
  | [d1, d2] => { results := [.lit (.bool true)], args := [d1, d2] }
  | _ => none }
def beSizesRow : OpenClaim := { program := "ytdmcmfjhlpnaeaa", sum := "beaf63c1596d88e5552c22de32752a5f0e93e058a2d535bf6493763714e0830c", func := "hagioscope/hagioscopelaw01.BeSizes", spec := "beSizes", apart := false }
def BeSizesSaid : Prop := beSizesRow.holds Try.pinned (OpenSpec.ofChange beSizesSpec)

/-- ITS FALSE NEIGHBOUR: 'it returns false'. Refute it at one input. -/
def beSizesWrong : ChangeSpec := { name := "beSizes", fn := fun _ => fun
  | [d1, d2] => { results := [.lit (.bool false)], args := [d1, d2] }
  | _ => none }
def BeSizesWrongFalsely : Prop := beSizesRow.holds Try.pinned (OpenSpec.ofChange beSizesWrong)

/-- 'hagioscopelaw01.BeCut': WHATEVER THE INPUT: true; the input reads as it did. -/
def beCutSpec : ChangeSpec := { name := "beCut", fn := fun _ => fun
  | [d1, d2] => { results := [.lit (.bool true)], args := [d1, d2] }
  | _ => none }
def beCutRow : OpenClaim := { program := "ytdmcmfjhlpnaeaa", sum := "beaf63c1596d88e5552c22de32752a5f0e93e058a2d535bf6493763714e0830c", func := "hagioscope/hagioscopelaw01.BeCut", spec := "beCut", apart := false }
def BeCutSaid : Prop := beCutRow.holds Try.pinned (OpenSpec.ofChange beCutSpec)

/-- ITS FALSE NEIGHBOUR: 'it returns false'. Refute it at one input. -/
def beCutWrong : ChangeSpec := { name := "beCut", fn := fun _ => fun
  | [d1, d2] => { results := [.lit (.bool false)], args := [d1, d2] }
  | _ => none }
def BeCutWrongFalsely : Prop := beCutRow.holds Try.pinned (OpenSpec.ofChange beCutWrong)

/-- 'hagioscopelaw01.BeSplit': WHATEVER THE INPUT: true; the input reads as it did. -/
def beSplitSpec : ChangeSpec := { name := "beSplit", fn := fun _ => fun
  | [d1, d2, d3, d4] => { results := [.lit (.bool true)], args := [d1, d2, d3, d4] }
  | _ => none }
def beSplitRow : OpenClaim := { program := "ytdmcmfjhlpnaeaa", sum := "beaf63c1596d88e5552c22de32752a5f0e93e058a2d535bf6493763714e0830c", func := "hagioscope/hagioscopelaw01.BeSplit", spec := "beSplit", apart := false }
def BeSplitSaid : Prop := beSplitRow.holds Try.pinned (OpenSpec.ofChange beSplitSpec)

/-- ITS FALSE NEIGHBOUR: 'it returns false'. Refute it at one input. -/
def beSplitWrong : ChangeSpec := { name := "beSplit", fn := fun _ => fun
  | [d1, d2, d3, d4] => { results := [.lit (.bool false)], args := [d1, d2, d3, d4] }
  | _ => none }
def BeSplitWrongFalsely : Prop := beSplitRow.holds Try.pinned (OpenSpec.ofChange beSplitWrong)

/-- 'hagioscopelaw10.ExtsReads': WHATEVER THE INPUT: true; the input reads as it did. -/
def extsReadsSpec : ChangeSpec := { name := "extsReads", fn := fun _ => fun
  | [d] => { results := [.lit (.bool true)], args := [d] }
  | _ => none }
def extsReadsRow : OpenClaim := { program := "ytdmcmfjhlpnaeaa", sum := "beaf63c1596d88e5552c22de32752a5f0e93e058a2d535bf6493763714e0830c", func := "hagioscope/hagioscopelaw10.ExtsReads", spec := "extsReads", unfollowed := true, recurses := true, apart := false }
def ExtsReadsSaid : Prop := extsReadsRow.holds Try.pinned (OpenSpec.ofChange extsReadsSpec)

/-- ITS FALSE NEIGHBOUR: 'it returns false'. Refute it at one input. -/
def extsReadsWrong : ChangeSpec := { name := "extsReads", fn := fun _ => fun
  | [d] => { results := [.lit (.bool false)], args := [d] }
  | _ => none }
def ExtsReadsWrongFalsely : Prop := extsReadsRow.holds Try.pinned (OpenSpec.ofChange extsReadsWrong)

/-- 'hagioscopelaw10.ExtsSees': WHATEVER THE INPUT: true; the input reads as it did. -/
def extsSeesSpec : ChangeSpec := { name := "extsSees", fn := fun _ => fun
  | [d] => { results := [.lit (.bool true)], args := [d] }
  | _ => none }
def extsSeesRow : OpenClaim := { program := "ytdmcmfjhlpnaeaa", sum := "beaf63c1596d88e5552c22de32752a5f0e93e058a2d535bf6493763714e0830c", func := "hagioscope/hagioscopelaw10.ExtsSees", spec := "extsSees", unfollowed := true, recurses := true, apart := false }
def ExtsSeesSaid : Prop := extsSeesRow.holds Try.pinned (OpenSpec.ofChange extsSeesSpec)

/-- ITS FALSE NEIGHBOUR: 'it returns false'. Refute it at one input. -/
def extsSeesWrong : ChangeSpec := { name := "extsSees", fn := fun _ => fun
  | [d] => { results := [.lit (.bool false)], args := [d] }
  | _ => none }
def ExtsSeesWrongFalsely : Prop := extsSeesRow.holds Try.pinned (OpenSpec.ofChange extsSeesWrong)

/-- 'hagioscopelaw10.ExtsOthers': WHATEVER THE INPUT: true; the input reads as it did. -/
def extsOthersSpec : ChangeSpec := { name := "extsOthers", fn := fun _ => fun
  | [d1, d2, d3, d4] => { results := [.lit (.bool true)], args := [d1, d2, d3, d4] }
  | _ => none }
def extsOthersRow : OpenClaim := { program := "ytdmcmfjhlpnaeaa", sum := "beaf63c1596d88e5552c22de32752a5f0e93e058a2d535bf6493763714e0830c", func := "hagioscope/hagioscopelaw10.ExtsOthers", spec := "extsOthers", unfollowed := true, recurses := true, apart := false }
def ExtsOthersSaid : Prop := extsOthersRow.holds Try.pinned (OpenSpec.ofChange extsOthersSpec)

/-- ITS FALSE NEIGHBOUR: 'it returns false'. Refute it at one input. -/
def extsOthersWrong : ChangeSpec := { name := "extsOthers", fn := fun _ => fun
  | [d1, d2, d3, d4] => { results := [.lit (.bool false)], args := [d1, d2, d3, d4] }
  | _ => none }
def ExtsOthersWrongFalsely : Prop := extsOthersRow.holds Try.pinned (OpenSpec.ofChange extsOthersWrong)

/-- 'hagioscopelaw09.HelloParses': WHATEVER THE INPUT: true; the input reads as it did. -/
def helloParsesSpec : ChangeSpec := { name := "helloParses", fn := fun _ => fun
  | [d] => { results := [.lit (.bool true)], args := [d] }
  | _ => none }
def helloParsesRow : OpenClaim := { program := "ytdmcmfjhlpnaeaa", sum := "beaf63c1596d88e5552c22de32752a5f0e93e058a2d535bf6493763714e0830c", func := "hagioscope/hagioscopelaw09.HelloParses", spec := "helloParses", unfollowed := true, recurses := true, apart := false }
def HelloParsesSaid : Prop := helloParsesRow.holds Try.pinned (OpenSpec.ofChange helloParsesSpec)

/-- ITS FALSE NEIGHBOUR: 'it returns false'. Refute it at one input. -/
def helloParsesWrong : ChangeSpec := { name := "helloParses", fn := fun _ => fun
  | [d] => { results := [.lit (.bool false)], args := [d] }
  | _ => none }
def HelloParsesWrongFalsely : Prop := helloParsesRow.holds Try.pinned (OpenSpec.ofChange helloParsesWrong)

/-- 'hagioscopelaw09.HelloPrints': WHATEVER THE INPUT: true; the input reads as it did. -/
def helloPrintsSpec : ChangeSpec := { name := "helloPrints", fn := fun _ => fun
  | [d1, d2] => { results := [.lit (.bool true)], args := [d1, d2] }
  | _ => none }
def helloPrintsRow : OpenClaim := { program := "ytdmcmfjhlpnaeaa", sum := "beaf63c1596d88e5552c22de32752a5f0e93e058a2d535bf6493763714e0830c", func := "hagioscope/hagioscopelaw09.HelloPrints", spec := "helloPrints", unfollowed := true, recurses := true, apart := false }
def HelloPrintsSaid : Prop := helloPrintsRow.holds Try.pinned (OpenSpec.ofChange helloPrintsSpec)

/-- ITS FALSE NEIGHBOUR: 'it returns false'. Refute it at one input. -/
def helloPrintsWrong : ChangeSpec := { name := "helloPrints", fn := fun _ => fun
  | [d1, d2] => { results := [.lit (.bool false)], args := [d1, d2] }
  | _ => none }
def HelloPrintsWrongFalsely : Prop := helloPrintsRow.holds Try.pinned (OpenSpec.ofChange helloPrintsWrong)

/-- 'hagioscopelaw09.HelloBack': WHATEVER THE INPUT: true; the input reads as it did. -/
def helloBackSpec : ChangeSpec := { name := "helloBack", fn := fun _ => fun
  | [d1, d2] => { results := [.lit (.bool true)], args := [d1, d2] }
  | _ => none }
def helloBackRow : OpenClaim := { program := "ytdmcmfjhlpnaeaa", sum := "beaf63c1596d88e5552c22de32752a5f0e93e058a2d535bf6493763714e0830c", func := "hagioscope/hagioscopelaw09.HelloBack", spec := "helloBack", unfollowed := true, recurses := true, apart := false }
def HelloBackSaid : Prop := helloBackRow.holds Try.pinned (OpenSpec.ofChange helloBackSpec)

/-- ITS FALSE NEIGHBOUR: 'it returns false'. Refute it at one input. -/
def helloBackWrong : ChangeSpec := { name := "helloBack", fn := fun _ => fun
  | [d1, d2] => { results := [.lit (.bool false)], args := [d1, d2] }
  | _ => none }
def HelloBackWrongFalsely : Prop := helloBackRow.holds Try.pinned (OpenSpec.ofChange helloBackWrong)

/-- 'hagioscopelaw09.HelloCut': WHATEVER THE INPUT: true; the input reads as it did. -/
def helloCutSpec : ChangeSpec := { name := "helloCut", fn := fun _ => fun
  | [d1, d2, d3] => { results := [.lit (.bool true)], args := [d1, d2, d3] }
  | _ => none }
def helloCutRow : OpenClaim := { program := "ytdmcmfjhlpnaeaa", sum := "beaf63c1596d88e5552c22de32752a5f0e93e058a2d535bf6493763714e0830c", func := "hagioscope/hagioscopelaw09.HelloCut", spec := "helloCut", unfollowed := true, recurses := true, apart := false }
def HelloCutSaid : Prop := helloCutRow.holds Try.pinned (OpenSpec.ofChange helloCutSpec)

/-- ITS FALSE NEIGHBOUR: 'it returns false'. Refute it at one input. -/
def helloCutWrong : ChangeSpec := { name := "helloCut", fn := fun _ => fun
  | [d1, d2, d3] => { results := [.lit (.bool false)], args := [d1, d2, d3] }
  | _ => none }
def HelloCutWrongFalsely : Prop := helloCutRow.holds Try.pinned (OpenSpec.ofChange helloCutWrong)

/-- 'hagioscopelaw09.HelloKinds': WHATEVER THE INPUT: true; the input reads as it did. -/
def helloKindsSpec : ChangeSpec := { name := "helloKinds", fn := fun _ => fun
  | [d1, d2] => { results := [.lit (.bool true)], args := [d1, d2] }
  | _ => none }
def helloKindsRow : OpenClaim := { program := "ytdmcmfjhlpnaeaa", sum := "beaf63c1596d88e5552c22de32752a5f0e93e058a2d535bf6493763714e0830c", func := "hagioscope/hagioscopelaw09.HelloKinds", spec := "helloKinds", unfollowed := true, recurses := true, apart := false }
def HelloKindsSaid : Prop := helloKindsRow.holds Try.pinned (OpenSpec.ofChange helloKindsSpec)

/-- ITS FALSE NEIGHBOUR: 'it returns false'. Refute it at one input. -/
def helloKindsWrong : ChangeSpec := { name := "helloKinds", fn := fun _ => fun
  | [d1, d2] => { results := [.lit (.bool false)], args := [d1, d2] }
  | _ => none }
def HelloKindsWrongFalsely : Prop := helloKindsRow.holds Try.pinned (OpenSpec.ofChange helloKindsWrong)

/-- 'hagioscopelaw09.HelloBare': WHATEVER THE INPUT: true; the input reads as it did. -/
def helloBareSpec : ChangeSpec := { name := "helloBare", fn := fun _ => fun
  | [d] => { results := [.lit (.bool true)], args := [d] }
  | _ => none }
def helloBareRow : OpenClaim := { program := "ytdmcmfjhlpnaeaa", sum := "beaf63c1596d88e5552c22de32752a5f0e93e058a2d535bf6493763714e0830c", func := "hagioscope/hagioscopelaw09.HelloBare", spec := "helloBare", unfollowed := true, recurses := true, apart := false }
def HelloBareSaid : Prop := helloBareRow.holds Try.pinned (OpenSpec.ofChange helloBareSpec)

/-- ITS FALSE NEIGHBOUR: 'it returns false'. Refute it at one input. -/
def helloBareWrong : ChangeSpec := { name := "helloBare", fn := fun _ => fun
  | [d] => { results := [.lit (.bool false)], args := [d] }
  | _ => none }
def HelloBareWrongFalsely : Prop := helloBareRow.holds Try.pinned (OpenSpec.ofChange helloBareWrong)

/-- 'hagioscopelaw10.ExtsMore': WHATEVER THE INPUT: true; the input reads as it did. -/
def extsMoreSpec : ChangeSpec := { name := "extsMore", fn := fun _ => fun
  | [d1, d2, d3, d4] => { results := [.lit (.bool true)], args := [d1, d2, d3, d4] }
  | _ => none }
def extsMoreRow : OpenClaim := { program := "ytdmcmfjhlpnaeaa", sum := "beaf63c1596d88e5552c22de32752a5f0e93e058a2d535bf6493763714e0830c", func := "hagioscope/hagioscopelaw10.ExtsMore", spec := "extsMore", unfollowed := true, recurses := true, apart := false }
def ExtsMoreSaid : Prop := extsMoreRow.holds Try.pinned (OpenSpec.ofChange extsMoreSpec)

/-- ITS FALSE NEIGHBOUR: 'it returns false'. Refute it at one input. -/
def extsMoreWrong : ChangeSpec := { name := "extsMore", fn := fun _ => fun
  | [d1, d2, d3, d4] => { results := [.lit (.bool false)], args := [d1, d2, d3, d4] }
  | _ => none }
def ExtsMoreWrongFalsely : Prop := extsMoreRow.holds Try.pinned (OpenSpec.ofChange extsMoreWrong)

/-- 'hagioscopelaw10.ExtsPuts': WHATEVER THE INPUT: true; the input reads as it did. -/
def extsPutsSpec : ChangeSpec := { name := "extsPuts", fn := fun _ => fun
  | [d1, d2, d3] => { results := [.lit (.bool true)], args := [d1, d2, d3] }
  | _ => none }
def extsPutsRow : OpenClaim := { program := "ytdmcmfjhlpnaeaa", sum := "beaf63c1596d88e5552c22de32752a5f0e93e058a2d535bf6493763714e0830c", func := "hagioscope/hagioscopelaw10.ExtsPuts", spec := "extsPuts", unfollowed := true, recurses := true, apart := false }
def ExtsPutsSaid : Prop := extsPutsRow.holds Try.pinned (OpenSpec.ofChange extsPutsSpec)

/-- ITS FALSE NEIGHBOUR: 'it returns false'. Refute it at one input. -/
def extsPutsWrong : ChangeSpec := { name := "extsPuts", fn := fun _ => fun
  | [d1, d2, d3] => { results := [.lit (.bool false)], args := [d1, d2, d3] }
  | _ => none }
def ExtsPutsWrongFalsely : Prop := extsPutsRow.holds Try.pinned (OpenSpec.ofChange extsPutsWrong)

/-- 'hagioscopelaw10.ExtsBack': WHATEVER THE INPUT: true; the input reads as it did. -/
def extsBackSpec : ChangeSpec := { name := "extsBack", fn := fun _ => fun
  | [d1, d2, d3] => { results := [.lit (.bool true)], args := [d1, d2, d3] }
  | _ => none }
def extsBackRow : OpenClaim := { program := "ytdmcmfjhlpnaeaa", sum := "beaf63c1596d88e5552c22de32752a5f0e93e058a2d535bf6493763714e0830c", func := "hagioscope/hagioscopelaw10.ExtsBack", spec := "extsBack", unfollowed := true, recurses := true, apart := false }
def ExtsBackSaid : Prop := extsBackRow.holds Try.pinned (OpenSpec.ofChange extsBackSpec)

/-- ITS FALSE NEIGHBOUR: 'it returns false'. Refute it at one input. -/
def extsBackWrong : ChangeSpec := { name := "extsBack", fn := fun _ => fun
  | [d1, d2, d3] => { results := [.lit (.bool false)], args := [d1, d2, d3] }
  | _ => none }
def ExtsBackWrongFalsely : Prop := extsBackRow.holds Try.pinned (OpenSpec.ofChange extsBackWrong)

/- THE SECOND FORM. 'bulk': how many values and letters a reading holds, each counted each time it is reached (what is shared counts as often as it is met; a slice's spare places count too). A statement '..UptoSaid' is the law's where the arguments, and the package variables that the reading takes, are together of bulk at most 1048576: NARROWER than '..Said'. Prove '..Said' where nothing that the law and all that it calls make is longer than what came in: it says more and counts as full. Else prove '..UptoSaid'. A law counts once. -/
mutual
def uptoBulk {H : Type} : DataW H → Nat
  | .lit (.string bytes) => bytes.length + 1
  | .lit _ => 1
  | .nil => 1
  | .ptr d => uptoBulk d + 1
  | .slice elems spare => uptoBulkAll elems + uptoBulkAll spare + 1
  | .agg parts => uptoBulkAll parts + 1
  | .iface _ d => uptoBulk d + 1
  | .map entries => uptoBulkEntries entries + 1
  | .held _ => 1
def uptoBulkAll {H : Type} : List (DataW H) → Nat
  | [] => 0
  | d :: r => uptoBulk d + uptoBulkAll r
def uptoBulkEntries {H : Type} : List (Lit × DataW H) → Nat
  | [] => 0
  | x :: r => uptoBulkEntry x + uptoBulkEntries r
def uptoBulkEntry {H : Type} : Lit × DataW H → Nat
  | (.string bytes, d) => bytes.length + uptoBulk d + 1
  | (_, d) => uptoBulk d + 1
 end
def uptoSmall : (H : Type) → List (DataW H) → Bool := fun _ ds => decide (uptoBulkAll ds ≤ 1048576)
def OpenSpec.upto (s : _root_.Go.ChangeSpec) : _root_.Go.OpenSpec := { _root_.Go.OpenSpec.ofChange s with cond := some uptoSmall }

/-- 'hagioscopelaw01.BePuts', WHERE WHAT IT READS IS OF BULK AT MOST 1048576: true; the input reads as it did. -/
def bePutsUptoRow : OpenClaim := { program := "ytdmcmfjhlpnaeaa", sum := "beaf63c1596d88e5552c22de32752a5f0e93e058a2d535bf6493763714e0830c", func := "hagioscope/hagioscopelaw01.BePuts", spec := "bePuts", apart := false, narrowed := true }
def BePutsUptoSaid : Prop := bePutsUptoRow.holds Try.pinned (OpenSpec.upto bePutsSpec)

/-- 'hagioscopelaw01.BeReads', WHERE WHAT IT READS IS OF BULK AT MOST 1048576: true; the input reads as it did. -/
def beReadsUptoRow : OpenClaim := { program := "ytdmcmfjhlpnaeaa", sum := "beaf63c1596d88e5552c22de32752a5f0e93e058a2d535bf6493763714e0830c", func := "hagioscope/hagioscopelaw01.BeReads", spec := "beReads", apart := false, narrowed := true }
def BeReadsUptoSaid : Prop := beReadsUptoRow.holds Try.pinned (OpenSpec.upto beReadsSpec)

/-- 'hagioscopelaw01.BeBack', WHERE WHAT IT READS IS OF BULK AT MOST 1048576: true; the input reads as it did. -/
def beBackUptoRow : OpenClaim := { program := "ytdmcmfjhlpnaeaa", sum := "beaf63c1596d88e5552c22de32752a5f0e93e058a2d535bf6493763714e0830c", func := "hagioscope/hagioscopelaw01.BeBack", spec := "beBack", apart := false, narrowed := true }
def BeBackUptoSaid : Prop := beBackUptoRow.holds Try.pinned (OpenSpec.upto beBackSpec)

/-- 'hagioscopelaw01.BeSizes', WHERE WHAT IT READS IS OF BULK AT MOST 1048576: true; the input reads as it did. -/
def beSizesUptoRow : OpenClaim := { program := "ytdmcmfjhlpnaeaa", sum := "beaf63c1596d88e5552c22de32752a5f0e93e058a2d535bf6493763714e0830c", func := "hagioscope/hagioscopelaw01.BeSizes", spec := "beSizes", apart := false, narrowed := true }
def BeSizesUptoSaid : Prop := beSizesUptoRow.holds Try.pinned (OpenSpec.upto beSizesSpec)

/-- 'hagioscopelaw01.BeCut', WHERE WHAT IT READS IS OF BULK AT MOST 1048576: true; the input reads as it did. -/
def beCutUptoRow : OpenClaim := { program := "ytdmcmfjhlpnaeaa", sum := "beaf63c1596d88e5552c22de32752a5f0e93e058a2d535bf6493763714e0830c", func := "hagioscope/hagioscopelaw01.BeCut", spec := "beCut", apart := false, narrowed := true }
def BeCutUptoSaid : Prop := beCutUptoRow.holds Try.pinned (OpenSpec.upto beCutSpec)

/-- 'hagioscopelaw01.BeSplit', WHERE WHAT IT READS IS OF BULK AT MOST 1048576: true; the input reads as it did. -/
def beSplitUptoRow : OpenClaim := { program := "ytdmcmfjhlpnaeaa", sum := "beaf63c1596d88e5552c22de32752a5f0e93e058a2d535bf6493763714e0830c", func := "hagioscope/hagioscopelaw01.BeSplit", spec := "beSplit", apart := false, narrowed := true }
def BeSplitUptoSaid : Prop := beSplitUptoRow.holds Try.pinned (OpenSpec.upto beSplitSpec)

/-- 'hagioscopelaw10.ExtsReads', WHERE WHAT IT READS IS OF BULK AT MOST 1048576: true; the input reads as it did. -/
def extsReadsUptoRow : OpenClaim := { program := "ytdmcmfjhlpnaeaa", sum := "beaf63c1596d88e5552c22de32752a5f0e93e058a2d535bf6493763714e0830c", func := "hagioscope/hagioscopelaw10.ExtsReads", spec := "extsReads", unfollowed := true, recurses := true, apart := false, narrowed := true }
def ExtsReadsUptoSaid : Prop := extsReadsUptoRow.holds Try.pinned (OpenSpec.upto extsReadsSpec)

/-- 'hagioscopelaw10.ExtsSees', WHERE WHAT IT READS IS OF BULK AT MOST 1048576: true; the input reads as it did. -/
def extsSeesUptoRow : OpenClaim := { program := "ytdmcmfjhlpnaeaa", sum := "beaf63c1596d88e5552c22de32752a5f0e93e058a2d535bf6493763714e0830c", func := "hagioscope/hagioscopelaw10.ExtsSees", spec := "extsSees", unfollowed := true, recurses := true, apart := false, narrowed := true }
def ExtsSeesUptoSaid : Prop := extsSeesUptoRow.holds Try.pinned (OpenSpec.upto extsSeesSpec)

/-- 'hagioscopelaw10.ExtsOthers', WHERE WHAT IT READS IS OF BULK AT MOST 1048576: true; the input reads as it did. -/
def extsOthersUptoRow : OpenClaim := { program := "ytdmcmfjhlpnaeaa", sum := "beaf63c1596d88e5552c22de32752a5f0e93e058a2d535bf6493763714e0830c", func := "hagioscope/hagioscopelaw10.ExtsOthers", spec := "extsOthers", unfollowed := true, recurses := true, apart := false, narrowed := true }
def ExtsOthersUptoSaid : Prop := extsOthersUptoRow.holds Try.pinned (OpenSpec.upto extsOthersSpec)

/-- 'hagioscopelaw09.HelloParses', WHERE WHAT IT READS IS OF BULK AT MOST 1048576: true; the input reads as it did. -/
def helloParsesUptoRow : OpenClaim := { program := "ytdmcmfjhlpnaeaa", sum := "beaf63c1596d88e5552c22de32752a5f0e93e058a2d535bf6493763714e0830c", func := "hagioscope/hagioscopelaw09.HelloParses", spec := "helloParses", unfollowed := true, recurses := true, apart := false, narrowed := true }
def HelloParsesUptoSaid : Prop := helloParsesUptoRow.holds Try.pinned (OpenSpec.upto helloParsesSpec)

/-- 'hagioscopelaw09.HelloPrints', WHERE WHAT IT READS IS OF BULK AT MOST 1048576: true; the input reads as it did. -/
def helloPrintsUptoRow : OpenClaim := { program := "ytdmcmfjhlpnaeaa", sum := "beaf63c1596d88e5552c22de32752a5f0e93e058a2d535bf6493763714e0830c", func := "hagioscope/hagioscopelaw09.HelloPrints", spec := "helloPrints", unfollowed := true, recurses := true, apart := false, narrowed := true }
def HelloPrintsUptoSaid : Prop := helloPrintsUptoRow.holds Try.pinned (OpenSpec.upto helloPrintsSpec)

/-- 'hagioscopelaw09.HelloBack', WHERE WHAT IT READS IS OF BULK AT MOST 1048576: true; the input reads as it did. -/
def helloBackUptoRow : OpenClaim := { program := "ytdmcmfjhlpnaeaa", sum := "beaf63c1596d88e5552c22de32752a5f0e93e058a2d535bf6493763714e0830c", func := "hagioscope/hagioscopelaw09.HelloBack", spec := "helloBack", unfollowed := true, recurses := true, apart := false, narrowed := true }
def HelloBackUptoSaid : Prop := helloBackUptoRow.holds Try.pinned (OpenSpec.upto helloBackSpec)

/-- 'hagioscopelaw09.HelloCut', WHERE WHAT IT READS IS OF BULK AT MOST 1048576: true; the input reads as it did. -/
def helloCutUptoRow : OpenClaim := { program := "ytdmcmfjhlpnaeaa", sum := "beaf63c1596d88e5552c22de32752a5f0e93e058a2d535bf6493763714e0830c", func := "hagioscope/hagioscopelaw09.HelloCut", spec := "helloCut", unfollowed := true, recurses := true, apart := false, narrowed := true }
def HelloCutUptoSaid : Prop := helloCutUptoRow.holds Try.pinned (OpenSpec.upto helloCutSpec)

/-- 'hagioscopelaw09.HelloKinds', WHERE WHAT IT READS IS OF BULK AT MOST 1048576: true; the input reads as it did. -/
def helloKindsUptoRow : OpenClaim := { program := "ytdmcmfjhlpnaeaa", sum := "beaf63c1596d88e5552c22de32752a5f0e93e058a2d535bf6493763714e0830c", func := "hagioscope/hagioscopelaw09.HelloKinds", spec := "helloKinds", unfollowed := true, recurses := true, apart := false, narrowed := true }
def HelloKindsUptoSaid : Prop := helloKindsUptoRow.holds Try.pinned (OpenSpec.upto helloKindsSpec)

/-- 'hagioscopelaw09.HelloBare', WHERE WHAT IT READS IS OF BULK AT MOST 1048576: true; the input reads as it did. -/
def helloBareUptoRow : OpenClaim := { program := "ytdmcmfjhlpnaeaa", sum := "beaf63c1596d88e5552c22de32752a5f0e93e058a2d535bf6493763714e0830c", func := "hagioscope/hagioscopelaw09.HelloBare", spec := "helloBare", unfollowed := true, recurses := true, apart := false, narrowed := true }
def HelloBareUptoSaid : Prop := helloBareUptoRow.holds Try.pinned (OpenSpec.upto helloBareSpec)

/-- 'hagioscopelaw10.ExtsMore', WHERE WHAT IT READS IS OF BULK AT MOST 1048576: true; the input reads as it did. -/
def extsMoreUptoRow : OpenClaim := { program := "ytdmcmfjhlpnaeaa", sum := "beaf63c1596d88e5552c22de32752a5f0e93e058a2d535bf6493763714e0830c", func := "hagioscope/hagioscopelaw10.ExtsMore", spec := "extsMore", unfollowed := true, recurses := true, apart := false, narrowed := true }
def ExtsMoreUptoSaid : Prop := extsMoreUptoRow.holds Try.pinned (OpenSpec.upto extsMoreSpec)

/-- 'hagioscopelaw10.ExtsPuts', WHERE WHAT IT READS IS OF BULK AT MOST 1048576: true; the input reads as it did. -/
def extsPutsUptoRow : OpenClaim := { program := "ytdmcmfjhlpnaeaa", sum := "beaf63c1596d88e5552c22de32752a5f0e93e058a2d535bf6493763714e0830c", func := "hagioscope/hagioscopelaw10.ExtsPuts", spec := "extsPuts", unfollowed := true, recurses := true, apart := false, narrowed := true }
def ExtsPutsUptoSaid : Prop := extsPutsUptoRow.holds Try.pinned (OpenSpec.upto extsPutsSpec)

/-- 'hagioscopelaw10.ExtsBack', WHERE WHAT IT READS IS OF BULK AT MOST 1048576: true; the input reads as it did. -/
def extsBackUptoRow : OpenClaim := { program := "ytdmcmfjhlpnaeaa", sum := "beaf63c1596d88e5552c22de32752a5f0e93e058a2d535bf6493763714e0830c", func := "hagioscope/hagioscopelaw10.ExtsBack", spec := "extsBack", unfollowed := true, recurses := true, apart := false, narrowed := true }
def ExtsBackUptoSaid : Prop := extsBackUptoRow.holds Try.pinned (OpenSpec.upto extsBackSpec)

end Rows
end Go.Proofs.Ytdmcmfjhlpnaeaa
