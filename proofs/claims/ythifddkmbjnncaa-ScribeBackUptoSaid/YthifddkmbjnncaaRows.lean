/-
  No cell of these rows narrows 'for every input' (looked for: loops, veiled, ifaces, maps, wideKeys, modest, calm, conditions, laid).
  DERIVED. THE GIVEN ROWS OF THIS SEAT. 13 by the template 'for every input the law returns true; each argument reads behind the call as it read before'; 0 by the template 'total and deterministic' (their statements: YthifddkmbjnncaaTotals.lean).
  GIVEN WITH THE SEED: the statements are not yours to turn. If you find one false, say at which input.
  Laid BY PROGRAM, IN A SANDBOX (cutbox-rows.mjs): the forced cells as the released guide's own fill.sh prints them over the translation 7a0a54011f6579ba… (all of the seat's roots in one cut). By AI agents, Wed Nov 11 2026. No macro, syntax, notation, axiom, sorry.
-/
import Derived.Test.YthifddkmbjnncaaChecked
import GoSem.Claim
import GoSem.ClaimJoined
import GoSem.ClaimMapViews
import Derived.JoinedTies
import Derived.KernelRfl
namespace Go.Proofs.Ythifddkmbjnncaa
/- THE CELL 'sum', in the pinned program and in every row, IS THE sha256 OF THE DUMP (.gsa) THAT YthifddkmbjnncaaProg.lean LOADS. Nothing in Lean hashes anything: it is a label: what it is worth is what the hold of that sum in a sandbox is worth. -/
noncomputable def Try.pinned : Pinned := { name := "ythifddkmbjnncaa", sum := "7a0a54011f6579bab94112f7bc25973b8ae388faddcb1163e796c294f9dcf0c7", checked := Try.checked }
namespace Rows
def none {H : Type} : Left H := { results := [], args := [] }

/-- 'incunablelaw03.LexisAll': WHATEVER THE INPUT: true; the input reads as it did. -/
def lexisAllSpec : ChangeSpec := { name := "lexisAll", fn := fun _ => fun
  | [d] => { results := [.lit (.bool true)], args := [d] }
  | _ => none }
def lexisAllRow : OpenClaim := { program := "ythifddkmbjnncaa", sum := "7a0a54011f6579bab94112f7bc25973b8ae388faddcb1163e796c294f9dcf0c7", func := "incunable/incunablelaw03.LexisAll", spec := "lexisAll", inPlace := ["internal/bytealg.IndexByteString", "internal/abi.NoEscape", "internal/bytealg.abigen_runtime_cmpstring"], unfollowed := true, recurses := true, apart := false }
def LexisAllSaid : Prop := lexisAllRow.holds Try.pinned (OpenSpec.ofChange lexisAllSpec)

/-- ITS FALSE NEIGHBOUR: 'it returns false'. Refute it at one input. -/
def lexisAllWrong : ChangeSpec := { name := "lexisAll", fn := fun _ => fun
  | [d] => { results := [.lit (.bool false)], args := [d] }
  | _ => none }
def LexisAllWrongFalsely : Prop := lexisAllRow.holds Try.pinned (OpenSpec.ofChange lexisAllWrong)

/-- 'incunablelaw03.LexisRow': WHATEVER THE INPUT: true; the input reads as it did. -/
def lexisRowSpec : ChangeSpec := { name := "lexisRow", fn := fun _ => fun
  | [d] => { results := [.lit (.bool true)], args := [d] }
  | _ => none }
def lexisRowRow : OpenClaim := { program := "ythifddkmbjnncaa", sum := "7a0a54011f6579bab94112f7bc25973b8ae388faddcb1163e796c294f9dcf0c7", func := "incunable/incunablelaw03.LexisRow", spec := "lexisRow", inPlace := ["internal/bytealg.IndexByteString", "internal/abi.NoEscape", "internal/bytealg.abigen_runtime_cmpstring"], unfollowed := true, recurses := true, apart := false }
def LexisRowSaid : Prop := lexisRowRow.holds Try.pinned (OpenSpec.ofChange lexisRowSpec)

/-- ITS FALSE NEIGHBOUR: 'it returns false'. Refute it at one input. -/
def lexisRowWrong : ChangeSpec := { name := "lexisRow", fn := fun _ => fun
  | [d] => { results := [.lit (.bool false)], args := [d] }
  | _ => none }
def LexisRowWrongFalsely : Prop := lexisRowRow.holds Try.pinned (OpenSpec.ofChange lexisRowWrong)

/-- 'incunablelaw03.LexisBlanks': WHATEVER THE INPUT: true; the input reads as it did. -/
def lexisBlanksSpec : ChangeSpec := { name := "lexisBlanks", fn := fun _ => fun
  | [d1, d2] => { results := [.lit (.bool true)], args := [d1, d2] }
  | _ => none }
def lexisBlanksRow : OpenClaim := { program := "ythifddkmbjnncaa", sum := "7a0a54011f6579bab94112f7bc25973b8ae388faddcb1163e796c294f9dcf0c7", func := "incunable/incunablelaw03.LexisBlanks", spec := "lexisBlanks", inPlace := ["internal/bytealg.IndexByteString", "internal/abi.NoEscape", "internal/bytealg.abigen_runtime_cmpstring"], unfollowed := true, recurses := true, apart := false }
def LexisBlanksSaid : Prop := lexisBlanksRow.holds Try.pinned (OpenSpec.ofChange lexisBlanksSpec)

/-- ITS FALSE NEIGHBOUR: 'it returns false'. Refute it at one input. -/
def lexisBlanksWrong : ChangeSpec := { name := "lexisBlanks", fn := fun _ => fun
  | [d1, d2] => { results := [.lit (.bool false)], args := [d1, d2] }
  | _ => none }
def LexisBlanksWrongFalsely : Prop := lexisBlanksRow.holds Try.pinned (OpenSpec.ofChange lexisBlanksWrong)

/-- 'incunablelaw03.LexisAhead': WHATEVER THE INPUT: true; the input reads as it did. -/
def lexisAheadSpec : ChangeSpec := { name := "lexisAhead", fn := fun _ => fun
  | [d1, d2, d3] => { results := [.lit (.bool true)], args := [d1, d2, d3] }
  | _ => none }
def lexisAheadRow : OpenClaim := { program := "ythifddkmbjnncaa", sum := "7a0a54011f6579bab94112f7bc25973b8ae388faddcb1163e796c294f9dcf0c7", func := "incunable/incunablelaw03.LexisAhead", spec := "lexisAhead", inPlace := ["internal/bytealg.IndexByteString", "internal/abi.NoEscape", "internal/bytealg.abigen_runtime_cmpstring"], unfollowed := true, recurses := true, apart := false }
def LexisAheadSaid : Prop := lexisAheadRow.holds Try.pinned (OpenSpec.ofChange lexisAheadSpec)

/-- ITS FALSE NEIGHBOUR: 'it returns false'. Refute it at one input. -/
def lexisAheadWrong : ChangeSpec := { name := "lexisAhead", fn := fun _ => fun
  | [d1, d2, d3] => { results := [.lit (.bool false)], args := [d1, d2, d3] }
  | _ => none }
def LexisAheadWrongFalsely : Prop := lexisAheadRow.holds Try.pinned (OpenSpec.ofChange lexisAheadWrong)

/-- 'incunablelaw03.LexisParts': WHATEVER THE INPUT: true; the input reads as it did. -/
def lexisPartsSpec : ChangeSpec := { name := "lexisParts", fn := fun _ => fun
  | [d] => { results := [.lit (.bool true)], args := [d] }
  | _ => none }
def lexisPartsRow : OpenClaim := { program := "ythifddkmbjnncaa", sum := "7a0a54011f6579bab94112f7bc25973b8ae388faddcb1163e796c294f9dcf0c7", func := "incunable/incunablelaw03.LexisParts", spec := "lexisParts", inPlace := ["internal/bytealg.IndexByteString", "internal/abi.NoEscape", "internal/bytealg.abigen_runtime_cmpstring"], unfollowed := true, recurses := true, apart := false }
def LexisPartsSaid : Prop := lexisPartsRow.holds Try.pinned (OpenSpec.ofChange lexisPartsSpec)

/-- ITS FALSE NEIGHBOUR: 'it returns false'. Refute it at one input. -/
def lexisPartsWrong : ChangeSpec := { name := "lexisParts", fn := fun _ => fun
  | [d] => { results := [.lit (.bool false)], args := [d] }
  | _ => none }
def LexisPartsWrongFalsely : Prop := lexisPartsRow.holds Try.pinned (OpenSpec.ofChange lexisPartsWrong)

/-- 'incunablelaw04.ParseReads': WHATEVER THE INPUT: true; the input reads as it did. -/
def parseReadsSpec : ChangeSpec := { name := "parseReads", fn := fun _ => fun
  | [d] => { results := [.lit (.bool true)], args := [d] }
  | _ => none }
def parseReadsRow : OpenClaim := { program := "ythifddkmbjnncaa", sum := "7a0a54011f6579bab94112f7bc25973b8ae388faddcb1163e796c294f9dcf0c7", func := "incunable/incunablelaw04.ParseReads", spec := "parseReads", inPlace := ["internal/bytealg.IndexByteString", "internal/abi.NoEscape", "internal/bytealg.abigen_runtime_cmpstring"], unfollowed := true, recurses := true, apart := false }
def ParseReadsSaid : Prop := parseReadsRow.holds Try.pinned (OpenSpec.ofChange parseReadsSpec)

/-- ITS FALSE NEIGHBOUR: 'it returns false'. Refute it at one input. -/
def parseReadsWrong : ChangeSpec := { name := "parseReads", fn := fun _ => fun
  | [d] => { results := [.lit (.bool false)], args := [d] }
  | _ => none }
def ParseReadsWrongFalsely : Prop := parseReadsRow.holds Try.pinned (OpenSpec.ofChange parseReadsWrong)

/-- 'incunablelaw04.ParseWraps': WHATEVER THE INPUT: true; the input reads as it did. -/
def parseWrapsSpec : ChangeSpec := { name := "parseWraps", fn := fun _ => fun
  | [d] => { results := [.lit (.bool true)], args := [d] }
  | _ => none }
def parseWrapsRow : OpenClaim := { program := "ythifddkmbjnncaa", sum := "7a0a54011f6579bab94112f7bc25973b8ae388faddcb1163e796c294f9dcf0c7", func := "incunable/incunablelaw04.ParseWraps", spec := "parseWraps", inPlace := ["internal/bytealg.IndexByteString", "internal/abi.NoEscape", "internal/bytealg.abigen_runtime_cmpstring"], unfollowed := true, recurses := true, apart := false }
def ParseWrapsSaid : Prop := parseWrapsRow.holds Try.pinned (OpenSpec.ofChange parseWrapsSpec)

/-- ITS FALSE NEIGHBOUR: 'it returns false'. Refute it at one input. -/
def parseWrapsWrong : ChangeSpec := { name := "parseWraps", fn := fun _ => fun
  | [d] => { results := [.lit (.bool false)], args := [d] }
  | _ => none }
def ParseWrapsWrongFalsely : Prop := parseWrapsRow.holds Try.pinned (OpenSpec.ofChange parseWrapsWrong)

/-- 'incunablelaw04.ParsePlaces': WHATEVER THE INPUT: true; the input reads as it did. -/
def parsePlacesSpec : ChangeSpec := { name := "parsePlaces", fn := fun _ => fun
  | [d1, d2] => { results := [.lit (.bool true)], args := [d1, d2] }
  | _ => none }
def parsePlacesRow : OpenClaim := { program := "ythifddkmbjnncaa", sum := "7a0a54011f6579bab94112f7bc25973b8ae388faddcb1163e796c294f9dcf0c7", func := "incunable/incunablelaw04.ParsePlaces", spec := "parsePlaces", inPlace := ["internal/bytealg.IndexByteString", "internal/abi.NoEscape", "internal/bytealg.abigen_runtime_cmpstring"], unfollowed := true, recurses := true, apart := false }
def ParsePlacesSaid : Prop := parsePlacesRow.holds Try.pinned (OpenSpec.ofChange parsePlacesSpec)

/-- ITS FALSE NEIGHBOUR: 'it returns false'. Refute it at one input. -/
def parsePlacesWrong : ChangeSpec := { name := "parsePlaces", fn := fun _ => fun
  | [d1, d2] => { results := [.lit (.bool false)], args := [d1, d2] }
  | _ => none }
def ParsePlacesWrongFalsely : Prop := parsePlacesRow.holds Try.pinned (OpenSpec.ofChange parsePlacesWrong)

/-- 'incunablelaw04.ParseChecks': WHATEVER THE INPUT: true; the input reads as it did. -/
def parseChecksSpec : ChangeSpec := { name := "parseChecks", fn := fun _ => fun
  | [d] => { results := [.lit (.bool true)], args := [d] }
  | _ => none }
def parseChecksRow : OpenClaim := { program := "ythifddkmbjnncaa", sum := "7a0a54011f6579bab94112f7bc25973b8ae388faddcb1163e796c294f9dcf0c7", func := "incunable/incunablelaw04.ParseChecks", spec := "parseChecks", inPlace := ["internal/bytealg.IndexByteString", "internal/abi.NoEscape", "internal/bytealg.abigen_runtime_cmpstring"], unfollowed := true, recurses := true, apart := false }
def ParseChecksSaid : Prop := parseChecksRow.holds Try.pinned (OpenSpec.ofChange parseChecksSpec)

/-- ITS FALSE NEIGHBOUR: 'it returns false'. Refute it at one input. -/
def parseChecksWrong : ChangeSpec := { name := "parseChecks", fn := fun _ => fun
  | [d] => { results := [.lit (.bool false)], args := [d] }
  | _ => none }
def ParseChecksWrongFalsely : Prop := parseChecksRow.holds Try.pinned (OpenSpec.ofChange parseChecksWrong)

/-- 'incunablelaw04.ParseRight': WHATEVER THE INPUT: true; the input reads as it did. -/
def parseRightSpec : ChangeSpec := { name := "parseRight", fn := fun _ => fun
  | [d] => { results := [.lit (.bool true)], args := [d] }
  | _ => none }
def parseRightRow : OpenClaim := { program := "ythifddkmbjnncaa", sum := "7a0a54011f6579bab94112f7bc25973b8ae388faddcb1163e796c294f9dcf0c7", func := "incunable/incunablelaw04.ParseRight", spec := "parseRight", inPlace := ["internal/bytealg.IndexByteString", "internal/abi.NoEscape", "internal/bytealg.abigen_runtime_cmpstring"], unfollowed := true, recurses := true, apart := false }
def ParseRightSaid : Prop := parseRightRow.holds Try.pinned (OpenSpec.ofChange parseRightSpec)

/-- ITS FALSE NEIGHBOUR: 'it returns false'. Refute it at one input. -/
def parseRightWrong : ChangeSpec := { name := "parseRight", fn := fun _ => fun
  | [d] => { results := [.lit (.bool false)], args := [d] }
  | _ => none }
def ParseRightWrongFalsely : Prop := parseRightRow.holds Try.pinned (OpenSpec.ofChange parseRightWrong)

/-- 'incunablelaw04.ParseShape': WHATEVER THE INPUT: true; the input reads as it did. -/
def parseShapeSpec : ChangeSpec := { name := "parseShape", fn := fun _ => fun
  | [d] => { results := [.lit (.bool true)], args := [d] }
  | _ => none }
def parseShapeRow : OpenClaim := { program := "ythifddkmbjnncaa", sum := "7a0a54011f6579bab94112f7bc25973b8ae388faddcb1163e796c294f9dcf0c7", func := "incunable/incunablelaw04.ParseShape", spec := "parseShape", inPlace := ["internal/bytealg.IndexByteString", "internal/abi.NoEscape", "internal/bytealg.abigen_runtime_cmpstring"], unfollowed := true, recurses := true, apart := false }
def ParseShapeSaid : Prop := parseShapeRow.holds Try.pinned (OpenSpec.ofChange parseShapeSpec)

/-- ITS FALSE NEIGHBOUR: 'it returns false'. Refute it at one input. -/
def parseShapeWrong : ChangeSpec := { name := "parseShape", fn := fun _ => fun
  | [d] => { results := [.lit (.bool false)], args := [d] }
  | _ => none }
def ParseShapeWrongFalsely : Prop := parseShapeRow.holds Try.pinned (OpenSpec.ofChange parseShapeWrong)

/-- 'incunablelaw05.ScribeBack': WHATEVER THE INPUT: true; the input reads as it did. -/
def scribeBackSpec : ChangeSpec := { name := "scribeBack", fn := fun _ => fun
  | [d] => { results := [.lit (.bool true)], args := [d] }
  | _ => none }
def scribeBackRow : OpenClaim := { program := "ythifddkmbjnncaa", sum := "7a0a54011f6579bab94112f7bc25973b8ae388faddcb1163e796c294f9dcf0c7", func := "incunable/incunablelaw05.ScribeBack", spec := "scribeBack", inPlace := ["internal/abi.NoEscape", "internal/bytealg.IndexByteString", "internal/bytealg.abigen_runtime_cmpstring"], unfollowed := true, recurses := true, apart := false }
def ScribeBackSaid : Prop := scribeBackRow.holds Try.pinned (OpenSpec.ofChange scribeBackSpec)

/-- ITS FALSE NEIGHBOUR: 'it returns false'. Refute it at one input. -/
def scribeBackWrong : ChangeSpec := { name := "scribeBack", fn := fun _ => fun
  | [d] => { results := [.lit (.bool false)], args := [d] }
  | _ => none }
def ScribeBackWrongFalsely : Prop := scribeBackRow.holds Try.pinned (OpenSpec.ofChange scribeBackWrong)

/-- 'incunablelaw05.ScribeAgain': WHATEVER THE INPUT: true; the input reads as it did. -/
def scribeAgainSpec : ChangeSpec := { name := "scribeAgain", fn := fun _ => fun
  | [d] => { results := [.lit (.bool true)], args := [d] }
  | _ => none }
def scribeAgainRow : OpenClaim := { program := "ythifddkmbjnncaa", sum := "7a0a54011f6579bab94112f7bc25973b8ae388faddcb1163e796c294f9dcf0c7", func := "incunable/incunablelaw05.ScribeAgain", spec := "scribeAgain", inPlace := ["internal/abi.NoEscape", "internal/bytealg.IndexByteString", "internal/bytealg.abigen_runtime_cmpstring"], unfollowed := true, recurses := true, apart := false }
def ScribeAgainSaid : Prop := scribeAgainRow.holds Try.pinned (OpenSpec.ofChange scribeAgainSpec)

/-- ITS FALSE NEIGHBOUR: 'it returns false'. Refute it at one input. -/
def scribeAgainWrong : ChangeSpec := { name := "scribeAgain", fn := fun _ => fun
  | [d] => { results := [.lit (.bool false)], args := [d] }
  | _ => none }
def ScribeAgainWrongFalsely : Prop := scribeAgainRow.holds Try.pinned (OpenSpec.ofChange scribeAgainWrong)

/- THE SECOND FORM. 'bulk': how many values and letters a reading holds, each counted each time it is reached (what is shared counts as often as it is met; a slice's spare places count too). A statement '..UptoSaid' is the law's where the arguments, and the package variables that the reading takes, are together of bulk at most 1048576: NARROWER than '..Said'. Prove '..Said' where nothing that the law and all that it calls make is longer than what came in: it says more and counts as full. Else prove '..UptoSaid'. A law counts once. -/
mutual
def uptoBulk {H : Type} : DataW H → Nat
  | .lit (.string bytes) => bytes.length + 1
  | .lit _ => 1
  | .nil => 1
  | .ptr d => uptoBulk d + 1
  | .slice elems spare => uptoBulkAll elems + uptoBulkAll spare + 1
  | .agg parts => uptoBulkAll parts + 1
  | .iface _ d => uptoBulk d + 1
  | .map entries => uptoBulkEntries entries + 1
  | .held _ => 1
def uptoBulkAll {H : Type} : List (DataW H) → Nat
  | [] => 0
  | d :: r => uptoBulk d + uptoBulkAll r
def uptoBulkEntries {H : Type} : List (Lit × DataW H) → Nat
  | [] => 0
  | x :: r => uptoBulkEntry x + uptoBulkEntries r
def uptoBulkEntry {H : Type} : Lit × DataW H → Nat
  | (.string bytes, d) => bytes.length + uptoBulk d + 1
  | (_, d) => uptoBulk d + 1
 end
def uptoSmall : (H : Type) → List (DataW H) → Bool := fun _ ds => decide (uptoBulkAll ds ≤ 1048576)
def OpenSpec.upto (s : _root_.Go.ChangeSpec) : _root_.Go.OpenSpec := { _root_.Go.OpenSpec.ofChange s with cond := some uptoSmall }

/-- 'incunablelaw03.LexisAll', WHERE WHAT IT READS IS OF BULK AT MOST 1048576: true; the input reads as it did. -/
def lexisAllUptoRow : OpenClaim := { program := "ythifddkmbjnncaa", sum := "7a0a54011f6579bab94112f7bc25973b8ae388faddcb1163e796c294f9dcf0c7", func := "incunable/incunablelaw03.LexisAll", spec := "lexisAll", inPlace := ["internal/bytealg.IndexByteString", "internal/abi.NoEscape", "internal/bytealg.abigen_runtime_cmpstring"], unfollowed := true, recurses := true, apart := false, narrowed := true }
def LexisAllUptoSaid : Prop := lexisAllUptoRow.holds Try.pinned (OpenSpec.upto lexisAllSpec)

/-- 'incunablelaw03.LexisRow', WHERE WHAT IT READS IS OF BULK AT MOST 1048576: true; the input reads as it did. -/
def lexisRowUptoRow : OpenClaim := { program := "ythifddkmbjnncaa", sum := "7a0a54011f6579bab94112f7bc25973b8ae388faddcb1163e796c294f9dcf0c7", func := "incunable/incunablelaw03.LexisRow", spec := "lexisRow", inPlace := ["internal/bytealg.IndexByteString", "internal/abi.NoEscape", "internal/bytealg.abigen_runtime_cmpstring"], unfollowed := true, recurses := true, apart := false, narrowed := true }
def LexisRowUptoSaid : Prop := lexisRowUptoRow.holds Try.pinned (OpenSpec.upto lexisRowSpec)

/-- 'incunablelaw03.LexisBlanks', WHERE WHAT IT READS IS OF BULK AT MOST 1048576: true; the input reads as it did. -/
def lexisBlanksUptoRow : OpenClaim := { program := "ythifddkmbjnncaa", sum := "7a0a54011f6579bab94112f7bc25973b8ae388faddcb1163e796c294f9dcf0c7", func := "incunable/incunablelaw03.LexisBlanks", spec := "lexisBlanks", inPlace := ["internal/bytealg.IndexByteString", "internal/abi.NoEscape", "internal/bytealg.abigen_runtime_cmpstring"], unfollowed := true, recurses := true, apart := false, narrowed := true }
def LexisBlanksUptoSaid : Prop := lexisBlanksUptoRow.holds Try.pinned (OpenSpec.upto lexisBlanksSpec)

/-- 'incunablelaw03.LexisAhead', WHERE WHAT IT READS IS OF BULK AT MOST 1048576: true; the input reads as it did. -/
def lexisAheadUptoRow : OpenClaim := { program := "ythifddkmbjnncaa", sum := "7a0a54011f6579bab94112f7bc25973b8ae388faddcb1163e796c294f9dcf0c7", func := "incunable/incunablelaw03.LexisAhead", spec := "lexisAhead", inPlace := ["internal/bytealg.IndexByteString", "internal/abi.NoEscape", "internal/bytealg.abigen_runtime_cmpstring"], unfollowed := true, recurses := true, apart := false, narrowed := true }
def LexisAheadUptoSaid : Prop := lexisAheadUptoRow.holds Try.pinned (OpenSpec.upto lexisAheadSpec)

/-- 'incunablelaw03.LexisParts', WHERE WHAT IT READS IS OF BULK AT MOST 1048576: true; the input reads as it did. -/
def lexisPartsUptoRow : OpenClaim := { program := "ythifddkmbjnncaa", sum := "7a0a54011f6579bab94112f7bc25973b8ae388faddcb1163e796c294f9dcf0c7", func := "incunable/incunablelaw03.LexisParts", spec := "lexisParts", inPlace := ["internal/bytealg.IndexByteString", "internal/abi.NoEscape", "internal/bytealg.abigen_runtime_cmpstring"], unfollowed := true, recurses := true, apart := false, narrowed := true }
def LexisPartsUptoSaid : Prop := lexisPartsUptoRow.holds Try.pinned (OpenSpec.upto lexisPartsSpec)

/-- 'incunablelaw04.ParseReads', WHERE WHAT IT READS IS OF BULK AT MOST 1048576: true; the input reads as it did. -/
def parseReadsUptoRow : OpenClaim := { program := "ythifddkmbjnncaa", sum := "7a0a54011f6579bab94112f7bc25973b8ae388faddcb1163e796c294f9dcf0c7", func := "incunable/incunablelaw04.ParseReads", spec := "parseReads", inPlace := ["internal/bytealg.IndexByteString", "internal/abi.NoEscape", "internal/bytealg.abigen_runtime_cmpstring"], unfollowed := true, recurses := true, apart := false, narrowed := true }
def ParseReadsUptoSaid : Prop := parseReadsUptoRow.holds Try.pinned (OpenSpec.upto parseReadsSpec)

/-- 'incunablelaw04.ParseWraps', WHERE WHAT IT READS IS OF BULK AT MOST 1048576: true; the input reads as it did. -/
def parseWrapsUptoRow : OpenClaim := { program := "ythifddkmbjnncaa", sum := "7a0a54011f6579bab94112f7bc25973b8ae388faddcb1163e796c294f9dcf0c7", func := "incunable/incunablelaw04.ParseWraps", spec := "parseWraps", inPlace := ["internal/bytealg.IndexByteString", "internal/abi.NoEscape", "internal/bytealg.abigen_runtime_cmpstring"], unfollowed := true, recurses := true, apart := false, narrowed := true }
def ParseWrapsUptoSaid : Prop := parseWrapsUptoRow.holds Try.pinned (OpenSpec.upto parseWrapsSpec)

/-- 'incunablelaw04.ParsePlaces', WHERE WHAT IT READS IS OF BULK AT MOST 1048576: true; the input reads as it did. -/
def parsePlacesUptoRow : OpenClaim := { program := "ythifddkmbjnncaa", sum := "7a0a54011f6579bab94112f7bc25973b8ae388faddcb1163e796c294f9dcf0c7", func := "incunable/incunablelaw04.ParsePlaces", spec := "parsePlaces", inPlace := ["internal/bytealg.IndexByteString", "internal/abi.NoEscape", "internal/bytealg.abigen_runtime_cmpstring"], unfollowed := true, recurses := true, apart := false, narrowed := true }
def ParsePlacesUptoSaid : Prop := parsePlacesUptoRow.holds Try.pinned (OpenSpec.upto parsePlacesSpec)

/-- 'incunablelaw04.ParseChecks', WHERE WHAT IT READS IS OF BULK AT MOST 1048576: true; the input reads as it did. -/
def parseChecksUptoRow : OpenClaim := { program := "ythifddkmbjnncaa", sum := "7a0a54011f6579bab94112f7bc25973b8ae388faddcb1163e796c294f9dcf0c7", func := "incunable/incunablelaw04.ParseChecks", spec := "parseChecks", inPlace := ["internal/bytealg.IndexByteString", "internal/abi.NoEscape", "internal/bytealg.abigen_runtime_cmpstring"], unfollowed := true, recurses := true, apart := false, narrowed := true }
def ParseChecksUptoSaid : Prop := parseChecksUptoRow.holds Try.pinned (OpenSpec.upto parseChecksSpec)

/-- 'incunablelaw04.ParseRight', WHERE WHAT IT READS IS OF BULK AT MOST 1048576: true; the input reads as it did. -/
def parseRightUptoRow : OpenClaim := { program := "ythifddkmbjnncaa", sum := "7a0a54011f6579bab94112f7bc25973b8ae388faddcb1163e796c294f9dcf0c7", func := "incunable/incunablelaw04.ParseRight", spec := "parseRight", inPlace := ["internal/bytealg.IndexByteString", "internal/abi.NoEscape", "internal/bytealg.abigen_runtime_cmpstring"], unfollowed := true, recurses := true, apart := false, narrowed := true }
def ParseRightUptoSaid : Prop := parseRightUptoRow.holds Try.pinned (OpenSpec.upto parseRightSpec)

/-- 'incunablelaw04.ParseShape', WHERE WHAT IT READS IS OF BULK AT MOST 1048576: true; the input reads as it did. -/
def parseShapeUptoRow : OpenClaim := { program := "ythifddkmbjnncaa", sum := "7a0a54011f6579bab94112f7bc25973b8ae388faddcb1163e796c294f9dcf0c7", func := "incunable/incunablelaw04.ParseShape", spec := "parseShape", inPlace := ["internal/bytealg.IndexByteString", "internal/abi.NoEscape", "internal/bytealg.abigen_runtime_cmpstring"], unfollowed := true, recurses := true, apart := false, narrowed := true }
def ParseShapeUptoSaid : Prop := parseShapeUptoRow.holds Try.pinned (OpenSpec.upto parseShapeSpec)

/-- 'incunablelaw05.ScribeBack', WHERE WHAT IT READS IS OF BULK AT MOST 1048576: true; the input reads as it did. -/
def scribeBackUptoRow : OpenClaim := { program := "ythifddkmbjnncaa", sum := "7a0a54011f6579bab94112f7bc25973b8ae388faddcb1163e796c294f9dcf0c7", func := "incunable/incunablelaw05.ScribeBack", spec := "scribeBack", inPlace := ["internal/abi.NoEscape", "internal/bytealg.IndexByteString", "internal/bytealg.abigen_runtime_cmpstring"], unfollowed := true, recurses := true, apart := false, narrowed := true }
def ScribeBackUptoSaid : Prop := scribeBackUptoRow.holds Try.pinned (OpenSpec.upto scribeBackSpec)

/-- 'incunablelaw05.ScribeAgain', WHERE WHAT IT READS IS OF BULK AT MOST 1048576: true; the input reads as it did. -/
def scribeAgainUptoRow : OpenClaim := { program := "ythifddkmbjnncaa", sum := "7a0a54011f6579bab94112f7bc25973b8ae388faddcb1163e796c294f9dcf0c7", func := "incunable/incunablelaw05.ScribeAgain", spec := "scribeAgain", inPlace := ["internal/abi.NoEscape", "internal/bytealg.IndexByteString", "internal/bytealg.abigen_runtime_cmpstring"], unfollowed := true, recurses := true, apart := false, narrowed := true }
def ScribeAgainUptoSaid : Prop := scribeAgainUptoRow.holds Try.pinned (OpenSpec.upto scribeAgainSpec)

end Rows
end Go.Proofs.Ythifddkmbjnncaa
