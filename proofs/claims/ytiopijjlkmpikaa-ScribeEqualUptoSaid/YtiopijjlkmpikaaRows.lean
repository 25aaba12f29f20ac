/-
  No cell of these rows narrows 'for every input' (looked for: loops, veiled, ifaces, maps, wideKeys, modest, calm, conditions, laid).
  DERIVED. THE GIVEN ROWS OF THIS SEAT. 5 by the template 'for every input the law returns true; each argument reads behind the call as it read before'; 0 by the template 'total and deterministic' (their statements: YtiopijjlkmpikaaTotals.lean).
  GIVEN WITH THE SEED: the statements are not yours to turn. If you find one false, say at which input.
  Laid BY PROGRAM, IN A SANDBOX (cutbox-rows.mjs): the forced cells as the released guide's own fill.sh prints them over the translation 38e70f2f9a8cd545… (all of the seat's roots in one cut). By AI agents, Wed Nov 11 2026. No macro, syntax, notation, axiom, sorry.
-/
import Derived.Test.YtiopijjlkmpikaaChecked
import GoSem.Claim
import GoSem.ClaimJoined
import GoSem.ClaimMapViews
import Derived.JoinedTies
import Derived.KernelRfl
namespace Go.Proofs.Ytiopijjlkmpikaa
/- THE CELL 'sum', in the pinned program and in every row, IS THE sha256 OF THE DUMP (.gsa) THAT YtiopijjlkmpikaaProg.lean LOADS. Nothing in Lean hashes anything: it is a label: what it is worth is what the hold of that sum in a sandbox is worth. -/
noncomputable def Try.pinned : Pinned := { name := "ytiopijjlkmpikaa", sum := "38e70f2f9a8cd5453e7efe3e2382ab342e0a68b2158dc64dcd97332f9220cb54", checked := Try.checked }
namespace Rows
def none {H : Type} : Left H := { results := [], args := [] }

/-- 'incunablelaw05.ScribePrints': WHATEVER THE INPUT: true; the input reads as it did. -/
def scribePrintsSpec : ChangeSpec := { name := "scribePrints", fn := fun _ => fun
  | [d] => { results := [.lit (.bool true)], args := [d] }
  | _ => none }
def scribePrintsRow : OpenClaim := { program := "ytiopijjlkmpikaa", sum := "38e70f2f9a8cd5453e7efe3e2382ab342e0a68b2158dc64dcd97332f9220cb54", func := "incunable/incunablelaw05.ScribePrints", spec := "scribePrints", inPlace := ["internal/abi.NoEscape"], unfollowed := true, recurses := true, apart := false }
def ScribePrintsSaid : Prop := scribePrintsRow.holds Try.pinned (OpenSpec.ofChange scribePrintsSpec)

/-- ITS FALSE NEIGHBOUR: 'it returns false'. Refute it at one input. -/
def scribePrintsWrong : ChangeSpec := { name := "scribePrints", fn := fun _ => fun
  | [d] => { results := [.lit (.bool false)], args := [d] }
  | _ => none }
def ScribePrintsWrongFalsely : Prop := scribePrintsRow.holds Try.pinned (OpenSpec.ofChange scribePrintsWrong)

/-- 'incunablelaw05.ScribeOwn': WHATEVER THE INPUT: true; the input reads as it did. -/
def scribeOwnSpec : ChangeSpec := { name := "scribeOwn", fn := fun _ => fun
  | [d] => { results := [.lit (.bool true)], args := [d] }
  | _ => none }
def scribeOwnRow : OpenClaim := { program := "ytiopijjlkmpikaa", sum := "38e70f2f9a8cd5453e7efe3e2382ab342e0a68b2158dc64dcd97332f9220cb54", func := "incunable/incunablelaw05.ScribeOwn", spec := "scribeOwn", inPlace := ["internal/abi.NoEscape"], unfollowed := true, recurses := true, apart := false }
def ScribeOwnSaid : Prop := scribeOwnRow.holds Try.pinned (OpenSpec.ofChange scribeOwnSpec)

/-- ITS FALSE NEIGHBOUR: 'it returns false'. Refute it at one input. -/
def scribeOwnWrong : ChangeSpec := { name := "scribeOwn", fn := fun _ => fun
  | [d] => { results := [.lit (.bool false)], args := [d] }
  | _ => none }
def ScribeOwnWrongFalsely : Prop := scribeOwnRow.holds Try.pinned (OpenSpec.ofChange scribeOwnWrong)

/-- 'incunablelaw05.ScribeNormal': WHATEVER THE INPUT: true; the input reads as it did. -/
def scribeNormalSpec : ChangeSpec := { name := "scribeNormal", fn := fun _ => fun
  | [d1, d2] => { results := [.lit (.bool true)], args := [d1, d2] }
  | _ => none }
def scribeNormalRow : OpenClaim := { program := "ytiopijjlkmpikaa", sum := "38e70f2f9a8cd5453e7efe3e2382ab342e0a68b2158dc64dcd97332f9220cb54", func := "incunable/incunablelaw05.ScribeNormal", spec := "scribeNormal", inPlace := ["internal/abi.NoEscape"], unfollowed := true, recurses := true, apart := false }
def ScribeNormalSaid : Prop := scribeNormalRow.holds Try.pinned (OpenSpec.ofChange scribeNormalSpec)

/-- ITS FALSE NEIGHBOUR: 'it returns false'. Refute it at one input. -/
def scribeNormalWrong : ChangeSpec := { name := "scribeNormal", fn := fun _ => fun
  | [d1, d2] => { results := [.lit (.bool false)], args := [d1, d2] }
  | _ => none }
def ScribeNormalWrongFalsely : Prop := scribeNormalRow.holds Try.pinned (OpenSpec.ofChange scribeNormalWrong)

/-- 'incunablelaw05.ScribeOnce': WHATEVER THE INPUT: true; the input reads as it did. -/
def scribeOnceSpec : ChangeSpec := { name := "scribeOnce", fn := fun _ => fun
  | [d] => { results := [.lit (.bool true)], args := [d] }
  | _ => none }
def scribeOnceRow : OpenClaim := { program := "ytiopijjlkmpikaa", sum := "38e70f2f9a8cd5453e7efe3e2382ab342e0a68b2158dc64dcd97332f9220cb54", func := "incunable/incunablelaw05.ScribeOnce", spec := "scribeOnce", inPlace := ["internal/abi.NoEscape"], unfollowed := true, recurses := true, apart := false }
def ScribeOnceSaid : Prop := scribeOnceRow.holds Try.pinned (OpenSpec.ofChange scribeOnceSpec)

/-- ITS FALSE NEIGHBOUR: 'it returns false'. Refute it at one input. -/
def scribeOnceWrong : ChangeSpec := { name := "scribeOnce", fn := fun _ => fun
  | [d] => { results := [.lit (.bool false)], args := [d] }
  | _ => none }
def ScribeOnceWrongFalsely : Prop := scribeOnceRow.holds Try.pinned (OpenSpec.ofChange scribeOnceWrong)

/-- 'incunablelaw05.ScribeEqual': WHATEVER THE INPUT: true; the input reads as it did. -/
def scribeEqualSpec : ChangeSpec := { name := "scribeEqual", fn := fun _ => fun
  | [d1, d2] => { results := [.lit (.bool true)], args := [d1, d2] }
  | _ => none }
def scribeEqualRow : OpenClaim := { program := "ytiopijjlkmpikaa", sum := "38e70f2f9a8cd5453e7efe3e2382ab342e0a68b2158dc64dcd97332f9220cb54", func := "incunable/incunablelaw05.ScribeEqual", spec := "scribeEqual", inPlace := ["internal/abi.NoEscape"], unfollowed := true, recurses := true, apart := false }
def ScribeEqualSaid : Prop := scribeEqualRow.holds Try.pinned (OpenSpec.ofChange scribeEqualSpec)

/-- ITS FALSE NEIGHBOUR: 'it returns false'. Refute it at one input. -/
def scribeEqualWrong : ChangeSpec := { name := "scribeEqual", fn := fun _ => fun
  | [d1, d2] => { results := [.lit (.bool false)], args := [d1, d2] }
  | _ => none }
def ScribeEqualWrongFalsely : Prop := scribeEqualRow.holds Try.pinned (OpenSpec.ofChange scribeEqualWrong)

/- THE SECOND FORM. 'bulk': how many values and letters a reading holds, each counted each time it is reached (what is shared counts as often as it is met; a slice's spare places count too). A statement '..UptoSaid' is the law's where the arguments, and the package variables that the reading takes, are together of bulk at most 1048576: NARROWER than '..Said'. Prove '..Said' where nothing that the law and all that it calls make is longer than what came in: it says more and counts as full. Else prove '..UptoSaid'. A law counts once. -/
mutual
def uptoBulk {H : Type} : DataW H → Nat
  | .lit (.string bytes) => bytes.length + 1
  | .lit _ => 1
  | .nil => 1
  | .ptr d => uptoBulk d + 1
  | .slice elems spare => uptoBulkAll elems + uptoBulkAll spare + 1
  | .agg parts => uptoBulkAll parts + 1
  | .iface _ d => uptoBulk d + 1
  | .map entries => uptoBulkEntries entries + 1
  | .held _ => 1
def uptoBulkAll {H : Type} : List (DataW H) → Nat
  | [] => 0
  | d :: r => uptoBulk d + uptoBulkAll r
def uptoBulkEntries {H : Type} : List (Lit × DataW H) → Nat
  | [] => 0
  | x :: r => uptoBulkEntry x + uptoBulkEntries r
def uptoBulkEntry {H : Type} : Lit × DataW H → Nat
  | (.string bytes, d) => bytes.length + uptoBulk d + 1
  | (_, d) => uptoBulk d + 1
 end
def uptoSmall : (H : Type) → List (DataW H) → Bool := fun _ ds => decide (uptoBulkAll ds ≤ 1048576)
def OpenSpec.upto (s : _root_.Go.ChangeSpec) : _root_.Go.OpenSpec := { _root_.Go.OpenSpec.ofChange s with cond := some uptoSmall }

/-- 'incunablelaw05.ScribePrints', WHERE WHAT IT READS IS OF BULK AT MOST 1048576: true; the input reads as it did. -/
def scribePrintsUptoRow : OpenClaim := { program := "ytiopijjlkmpikaa", sum := "38e70f2f9a8cd5453e7efe3e2382ab342e0a68b2158dc64dcd97332f9220cb54", func := "incunable/incunablelaw05.ScribePrints", spec := "scribePrints", inPlace := ["internal/abi.NoEscape"], unfollowed := true, recurses := true, apart := false, narrowed := true }
def ScribePrintsUptoSaid : Prop := scribePrintsUptoRow.holds Try.pinned (OpenSpec.upto scribePrintsSpec)

/-- 'incunablelaw05.ScribeOwn', WHERE WHAT IT READS IS OF BULK AT MOST 1048576: true; the input reads as it did. -/
def scribeOwnUptoRow : OpenClaim := { program := "ytiopijjlkmpikaa", sum := "38e70f2f9a8cd5453e7efe3e2382ab342e0a68b2158dc64dcd97332f9220cb54", func := "incunable/incunablelaw05.ScribeOwn", spec := "scribeOwn", inPlace := ["internal/abi.NoEscape"], unfollowed := true, recurses := true, apart := false, narrowed := true }
def ScribeOwnUptoSaid : Prop := scribeOwnUptoRow.holds Try.pinned (OpenSpec.upto scribeOwnSpec)

/-- 'incunablelaw05.ScribeNormal', WHERE WHAT IT READS IS OF BULK AT MOST 1048576: true; the input reads as it did. -/
def scribeNormalUptoRow : OpenClaim := { program := "ytiopijjlkmpikaa", sum := "38e70f2f9a8cd5453e7efe3e2382ab342e0a68b2158dc64dcd97332f9220cb54", func := "incunable/incunablelaw05.ScribeNormal", spec := "scribeNormal", inPlace := ["internal/abi.NoEscape"], unfollowed := true, recurses := true, apart := false, narrowed := true }
def ScribeNormalUptoSaid : Prop := scribeNormalUptoRow.holds Try.pinned (OpenSpec.upto scribeNormalSpec)

/-- 'incunablelaw05.ScribeOnce', WHERE WHAT IT READS IS OF BULK AT MOST 1048576: true; the input reads as it did. -/
def scribeOnceUptoRow : OpenClaim := { program := "ytiopijjlkmpikaa", sum := "38e70f2f9a8cd5453e7efe3e2382ab342e0a68b2158dc64dcd97332f9220cb54", func := "incunable/incunablelaw05.ScribeOnce", spec := "scribeOnce", inPlace := ["internal/abi.NoEscape"], unfollowed := true, recurses := true, apart := false, narrowed := true }
def ScribeOnceUptoSaid : Prop := scribeOnceUptoRow.holds Try.pinned (OpenSpec.upto scribeOnceSpec)

/-- 'incunablelaw05.ScribeEqual', WHERE WHAT IT READS IS OF BULK AT MOST 1048576: true; the input reads as it did. -/
def scribeEqualUptoRow : OpenClaim := { program := "ytiopijjlkmpikaa", sum := "38e70f2f9a8cd5453e7efe3e2382ab342e0a68b2158dc64dcd97332f9220cb54", func := "incunable/incunablelaw05.ScribeEqual", spec := "scribeEqual", inPlace := ["internal/abi.NoEscape"], unfollowed := true, recurses := true, apart := false, narrowed := true }
def ScribeEqualUptoSaid : Prop := scribeEqualUptoRow.holds Try.pinned (OpenSpec.upto scribeEqualSpec)

end Rows
end Go.Proofs.Ytiopijjlkmpikaa
