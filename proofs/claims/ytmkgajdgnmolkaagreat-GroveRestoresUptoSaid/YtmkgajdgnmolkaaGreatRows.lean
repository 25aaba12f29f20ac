/-
  No cell of these rows narrows 'for every input' (looked for: loops, veiled, ifaces, maps, wideKeys, modest, calm, conditions, laid).
  DERIVED. THE GIVEN ROWS OF THIS SEAT. 7 by the template 'for every input the law returns true; each argument reads behind the call as it read before'; 0 by the template 'total and deterministic' (their statements: YtmkgajdgnmolkaaGreatTotals.lean).
  GIVEN WITH THE SEED: the statements are not yours to turn. If you find one false, say at which input.
  Laid BY PROGRAM, IN A SANDBOX (cutbox-rows.mjs): the forced cells as the released guide's own fill.sh prints them over the translation 59e5056d244b7d19… (all of the seat's roots in one cut). By AI agents, Wed Nov 11 2026. No macro, syntax, notation, axiom, sorry.
-/
import Derived.Test.YtmkgajdgnmolkaaGreatChecked
import GoSem.Claim
import GoSem.ClaimJoined
import GoSem.ClaimMapViews
import Derived.JoinedTies
import Derived.KernelRfl
namespace Go.Proofs.YtmkgajdgnmolkaaGreat
/- THE CELL 'sum', in the pinned program and in every row, IS THE sha256 OF THE DUMP (.gsa) THAT YtmkgajdgnmolkaaGreatProg.lean LOADS. Nothing in Lean hashes anything: it is a label: what it is worth is what the hold of that sum in a sandbox is worth. -/
noncomputable def Tryz.pinned : Pinned := { name := "ytmkgajdgnmolkaagreat", sum := "59e5056d244b7d191341c0556097474557027cd8c69f17bc255ff917cce5cb6d", checked := Tryz.checked }
namespace Rows
def none {H : Type} : Left H := { results := [], args := [] }

/-- 'incunablelaw06.GroveAll': WHATEVER THE INPUT: true; the input reads as it did. -/
def groveAllSpec : ChangeSpec := { name := "groveAll", fn := fun _ => fun
  | [d] => { results := [.lit (.bool true)], args := [d] }
  | _ => none }
def groveAllRow : OpenClaim := { program := "ytmkgajdgnmolkaagreat", sum := "59e5056d244b7d191341c0556097474557027cd8c69f17bc255ff917cce5cb6d", func := "incunable/incunablelaw06.GroveAll", spec := "groveAll", inPlace := ["slices.overlaps[int]", "slices.overlaps[incunable/api.Attr]"], unfollowed := true, recurses := true, apart := false }
def GroveAllSaid : Prop := groveAllRow.holds Tryz.pinned (OpenSpec.ofChange groveAllSpec)

/-- ITS FALSE NEIGHBOUR: 'it returns false'. Refute it at one input. -/
def groveAllWrong : ChangeSpec := { name := "groveAll", fn := fun _ => fun
  | [d] => { results := [.lit (.bool false)], args := [d] }
  | _ => none }
def GroveAllWrongFalsely : Prop := groveAllRow.holds Tryz.pinned (OpenSpec.ofChange groveAllWrong)

/-- 'incunablelaw06.GroveRefused': WHATEVER THE INPUT: true; the input reads as it did. -/
def groveRefusedSpec : ChangeSpec := { name := "groveRefused", fn := fun _ => fun
  | [d1, d2] => { results := [.lit (.bool true)], args := [d1, d2] }
  | _ => none }
def groveRefusedRow : OpenClaim := { program := "ytmkgajdgnmolkaagreat", sum := "59e5056d244b7d191341c0556097474557027cd8c69f17bc255ff917cce5cb6d", func := "incunable/incunablelaw06.GroveRefused", spec := "groveRefused", inPlace := ["slices.overlaps[int]", "slices.overlaps[incunable/api.Attr]"], unfollowed := true, recurses := true, apart := false }
def GroveRefusedSaid : Prop := groveRefusedRow.holds Tryz.pinned (OpenSpec.ofChange groveRefusedSpec)

/-- ITS FALSE NEIGHBOUR: 'it returns false'. Refute it at one input. -/
def groveRefusedWrong : ChangeSpec := { name := "groveRefused", fn := fun _ => fun
  | [d1, d2] => { results := [.lit (.bool false)], args := [d1, d2] }
  | _ => none }
def GroveRefusedWrongFalsely : Prop := groveRefusedRow.holds Tryz.pinned (OpenSpec.ofChange groveRefusedWrong)

/-- 'incunablelaw06.GroveLoads': WHATEVER THE INPUT: true; the input reads as it did. -/
def groveLoadsSpec : ChangeSpec := { name := "groveLoads", fn := fun _ => fun
  | [d1, d2] => { results := [.lit (.bool true)], args := [d1, d2] }
  | _ => none }
def groveLoadsRow : OpenClaim := { program := "ytmkgajdgnmolkaagreat", sum := "59e5056d244b7d191341c0556097474557027cd8c69f17bc255ff917cce5cb6d", func := "incunable/incunablelaw06.GroveLoads", spec := "groveLoads", inPlace := ["slices.overlaps[int]", "slices.overlaps[incunable/api.Attr]"], unfollowed := true, recurses := true, apart := false }
def GroveLoadsSaid : Prop := groveLoadsRow.holds Tryz.pinned (OpenSpec.ofChange groveLoadsSpec)

/-- ITS FALSE NEIGHBOUR: 'it returns false'. Refute it at one input. -/
def groveLoadsWrong : ChangeSpec := { name := "groveLoads", fn := fun _ => fun
  | [d1, d2] => { results := [.lit (.bool false)], args := [d1, d2] }
  | _ => none }
def GroveLoadsWrongFalsely : Prop := groveLoadsRow.holds Tryz.pinned (OpenSpec.ofChange groveLoadsWrong)

/-- 'incunablelaw06.GroveAsks': WHATEVER THE INPUT: true; the input reads as it did. -/
def groveAsksSpec : ChangeSpec := { name := "groveAsks", fn := fun _ => fun
  | [d1, d2, d3] => { results := [.lit (.bool true)], args := [d1, d2, d3] }
  | _ => none }
def groveAsksRow : OpenClaim := { program := "ytmkgajdgnmolkaagreat", sum := "59e5056d244b7d191341c0556097474557027cd8c69f17bc255ff917cce5cb6d", func := "incunable/incunablelaw06.GroveAsks", spec := "groveAsks", inPlace := ["slices.overlaps[int]", "slices.overlaps[incunable/api.Attr]"], unfollowed := true, recurses := true, apart := false }
def GroveAsksSaid : Prop := groveAsksRow.holds Tryz.pinned (OpenSpec.ofChange groveAsksSpec)

/-- ITS FALSE NEIGHBOUR: 'it returns false'. Refute it at one input. -/
def groveAsksWrong : ChangeSpec := { name := "groveAsks", fn := fun _ => fun
  | [d1, d2, d3] => { results := [.lit (.bool false)], args := [d1, d2, d3] }
  | _ => none }
def GroveAsksWrongFalsely : Prop := groveAsksRow.holds Tryz.pinned (OpenSpec.ofChange groveAsksWrong)

/-- 'incunablelaw06.GroveTurns': WHATEVER THE INPUT: true; the input reads as it did. -/
def groveTurnsSpec : ChangeSpec := { name := "groveTurns", fn := fun _ => fun
  | [d1, d2] => { results := [.lit (.bool true)], args := [d1, d2] }
  | _ => none }
def groveTurnsRow : OpenClaim := { program := "ytmkgajdgnmolkaagreat", sum := "59e5056d244b7d191341c0556097474557027cd8c69f17bc255ff917cce5cb6d", func := "incunable/incunablelaw06.GroveTurns", spec := "groveTurns", inPlace := ["slices.overlaps[int]", "slices.overlaps[incunable/api.Attr]"], unfollowed := true, recurses := true, apart := false }
def GroveTurnsSaid : Prop := groveTurnsRow.holds Tryz.pinned (OpenSpec.ofChange groveTurnsSpec)

/-- ITS FALSE NEIGHBOUR: 'it returns false'. Refute it at one input. -/
def groveTurnsWrong : ChangeSpec := { name := "groveTurns", fn := fun _ => fun
  | [d1, d2] => { results := [.lit (.bool false)], args := [d1, d2] }
  | _ => none }
def GroveTurnsWrongFalsely : Prop := groveTurnsRow.holds Tryz.pinned (OpenSpec.ofChange groveTurnsWrong)

/-- 'incunablelaw06.GroveApart': WHATEVER THE INPUT: true; the input reads as it did. -/
def groveApartSpec : ChangeSpec := { name := "groveApart", fn := fun _ => fun
  | [d1, d2] => { results := [.lit (.bool true)], args := [d1, d2] }
  | _ => none }
def groveApartRow : OpenClaim := { program := "ytmkgajdgnmolkaagreat", sum := "59e5056d244b7d191341c0556097474557027cd8c69f17bc255ff917cce5cb6d", func := "incunable/incunablelaw06.GroveApart", spec := "groveApart", inPlace := ["slices.overlaps[int]", "slices.overlaps[incunable/api.Attr]"], unfollowed := true, recurses := true, apart := false }
def GroveApartSaid : Prop := groveApartRow.holds Tryz.pinned (OpenSpec.ofChange groveApartSpec)

/-- ITS FALSE NEIGHBOUR: 'it returns false'. Refute it at one input. -/
def groveApartWrong : ChangeSpec := { name := "groveApart", fn := fun _ => fun
  | [d1, d2] => { results := [.lit (.bool false)], args := [d1, d2] }
  | _ => none }
def GroveApartWrongFalsely : Prop := groveApartRow.holds Tryz.pinned (OpenSpec.ofChange groveApartWrong)

/-- 'incunablelaw06.GroveRestores': WHATEVER THE INPUT: true; the input reads as it did. -/
def groveRestoresSpec : ChangeSpec := { name := "groveRestores", fn := fun _ => fun
  | [d1, d2, d3] => { results := [.lit (.bool true)], args := [d1, d2, d3] }
  | _ => none }
def groveRestoresRow : OpenClaim := { program := "ytmkgajdgnmolkaagreat", sum := "59e5056d244b7d191341c0556097474557027cd8c69f17bc255ff917cce5cb6d", func := "incunable/incunablelaw06.GroveRestores", spec := "groveRestores", inPlace := ["slices.overlaps[int]", "slices.overlaps[incunable/api.Attr]"], unfollowed := true, recurses := true, apart := false }
def GroveRestoresSaid : Prop := groveRestoresRow.holds Tryz.pinned (OpenSpec.ofChange groveRestoresSpec)

/-- ITS FALSE NEIGHBOUR: 'it returns false'. Refute it at one input. -/
def groveRestoresWrong : ChangeSpec := { name := "groveRestores", fn := fun _ => fun
  | [d1, d2, d3] => { results := [.lit (.bool false)], args := [d1, d2, d3] }
  | _ => none }
def GroveRestoresWrongFalsely : Prop := groveRestoresRow.holds Tryz.pinned (OpenSpec.ofChange groveRestoresWrong)

/- THE SECOND FORM. 'bulk': how many values and letters a reading holds, each counted each time it is reached (what is shared counts as often as it is met; a slice's spare places count too). A statement '..UptoSaid' is the law's where the arguments, and the package variables that the reading takes, are together of bulk at most 1048576: NARROWER than '..Said'. Prove '..Said' where nothing that the law and all that it calls make is longer than what came in: it says more and counts as full. Else prove '..UptoSaid'. A law counts once. -/
mutual
def uptoBulk {H : Type} : DataW H → Nat
  | .lit (.string bytes) => bytes.length + 1
  | .lit _ => 1
  | .nil => 1
  | .ptr d => uptoBulk d + 1
  | .slice elems spare => uptoBulkAll elems + uptoBulkAll spare + 1
  | .agg parts => uptoBulkAll parts + 1
  | .iface _ d => uptoBulk d + 1
  | .map entries => uptoBulkEntries entries + 1
  | .held _ => 1
def uptoBulkAll {H : Type} : List (DataW H) → Nat
  | [] => 0
  | d :: r => uptoBulk d + uptoBulkAll r
def uptoBulkEntries {H : Type} : List (Lit × DataW H) → Nat
  | [] => 0
  | x :: r => uptoBulkEntry x + uptoBulkEntries r
def uptoBulkEntry {H : Type} : Lit × DataW H → Nat
  | (.string bytes, d) => bytes.length + uptoBulk d + 1
  | (_, d) => uptoBulk d + 1
 end
def uptoSmall : (H : Type) → List (DataW H) → Bool := fun _ ds => decide (uptoBulkAll ds ≤ 1048576)
def OpenSpec.upto (s : _root_.Go.ChangeSpec) : _root_.Go.OpenSpec := { _root_.Go.OpenSpec.ofChange s with cond := some uptoSmall }

/-- 'incunablelaw06.GroveAll', WHERE WHAT IT READS IS OF BULK AT MOST 1048576: true; the input reads as it did. -/
def groveAllUptoRow : OpenClaim := { program := "ytmkgajdgnmolkaagreat", sum := "59e5056d244b7d191341c0556097474557027cd8c69f17bc255ff917cce5cb6d", func := "incunable/incunablelaw06.GroveAll", spec := "groveAll", inPlace := ["slices.overlaps[int]", "slices.overlaps[incunable/api.Attr]"], unfollowed := true, recurses := true, apart := false, narrowed := true }
def GroveAllUptoSaid : Prop := groveAllUptoRow.holds Tryz.pinned (OpenSpec.upto groveAllSpec)

/-- 'incunablelaw06.GroveRefused', WHERE WHAT IT READS IS OF BULK AT MOST 1048576: true; the input reads as it did. -/
def groveRefusedUptoRow : OpenClaim := { program := "ytmkgajdgnmolkaagreat", sum := "59e5056d244b7d191341c0556097474557027cd8c69f17bc255ff917cce5cb6d", func := "incunable/incunablelaw06.GroveRefused", spec := "groveRefused", inPlace := ["slices.overlaps[int]", "slices.overlaps[incunable/api.Attr]"], unfollowed := true, recurses := true, apart := false, narrowed := true }
def GroveRefusedUptoSaid : Prop := groveRefusedUptoRow.holds Tryz.pinned (OpenSpec.upto groveRefusedSpec)

/-- 'incunablelaw06.GroveLoads', WHERE WHAT IT READS IS OF BULK AT MOST 1048576: true; the input reads as it did. -/
def groveLoadsUptoRow : OpenClaim := { program := "ytmkgajdgnmolkaagreat", sum := "59e5056d244b7d191341c0556097474557027cd8c69f17bc255ff917cce5cb6d", func := "incunable/incunablelaw06.GroveLoads", spec := "groveLoads", inPlace := ["slices.overlaps[int]", "slices.overlaps[incunable/api.Attr]"], unfollowed := true, recurses := true, apart := false, narrowed := true }
def GroveLoadsUptoSaid : Prop := groveLoadsUptoRow.holds Tryz.pinned (OpenSpec.upto groveLoadsSpec)

/-- 'incunablelaw06.GroveAsks', WHERE WHAT IT READS IS OF BULK AT MOST 1048576: true; the input reads as it did. -/
def groveAsksUptoRow : OpenClaim := { program := "ytmkgajdgnmolkaagreat", sum := "59e5056d244b7d191341c0556097474557027cd8c69f17bc255ff917cce5cb6d", func := "incunable/incunablelaw06.GroveAsks", spec := "groveAsks", inPlace := ["slices.overlaps[int]", "slices.overlaps[incunable/api.Attr]"], unfollowed := true, recurses := true, apart := false, narrowed := true }
def GroveAsksUptoSaid : Prop := groveAsksUptoRow.holds Tryz.pinned (OpenSpec.upto groveAsksSpec)

/-- 'incunablelaw06.GroveTurns', WHERE WHAT IT READS IS OF BULK AT MOST 1048576: true; the input reads as it did. -/
def groveTurnsUptoRow : OpenClaim := { program := "ytmkgajdgnmolkaagreat", sum := "59e5056d244b7d191341c0556097474557027cd8c69f17bc255ff917cce5cb6d", func := "incunable/incunablelaw06.GroveTurns", spec := "groveTurns", inPlace := ["slices.overlaps[int]", "slices.overlaps[incunable/api.Attr]"], unfollowed := true, recurses := true, apart := false, narrowed := true }
def GroveTurnsUptoSaid : Prop := groveTurnsUptoRow.holds Tryz.pinned (OpenSpec.upto groveTurnsSpec)

/-- 'incunablelaw06.GroveApart', WHERE WHAT IT READS IS OF BULK AT MOST 1048576: true; the input reads as it did. -/
def groveApartUptoRow : OpenClaim := { program := "ytmkgajdgnmolkaagreat", sum := "59e5056d244b7d191341c0556097474557027cd8c69f17bc255ff917cce5cb6d", func := "incunable/incunablelaw06.GroveApart", spec := "groveApart", inPlace := ["slices.overlaps[int]", "slices.overlaps[incunable/api.Attr]"], unfollowed := true, recurses := true, apart := false, narrowed := true }
def GroveApartUptoSaid : Prop := groveApartUptoRow.holds Tryz.pinned (OpenSpec.upto groveApartSpec)

/-- 'incunablelaw06.GroveRestores', WHERE WHAT IT READS IS OF BULK AT MOST 1048576: true; the input reads as it did. -/
def groveRestoresUptoRow : OpenClaim := { program := "ytmkgajdgnmolkaagreat", sum := "59e5056d244b7d191341c0556097474557027cd8c69f17bc255ff917cce5cb6d", func := "incunable/incunablelaw06.GroveRestores", spec := "groveRestores", inPlace := ["slices.overlaps[int]", "slices.overlaps[incunable/api.Attr]"], unfollowed := true, recurses := true, apart := false, narrowed := true }
def GroveRestoresUptoSaid : Prop := groveRestoresUptoRow.holds Tryz.pinned (OpenSpec.upto groveRestoresSpec)

end Rows
end Go.Proofs.YtmkgajdgnmolkaaGreat
