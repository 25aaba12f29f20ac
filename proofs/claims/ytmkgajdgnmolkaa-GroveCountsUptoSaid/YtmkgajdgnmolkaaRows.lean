/-
  No cell of these rows narrows 'for every input' (looked for: loops, veiled, ifaces, maps, wideKeys, modest, calm, conditions, laid).
  DERIVED. THE GIVEN ROWS OF THIS SEAT. 3 by the template 'for every input the law returns true; each argument reads behind the call as it read before'; 0 by the template 'total and deterministic' (their statements: YtmkgajdgnmolkaaTotals.lean).
  GIVEN WITH THE SEED: the statements are not yours to turn. If you find one false, say at which input.
  Laid BY PROGRAM, IN A SANDBOX (cutbox-rows.mjs): the forced cells as the released guide's own fill.sh prints them over the translation 3c6abadd99d4c92d… (all of the seat's roots in one cut). By AI agents, Wed Nov 11 2026. No macro, syntax, notation, axiom, sorry.
-/
import Derived.Test.YtmkgajdgnmolkaaChecked
import GoSem.Claim
import GoSem.ClaimJoined
import GoSem.ClaimMapViews
import Derived.JoinedTies
import Derived.KernelRfl
namespace Go.Proofs.Ytmkgajdgnmolkaa
/- THE CELL 'sum', in the pinned program and in every row, IS THE sha256 OF THE DUMP (.gsa) THAT YtmkgajdgnmolkaaProg.lean LOADS. Nothing in Lean hashes anything: it is a label: what it is worth is what the hold of that sum in a sandbox is worth. -/
noncomputable def Try.pinned : Pinned := { name := "ytmkgajdgnmolkaa", sum := "3c6abadd99d4c92de37825e1b11a50aedbe7e75fc3e62384ca0e3d21e2837214", checked := Try.checked }
namespace Rows
def none {H : Type} : Left H := { results := [], args := [] }

/-- 'incunablelaw06.GroveIds': WHATEVER THE INPUT: true; the input reads as it did. -/
def groveIdsSpec : ChangeSpec := { name := "groveIds", fn := fun _ => fun
  | [d] => { results := [.lit (.bool true)], args := [d] }
  | _ => none }
def groveIdsRow : OpenClaim := { program := "ytmkgajdgnmolkaa", sum := "3c6abadd99d4c92de37825e1b11a50aedbe7e75fc3e62384ca0e3d21e2837214", func := "incunable/incunablelaw06.GroveIds", spec := "groveIds", inPlace := ["slices.overlaps[int]", "slices.overlaps[incunable/api.Attr]"], unfollowed := true, recurses := true, apart := false }
def GroveIdsSaid : Prop := groveIdsRow.holds Try.pinned (OpenSpec.ofChange groveIdsSpec)

/-- ITS FALSE NEIGHBOUR: 'it returns false'. Refute it at one input. -/
def groveIdsWrong : ChangeSpec := { name := "groveIds", fn := fun _ => fun
  | [d] => { results := [.lit (.bool false)], args := [d] }
  | _ => none }
def GroveIdsWrongFalsely : Prop := groveIdsRow.holds Try.pinned (OpenSpec.ofChange groveIdsWrong)

/-- 'incunablelaw06.GroveShape': WHATEVER THE INPUT: true; the input reads as it did. -/
def groveShapeSpec : ChangeSpec := { name := "groveShape", fn := fun _ => fun
  | [d] => { results := [.lit (.bool true)], args := [d] }
  | _ => none }
def groveShapeRow : OpenClaim := { program := "ytmkgajdgnmolkaa", sum := "3c6abadd99d4c92de37825e1b11a50aedbe7e75fc3e62384ca0e3d21e2837214", func := "incunable/incunablelaw06.GroveShape", spec := "groveShape", inPlace := ["slices.overlaps[int]", "slices.overlaps[incunable/api.Attr]"], unfollowed := true, recurses := true, apart := false }
def GroveShapeSaid : Prop := groveShapeRow.holds Try.pinned (OpenSpec.ofChange groveShapeSpec)

/-- ITS FALSE NEIGHBOUR: 'it returns false'. Refute it at one input. -/
def groveShapeWrong : ChangeSpec := { name := "groveShape", fn := fun _ => fun
  | [d] => { results := [.lit (.bool false)], args := [d] }
  | _ => none }
def GroveShapeWrongFalsely : Prop := groveShapeRow.holds Try.pinned (OpenSpec.ofChange groveShapeWrong)

/-- 'incunablelaw06.GroveCounts': WHATEVER THE INPUT: true; the input reads as it did. -/
def groveCountsSpec : ChangeSpec := { name := "groveCounts", fn := fun _ => fun
  | [d] => { results := [.lit (.bool true)], args := [d] }
  | _ => none }
def groveCountsRow : OpenClaim := { program := "ytmkgajdgnmolkaa", sum := "3c6abadd99d4c92de37825e1b11a50aedbe7e75fc3e62384ca0e3d21e2837214", func := "incunable/incunablelaw06.GroveCounts", spec := "groveCounts", inPlace := ["slices.overlaps[int]", "slices.overlaps[incunable/api.Attr]"], unfollowed := true, recurses := true, apart := false }
def GroveCountsSaid : Prop := groveCountsRow.holds Try.pinned (OpenSpec.ofChange groveCountsSpec)

/-- ITS FALSE NEIGHBOUR: 'it returns false'. Refute it at one input. -/
def groveCountsWrong : ChangeSpec := { name := "groveCounts", fn := fun _ => fun
  | [d] => { results := [.lit (.bool false)], args := [d] }
  | _ => none }
def GroveCountsWrongFalsely : Prop := groveCountsRow.holds Try.pinned (OpenSpec.ofChange groveCountsWrong)

/- THE SECOND FORM. 'bulk': how many values and letters a reading holds, each counted each time it is reached (what is shared counts as often as it is met; a slice's spare places count too). A statement '..UptoSaid' is the law's where the arguments, and the package variables that the reading takes, are together of bulk at most 1048576: NARROWER than '..Said'. Prove '..Said' where nothing that the law and all that it calls make is longer than what came in: it says more and counts as full. Else prove '..UptoSaid'. A law counts once. -/
mutual
def uptoBulk {H : Type} : DataW H → Nat
  | .lit (.string bytes) => bytes.length + 1
  | .lit _ => 1
  | .nil => 1
  | .ptr d => uptoBulk d + 1
  | .slice elems spare => uptoBulkAll elems + uptoBulkAll spare + 1
  | .agg parts => uptoBulkAll parts + 1
  | .iface _ d => uptoBulk d + 1
  | .map entries => uptoBulkEntries entries + 1
  | .held _ => 1
def uptoBulkAll {H : Type} : List (DataW H) → Nat
  | [] => 0
  | d :: r => uptoBulk d + uptoBulkAll r
def uptoBulkEntries {H : Type} : List (Lit × DataW H) → Nat
  | [] => 0
  | x :: r => uptoBulkEntry x + uptoBulkEntries r
def uptoBulkEntry {H : Type} : Lit × DataW H → Nat
  | (.string bytes, d) => bytes.length + uptoBulk d + 1
  | (_, d) => uptoBulk d + 1
 end
def uptoSmall : (H : Type) → List (DataW H) → Bool := fun _ ds => decide (uptoBulkAll ds ≤ 1048576)
def OpenSpec.upto (s : _root_.Go.ChangeSpec) : _root_.Go.OpenSpec := { _root_.Go.OpenSpec.ofChange s with cond := some uptoSmall }

/-- 'incunablelaw06.GroveIds', WHERE WHAT IT READS IS OF BULK AT MOST 1048576: true; the input reads as it did. -/
def groveIdsUptoRow : OpenClaim := { program := "ytmkgajdgnmolkaa", sum := "3c6abadd99d4c92de37825e1b11a50aedbe7e75fc3e62384ca0e3d21e2837214", func := "incunable/incunablelaw06.GroveIds", spec := "groveIds", inPlace := ["slices.overlaps[int]", "slices.overlaps[incunable/api.Attr]"], unfollowed := true, recurses := true, apart := false, narrowed := true }
def GroveIdsUptoSaid : Prop := groveIdsUptoRow.holds Try.pinned (OpenSpec.upto groveIdsSpec)

/-- 'incunablelaw06.GroveShape', WHERE WHAT IT READS IS OF BULK AT MOST 1048576: true; the input reads as it did. -/
def groveShapeUptoRow : OpenClaim := { program := "ytmkgajdgnmolkaa", sum := "3c6abadd99d4c92de37825e1b11a50aedbe7e75fc3e62384ca0e3d21e2837214", func := "incunable/incunablelaw06.GroveShape", spec := "groveShape", inPlace := ["slices.overlaps[int]", "slices.overlaps[incunable/api.Attr]"], unfollowed := true, recurses := true, apart := false, narrowed := true }
def GroveShapeUptoSaid : Prop := groveShapeUptoRow.holds Try.pinned (OpenSpec.upto groveShapeSpec)

/-- 'incunablelaw06.GroveCounts', WHERE WHAT IT READS IS OF BULK AT MOST 1048576: true; the input reads as it did. -/
def groveCountsUptoRow : OpenClaim := { program := "ytmkgajdgnmolkaa", sum := "3c6abadd99d4c92de37825e1b11a50aedbe7e75fc3e62384ca0e3d21e2837214", func := "incunable/incunablelaw06.GroveCounts", spec := "groveCounts", inPlace := ["slices.overlaps[int]", "slices.overlaps[incunable/api.Attr]"], unfollowed := true, recurses := true, apart := false, narrowed := true }
def GroveCountsUptoSaid : Prop := groveCountsUptoRow.holds Try.pinned (OpenSpec.upto groveCountsSpec)

end Rows
end Go.Proofs.Ytmkgajdgnmolkaa
