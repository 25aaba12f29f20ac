/-
  No cell of these rows narrows 'for every input' (looked for: loops, veiled, ifaces, maps, wideKeys, modest, calm, conditions, laid).
  DERIVED. THE GIVEN ROWS OF THIS SEAT. 7 by the template 'for every input the law returns true; each argument reads behind the call as it read before'; 0 by the template 'total and deterministic' (their statements: YtcombcoilpmnkaaGreatTotals.lean).
  GIVEN WITH THE SEED: the statements are not yours to turn. If you find one false, say at which input.
  Laid BY PROGRAM, IN A SANDBOX (cutbox-rows.mjs): the forced cells as the released guide's own fill.sh prints them over the translation 4ea4b9a085b192a6… (all of the seat's roots in one cut). By AI agents, Wed Nov 11 2026. No macro, syntax, notation, axiom, sorry.
-/
import Derived.Test.YtcombcoilpmnkaaGreatChecked
import GoSem.Claim
import GoSem.ClaimJoined
import GoSem.ClaimMapViews
import Derived.JoinedTies
import Derived.KernelRfl
namespace Go.Proofs.YtcombcoilpmnkaaGreat
/- THE CELL 'sum', in the pinned program and in every row, IS THE sha256 OF THE DUMP (.gsa) THAT YtcombcoilpmnkaaGreatProg.lean LOADS. Nothing in Lean hashes anything: it is a label: what it is worth is what the hold of that sum in a sandbox is worth. -/
noncomputable def Tryz.pinned : Pinned := { name := "ytcombcoilpmnkaagreat", sum := "4ea4b9a085b192a6eb38f687a695f3109aa6e3d5480d8a6b7ed29a92f3d5416b", checked := Tryz.checked }
namespace Rows
def none {H : Type} : Left H := { results := [], args := [] }

/-- 'incunablelaw08.WalkerEvals': WHATEVER THE INPUT: true; the input reads as it did. -/
def walkerEvalsSpec : ChangeSpec := { name := "walkerEvals", fn := fun _ => fun
  | [d1, d2] => { results := [.lit (.bool true)], args := [d1, d2] }
  | _ => none }
def walkerEvalsRow : OpenClaim := { program := "ytcombcoilpmnkaagreat", sum := "4ea4b9a085b192a6eb38f687a695f3109aa6e3d5480d8a6b7ed29a92f3d5416b", func := "incunable/incunablelaw08.WalkerEvals", spec := "walkerEvals", inPlace := ["slices.overlaps[int]", "internal/bytealg.IndexByteString", "internal/abi.NoEscape"], unfollowed := true, recurses := true, apart := false }
def WalkerEvalsSaid : Prop := walkerEvalsRow.holds Tryz.pinned (OpenSpec.ofChange walkerEvalsSpec)

/-- ITS FALSE NEIGHBOUR: 'it returns false'. Refute it at one input. -/
def walkerEvalsWrong : ChangeSpec := { name := "walkerEvals", fn := fun _ => fun
  | [d1, d2] => { results := [.lit (.bool false)], args := [d1, d2] }
  | _ => none }
def WalkerEvalsWrongFalsely : Prop := walkerEvalsRow.holds Tryz.pinned (OpenSpec.ofChange walkerEvalsWrong)

/-- 'incunablelaw08.WalkerFinds': WHATEVER THE INPUT: true; the input reads as it did. -/
def walkerFindsSpec : ChangeSpec := { name := "walkerFinds", fn := fun _ => fun
  | [d1, d2] => { results := [.lit (.bool true)], args := [d1, d2] }
  | _ => none }
def walkerFindsRow : OpenClaim := { program := "ytcombcoilpmnkaagreat", sum := "4ea4b9a085b192a6eb38f687a695f3109aa6e3d5480d8a6b7ed29a92f3d5416b", func := "incunable/incunablelaw08.WalkerFinds", spec := "walkerFinds", inPlace := ["slices.overlaps[int]", "internal/bytealg.IndexByteString", "internal/abi.NoEscape"], unfollowed := true, recurses := true, apart := false }
def WalkerFindsSaid : Prop := walkerFindsRow.holds Tryz.pinned (OpenSpec.ofChange walkerFindsSpec)

/-- ITS FALSE NEIGHBOUR: 'it returns false'. Refute it at one input. -/
def walkerFindsWrong : ChangeSpec := { name := "walkerFinds", fn := fun _ => fun
  | [d1, d2] => { results := [.lit (.bool false)], args := [d1, d2] }
  | _ => none }
def WalkerFindsWrongFalsely : Prop := walkerFindsRow.holds Tryz.pinned (OpenSpec.ofChange walkerFindsWrong)

/-- 'incunablelaw08.WalkerParts': WHATEVER THE INPUT: true; the input reads as it did. -/
def walkerPartsSpec : ChangeSpec := { name := "walkerParts", fn := fun _ => fun
  | [d1, d2, d3] => { results := [.lit (.bool true)], args := [d1, d2, d3] }
  | _ => none }
def walkerPartsRow : OpenClaim := { program := "ytcombcoilpmnkaagreat", sum := "4ea4b9a085b192a6eb38f687a695f3109aa6e3d5480d8a6b7ed29a92f3d5416b", func := "incunable/incunablelaw08.WalkerParts", spec := "walkerParts", inPlace := ["slices.overlaps[int]", "internal/bytealg.IndexByteString", "internal/abi.NoEscape"], unfollowed := true, recurses := true, apart := false }
def WalkerPartsSaid : Prop := walkerPartsRow.holds Tryz.pinned (OpenSpec.ofChange walkerPartsSpec)

/-- ITS FALSE NEIGHBOUR: 'it returns false'. Refute it at one input. -/
def walkerPartsWrong : ChangeSpec := { name := "walkerParts", fn := fun _ => fun
  | [d1, d2, d3] => { results := [.lit (.bool false)], args := [d1, d2, d3] }
  | _ => none }
def WalkerPartsWrongFalsely : Prop := walkerPartsRow.holds Tryz.pinned (OpenSpec.ofChange walkerPartsWrong)

/-- 'incunablelaw08.WalkerSelf': WHATEVER THE INPUT: true; the input reads as it did. -/
def walkerSelfSpec : ChangeSpec := { name := "walkerSelf", fn := fun _ => fun
  | [d1, d2] => { results := [.lit (.bool true)], args := [d1, d2] }
  | _ => none }
def walkerSelfRow : OpenClaim := { program := "ytcombcoilpmnkaagreat", sum := "4ea4b9a085b192a6eb38f687a695f3109aa6e3d5480d8a6b7ed29a92f3d5416b", func := "incunable/incunablelaw08.WalkerSelf", spec := "walkerSelf", inPlace := ["slices.overlaps[int]", "internal/bytealg.IndexByteString", "internal/abi.NoEscape"], unfollowed := true, recurses := true, apart := false }
def WalkerSelfSaid : Prop := walkerSelfRow.holds Tryz.pinned (OpenSpec.ofChange walkerSelfSpec)

/-- ITS FALSE NEIGHBOUR: 'it returns false'. Refute it at one input. -/
def walkerSelfWrong : ChangeSpec := { name := "walkerSelf", fn := fun _ => fun
  | [d1, d2] => { results := [.lit (.bool false)], args := [d1, d2] }
  | _ => none }
def WalkerSelfWrongFalsely : Prop := walkerSelfRow.holds Tryz.pinned (OpenSpec.ofChange walkerSelfWrong)

/-- 'incunablelaw08.WalkerTests': WHATEVER THE INPUT: true; the input reads as it did. -/
def walkerTestsSpec : ChangeSpec := { name := "walkerTests", fn := fun _ => fun
  | [d1, d2, d3] => { results := [.lit (.bool true)], args := [d1, d2, d3] }
  | _ => none }
def walkerTestsRow : OpenClaim := { program := "ytcombcoilpmnkaagreat", sum := "4ea4b9a085b192a6eb38f687a695f3109aa6e3d5480d8a6b7ed29a92f3d5416b", func := "incunable/incunablelaw08.WalkerTests", spec := "walkerTests", inPlace := ["slices.overlaps[int]", "internal/bytealg.IndexByteString", "internal/abi.NoEscape"], unfollowed := true, recurses := true, apart := false }
def WalkerTestsSaid : Prop := walkerTestsRow.holds Tryz.pinned (OpenSpec.ofChange walkerTestsSpec)

/-- ITS FALSE NEIGHBOUR: 'it returns false'. Refute it at one input. -/
def walkerTestsWrong : ChangeSpec := { name := "walkerTests", fn := fun _ => fun
  | [d1, d2, d3] => { results := [.lit (.bool false)], args := [d1, d2, d3] }
  | _ => none }
def WalkerTestsWrongFalsely : Prop := walkerTestsRow.holds Tryz.pinned (OpenSpec.ofChange walkerTestsWrong)

/-- 'incunablelaw08.WalkerDeep': WHATEVER THE INPUT: true; the input reads as it did. -/
def walkerDeepSpec : ChangeSpec := { name := "walkerDeep", fn := fun _ => fun
  | [d1, d2] => { results := [.lit (.bool true)], args := [d1, d2] }
  | _ => none }
def walkerDeepRow : OpenClaim := { program := "ytcombcoilpmnkaagreat", sum := "4ea4b9a085b192a6eb38f687a695f3109aa6e3d5480d8a6b7ed29a92f3d5416b", func := "incunable/incunablelaw08.WalkerDeep", spec := "walkerDeep", inPlace := ["slices.overlaps[int]", "internal/bytealg.IndexByteString", "internal/abi.NoEscape"], unfollowed := true, recurses := true, apart := false }
def WalkerDeepSaid : Prop := walkerDeepRow.holds Tryz.pinned (OpenSpec.ofChange walkerDeepSpec)

/-- ITS FALSE NEIGHBOUR: 'it returns false'. Refute it at one input. -/
def walkerDeepWrong : ChangeSpec := { name := "walkerDeep", fn := fun _ => fun
  | [d1, d2] => { results := [.lit (.bool false)], args := [d1, d2] }
  | _ => none }
def WalkerDeepWrongFalsely : Prop := walkerDeepRow.holds Tryz.pinned (OpenSpec.ofChange walkerDeepWrong)

/-- 'incunablelaw08.WalkerOrder': WHATEVER THE INPUT: true; the input reads as it did. -/
def walkerOrderSpec : ChangeSpec := { name := "walkerOrder", fn := fun _ => fun
  | [d1, d2] => { results := [.lit (.bool true)], args := [d1, d2] }
  | _ => none }
def walkerOrderRow : OpenClaim := { program := "ytcombcoilpmnkaagreat", sum := "4ea4b9a085b192a6eb38f687a695f3109aa6e3d5480d8a6b7ed29a92f3d5416b", func := "incunable/incunablelaw08.WalkerOrder", spec := "walkerOrder", inPlace := ["slices.overlaps[int]", "internal/bytealg.IndexByteString", "internal/abi.NoEscape"], unfollowed := true, recurses := true, apart := false }
def WalkerOrderSaid : Prop := walkerOrderRow.holds Tryz.pinned (OpenSpec.ofChange walkerOrderSpec)

/-- ITS FALSE NEIGHBOUR: 'it returns false'. Refute it at one input. -/
def walkerOrderWrong : ChangeSpec := { name := "walkerOrder", fn := fun _ => fun
  | [d1, d2] => { results := [.lit (.bool false)], args := [d1, d2] }
  | _ => none }
def WalkerOrderWrongFalsely : Prop := walkerOrderRow.holds Tryz.pinned (OpenSpec.ofChange walkerOrderWrong)

/- THE SECOND FORM. 'bulk': how many values and letters a reading holds, each counted each time it is reached (what is shared counts as often as it is met; a slice's spare places count too). A statement '..UptoSaid' is the law's where the arguments, and the package variables that the reading takes, are together of bulk at most 1048576: NARROWER than '..Said'. Prove '..Said' where nothing that the law and all that it calls make is longer than what came in: it says more and counts as full. Else prove '..UptoSaid'. A law counts once. -/
mutual
def uptoBulk {H : Type} : DataW H → Nat
  | .lit (.string bytes) => bytes.length + 1
  | .lit _ => 1
  | .nil => 1
  | .ptr d => uptoBulk d + 1
  | .slice elems spare => uptoBulkAll elems + uptoBulkAll spare + 1
  | .agg parts => uptoBulkAll parts + 1
  | .iface _ d => uptoBulk d + 1
  | .map entries => uptoBulkEntries entries + 1
  | .held _ => 1
def uptoBulkAll {H : Type} : List (DataW H) → Nat
  | [] => 0
  | d :: r => uptoBulk d + uptoBulkAll r
def uptoBulkEntries {H : Type} : List (Lit × DataW H) → Nat
  | [] => 0
  | x :: r => uptoBulkEntry x + uptoBulkEntries r
def uptoBulkEntry {H : Type} : Lit × DataW H → Nat
  | (.string bytes, d) => bytes.length + uptoBulk d + 1
  | (_, d) => uptoBulk d + 1
 end
def uptoSmall : (H : Type) → List (DataW H) → Bool := fun _ ds => decide (uptoBulkAll ds ≤ 1048576)
def OpenSpec.upto (s : _root_.Go.ChangeSpec) : _root_.Go.OpenSpec := { _root_.Go.OpenSpec.ofChange s with cond := some uptoSmall }

/-- 'incunablelaw08.WalkerEvals', WHERE WHAT IT READS IS OF BULK AT MOST 1048576: true; the input reads as it did. -/
def walkerEvalsUptoRow : OpenClaim := { program := "ytcombcoilpmnkaagreat", sum := "4ea4b9a085b192a6eb38f687a695f3109aa6e3d5480d8a6b7ed29a92f3d5416b", func := "incunable/incunablelaw08.WalkerEvals", spec := "walkerEvals", inPlace := ["slices.overlaps[int]", "internal/bytealg.IndexByteString", "internal/abi.NoEscape"], unfollowed := true, recurses := true, apart := false, narrowed := true }
def WalkerEvalsUptoSaid : Prop := walkerEvalsUptoRow.holds Tryz.pinned (OpenSpec.upto walkerEvalsSpec)

/-- 'incunablelaw08.WalkerFinds', WHERE WHAT IT READS IS OF BULK AT MOST 1048576: true; the input reads as it did. -/
def walkerFindsUptoRow : OpenClaim := { program := "ytcombcoilpmnkaagreat", sum := "4ea4b9a085b192a6eb38f687a695f3109aa6e3d5480d8a6b7ed29a92f3d5416b", func := "incunable/incunablelaw08.WalkerFinds", spec := "walkerFinds", inPlace := ["slices.overlaps[int]", "internal/bytealg.IndexByteString", "internal/abi.NoEscape"], unfollowed := true, recurses := true, apart := false, narrowed := true }
def WalkerFindsUptoSaid : Prop := walkerFindsUptoRow.holds Tryz.pinned (OpenSpec.upto walkerFindsSpec)

/-- 'incunablelaw08.WalkerParts', WHERE WHAT IT READS IS OF BULK AT MOST 1048576: true; the input reads as it did. -/
def walkerPartsUptoRow : OpenClaim := { program := "ytcombcoilpmnkaagreat", sum := "4ea4b9a085b192a6eb38f687a695f3109aa6e3d5480d8a6b7ed29a92f3d5416b", func := "incunable/incunablelaw08.WalkerParts", spec := "walkerParts", inPlace := ["slices.overlaps[int]", "internal/bytealg.IndexByteString", "internal/abi.NoEscape"], unfollowed := true, recurses := true, apart := false, narrowed := true }
def WalkerPartsUptoSaid : Prop := walkerPartsUptoRow.holds Tryz.pinned (OpenSpec.upto walkerPartsSpec)

/-- 'incunablelaw08.WalkerSelf', WHERE WHAT IT READS IS OF BULK AT MOST 1048576: true; the input reads as it did. -/
def walkerSelfUptoRow : OpenClaim := { program := "ytcombcoilpmnkaagreat", sum := "4ea4b9a085b192a6eb38f687a695f3109aa6e3d5480d8a6b7ed29a92f3d5416b", func := "incunable/incunablelaw08.WalkerSelf", spec := "walkerSelf", inPlace := ["slices.overlaps[int]", "internal/bytealg.IndexByteString", "internal/abi.NoEscape"], unfollowed := true, recurses := true, apart := false, narrowed := true }
def WalkerSelfUptoSaid : Prop := walkerSelfUptoRow.holds Tryz.pinned (OpenSpec.upto walkerSelfSpec)

/-- 'incunablelaw08.WalkerTests', WHERE WHAT IT READS IS OF BULK AT MOST 1048576: true; the input reads as it did. -/
def walkerTestsUptoRow : OpenClaim := { program := "ytcombcoilpmnkaagreat", sum := "4ea4b9a085b192a6eb38f687a695f3109aa6e3d5480d8a6b7ed29a92f3d5416b", func := "incunable/incunablelaw08.WalkerTests", spec := "walkerTests", inPlace := ["slices.overlaps[int]", "internal/bytealg.IndexByteString", "internal/abi.NoEscape"], unfollowed := true, recurses := true, apart := false, narrowed := true }
def WalkerTestsUptoSaid : Prop := walkerTestsUptoRow.holds Tryz.pinned (OpenSpec.upto walkerTestsSpec)

/-- 'incunablelaw08.WalkerDeep', WHERE WHAT IT READS IS OF BULK AT MOST 1048576: true; the input reads as it did. -/
def walkerDeepUptoRow : OpenClaim := { program := "ytcombcoilpmnkaagreat", sum := "4ea4b9a085b192a6eb38f687a695f3109aa6e3d5480d8a6b7ed29a92f3d5416b", func := "incunable/incunablelaw08.WalkerDeep", spec := "walkerDeep", inPlace := ["slices.overlaps[int]", "internal/bytealg.IndexByteString", "internal/abi.NoEscape"], unfollowed := true, recurses := true, apart := false, narrowed := true }
def WalkerDeepUptoSaid : Prop := walkerDeepUptoRow.holds Tryz.pinned (OpenSpec.upto walkerDeepSpec)

/-- 'incunablelaw08.WalkerOrder', WHERE WHAT IT READS IS OF BULK AT MOST 1048576: true; the input reads as it did. -/
def walkerOrderUptoRow : OpenClaim := { program := "ytcombcoilpmnkaagreat", sum := "4ea4b9a085b192a6eb38f687a695f3109aa6e3d5480d8a6b7ed29a92f3d5416b", func := "incunable/incunablelaw08.WalkerOrder", spec := "walkerOrder", inPlace := ["slices.overlaps[int]", "internal/bytealg.IndexByteString", "internal/abi.NoEscape"], unfollowed := true, recurses := true, apart := false, narrowed := true }
def WalkerOrderUptoSaid : Prop := walkerOrderUptoRow.holds Tryz.pinned (OpenSpec.upto walkerOrderSpec)

end Rows
end Go.Proofs.YtcombcoilpmnkaaGreat
