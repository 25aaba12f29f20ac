/-
  No cell of these rows narrows 'for every input' (looked for: loops, veiled, ifaces, maps, wideKeys, modest, calm, conditions, laid).
  DERIVED. THE GIVEN ROWS OF THIS SEAT. 7 by the template 'for every input the law returns true; each argument reads behind the call as it read before'; 0 by the template 'total and deterministic' (their statements: YthfdlkafpeadiaaTotals.lean).
  GIVEN WITH THE SEED: the statements are not yours to turn. If you find one false, say at which input.
  Laid BY PROGRAM, IN A SANDBOX (cutbox-rows.mjs): the forced cells as the released guide's own fill.sh prints them over the translation f1e2f8a03ca4413a… (all of the seat's roots in one cut). By AI agents, Wed Nov 11 2026. No macro, syntax, notation, axiom, sorry.
-/
import Derived.Test.YthfdlkafpeadiaaChecked
import GoSem.Claim
import GoSem.ClaimJoined
import GoSem.ClaimMapViews
import Derived.JoinedTies
import Derived.KernelRfl
namespace Go.Proofs.Ythfdlkafpeadiaa
/- THE CELL 'sum', in the pinned program and in every row, IS THE sha256 OF THE DUMP (.gsa) THAT YthfdlkafpeadiaaProg.lean LOADS. Nothing in Lean hashes anything: it is a label: what it is worth is what the hold of that sum in a sandbox is worth. -/
noncomputable def Try.pinned : Pinned := { name := "ythfdlkafpeadiaa", sum := "f1e2f8a03ca4413a979c377129aa7707f34b372f1d65100dd7a6d1912d2385cc", checked := Try.checked }
namespace Rows
def none {H : Type} : Left H := { results := [], args := [] }

/-- 'incunablelaw02.EscapeUndoes': WHATEVER THE INPUT: true; the input reads as it did. -/
def escapeUndoesSpec : ChangeSpec := { name := "escapeUndoes", fn := fun _ => fun
  | [d1, d2] => { results := [.lit (.bool true)], args := [d1, d2] }
  | _ => none }
def escapeUndoesRow : OpenClaim := { program := "ythfdlkafpeadiaa", sum := "f1e2f8a03ca4413a979c377129aa7707f34b372f1d65100dd7a6d1912d2385cc", func := "incunable/incunablelaw02.EscapeUndoes", spec := "escapeUndoes", inPlace := ["internal/abi.NoEscape"], apart := false }
def EscapeUndoesSaid : Prop := escapeUndoesRow.holds Try.pinned (OpenSpec.ofChange escapeUndoesSpec)

/-- ITS FALSE NEIGHBOUR: 'it returns false'. Refute it at one input. -/
def escapeUndoesWrong : ChangeSpec := { name := "escapeUndoes", fn := fun _ => fun
  | [d1, d2] => { results := [.lit (.bool false)], args := [d1, d2] }
  | _ => none }
def EscapeUndoesWrongFalsely : Prop := escapeUndoesRow.holds Try.pinned (OpenSpec.ofChange escapeUndoesWrong)

/-- 'incunablelaw02.EscapeNumbers': WHATEVER THE INPUT: true; the input reads as it did. -/
def escapeNumbersSpec : ChangeSpec := { name := "escapeNumbers", fn := fun _ => fun
  | [d] => { results := [.lit (.bool true)], args := [d] }
  | _ => none }
def escapeNumbersRow : OpenClaim := { program := "ythfdlkafpeadiaa", sum := "f1e2f8a03ca4413a979c377129aa7707f34b372f1d65100dd7a6d1912d2385cc", func := "incunable/incunablelaw02.EscapeNumbers", spec := "escapeNumbers", inPlace := ["internal/abi.NoEscape"], apart := false }
def EscapeNumbersSaid : Prop := escapeNumbersRow.holds Try.pinned (OpenSpec.ofChange escapeNumbersSpec)

/-- ITS FALSE NEIGHBOUR: 'it returns false'. Refute it at one input. -/
def escapeNumbersWrong : ChangeSpec := { name := "escapeNumbers", fn := fun _ => fun
  | [d] => { results := [.lit (.bool false)], args := [d] }
  | _ => none }
def EscapeNumbersWrongFalsely : Prop := escapeNumbersRow.holds Try.pinned (OpenSpec.ofChange escapeNumbersWrong)

/-- 'incunablelaw02.EscapeWrites': WHATEVER THE INPUT: true; the input reads as it did. -/
def escapeWritesSpec : ChangeSpec := { name := "escapeWrites", fn := fun _ => fun
  | [d] => { results := [.lit (.bool true)], args := [d] }
  | _ => none }
def escapeWritesRow : OpenClaim := { program := "ythfdlkafpeadiaa", sum := "f1e2f8a03ca4413a979c377129aa7707f34b372f1d65100dd7a6d1912d2385cc", func := "incunable/incunablelaw02.EscapeWrites", spec := "escapeWrites", inPlace := ["internal/abi.NoEscape"], apart := false }
def EscapeWritesSaid : Prop := escapeWritesRow.holds Try.pinned (OpenSpec.ofChange escapeWritesSpec)

/-- ITS FALSE NEIGHBOUR: 'it returns false'. Refute it at one input. -/
def escapeWritesWrong : ChangeSpec := { name := "escapeWrites", fn := fun _ => fun
  | [d] => { results := [.lit (.bool false)], args := [d] }
  | _ => none }
def EscapeWritesWrongFalsely : Prop := escapeWritesRow.holds Try.pinned (OpenSpec.ofChange escapeWritesWrong)

/-- 'incunablelaw02.EscapeJoins': WHATEVER THE INPUT: true; the input reads as it did. -/
def escapeJoinsSpec : ChangeSpec := { name := "escapeJoins", fn := fun _ => fun
  | [d1, d2] => { results := [.lit (.bool true)], args := [d1, d2] }
  | _ => none }
def escapeJoinsRow : OpenClaim := { program := "ythfdlkafpeadiaa", sum := "f1e2f8a03ca4413a979c377129aa7707f34b372f1d65100dd7a6d1912d2385cc", func := "incunable/incunablelaw02.EscapeJoins", spec := "escapeJoins", inPlace := ["internal/abi.NoEscape"], apart := false }
def EscapeJoinsSaid : Prop := escapeJoinsRow.holds Try.pinned (OpenSpec.ofChange escapeJoinsSpec)

/-- ITS FALSE NEIGHBOUR: 'it returns false'. Refute it at one input. -/
def escapeJoinsWrong : ChangeSpec := { name := "escapeJoins", fn := fun _ => fun
  | [d1, d2] => { results := [.lit (.bool false)], args := [d1, d2] }
  | _ => none }
def EscapeJoinsWrongFalsely : Prop := escapeJoinsRow.holds Try.pinned (OpenSpec.ofChange escapeJoinsWrong)

/-- 'incunablelaw02.EscapePlain': WHATEVER THE INPUT: true; the input reads as it did. -/
def escapePlainSpec : ChangeSpec := { name := "escapePlain", fn := fun _ => fun
  | [d] => { results := [.lit (.bool true)], args := [d] }
  | _ => none }
def escapePlainRow : OpenClaim := { program := "ythfdlkafpeadiaa", sum := "f1e2f8a03ca4413a979c377129aa7707f34b372f1d65100dd7a6d1912d2385cc", func := "incunable/incunablelaw02.EscapePlain", spec := "escapePlain", inPlace := ["internal/abi.NoEscape"], apart := false }
def EscapePlainSaid : Prop := escapePlainRow.holds Try.pinned (OpenSpec.ofChange escapePlainSpec)

/-- ITS FALSE NEIGHBOUR: 'it returns false'. Refute it at one input. -/
def escapePlainWrong : ChangeSpec := { name := "escapePlain", fn := fun _ => fun
  | [d] => { results := [.lit (.bool false)], args := [d] }
  | _ => none }
def EscapePlainWrongFalsely : Prop := escapePlainRow.holds Try.pinned (OpenSpec.ofChange escapePlainWrong)

/-- 'incunablelaw02.EscapeLonger': WHATEVER THE INPUT: true; the input reads as it did. -/
def escapeLongerSpec : ChangeSpec := { name := "escapeLonger", fn := fun _ => fun
  | [d] => { results := [.lit (.bool true)], args := [d] }
  | _ => none }
def escapeLongerRow : OpenClaim := { program := "ythfdlkafpeadiaa", sum := "f1e2f8a03ca4413a979c377129aa7707f34b372f1d65100dd7a6d1912d2385cc", func := "incunable/incunablelaw02.EscapeLonger", spec := "escapeLonger", inPlace := ["internal/abi.NoEscape"], apart := false }
def EscapeLongerSaid : Prop := escapeLongerRow.holds Try.pinned (OpenSpec.ofChange escapeLongerSpec)

/-- ITS FALSE NEIGHBOUR: 'it returns false'. Refute it at one input. -/
def escapeLongerWrong : ChangeSpec := { name := "escapeLonger", fn := fun _ => fun
  | [d] => { results := [.lit (.bool false)], args := [d] }
  | _ => none }
def EscapeLongerWrongFalsely : Prop := escapeLongerRow.holds Try.pinned (OpenSpec.ofChange escapeLongerWrong)

/-- 'incunablelaw02.EscapeBack': WHATEVER THE INPUT: true; the input reads as it did. -/
def escapeBackSpec : ChangeSpec := { name := "escapeBack", fn := fun _ => fun
  | [d] => { results := [.lit (.bool true)], args := [d] }
  | _ => none }
def escapeBackRow : OpenClaim := { program := "ythfdlkafpeadiaa", sum := "f1e2f8a03ca4413a979c377129aa7707f34b372f1d65100dd7a6d1912d2385cc", func := "incunable/incunablelaw02.EscapeBack", spec := "escapeBack", inPlace := ["internal/abi.NoEscape"], unfollowed := true, recurses := true, apart := false }
def EscapeBackSaid : Prop := escapeBackRow.holds Try.pinned (OpenSpec.ofChange escapeBackSpec)

/-- ITS FALSE NEIGHBOUR: 'it returns false'. Refute it at one input. -/
def escapeBackWrong : ChangeSpec := { name := "escapeBack", fn := fun _ => fun
  | [d] => { results := [.lit (.bool false)], args := [d] }
  | _ => none }
def EscapeBackWrongFalsely : Prop := escapeBackRow.holds Try.pinned (OpenSpec.ofChange escapeBackWrong)

/- THE SECOND FORM. 'bulk': how many values and letters a reading holds, each counted each time it is reached (what is shared counts as often as it is met; a slice's spare places count too). A statement '..UptoSaid' is the law's where the arguments, and the package variables that the reading takes, are together of bulk at most 1048576: NARROWER than '..Said'. Prove '..Said' where nothing that the law and all that it calls make is longer than what came in: it says more and counts as full. Else prove '..UptoSaid'. A law counts once. -/
mutual
def uptoBulk {H : Type} : DataW H → Nat
  | .lit (.string bytes) => bytes.length + 1
  | .lit _ => 1
  | .nil => 1
  | .ptr d => uptoBulk d + 1
  | .slice elems spare => uptoBulkAll elems + uptoBulkAll spare + 1
  | .agg parts => uptoBulkAll parts + 1
  | .iface _ d => uptoBulk d + 1
  | .map entries => uptoBulkEntries entries + 1
  | .held _ => 1
def uptoBulkAll {H : Type} : List (DataW H) → Nat
  | [] => 0
  | d :: r => uptoBulk d + uptoBulkAll r
def uptoBulkEntries {H : Type} : List (Lit × DataW H) → Nat
  | [] => 0
  | x :: r => uptoBulkEntry x + uptoBulkEntries r
def uptoBulkEntry {H : Type} : Lit × DataW H → Nat
  | (.string bytes, d) => bytes.length + uptoBulk d + 1
  | (_, d) => uptoBulk d + 1
 end
def uptoSmall : (H : Type) → List (DataW H) → Bool := fun _ ds => decide (uptoBulkAll ds ≤ 1048576)
def OpenSpec.upto (s : _root_.Go.ChangeSpec) : _root_.Go.OpenSpec := { _root_.Go.OpenSpec.ofChange s with cond := some uptoSmall }

/-- 'incunablelaw02.EscapeUndoes', WHERE WHAT IT READS IS OF BULK AT MOST 1048576: true; the input reads as it did. -/
def escapeUndoesUptoRow : OpenClaim := { program := "ythfdlkafpeadiaa", sum := "f1e2f8a03ca4413a979c377129aa7707f34b372f1d65100dd7a6d1912d2385cc", func := "incunable/incunablelaw02.EscapeUndoes", spec := "escapeUndoes", inPlace := ["internal/abi.NoEscape"], apart := false, narrowed := true }
def EscapeUndoesUptoSaid : Prop := escapeUndoesUptoRow.holds Try.pinned (OpenSpec.upto escapeUndoesSpec)

/-- 'incunablelaw02.EscapeNumbers', WHERE WHAT IT READS IS OF BULK AT MOST 1048576: true; the input reads as it did. -/
def escapeNumbersUptoRow : OpenClaim := { program := "ythfdlkafpeadiaa", sum := "f1e2f8a03ca4413a979c377129aa7707f34b372f1d65100dd7a6d1912d2385cc", func := "incunable/incunablelaw02.EscapeNumbers", spec := "escapeNumbers", inPlace := ["internal/abi.NoEscape"], apart := false, narrowed := true }
def EscapeNumbersUptoSaid : Prop := escapeNumbersUptoRow.holds Try.pinned (OpenSpec.upto escapeNumbersSpec)

/-- 'incunablelaw02.EscapeWrites', WHERE WHAT IT READS IS OF BULK AT MOST 1048576: true; the input reads as it did. -/
def escapeWritesUptoRow : OpenClaim := { program := "ythfdlkafpeadiaa", sum := "f1e2f8a03ca4413a979c377129aa7707f34b372f1d65100dd7a6d1912d2385cc", func := "incunable/incunablelaw02.EscapeWrites", spec := "escapeWrites", inPlace := ["internal/abi.NoEscape"], apart := false, narrowed := true }
def EscapeWritesUptoSaid : Prop := escapeWritesUptoRow.holds Try.pinned (OpenSpec.upto escapeWritesSpec)

/-- 'incunablelaw02.EscapeJoins', WHERE WHAT IT READS IS OF BULK AT MOST 1048576: true; the input reads as it did. -/
def escapeJoinsUptoRow : OpenClaim := { program := "ythfdlkafpeadiaa", sum := "f1e2f8a03ca4413a979c377129aa7707f34b372f1d65100dd7a6d1912d2385cc", func := "incunable/incunablelaw02.EscapeJoins", spec := "escapeJoins", inPlace := ["internal/abi.NoEscape"], apart := false, narrowed := true }
def EscapeJoinsUptoSaid : Prop := escapeJoinsUptoRow.holds Try.pinned (OpenSpec.upto escapeJoinsSpec)

/-- 'incunablelaw02.EscapePlain', WHERE WHAT IT READS IS OF BULK AT MOST 1048576: true; the input reads as it did. -/
def escapePlainUptoRow : OpenClaim := { program := "ythfdlkafpeadiaa", sum := "f1e2f8a03ca4413a979c377129aa7707f34b372f1d65100dd7a6d1912d2385cc", func := "incunable/incunablelaw02.EscapePlain", spec := "escapePlain", inPlace := ["internal/abi.NoEscape"], apart := false, narrowed := true }
def EscapePlainUptoSaid : Prop := escapePlainUptoRow.holds Try.pinned (OpenSpec.upto escapePlainSpec)

/-- 'incunablelaw02.EscapeLonger', WHERE WHAT IT READS IS OF BULK AT MOST 1048576: true; the input reads as it did. -/
def escapeLongerUptoRow : OpenClaim := { program := "ythfdlkafpeadiaa", sum := "f1e2f8a03ca4413a979c377129aa7707f34b372f1d65100dd7a6d1912d2385cc", func := "incunable/incunablelaw02.EscapeLonger", spec := "escapeLonger", inPlace := ["internal/abi.NoEscape"], apart := false, narrowed := true }
def EscapeLongerUptoSaid : Prop := escapeLongerUptoRow.holds Try.pinned (OpenSpec.upto escapeLongerSpec)

/-- 'incunablelaw02.EscapeBack', WHERE WHAT IT READS IS OF BULK AT MOST 1048576: true; the input reads as it did. -/
def escapeBackUptoRow : OpenClaim := { program := "ythfdlkafpeadiaa", sum := "f1e2f8a03ca4413a979c377129aa7707f34b372f1d65100dd7a6d1912d2385cc", func := "incunable/incunablelaw02.EscapeBack", spec := "escapeBack", inPlace := ["internal/abi.NoEscape"], unfollowed := true, recurses := true, apart := false, narrowed := true }
def EscapeBackUptoSaid : Prop := escapeBackUptoRow.holds Try.pinned (OpenSpec.upto escapeBackSpec)

end Rows
end Go.Proofs.Ythfdlkafpeadiaa
