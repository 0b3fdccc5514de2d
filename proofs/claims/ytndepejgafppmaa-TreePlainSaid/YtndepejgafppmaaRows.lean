/-
  No cell of these rows narrows 'for every input' (looked for: loops, veiled, ifaces, maps, wideKeys, modest, calm, conditions, laid).
  DERIVED. THE GIVEN ROWS OF THIS SEAT. 5 by the template 'for every input the law returns true; each argument reads behind the call as it read before'; 0 by the template 'total and deterministic' (their statements: YtndepejgafppmaaTotals.lean).
  GIVEN WITH THE SEED: the statements are not yours to turn. If you find one false, say at which input.
  Laid BY PROGRAM, IN A SANDBOX (cutbox-rows.mjs): the forced cells as the released guide's own fill.sh prints them over the translation 8b01db0c0752d8b5… (all of the seat's roots in one cut). By AI agents, Wed Nov 11 2026. No macro, syntax, notation, axiom, sorry.
-/
import Derived.Test.YtndepejgafppmaaChecked
import GoSem.Claim
import GoSem.ClaimJoined
import GoSem.ClaimMapViews
import Derived.JoinedTies
import Derived.KernelRfl
namespace Go.Proofs.Ytndepejgafppmaa
/- THE CELL 'sum', in the pinned program and in every row, IS THE sha256 OF THE DUMP (.gsa) THAT YtndepejgafppmaaProg.lean LOADS. Nothing in Lean hashes anything: it is a label: what it is worth is what the hold of that sum in a sandbox is worth. -/
noncomputable def Try.pinned : Pinned := { name := "ytndepejgafppmaa", sum := "8b01db0c0752d8b5411d4d46f62ab619de2370e9da99ea3c9237cae428a2bf80", checked := Try.checked }
namespace Rows
def none {H : Type} : Left H := { results := [], args := [] }

/-- 'poundagelaw06.TreeNames': WHATEVER THE INPUT: true; the input reads as it did. -/
def treeNamesSpec : ChangeSpec := { name := "treeNames", fn := fun _ => fun
  | [d1, d2] => { results := [.lit (.bool true)], args := [d1, d2] }
  | _ => none }
def treeNamesRow : OpenClaim := { program := "ytndepejgafppmaa", sum := "8b01db0c0752d8b5411d4d46f62ab619de2370e9da99ea3c9237cae428a2bf80", func := "poundage/poundagelaw06.TreeNames", spec := "treeNames", unfollowed := true, recurses := true, apart := false }
def TreeNamesSaid : Prop := treeNamesRow.holds Try.pinned (OpenSpec.ofChange treeNamesSpec)

/-- ITS FALSE NEIGHBOUR: 'it returns false'. Refute it at one input. -/
def treeNamesWrong : ChangeSpec := { name := "treeNames", fn := fun _ => fun
  | [d1, d2] => { results := [.lit (.bool false)], args := [d1, d2] }
  | _ => none }
def TreeNamesWrongFalsely : Prop := treeNamesRow.holds Try.pinned (OpenSpec.ofChange treeNamesWrong)

/-- 'poundagelaw06.TreeRows': WHATEVER THE INPUT: true; the input reads as it did. -/
def treeRowsSpec : ChangeSpec := { name := "treeRows", fn := fun _ => fun
  | [d1, d2, d3] => { results := [.lit (.bool true)], args := [d1, d2, d3] }
  | _ => none }
def treeRowsRow : OpenClaim := { program := "ytndepejgafppmaa", sum := "8b01db0c0752d8b5411d4d46f62ab619de2370e9da99ea3c9237cae428a2bf80", func := "poundage/poundagelaw06.TreeRows", spec := "treeRows", unfollowed := true, recurses := true, apart := false }
def TreeRowsSaid : Prop := treeRowsRow.holds Try.pinned (OpenSpec.ofChange treeRowsSpec)

/-- ITS FALSE NEIGHBOUR: 'it returns false'. Refute it at one input. -/
def treeRowsWrong : ChangeSpec := { name := "treeRows", fn := fun _ => fun
  | [d1, d2, d3] => { results := [.lit (.bool false)], args := [d1, d2, d3] }
  | _ => none }
def TreeRowsWrongFalsely : Prop := treeRowsRow.holds Try.pinned (OpenSpec.ofChange treeRowsWrong)

/-- 'poundagelaw06.TreeSame': WHATEVER THE INPUT: true; the input reads as it did. -/
def treeSameSpec : ChangeSpec := { name := "treeSame", fn := fun _ => fun
  | [d1, d2] => { results := [.lit (.bool true)], args := [d1, d2] }
  | _ => none }
def treeSameRow : OpenClaim := { program := "ytndepejgafppmaa", sum := "8b01db0c0752d8b5411d4d46f62ab619de2370e9da99ea3c9237cae428a2bf80", func := "poundage/poundagelaw06.TreeSame", spec := "treeSame", unfollowed := true, recurses := true, apart := false }
def TreeSameSaid : Prop := treeSameRow.holds Try.pinned (OpenSpec.ofChange treeSameSpec)

/-- ITS FALSE NEIGHBOUR: 'it returns false'. Refute it at one input. -/
def treeSameWrong : ChangeSpec := { name := "treeSame", fn := fun _ => fun
  | [d1, d2] => { results := [.lit (.bool false)], args := [d1, d2] }
  | _ => none }
def TreeSameWrongFalsely : Prop := treeSameRow.holds Try.pinned (OpenSpec.ofChange treeSameWrong)

/-- 'poundagelaw06.TreeTurned': WHATEVER THE INPUT: true; the input reads as it did. -/
def treeTurnedSpec : ChangeSpec := { name := "treeTurned", fn := fun _ => fun
  | [d1, d2, d3] => { results := [.lit (.bool true)], args := [d1, d2, d3] }
  | _ => none }
def treeTurnedRow : OpenClaim := { program := "ytndepejgafppmaa", sum := "8b01db0c0752d8b5411d4d46f62ab619de2370e9da99ea3c9237cae428a2bf80", func := "poundage/poundagelaw06.TreeTurned", spec := "treeTurned", unfollowed := true, recurses := true, apart := false }
def TreeTurnedSaid : Prop := treeTurnedRow.holds Try.pinned (OpenSpec.ofChange treeTurnedSpec)

/-- ITS FALSE NEIGHBOUR: 'it returns false'. Refute it at one input. -/
def treeTurnedWrong : ChangeSpec := { name := "treeTurned", fn := fun _ => fun
  | [d1, d2, d3] => { results := [.lit (.bool false)], args := [d1, d2, d3] }
  | _ => none }
def TreeTurnedWrongFalsely : Prop := treeTurnedRow.holds Try.pinned (OpenSpec.ofChange treeTurnedWrong)

/-- 'poundagelaw06.TreePlain': WHATEVER THE INPUT: true; the input reads as it did. -/
def treePlainSpec : ChangeSpec := { name := "treePlain", fn := fun _ => fun
  | [d] => { results := [.lit (.bool true)], args := [d] }
  | _ => none }
def treePlainRow : OpenClaim := { program := "ytndepejgafppmaa", sum := "8b01db0c0752d8b5411d4d46f62ab619de2370e9da99ea3c9237cae428a2bf80", func := "poundage/poundagelaw06.TreePlain", spec := "treePlain", unfollowed := true, recurses := true, apart := false }
def TreePlainSaid : Prop := treePlainRow.holds Try.pinned (OpenSpec.ofChange treePlainSpec)

/-- ITS FALSE NEIGHBOUR: 'it returns false'. Refute it at one input. -/
def treePlainWrong : ChangeSpec := { name := "treePlain", fn := fun _ => fun
  | [d] => { results := [.lit (.bool false)], args := [d] }
  | _ => none }
def TreePlainWrongFalsely : Prop := treePlainRow.holds Try.pinned (OpenSpec.ofChange treePlainWrong)

/- THE SECOND FORM. 'bulk': how many values and letters a reading holds, each counted each time it is reached (what is shared counts as often as it is met; a slice's spare places count too). A statement '..UptoSaid' is the law's where the arguments, and the package variables that the reading takes, are together of bulk at most 1048576: NARROWER than '..Said'. Prove '..Said' where nothing that the law and all that it calls make is longer than what came in: it says more and counts as full. Else prove '..UptoSaid'. A law counts once. -/
mutual
def uptoBulk {H : Type} : DataW H → Nat
  | .lit (.string bytes) => bytes.length + 1
  | .lit _ => 1
  | .nil => 1
  | .ptr d => uptoBulk d + 1
  | .slice elems spare => uptoBulkAll elems + uptoBulkAll spare + 1
  | .agg parts => uptoBulkAll parts + 1
  | .iface _ d => uptoBulk d + 1
  | .map entries => uptoBulkEntries entries + 1
  | .held _ => 1
def uptoBulkAll {H : Type} : List (DataW H) → Nat
  | [] => 0
  | d :: r => uptoBulk d + uptoBulkAll r
def uptoBulkEntries {H : Type} : List (Lit × DataW H) → Nat
  | [] => 0
  | x :: r => uptoBulkEntry x + uptoBulkEntries r
def uptoBulkEntry {H : Type} : Lit × DataW H → Nat
  | (.string bytes, d) => bytes.length + uptoBulk d + 1
  | (_, d) => uptoBulk d + 1
 end
def uptoSmall : (H : Type) → List (DataW H) → Bool := fun _ ds => decide (uptoBulkAll ds ≤ 1048576)
def OpenSpec.upto (s : _root_.Go.ChangeSpec) : _root_.Go.OpenSpec := { _root_.Go.OpenSpec.ofChange s with cond := some uptoSmall }

/-- 'poundagelaw06.TreeNames', WHERE WHAT IT READS IS OF BULK AT MOST 1048576: true; the input reads as it did. -/
def treeNamesUptoRow : OpenClaim := { program := "ytndepejgafppmaa", sum := "8b01db0c0752d8b5411d4d46f62ab619de2370e9da99ea3c9237cae428a2bf80", func := "poundage/poundagelaw06.TreeNames", spec := "treeNames", unfollowed := true, recurses := true, apart := false, narrowed := true }
def TreeNamesUptoSaid : Prop := treeNamesUptoRow.holds Try.pinned (OpenSpec.upto treeNamesSpec)

/-- 'poundagelaw06.TreeRows', WHERE WHAT IT READS IS OF BULK AT MOST 1048576: true; the input reads as it did. -/
def treeRowsUptoRow : OpenClaim := { program := "ytndepejgafppmaa", sum := "8b01db0c0752d8b5411d4d46f62ab619de2370e9da99ea3c9237cae428a2bf80", func := "poundage/poundagelaw06.TreeRows", spec := "treeRows", unfollowed := true, recurses := true, apart := false, narrowed := true }
def TreeRowsUptoSaid : Prop := treeRowsUptoRow.holds Try.pinned (OpenSpec.upto treeRowsSpec)

/-- 'poundagelaw06.TreeSame', WHERE WHAT IT READS IS OF BULK AT MOST 1048576: true; the input reads as it did. -/
def treeSameUptoRow : OpenClaim := { program := "ytndepejgafppmaa", sum := "8b01db0c0752d8b5411d4d46f62ab619de2370e9da99ea3c9237cae428a2bf80", func := "poundage/poundagelaw06.TreeSame", spec := "treeSame", unfollowed := true, recurses := true, apart := false, narrowed := true }
def TreeSameUptoSaid : Prop := treeSameUptoRow.holds Try.pinned (OpenSpec.upto treeSameSpec)

/-- 'poundagelaw06.TreeTurned', WHERE WHAT IT READS IS OF BULK AT MOST 1048576: true; the input reads as it did. -/
def treeTurnedUptoRow : OpenClaim := { program := "ytndepejgafppmaa", sum := "8b01db0c0752d8b5411d4d46f62ab619de2370e9da99ea3c9237cae428a2bf80", func := "poundage/poundagelaw06.TreeTurned", spec := "treeTurned", unfollowed := true, recurses := true, apart := false, narrowed := true }
def TreeTurnedUptoSaid : Prop := treeTurnedUptoRow.holds Try.pinned (OpenSpec.upto treeTurnedSpec)

/-- 'poundagelaw06.TreePlain', WHERE WHAT IT READS IS OF BULK AT MOST 1048576: true; the input reads as it did. -/
def treePlainUptoRow : OpenClaim := { program := "ytndepejgafppmaa", sum := "8b01db0c0752d8b5411d4d46f62ab619de2370e9da99ea3c9237cae428a2bf80", func := "poundage/poundagelaw06.TreePlain", spec := "treePlain", unfollowed := true, recurses := true, apart := false, narrowed := true }
def TreePlainUptoSaid : Prop := treePlainUptoRow.holds Try.pinned (OpenSpec.upto treePlainSpec)

end Rows
end Go.Proofs.Ytndepejgafppmaa
