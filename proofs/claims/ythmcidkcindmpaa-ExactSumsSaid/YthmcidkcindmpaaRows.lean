/-
  No cell of these rows narrows 'for every input' (looked for: loops, veiled, ifaces, maps, wideKeys, modest, calm, conditions, laid).
  DERIVED. THE GIVEN ROWS OF THIS SEAT. 6 by the template 'for every input the law returns true; each argument reads behind the call as it read before'; 0 by the template 'total and deterministic' (their statements: YthmcidkcindmpaaTotals.lean).
  GIVEN WITH THE SEED: the statements are not yours to turn. If you find one false, say at which input.
  Laid BY PROGRAM, IN A SANDBOX (cutbox-rows.mjs): the forced cells as the released guide's own fill.sh prints them over the translation 1dcc1e3704e3d273… (all of the seat's roots in one cut). By AI agents, Wed Nov 11 2026. No macro, syntax, notation, axiom, sorry.
-/
import Derived.Test.YthmcidkcindmpaaChecked
import GoSem.Claim
import GoSem.ClaimJoined
import GoSem.ClaimMapViews
import Derived.JoinedTies
import Derived.KernelRfl
namespace Go.Proofs.Ythmcidkcindmpaa
/- THE CELL 'sum', in the pinned program and in every row, IS THE sha256 OF THE DUMP (.gsa) THAT YthmcidkcindmpaaProg.lean LOADS. Nothing in Lean hashes anything: it is a label: what it is worth is what the hold of that sum in a sandbox is worth. -/
noncomputable def Try.pinned : Pinned := { name := "ythmcidkcindmpaa", sum := "1dcc1e3704e3d273ab6d42670ac2383f54159a5f2b93fc935f4973315d071038", checked := Try.checked }
namespace Rows
def none {H : Type} : Left H := { results := [], args := [] }

/-- 'poundagelaw01.ExactIs': WHATEVER THE INPUT: true; the input reads as it did. -/
def exactIsSpec : ChangeSpec := { name := "exactIs", fn := fun _ => fun
  | [d1, d2] => { results := [.lit (.bool true)], args := [d1, d2] }
  | _ => none }
def exactIsRow : OpenClaim := { program := "ythmcidkcindmpaa", sum := "1dcc1e3704e3d273ab6d42670ac2383f54159a5f2b93fc935f4973315d071038", func := "poundage/poundagelaw01.ExactIs", spec := "exactIs", apart := false }
def ExactIsSaid : Prop := exactIsRow.holds Try.pinned (OpenSpec.ofChange exactIsSpec)

/-- ITS FALSE NEIGHBOUR: 'it returns false'. Refute it at one input. -/
def exactIsWrong : ChangeSpec := { name := "exactIs", fn := fun _ => fun
  | [d1, d2] => { results := [.lit (.bool false)], args := [d1, d2] }
  | _ => none }
def ExactIsWrongFalsely : Prop := exactIsRow.holds Try.pinned (OpenSpec.ofChange exactIsWrong)

/-- 'poundagelaw01.ExactDivides': WHATEVER THE INPUT: true; the input reads as it did. -/
def exactDividesSpec : ChangeSpec := { name := "exactDivides", fn := fun _ => fun
  | [d1, d2] => { results := [.lit (.bool true)], args := [d1, d2] }
  | _ => none }
def exactDividesRow : OpenClaim := { program := "ythmcidkcindmpaa", sum := "1dcc1e3704e3d273ab6d42670ac2383f54159a5f2b93fc935f4973315d071038", func := "poundage/poundagelaw01.ExactDivides", spec := "exactDivides", apart := false }
def ExactDividesSaid : Prop := exactDividesRow.holds Try.pinned (OpenSpec.ofChange exactDividesSpec)

/-- ITS FALSE NEIGHBOUR: 'it returns false'. Refute it at one input. -/
def exactDividesWrong : ChangeSpec := { name := "exactDivides", fn := fun _ => fun
  | [d1, d2] => { results := [.lit (.bool false)], args := [d1, d2] }
  | _ => none }
def ExactDividesWrongFalsely : Prop := exactDividesRow.holds Try.pinned (OpenSpec.ofChange exactDividesWrong)

/-- 'poundagelaw01.ExactBack': WHATEVER THE INPUT: true; the input reads as it did. -/
def exactBackSpec : ChangeSpec := { name := "exactBack", fn := fun _ => fun
  | [d1, d2] => { results := [.lit (.bool true)], args := [d1, d2] }
  | _ => none }
def exactBackRow : OpenClaim := { program := "ythmcidkcindmpaa", sum := "1dcc1e3704e3d273ab6d42670ac2383f54159a5f2b93fc935f4973315d071038", func := "poundage/poundagelaw01.ExactBack", spec := "exactBack", apart := false }
def ExactBackSaid : Prop := exactBackRow.holds Try.pinned (OpenSpec.ofChange exactBackSpec)

/-- ITS FALSE NEIGHBOUR: 'it returns false'. Refute it at one input. -/
def exactBackWrong : ChangeSpec := { name := "exactBack", fn := fun _ => fun
  | [d1, d2] => { results := [.lit (.bool false)], args := [d1, d2] }
  | _ => none }
def ExactBackWrongFalsely : Prop := exactBackRow.holds Try.pinned (OpenSpec.ofChange exactBackWrong)

/-- 'poundagelaw01.ExactOrder': WHATEVER THE INPUT: true; the input reads as it did. -/
def exactOrderSpec : ChangeSpec := { name := "exactOrder", fn := fun _ => fun
  | [d1, d2, d3] => { results := [.lit (.bool true)], args := [d1, d2, d3] }
  | _ => none }
def exactOrderRow : OpenClaim := { program := "ythmcidkcindmpaa", sum := "1dcc1e3704e3d273ab6d42670ac2383f54159a5f2b93fc935f4973315d071038", func := "poundage/poundagelaw01.ExactOrder", spec := "exactOrder", apart := false }
def ExactOrderSaid : Prop := exactOrderRow.holds Try.pinned (OpenSpec.ofChange exactOrderSpec)

/-- ITS FALSE NEIGHBOUR: 'it returns false'. Refute it at one input. -/
def exactOrderWrong : ChangeSpec := { name := "exactOrder", fn := fun _ => fun
  | [d1, d2, d3] => { results := [.lit (.bool false)], args := [d1, d2, d3] }
  | _ => none }
def ExactOrderWrongFalsely : Prop := exactOrderRow.holds Try.pinned (OpenSpec.ofChange exactOrderWrong)

/-- 'poundagelaw01.ExactSigns': WHATEVER THE INPUT: true; the input reads as it did. -/
def exactSignsSpec : ChangeSpec := { name := "exactSigns", fn := fun _ => fun
  | [d] => { results := [.lit (.bool true)], args := [d] }
  | _ => none }
def exactSignsRow : OpenClaim := { program := "ythmcidkcindmpaa", sum := "1dcc1e3704e3d273ab6d42670ac2383f54159a5f2b93fc935f4973315d071038", func := "poundage/poundagelaw01.ExactSigns", spec := "exactSigns", apart := false }
def ExactSignsSaid : Prop := exactSignsRow.holds Try.pinned (OpenSpec.ofChange exactSignsSpec)

/-- ITS FALSE NEIGHBOUR: 'it returns false'. Refute it at one input. -/
def exactSignsWrong : ChangeSpec := { name := "exactSigns", fn := fun _ => fun
  | [d] => { results := [.lit (.bool false)], args := [d] }
  | _ => none }
def ExactSignsWrongFalsely : Prop := exactSignsRow.holds Try.pinned (OpenSpec.ofChange exactSignsWrong)

/-- 'poundagelaw01.ExactSums': WHATEVER THE INPUT: true; the input reads as it did. -/
def exactSumsSpec : ChangeSpec := { name := "exactSums", fn := fun _ => fun
  | [d] => { results := [.lit (.bool true)], args := [d] }
  | _ => none }
def exactSumsRow : OpenClaim := { program := "ythmcidkcindmpaa", sum := "1dcc1e3704e3d273ab6d42670ac2383f54159a5f2b93fc935f4973315d071038", func := "poundage/poundagelaw01.ExactSums", spec := "exactSums", unfollowed := true, recurses := true, apart := false }
def ExactSumsSaid : Prop := exactSumsRow.holds Try.pinned (OpenSpec.ofChange exactSumsSpec)

/-- ITS FALSE NEIGHBOUR: 'it returns false'. Refute it at one input. -/
def exactSumsWrong : ChangeSpec := { name := "exactSums", fn := fun _ => fun
  | [d] => { results := [.lit (.bool false)], args := [d] }
  | _ => none }
def ExactSumsWrongFalsely : Prop := exactSumsRow.holds Try.pinned (OpenSpec.ofChange exactSumsWrong)

/- THE SECOND FORM. 'bulk': how many values and letters a reading holds, each counted each time it is reached (what is shared counts as often as it is met; a slice's spare places count too). A statement '..UptoSaid' is the law's where the arguments, and the package variables that the reading takes, are together of bulk at most 1048576: NARROWER than '..Said'. Prove '..Said' where nothing that the law and all that it calls make is longer than what came in: it says more and counts as full. Else prove '..UptoSaid'. A law counts once. -/
mutual
def uptoBulk {H : Type} : DataW H → Nat
  | .lit (.string bytes) => bytes.length + 1
  | .lit _ => 1
  | .nil => 1
  | .ptr d => uptoBulk d + 1
  | .slice elems spare => uptoBulkAll elems + uptoBulkAll spare + 1
  | .agg parts => uptoBulkAll parts + 1
  | .iface _ d => uptoBulk d + 1
  | .map entries => uptoBulkEntries entries + 1
  | .held _ => 1
def uptoBulkAll {H : Type} : List (DataW H) → Nat
  | [] => 0
  | d :: r => uptoBulk d + uptoBulkAll r
def uptoBulkEntries {H : Type} : List (Lit × DataW H) → Nat
  | [] => 0
  | x :: r => uptoBulkEntry x + uptoBulkEntries r
def uptoBulkEntry {H : Type} : Lit × DataW H → Nat
  | (.string bytes, d) => bytes.length + uptoBulk d + 1
  | (_, d) => uptoBulk d + 1
 end
def uptoSmall : (H : Type) → List (DataW H) → Bool := fun _ ds => decide (uptoBulkAll ds ≤ 1048576)
def OpenSpec.upto (s : _root_.Go.ChangeSpec) : _root_.Go.OpenSpec := { _root_.Go.OpenSpec.ofChange s with cond := some uptoSmall }

/-- 'poundagelaw01.ExactIs', WHERE WHAT IT READS IS OF BULK AT MOST 1048576: true; the input reads as it did. -/
def exactIsUptoRow : OpenClaim := { program := "ythmcidkcindmpaa", sum := "1dcc1e3704e3d273ab6d42670ac2383f54159a5f2b93fc935f4973315d071038", func := "poundage/poundagelaw01.ExactIs", spec := "exactIs", apart := false, narrowed := true }
def ExactIsUptoSaid : Prop := exactIsUptoRow.holds Try.pinned (OpenSpec.upto exactIsSpec)

/-- 'poundagelaw01.ExactDivides', WHERE WHAT IT READS IS OF BULK AT MOST 1048576: true; the input reads as it did. -/
def exactDividesUptoRow : OpenClaim := { program := "ythmcidkcindmpaa", sum := "1dcc1e3704e3d273ab6d42670ac2383f54159a5f2b93fc935f4973315d071038", func := "poundage/poundagelaw01.ExactDivides", spec := "exactDivides", apart := false, narrowed := true }
def ExactDividesUptoSaid : Prop := exactDividesUptoRow.holds Try.pinned (OpenSpec.upto exactDividesSpec)

/-- 'poundagelaw01.ExactBack', WHERE WHAT IT READS IS OF BULK AT MOST 1048576: true; the input reads as it did. -/
def exactBackUptoRow : OpenClaim := { program := "ythmcidkcindmpaa", sum := "1dcc1e3704e3d273ab6d42670ac2383f54159a5f2b93fc935f4973315d071038", func := "poundage/poundagelaw01.ExactBack", spec := "exactBack", apart := false, narrowed := true }
def ExactBackUptoSaid : Prop := exactBackUptoRow.holds Try.pinned (OpenSpec.upto exactBackSpec)

/-- 'poundagelaw01.ExactOrder', WHERE WHAT IT READS IS OF BULK AT MOST 1048576: true; the input reads as it did. -/
def exactOrderUptoRow : OpenClaim := { program := "ythmcidkcindmpaa", sum := "1dcc1e3704e3d273ab6d42670ac2383f54159a5f2b93fc935f4973315d071038", func := "poundage/poundagelaw01.ExactOrder", spec := "exactOrder", apart := false, narrowed := true }
def ExactOrderUptoSaid : Prop := exactOrderUptoRow.holds Try.pinned (OpenSpec.upto exactOrderSpec)

/-- 'poundagelaw01.ExactSigns', WHERE WHAT IT READS IS OF BULK AT MOST 1048576: true; the input reads as it did. -/
def exactSignsUptoRow : OpenClaim := { program := "ythmcidkcindmpaa", sum := "1dcc1e3704e3d273ab6d42670ac2383f54159a5f2b93fc935f4973315d071038", func := "poundage/poundagelaw01.ExactSigns", spec := "exactSigns", apart := false, narrowed := true }
def ExactSignsUptoSaid : Prop := exactSignsUptoRow.holds Try.pinned (OpenSpec.upto exactSignsSpec)

/-- 'poundagelaw01.ExactSums', WHERE WHAT IT READS IS OF BULK AT MOST 1048576: true; the input reads as it did. -/
def exactSumsUptoRow : OpenClaim := { program := "ythmcidkcindmpaa", sum := "1dcc1e3704e3d273ab6d42670ac2383f54159a5f2b93fc935f4973315d071038", func := "poundage/poundagelaw01.ExactSums", spec := "exactSums", unfollowed := true, recurses := true, apart := false, narrowed := true }
def ExactSumsUptoSaid : Prop := exactSumsUptoRow.holds Try.pinned (OpenSpec.upto exactSumsSpec)

end Rows
end Go.Proofs.Ythmcidkcindmpaa
