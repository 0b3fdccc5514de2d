/-
  No cell of these rows narrows 'for every input' (looked for: loops, veiled, ifaces, maps, wideKeys, modest, calm, conditions, laid).
  DERIVED. THE GIVEN ROWS OF THIS SEAT. 5 by the template 'for every input the law returns true; each argument reads behind the call as it read before'; 0 by the template 'total and deterministic' (their statements: YtmkennmppdmnhaaTotals.lean).
  GIVEN WITH THE SEED: the statements are not yours to turn. If you find one false, say at which input.
  Laid BY PROGRAM, IN A SANDBOX (cutbox-rows.mjs): the forced cells as the released guide's own fill.sh prints them over the translation 0c43e133183f2d9d… (all of the seat's roots in one cut). By AI agents, Wed Nov 11 2026. No macro, syntax, notation, axiom, sorry.
-/
import Derived.Test.YtmkennmppdmnhaaChecked
import GoSem.Claim
import GoSem.ClaimJoined
import GoSem.ClaimMapViews
import Derived.JoinedTies
import Derived.KernelRfl
namespace Go.Proofs.Ytmkennmppdmnhaa
/- THE CELL 'sum', in the pinned program and in every row, IS THE sha256 OF THE DUMP (.gsa) THAT YtmkennmppdmnhaaProg.lean LOADS. Nothing in Lean hashes anything: it is a label: what it is worth is what the hold of that sum in a sandbox is worth. -/
noncomputable def Try.pinned : Pinned := { name := "ytmkennmppdmnhaa", sum := "0c43e133183f2d9d72a8201168dd2d95f5fd1d0c2624ae5ddddb342cee8038a3", checked := Try.checked }
namespace Rows
def none {H : Type} : Left H := { results := [], args := [] }

/-- 'poundagelaw17.DaysIs': WHATEVER THE INPUT: true; the input reads as it did. -/
def daysIsSpec : ChangeSpec := { name := "daysIs", fn := fun _ => fun
  | [d1, d2] => { results := [.lit (.bool true)], args := [d1, d2] }
  | _ => none }
def daysIsRow : OpenClaim := { program := "ytmkennmppdmnhaa", sum := "0c43e133183f2d9d72a8201168dd2d95f5fd1d0c2624ae5ddddb342cee8038a3", func := "poundage/poundagelaw17.DaysIs", spec := "daysIs", unfollowed := true, recurses := true, apart := false }
def DaysIsSaid : Prop := daysIsRow.holds Try.pinned (OpenSpec.ofChange daysIsSpec)

/-- ITS FALSE NEIGHBOUR: 'it returns false'. Refute it at one input. -/
def daysIsWrong : ChangeSpec := { name := "daysIs", fn := fun _ => fun
  | [d1, d2] => { results := [.lit (.bool false)], args := [d1, d2] }
  | _ => none }
def DaysIsWrongFalsely : Prop := daysIsRow.holds Try.pinned (OpenSpec.ofChange daysIsWrong)

/-- 'poundagelaw17.DaysMore': WHATEVER THE INPUT: true; the input reads as it did. -/
def daysMoreSpec : ChangeSpec := { name := "daysMore", fn := fun _ => fun
  | [d1, d2, d3, d4] => { results := [.lit (.bool true)], args := [d1, d2, d3, d4] }
  | _ => none }
def daysMoreRow : OpenClaim := { program := "ytmkennmppdmnhaa", sum := "0c43e133183f2d9d72a8201168dd2d95f5fd1d0c2624ae5ddddb342cee8038a3", func := "poundage/poundagelaw17.DaysMore", spec := "daysMore", unfollowed := true, recurses := true, apart := false }
def DaysMoreSaid : Prop := daysMoreRow.holds Try.pinned (OpenSpec.ofChange daysMoreSpec)

/-- ITS FALSE NEIGHBOUR: 'it returns false'. Refute it at one input. -/
def daysMoreWrong : ChangeSpec := { name := "daysMore", fn := fun _ => fun
  | [d1, d2, d3, d4] => { results := [.lit (.bool false)], args := [d1, d2, d3, d4] }
  | _ => none }
def DaysMoreWrongFalsely : Prop := daysMoreRow.holds Try.pinned (OpenSpec.ofChange daysMoreWrong)

/-- 'poundagelaw17.DaysSets': WHATEVER THE INPUT: true; the input reads as it did. -/
def daysSetsSpec : ChangeSpec := { name := "daysSets", fn := fun _ => fun
  | [d1, d2, d3] => { results := [.lit (.bool true)], args := [d1, d2, d3] }
  | _ => none }
def daysSetsRow : OpenClaim := { program := "ytmkennmppdmnhaa", sum := "0c43e133183f2d9d72a8201168dd2d95f5fd1d0c2624ae5ddddb342cee8038a3", func := "poundage/poundagelaw17.DaysSets", spec := "daysSets", unfollowed := true, recurses := true, apart := false }
def DaysSetsSaid : Prop := daysSetsRow.holds Try.pinned (OpenSpec.ofChange daysSetsSpec)

/-- ITS FALSE NEIGHBOUR: 'it returns false'. Refute it at one input. -/
def daysSetsWrong : ChangeSpec := { name := "daysSets", fn := fun _ => fun
  | [d1, d2, d3] => { results := [.lit (.bool false)], args := [d1, d2, d3] }
  | _ => none }
def DaysSetsWrongFalsely : Prop := daysSetsRow.holds Try.pinned (OpenSpec.ofChange daysSetsWrong)

/-- 'poundagelaw17.DaysRuns': WHATEVER THE INPUT: true; the input reads as it did. -/
def daysRunsSpec : ChangeSpec := { name := "daysRuns", fn := fun _ => fun
  | [d] => { results := [.lit (.bool true)], args := [d] }
  | _ => none }
def daysRunsRow : OpenClaim := { program := "ytmkennmppdmnhaa", sum := "0c43e133183f2d9d72a8201168dd2d95f5fd1d0c2624ae5ddddb342cee8038a3", func := "poundage/poundagelaw17.DaysRuns", spec := "daysRuns", unfollowed := true, recurses := true, apart := false }
def DaysRunsSaid : Prop := daysRunsRow.holds Try.pinned (OpenSpec.ofChange daysRunsSpec)

/-- ITS FALSE NEIGHBOUR: 'it returns false'. Refute it at one input. -/
def daysRunsWrong : ChangeSpec := { name := "daysRuns", fn := fun _ => fun
  | [d] => { results := [.lit (.bool false)], args := [d] }
  | _ => none }
def DaysRunsWrongFalsely : Prop := daysRunsRow.holds Try.pinned (OpenSpec.ofChange daysRunsWrong)

/-- 'poundagelaw17.DaysAll': WHATEVER THE INPUT: true; the input reads as it did. -/
def daysAllSpec : ChangeSpec := { name := "daysAll", fn := fun _ => fun
  | [d] => { results := [.lit (.bool true)], args := [d] }
  | _ => none }
def daysAllRow : OpenClaim := { program := "ytmkennmppdmnhaa", sum := "0c43e133183f2d9d72a8201168dd2d95f5fd1d0c2624ae5ddddb342cee8038a3", func := "poundage/poundagelaw17.DaysAll", spec := "daysAll", unfollowed := true, recurses := true, apart := false }
def DaysAllSaid : Prop := daysAllRow.holds Try.pinned (OpenSpec.ofChange daysAllSpec)

/-- ITS FALSE NEIGHBOUR: 'it returns false'. Refute it at one input. -/
def daysAllWrong : ChangeSpec := { name := "daysAll", fn := fun _ => fun
  | [d] => { results := [.lit (.bool false)], args := [d] }
  | _ => none }
def DaysAllWrongFalsely : Prop := daysAllRow.holds Try.pinned (OpenSpec.ofChange daysAllWrong)

/- THE SECOND FORM. 'bulk': how many values and letters a reading holds, each counted each time it is reached (what is shared counts as often as it is met; a slice's spare places count too). A statement '..UptoSaid' is the law's where the arguments, and the package variables that the reading takes, are together of bulk at most 1048576: NARROWER than '..Said'. Prove '..Said' where nothing that the law and all that it calls make is longer than what came in: it says more and counts as full. Else prove '..UptoSaid'. A law counts once. -/
mutual
def uptoBulk {H : Type} : DataW H → Nat
  | .lit (.string bytes) => bytes.length + 1
  | .lit _ => 1
  | .nil => 1
  | .ptr d => uptoBulk d + 1
  | .slice elems spare => uptoBulkAll elems + uptoBulkAll spare + 1
  | .agg parts => uptoBulkAll parts + 1
  | .iface _ d => uptoBulk d + 1
  | .map entries => uptoBulkEntries entries + 1
  | .held _ => 1
def uptoBulkAll {H : Type} : List (DataW H) → Nat
  | [] => 0
  | d :: r => uptoBulk d + uptoBulkAll r
def uptoBulkEntries {H : Type} : List (Lit × DataW H) → Nat
  | [] => 0
  | x :: r => uptoBulkEntry x + uptoBulkEntries r
def uptoBulkEntry {H : Type} : Lit × DataW H → Nat
  | (.string bytes, d) => bytes.length + uptoBulk d + 1
  | (_, d) => uptoBulk d + 1
 end
def uptoSmall : (H : Type) → List (DataW H) → Bool := fun _ ds => decide (uptoBulkAll ds ≤ 1048576)
def OpenSpec.upto (s : _root_.Go.ChangeSpec) : _root_.Go.OpenSpec := { _root_.Go.OpenSpec.ofChange s with cond := some uptoSmall }

/-- 'poundagelaw17.DaysIs', WHERE WHAT IT READS IS OF BULK AT MOST 1048576: true; the input reads as it did. -/
def daysIsUptoRow : OpenClaim := { program := "ytmkennmppdmnhaa", sum := "0c43e133183f2d9d72a8201168dd2d95f5fd1d0c2624ae5ddddb342cee8038a3", func := "poundage/poundagelaw17.DaysIs", spec := "daysIs", unfollowed := true, recurses := true, apart := false, narrowed := true }
def DaysIsUptoSaid : Prop := daysIsUptoRow.holds Try.pinned (OpenSpec.upto daysIsSpec)

/-- 'poundagelaw17.DaysMore', WHERE WHAT IT READS IS OF BULK AT MOST 1048576: true; the input reads as it did. -/
def daysMoreUptoRow : OpenClaim := { program := "ytmkennmppdmnhaa", sum := "0c43e133183f2d9d72a8201168dd2d95f5fd1d0c2624ae5ddddb342cee8038a3", func := "poundage/poundagelaw17.DaysMore", spec := "daysMore", unfollowed := true, recurses := true, apart := false, narrowed := true }
def DaysMoreUptoSaid : Prop := daysMoreUptoRow.holds Try.pinned (OpenSpec.upto daysMoreSpec)

/-- 'poundagelaw17.DaysSets', WHERE WHAT IT READS IS OF BULK AT MOST 1048576: true; the input reads as it did. -/
def daysSetsUptoRow : OpenClaim := { program := "ytmkennmppdmnhaa", sum := "0c43e133183f2d9d72a8201168dd2d95f5fd1d0c2624ae5ddddb342cee8038a3", func := "poundage/poundagelaw17.DaysSets", spec := "daysSets", unfollowed := true, recurses := true, apart := false, narrowed := true }
def DaysSetsUptoSaid : Prop := daysSetsUptoRow.holds Try.pinned (OpenSpec.upto daysSetsSpec)

/-- 'poundagelaw17.DaysRuns', WHERE WHAT IT READS IS OF BULK AT MOST 1048576: true; the input reads as it did. -/
def daysRunsUptoRow : OpenClaim := { program := "ytmkennmppdmnhaa", sum := "0c43e133183f2d9d72a8201168dd2d95f5fd1d0c2624ae5ddddb342cee8038a3", func := "poundage/poundagelaw17.DaysRuns", spec := "daysRuns", unfollowed := true, recurses := true, apart := false, narrowed := true }
def DaysRunsUptoSaid : Prop := daysRunsUptoRow.holds Try.pinned (OpenSpec.upto daysRunsSpec)

/-- 'poundagelaw17.DaysAll', WHERE WHAT IT READS IS OF BULK AT MOST 1048576: true; the input reads as it did. -/
def daysAllUptoRow : OpenClaim := { program := "ytmkennmppdmnhaa", sum := "0c43e133183f2d9d72a8201168dd2d95f5fd1d0c2624ae5ddddb342cee8038a3", func := "poundage/poundagelaw17.DaysAll", spec := "daysAll", unfollowed := true, recurses := true, apart := false, narrowed := true }
def DaysAllUptoSaid : Prop := daysAllUptoRow.holds Try.pinned (OpenSpec.upto daysAllSpec)

end Rows
end Go.Proofs.Ytmkennmppdmnhaa
