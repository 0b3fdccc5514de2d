/-
  No cell of these rows narrows 'for every input' (looked for: loops, veiled, ifaces, maps, wideKeys, modest, calm, conditions, laid).
  DERIVED. THE GIVEN ROWS OF THIS SEAT. 4 by the template 'for every input the law returns true; each argument reads behind the call as it read before'; 0 by the template 'total and deterministic' (their statements: YtnldlmlnedamlaaTotals.lean).
  GIVEN WITH THE SEED: the statements are not yours to turn. If you find one false, say at which input.
  Laid BY PROGRAM, IN A SANDBOX (cutbox-rows.mjs): the forced cells as the released guide's own fill.sh prints them over the translation 8aa7028c40c0e990… (all of the seat's roots in one cut). By AI agents, Wed Nov 11 2026. No macro, syntax, notation, axiom, sorry.
-/
import Derived.Test.YtnldlmlnedamlaaChecked
import GoSem.Claim
import GoSem.ClaimJoined
import GoSem.ClaimMapViews
import Derived.JoinedTies
import Derived.KernelRfl
namespace Go.Proofs.Ytnldlmlnedamlaa
/- THE CELL 'sum', in the pinned program and in every row, IS THE sha256 OF THE DUMP (.gsa) THAT YtnldlmlnedamlaaProg.lean LOADS. Nothing in Lean hashes anything: it is a label: what it is worth is what the hold of that sum in a sandbox is worth. -/
noncomputable def Try.pinned : Pinned := { name := "ytnldlmlnedamlaa", sum := "8aa7028c40c0e99078546def14cfe2c7ba5f4d2badc9f1674a9141e93f836e45", checked := Try.checked }
namespace Rows
def none {H : Type} : Left H := { results := [], args := [] }

/-- 'poundagelaw19.LookupIs': WHATEVER THE INPUT: true; the input reads as it did. -/
def lookupIsSpec : ChangeSpec := { name := "lookupIs", fn := fun _ => fun
  | [d1, d2, d3] => { results := [.lit (.bool true)], args := [d1, d2, d3] }
  | _ => none }
def lookupIsRow : OpenClaim := { program := "ytnldlmlnedamlaa", sum := "8aa7028c40c0e99078546def14cfe2c7ba5f4d2badc9f1674a9141e93f836e45", func := "poundage/poundagelaw19.LookupIs", spec := "lookupIs", unfollowed := true, recurses := true, apart := false }
def LookupIsSaid : Prop := lookupIsRow.holds Try.pinned (OpenSpec.ofChange lookupIsSpec)

/-- ITS FALSE NEIGHBOUR: 'it returns false'. Refute it at one input. -/
def lookupIsWrong : ChangeSpec := { name := "lookupIs", fn := fun _ => fun
  | [d1, d2, d3] => { results := [.lit (.bool false)], args := [d1, d2, d3] }
  | _ => none }
def LookupIsWrongFalsely : Prop := lookupIsRow.holds Try.pinned (OpenSpec.ofChange lookupIsWrong)

/-- 'poundagelaw19.LookupDays': WHATEVER THE INPUT: true; the input reads as it did. -/
def lookupDaysSpec : ChangeSpec := { name := "lookupDays", fn := fun _ => fun
  | [d1, d2, d3, d4] => { results := [.lit (.bool true)], args := [d1, d2, d3, d4] }
  | _ => none }
def lookupDaysRow : OpenClaim := { program := "ytnldlmlnedamlaa", sum := "8aa7028c40c0e99078546def14cfe2c7ba5f4d2badc9f1674a9141e93f836e45", func := "poundage/poundagelaw19.LookupDays", spec := "lookupDays", unfollowed := true, recurses := true, apart := false }
def LookupDaysSaid : Prop := lookupDaysRow.holds Try.pinned (OpenSpec.ofChange lookupDaysSpec)

/-- ITS FALSE NEIGHBOUR: 'it returns false'. Refute it at one input. -/
def lookupDaysWrong : ChangeSpec := { name := "lookupDays", fn := fun _ => fun
  | [d1, d2, d3, d4] => { results := [.lit (.bool false)], args := [d1, d2, d3, d4] }
  | _ => none }
def LookupDaysWrongFalsely : Prop := lookupDaysRow.holds Try.pinned (OpenSpec.ofChange lookupDaysWrong)

/-- 'poundagelaw19.LookupRise': WHATEVER THE INPUT: true; the input reads as it did. -/
def lookupRiseSpec : ChangeSpec := { name := "lookupRise", fn := fun _ => fun
  | [d1, d2, d3, d4, d5] => { results := [.lit (.bool true)], args := [d1, d2, d3, d4, d5] }
  | _ => none }
def lookupRiseRow : OpenClaim := { program := "ytnldlmlnedamlaa", sum := "8aa7028c40c0e99078546def14cfe2c7ba5f4d2badc9f1674a9141e93f836e45", func := "poundage/poundagelaw19.LookupRise", spec := "lookupRise", unfollowed := true, recurses := true, apart := false }
def LookupRiseSaid : Prop := lookupRiseRow.holds Try.pinned (OpenSpec.ofChange lookupRiseSpec)

/-- ITS FALSE NEIGHBOUR: 'it returns false'. Refute it at one input. -/
def lookupRiseWrong : ChangeSpec := { name := "lookupRise", fn := fun _ => fun
  | [d1, d2, d3, d4, d5] => { results := [.lit (.bool false)], args := [d1, d2, d3, d4, d5] }
  | _ => none }
def LookupRiseWrongFalsely : Prop := lookupRiseRow.holds Try.pinned (OpenSpec.ofChange lookupRiseWrong)

/-- 'poundagelaw19.LookupEnds': WHATEVER THE INPUT: true; the input reads as it did. -/
def lookupEndsSpec : ChangeSpec := { name := "lookupEnds", fn := fun _ => fun
  | [d] => { results := [.lit (.bool true)], args := [d] }
  | _ => none }
def lookupEndsRow : OpenClaim := { program := "ytnldlmlnedamlaa", sum := "8aa7028c40c0e99078546def14cfe2c7ba5f4d2badc9f1674a9141e93f836e45", func := "poundage/poundagelaw19.LookupEnds", spec := "lookupEnds", unfollowed := true, recurses := true, apart := false }
def LookupEndsSaid : Prop := lookupEndsRow.holds Try.pinned (OpenSpec.ofChange lookupEndsSpec)

/-- ITS FALSE NEIGHBOUR: 'it returns false'. Refute it at one input. -/
def lookupEndsWrong : ChangeSpec := { name := "lookupEnds", fn := fun _ => fun
  | [d] => { results := [.lit (.bool false)], args := [d] }
  | _ => none }
def LookupEndsWrongFalsely : Prop := lookupEndsRow.holds Try.pinned (OpenSpec.ofChange lookupEndsWrong)

/- THE SECOND FORM. 'bulk': how many values and letters a reading holds, each counted each time it is reached (what is shared counts as often as it is met; a slice's spare places count too). A statement '..UptoSaid' is the law's where the arguments, and the package variables that the reading takes, are together of bulk at most 1048576: NARROWER than '..Said'. Prove '..Said' where nothing that the law and all that it calls make is longer than what came in: it says more and counts as full. Else prove '..UptoSaid'. A law counts once. -/
mutual
def uptoBulk {H : Type} : DataW H → Nat
  | .lit (.string bytes) => bytes.length + 1
  | .lit _ => 1
  | .nil => 1
  | .ptr d => uptoBulk d + 1
  | .slice elems spare => uptoBulkAll elems + uptoBulkAll spare + 1
  | .agg parts => uptoBulkAll parts + 1
  | .iface _ d => uptoBulk d + 1
  | .map entries => uptoBulkEntries entries + 1
  | .held _ => 1
def uptoBulkAll {H : Type} : List (DataW H) → Nat
  | [] => 0
  | d :: r => uptoBulk d + uptoBulkAll r
def uptoBulkEntries {H : Type} : List (Lit × DataW H) → Nat
  | [] => 0
  | x :: r => uptoBulkEntry x + uptoBulkEntries r
def uptoBulkEntry {H : Type} : Lit × DataW H → Nat
  | (.string bytes, d) => bytes.length + uptoBulk d + 1
  | (_, d) => uptoBulk d + 1
 end
def uptoSmall : (H : Type) → List (DataW H) → Bool := fun _ ds => decide (uptoBulkAll ds ≤ 1048576)
def OpenSpec.upto (s : _root_.Go.ChangeSpec) : _root_.Go.OpenSpec := { _root_.Go.OpenSpec.ofChange s with cond := some uptoSmall }

/-- 'poundagelaw19.LookupIs', WHERE WHAT IT READS IS OF BULK AT MOST 1048576: true; the input reads as it did. -/
def lookupIsUptoRow : OpenClaim := { program := "ytnldlmlnedamlaa", sum := "8aa7028c40c0e99078546def14cfe2c7ba5f4d2badc9f1674a9141e93f836e45", func := "poundage/poundagelaw19.LookupIs", spec := "lookupIs", unfollowed := true, recurses := true, apart := false, narrowed := true }
def LookupIsUptoSaid : Prop := lookupIsUptoRow.holds Try.pinned (OpenSpec.upto lookupIsSpec)

/-- 'poundagelaw19.LookupDays', WHERE WHAT IT READS IS OF BULK AT MOST 1048576: true; the input reads as it did. -/
def lookupDaysUptoRow : OpenClaim := { program := "ytnldlmlnedamlaa", sum := "8aa7028c40c0e99078546def14cfe2c7ba5f4d2badc9f1674a9141e93f836e45", func := "poundage/poundagelaw19.LookupDays", spec := "lookupDays", unfollowed := true, recurses := true, apart := false, narrowed := true }
def LookupDaysUptoSaid : Prop := lookupDaysUptoRow.holds Try.pinned (OpenSpec.upto lookupDaysSpec)

/-- 'poundagelaw19.LookupRise', WHERE WHAT IT READS IS OF BULK AT MOST 1048576: true; the input reads as it did. -/
def lookupRiseUptoRow : OpenClaim := { program := "ytnldlmlnedamlaa", sum := "8aa7028c40c0e99078546def14cfe2c7ba5f4d2badc9f1674a9141e93f836e45", func := "poundage/poundagelaw19.LookupRise", spec := "lookupRise", unfollowed := true, recurses := true, apart := false, narrowed := true }
def LookupRiseUptoSaid : Prop := lookupRiseUptoRow.holds Try.pinned (OpenSpec.upto lookupRiseSpec)

/-- 'poundagelaw19.LookupEnds', WHERE WHAT IT READS IS OF BULK AT MOST 1048576: true; the input reads as it did. -/
def lookupEndsUptoRow : OpenClaim := { program := "ytnldlmlnedamlaa", sum := "8aa7028c40c0e99078546def14cfe2c7ba5f4d2badc9f1674a9141e93f836e45", func := "poundage/poundagelaw19.LookupEnds", spec := "lookupEnds", unfollowed := true, recurses := true, apart := false, narrowed := true }
def LookupEndsUptoSaid : Prop := lookupEndsUptoRow.holds Try.pinned (OpenSpec.upto lookupEndsSpec)

end Rows
end Go.Proofs.Ytnldlmlnedamlaa
