/-
  No cell of these rows narrows 'for every input' (looked for: loops, veiled, ifaces, maps, wideKeys, modest, calm, conditions, laid).
  DERIVED. THE GIVEN ROWS OF THIS SEAT. 4 by the template 'for every input the law returns true; each argument reads behind the call as it read before'; 0 by the template 'total and deterministic' (their statements: YtmhmmomnfbfkiaaTotals.lean).
  GIVEN WITH THE SEED: the statements are not yours to turn. If you find one false, say at which input.
  Laid BY PROGRAM, IN A SANDBOX (cutbox-rows.mjs): the forced cells as the released guide's own fill.sh prints them over the translation 02491a973a11d24f… (all of the seat's roots in one cut). By AI agents, Wed Nov 11 2026. No macro, syntax, notation, axiom, sorry.
-/
import Derived.Test.YtmhmmomnfbfkiaaChecked
import GoSem.Claim
import GoSem.ClaimJoined
import GoSem.ClaimMapViews
import Derived.JoinedTies
import Derived.KernelRfl
namespace Go.Proofs.Ytmhmmomnfbfkiaa
/- THE CELL 'sum', in the pinned program and in every row, IS THE sha256 OF THE DUMP (.gsa) THAT YtmhmmomnfbfkiaaProg.lean LOADS. Nothing in Lean hashes anything: it is a label: what it is worth is what the hold of that sum in a sandbox is worth. -/
noncomputable def Try.pinned : Pinned := { name := "ytmhmmomnfbfkiaa", sum := "02491a973a11d24ff9dcac79a61d0c2e8b9f77d502d3b77e268f149432a078f4", checked := Try.checked }
namespace Rows
def none {H : Type} : Left H := { results := [], args := [] }

/-- 'poundagelaw22.PairIs': WHATEVER THE INPUT: true; the input reads as it did. -/
def pairIsSpec : ChangeSpec := { name := "pairIs", fn := fun _ => fun
  | [d1, d2] => { results := [.lit (.bool true)], args := [d1, d2] }
  | _ => none }
def pairIsRow : OpenClaim := { program := "ytmhmmomnfbfkiaa", sum := "02491a973a11d24ff9dcac79a61d0c2e8b9f77d502d3b77e268f149432a078f4", func := "poundage/poundagelaw22.PairIs", spec := "pairIs", unfollowed := true, recurses := true, apart := false }
def PairIsSaid : Prop := pairIsRow.holds Try.pinned (OpenSpec.ofChange pairIsSpec)

/-- ITS FALSE NEIGHBOUR: 'it returns false'. Refute it at one input. -/
def pairIsWrong : ChangeSpec := { name := "pairIs", fn := fun _ => fun
  | [d1, d2] => { results := [.lit (.bool false)], args := [d1, d2] }
  | _ => none }
def PairIsWrongFalsely : Prop := pairIsRow.holds Try.pinned (OpenSpec.ofChange pairIsWrong)

/-- 'poundagelaw22.PairMeters': WHATEVER THE INPUT: true; the input reads as it did. -/
def pairMetersSpec : ChangeSpec := { name := "pairMeters", fn := fun _ => fun
  | [d1, d2] => { results := [.lit (.bool true)], args := [d1, d2] }
  | _ => none }
def pairMetersRow : OpenClaim := { program := "ytmhmmomnfbfkiaa", sum := "02491a973a11d24ff9dcac79a61d0c2e8b9f77d502d3b77e268f149432a078f4", func := "poundage/poundagelaw22.PairMeters", spec := "pairMeters", unfollowed := true, recurses := true, apart := false }
def PairMetersSaid : Prop := pairMetersRow.holds Try.pinned (OpenSpec.ofChange pairMetersSpec)

/-- ITS FALSE NEIGHBOUR: 'it returns false'. Refute it at one input. -/
def pairMetersWrong : ChangeSpec := { name := "pairMeters", fn := fun _ => fun
  | [d1, d2] => { results := [.lit (.bool false)], args := [d1, d2] }
  | _ => none }
def PairMetersWrongFalsely : Prop := pairMetersRow.holds Try.pinned (OpenSpec.ofChange pairMetersWrong)

/-- 'poundagelaw22.PairGaps': WHATEVER THE INPUT: true; the input reads as it did. -/
def pairGapsSpec : ChangeSpec := { name := "pairGaps", fn := fun _ => fun
  | [d1, d2, d3, d4] => { results := [.lit (.bool true)], args := [d1, d2, d3, d4] }
  | _ => none }
def pairGapsRow : OpenClaim := { program := "ytmhmmomnfbfkiaa", sum := "02491a973a11d24ff9dcac79a61d0c2e8b9f77d502d3b77e268f149432a078f4", func := "poundage/poundagelaw22.PairGaps", spec := "pairGaps", unfollowed := true, recurses := true, apart := false }
def PairGapsSaid : Prop := pairGapsRow.holds Try.pinned (OpenSpec.ofChange pairGapsSpec)

/-- ITS FALSE NEIGHBOUR: 'it returns false'. Refute it at one input. -/
def pairGapsWrong : ChangeSpec := { name := "pairGaps", fn := fun _ => fun
  | [d1, d2, d3, d4] => { results := [.lit (.bool false)], args := [d1, d2, d3, d4] }
  | _ => none }
def PairGapsWrongFalsely : Prop := pairGapsRow.holds Try.pinned (OpenSpec.ofChange pairGapsWrong)

/-- 'poundagelaw22.PairTurned': WHATEVER THE INPUT: true; the input reads as it did. -/
def pairTurnedSpec : ChangeSpec := { name := "pairTurned", fn := fun _ => fun
  | [d1, d2] => { results := [.lit (.bool true)], args := [d1, d2] }
  | _ => none }
def pairTurnedRow : OpenClaim := { program := "ytmhmmomnfbfkiaa", sum := "02491a973a11d24ff9dcac79a61d0c2e8b9f77d502d3b77e268f149432a078f4", func := "poundage/poundagelaw22.PairTurned", spec := "pairTurned", unfollowed := true, recurses := true, apart := false }
def PairTurnedSaid : Prop := pairTurnedRow.holds Try.pinned (OpenSpec.ofChange pairTurnedSpec)

/-- ITS FALSE NEIGHBOUR: 'it returns false'. Refute it at one input. -/
def pairTurnedWrong : ChangeSpec := { name := "pairTurned", fn := fun _ => fun
  | [d1, d2] => { results := [.lit (.bool false)], args := [d1, d2] }
  | _ => none }
def PairTurnedWrongFalsely : Prop := pairTurnedRow.holds Try.pinned (OpenSpec.ofChange pairTurnedWrong)

/- THE SECOND FORM. 'bulk': how many values and letters a reading holds, each counted each time it is reached (what is shared counts as often as it is met; a slice's spare places count too). A statement '..UptoSaid' is the law's where the arguments, and the package variables that the reading takes, are together of bulk at most 1048576: NARROWER than '..Said'. Prove '..Said' where nothing that the law and all that it calls make is longer than what came in: it says more and counts as full. Else prove '..UptoSaid'. A law counts once. -/
mutual
def uptoBulk {H : Type} : DataW H → Nat
  | .lit (.string bytes) => bytes.length + 1
  | .lit _ => 1
  | .nil => 1
  | .ptr d => uptoBulk d + 1
  | .slice elems spare => uptoBulkAll elems + uptoBulkAll spare + 1
  | .agg parts => uptoBulkAll parts + 1
  | .iface _ d => uptoBulk d + 1
  | .map entries => uptoBulkEntries entries + 1
  | .held _ => 1
def uptoBulkAll {H : Type} : List (DataW H) → Nat
  | [] => 0
  | d :: r => uptoBulk d + uptoBulkAll r
def uptoBulkEntries {H : Type} : List (Lit × DataW H) → Nat
  | [] => 0
  | x :: r => uptoBulkEntry x + uptoBulkEntries r
def uptoBulkEntry {H : Type} : Lit × DataW H → Nat
  | (.string bytes, d) => bytes.length + uptoBulk d + 1
  | (_, d) => uptoBulk d + 1
 end
def uptoSmall : (H : Type) → List (DataW H) → Bool := fun _ ds => decide (uptoBulkAll ds ≤ 1048576)
def OpenSpec.upto (s : _root_.Go.ChangeSpec) : _root_.Go.OpenSpec := { _root_.Go.OpenSpec.ofChange s with cond := some uptoSmall }

/-- 'poundagelaw22.PairIs', WHERE WHAT IT READS IS OF BULK AT MOST 1048576: true; the input reads as it did. -/
def pairIsUptoRow : OpenClaim := { program := "ytmhmmomnfbfkiaa", sum := "02491a973a11d24ff9dcac79a61d0c2e8b9f77d502d3b77e268f149432a078f4", func := "poundage/poundagelaw22.PairIs", spec := "pairIs", unfollowed := true, recurses := true, apart := false, narrowed := true }
def PairIsUptoSaid : Prop := pairIsUptoRow.holds Try.pinned (OpenSpec.upto pairIsSpec)

/-- 'poundagelaw22.PairMeters', WHERE WHAT IT READS IS OF BULK AT MOST 1048576: true; the input reads as it did. -/
def pairMetersUptoRow : OpenClaim := { program := "ytmhmmomnfbfkiaa", sum := "02491a973a11d24ff9dcac79a61d0c2e8b9f77d502d3b77e268f149432a078f4", func := "poundage/poundagelaw22.PairMeters", spec := "pairMeters", unfollowed := true, recurses := true, apart := false, narrowed := true }
def PairMetersUptoSaid : Prop := pairMetersUptoRow.holds Try.pinned (OpenSpec.upto pairMetersSpec)

/-- 'poundagelaw22.PairGaps', WHERE WHAT IT READS IS OF BULK AT MOST 1048576: true; the input reads as it did. -/
def pairGapsUptoRow : OpenClaim := { program := "ytmhmmomnfbfkiaa", sum := "02491a973a11d24ff9dcac79a61d0c2e8b9f77d502d3b77e268f149432a078f4", func := "poundage/poundagelaw22.PairGaps", spec := "pairGaps", unfollowed := true, recurses := true, apart := false, narrowed := true }
def PairGapsUptoSaid : Prop := pairGapsUptoRow.holds Try.pinned (OpenSpec.upto pairGapsSpec)

/-- 'poundagelaw22.PairTurned', WHERE WHAT IT READS IS OF BULK AT MOST 1048576: true; the input reads as it did. -/
def pairTurnedUptoRow : OpenClaim := { program := "ytmhmmomnfbfkiaa", sum := "02491a973a11d24ff9dcac79a61d0c2e8b9f77d502d3b77e268f149432a078f4", func := "poundage/poundagelaw22.PairTurned", spec := "pairTurned", unfollowed := true, recurses := true, apart := false, narrowed := true }
def PairTurnedUptoSaid : Prop := pairTurnedUptoRow.holds Try.pinned (OpenSpec.upto pairTurnedSpec)

end Rows
end Go.Proofs.Ytmhmmomnfbfkiaa
