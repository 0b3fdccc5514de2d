/-
  No cell of these rows narrows 'for every input' (looked for: loops, veiled, ifaces, maps, wideKeys, modest, calm, conditions, laid).
  DERIVED. THE GIVEN ROWS OF THIS SEAT. 5 by the template 'for every input the law returns true; each argument reads behind the call as it read before'; 0 by the template 'total and deterministic' (their statements: YtonlgniaoompaaaTotals.lean).
  GIVEN WITH THE SEED: the statements are not yours to turn. If you find one false, say at which input.
  Laid BY PROGRAM, IN A SANDBOX (cutbox-rows.mjs): the forced cells as the released guide's own fill.sh prints them over the translation fe5da510cb2bd2a1… (all of the seat's roots in one cut). By AI agents, Wed Nov 11 2026. No macro, syntax, notation, axiom, sorry.
-/
import Derived.Test.YtonlgniaoompaaaChecked
import GoSem.Claim
import GoSem.ClaimJoined
import GoSem.ClaimMapViews
import Derived.JoinedTies
import Derived.KernelRfl
namespace Go.Proofs.Ytonlgniaoompaaa
/- THE CELL 'sum', in the pinned program and in every row, IS THE sha256 OF THE DUMP (.gsa) THAT YtonlgniaoompaaaProg.lean LOADS. Nothing in Lean hashes anything: it is a label: what it is worth is what the hold of that sum in a sandbox is worth. -/
noncomputable def Try.pinned : Pinned := { name := "ytonlgniaoompaaa", sum := "fe5da510cb2bd2a1b184cff5cb60ae2cf3cc03c6f8a052b9d734622d82a91be3", checked := Try.checked }
namespace Rows
def none {H : Type} : Left H := { results := [], args := [] }

/-- 'poundagelaw15.CurveIs': WHATEVER THE INPUT: true; the input reads as it did. -/
def curveIsSpec : ChangeSpec := { name := "curveIs", fn := fun _ => fun
  | [d1, d2, d3] => { results := [.lit (.bool true)], args := [d1, d2, d3] }
  | _ => none }
def curveIsRow : OpenClaim := { program := "ytonlgniaoompaaa", sum := "fe5da510cb2bd2a1b184cff5cb60ae2cf3cc03c6f8a052b9d734622d82a91be3", func := "poundage/poundagelaw15.CurveIs", spec := "curveIs", unfollowed := true, recurses := true, apart := false }
def CurveIsSaid : Prop := curveIsRow.holds Try.pinned (OpenSpec.ofChange curveIsSpec)

/-- ITS FALSE NEIGHBOUR: 'it returns false'. Refute it at one input. -/
def curveIsWrong : ChangeSpec := { name := "curveIs", fn := fun _ => fun
  | [d1, d2, d3] => { results := [.lit (.bool false)], args := [d1, d2, d3] }
  | _ => none }
def CurveIsWrongFalsely : Prop := curveIsRow.holds Try.pinned (OpenSpec.ofChange curveIsWrong)

/-- 'poundagelaw15.CurveOne': WHATEVER THE INPUT: true; the input reads as it did. -/
def curveOneSpec : ChangeSpec := { name := "curveOne", fn := fun _ => fun
  | [d1, d2] => { results := [.lit (.bool true)], args := [d1, d2] }
  | _ => none }
def curveOneRow : OpenClaim := { program := "ytonlgniaoompaaa", sum := "fe5da510cb2bd2a1b184cff5cb60ae2cf3cc03c6f8a052b9d734622d82a91be3", func := "poundage/poundagelaw15.CurveOne", spec := "curveOne", unfollowed := true, recurses := true, apart := false }
def CurveOneSaid : Prop := curveOneRow.holds Try.pinned (OpenSpec.ofChange curveOneSpec)

/-- ITS FALSE NEIGHBOUR: 'it returns false'. Refute it at one input. -/
def curveOneWrong : ChangeSpec := { name := "curveOne", fn := fun _ => fun
  | [d1, d2] => { results := [.lit (.bool false)], args := [d1, d2] }
  | _ => none }
def CurveOneWrongFalsely : Prop := curveOneRow.holds Try.pinned (OpenSpec.ofChange curveOneWrong)

/-- 'poundagelaw15.CurveGroups': WHATEVER THE INPUT: true; the input reads as it did. -/
def curveGroupsSpec : ChangeSpec := { name := "curveGroups", fn := fun _ => fun
  | [d] => { results := [.lit (.bool true)], args := [d] }
  | _ => none }
def curveGroupsRow : OpenClaim := { program := "ytonlgniaoompaaa", sum := "fe5da510cb2bd2a1b184cff5cb60ae2cf3cc03c6f8a052b9d734622d82a91be3", func := "poundage/poundagelaw15.CurveGroups", spec := "curveGroups", unfollowed := true, recurses := true, apart := false }
def CurveGroupsSaid : Prop := curveGroupsRow.holds Try.pinned (OpenSpec.ofChange curveGroupsSpec)

/-- ITS FALSE NEIGHBOUR: 'it returns false'. Refute it at one input. -/
def curveGroupsWrong : ChangeSpec := { name := "curveGroups", fn := fun _ => fun
  | [d] => { results := [.lit (.bool false)], args := [d] }
  | _ => none }
def CurveGroupsWrongFalsely : Prop := curveGroupsRow.holds Try.pinned (OpenSpec.ofChange curveGroupsWrong)

/-- 'poundagelaw15.CurveSteps': WHATEVER THE INPUT: true; the input reads as it did. -/
def curveStepsSpec : ChangeSpec := { name := "curveSteps", fn := fun _ => fun
  | [d1, d2, d3, d4] => { results := [.lit (.bool true)], args := [d1, d2, d3, d4] }
  | _ => none }
def curveStepsRow : OpenClaim := { program := "ytonlgniaoompaaa", sum := "fe5da510cb2bd2a1b184cff5cb60ae2cf3cc03c6f8a052b9d734622d82a91be3", func := "poundage/poundagelaw15.CurveSteps", spec := "curveSteps", unfollowed := true, recurses := true, apart := false }
def CurveStepsSaid : Prop := curveStepsRow.holds Try.pinned (OpenSpec.ofChange curveStepsSpec)

/-- ITS FALSE NEIGHBOUR: 'it returns false'. Refute it at one input. -/
def curveStepsWrong : ChangeSpec := { name := "curveSteps", fn := fun _ => fun
  | [d1, d2, d3, d4] => { results := [.lit (.bool false)], args := [d1, d2, d3, d4] }
  | _ => none }
def CurveStepsWrongFalsely : Prop := curveStepsRow.holds Try.pinned (OpenSpec.ofChange curveStepsWrong)

/-- 'poundagelaw15.CurveBack': WHATEVER THE INPUT: true; the input reads as it did. -/
def curveBackSpec : ChangeSpec := { name := "curveBack", fn := fun _ => fun
  | [d] => { results := [.lit (.bool true)], args := [d] }
  | _ => none }
def curveBackRow : OpenClaim := { program := "ytonlgniaoompaaa", sum := "fe5da510cb2bd2a1b184cff5cb60ae2cf3cc03c6f8a052b9d734622d82a91be3", func := "poundage/poundagelaw15.CurveBack", spec := "curveBack", unfollowed := true, recurses := true, apart := false }
def CurveBackSaid : Prop := curveBackRow.holds Try.pinned (OpenSpec.ofChange curveBackSpec)

/-- ITS FALSE NEIGHBOUR: 'it returns false'. Refute it at one input. -/
def curveBackWrong : ChangeSpec := { name := "curveBack", fn := fun _ => fun
  | [d] => { results := [.lit (.bool false)], args := [d] }
  | _ => none }
def CurveBackWrongFalsely : Prop := curveBackRow.holds Try.pinned (OpenSpec.ofChange curveBackWrong)

/- THE SECOND FORM. 'bulk': how many values and letters a reading holds, each counted each time it is reached (what is shared counts as often as it is met; a slice's spare places count too). A statement '..UptoSaid' is the law's where the arguments, and the package variables that the reading takes, are together of bulk at most 1048576: NARROWER than '..Said'. Prove '..Said' where nothing that the law and all that it calls make is longer than what came in: it says more and counts as full. Else prove '..UptoSaid'. A law counts once. -/
mutual
def uptoBulk {H : Type} : DataW H → Nat
  | .lit (.string bytes) => bytes.length + 1
  | .lit _ => 1
  | .nil => 1
  | .ptr d => uptoBulk d + 1
  | .slice elems spare => uptoBulkAll elems + uptoBulkAll spare + 1
  | .agg parts => uptoBulkAll parts + 1
  | .iface _ d => uptoBulk d + 1
  | .map entries => uptoBulkEntries entries + 1
  | .held _ => 1
def uptoBulkAll {H : Type} : List (DataW H) → Nat
  | [] => 0
  | d :: r => uptoBulk d + uptoBulkAll r
def uptoBulkEntries {H : Type} : List (Lit × DataW H) → Nat
  | [] => 0
  | x :: r => uptoBulkEntry x + uptoBulkEntries r
def uptoBulkEntry {H : Type} : Lit × DataW H → Nat
  | (.string bytes, d) => bytes.length + uptoBulk d + 1
  | (_, d) => uptoBulk d + 1
 end
def uptoSmall : (H : Type) → List (DataW H) → Bool := fun _ ds => decide (uptoBulkAll ds ≤ 1048576)
def OpenSpec.upto (s : _root_.Go.ChangeSpec) : _root_.Go.OpenSpec := { _root_.Go.OpenSpec.ofChange s with cond := some uptoSmall }

/-- 'poundagelaw15.CurveIs', WHERE WHAT IT READS IS OF BULK AT MOST 1048576: true; the input reads as it did. -/
def curveIsUptoRow : OpenClaim := { program := "ytonlgniaoompaaa", sum := "fe5da510cb2bd2a1b184cff5cb60ae2cf3cc03c6f8a052b9d734622d82a91be3", func := "poundage/poundagelaw15.CurveIs", spec := "curveIs", unfollowed := true, recurses := true, apart := false, narrowed := true }
def CurveIsUptoSaid : Prop := curveIsUptoRow.holds Try.pinned (OpenSpec.upto curveIsSpec)

/-- 'poundagelaw15.CurveOne', WHERE WHAT IT READS IS OF BULK AT MOST 1048576: true; the input reads as it did. -/
def curveOneUptoRow : OpenClaim := { program := "ytonlgniaoompaaa", sum := "fe5da510cb2bd2a1b184cff5cb60ae2cf3cc03c6f8a052b9d734622d82a91be3", func := "poundage/poundagelaw15.CurveOne", spec := "curveOne", unfollowed := true, recurses := true, apart := false, narrowed := true }
def CurveOneUptoSaid : Prop := curveOneUptoRow.holds Try.pinned (OpenSpec.upto curveOneSpec)

/-- 'poundagelaw15.CurveGroups', WHERE WHAT IT READS IS OF BULK AT MOST 1048576: true; the input reads as it did. -/
def curveGroupsUptoRow : OpenClaim := { program := "ytonlgniaoompaaa", sum := "fe5da510cb2bd2a1b184cff5cb60ae2cf3cc03c6f8a052b9d734622d82a91be3", func := "poundage/poundagelaw15.CurveGroups", spec := "curveGroups", unfollowed := true, recurses := true, apart := false, narrowed := true }
def CurveGroupsUptoSaid : Prop := curveGroupsUptoRow.holds Try.pinned (OpenSpec.upto curveGroupsSpec)

/-- 'poundagelaw15.CurveSteps', WHERE WHAT IT READS IS OF BULK AT MOST 1048576: true; the input reads as it did. -/
def curveStepsUptoRow : OpenClaim := { program := "ytonlgniaoompaaa", sum := "fe5da510cb2bd2a1b184cff5cb60ae2cf3cc03c6f8a052b9d734622d82a91be3", func := "poundage/poundagelaw15.CurveSteps", spec := "curveSteps", unfollowed := true, recurses := true, apart := false, narrowed := true }
def CurveStepsUptoSaid : Prop := curveStepsUptoRow.holds Try.pinned (OpenSpec.upto curveStepsSpec)

/-- 'poundagelaw15.CurveBack', WHERE WHAT IT READS IS OF BULK AT MOST 1048576: true; the input reads as it did. -/
def curveBackUptoRow : OpenClaim := { program := "ytonlgniaoompaaa", sum := "fe5da510cb2bd2a1b184cff5cb60ae2cf3cc03c6f8a052b9d734622d82a91be3", func := "poundage/poundagelaw15.CurveBack", spec := "curveBack", unfollowed := true, recurses := true, apart := false, narrowed := true }
def CurveBackUptoSaid : Prop := curveBackUptoRow.holds Try.pinned (OpenSpec.upto curveBackSpec)

end Rows
end Go.Proofs.Ytonlgniaoompaaa
