/-
  No cell of these rows narrows 'for every input' (looked for: loops, veiled, ifaces, maps, wideKeys, modest, calm, conditions, laid).
  DERIVED. THE GIVEN ROWS OF THIS SEAT. 5 by the template 'for every input the law returns true; each argument reads behind the call as it read before'; 0 by the template 'total and deterministic' (their statements: YtlnpeokjbnplnaaTotals.lean).
  GIVEN WITH THE SEED: the statements are not yours to turn. If you find one false, say at which input.
  Laid BY PROGRAM, IN A SANDBOX (cutbox-rows.mjs): the forced cells as the released guide's own fill.sh prints them over the translation c78a3592b321ecb5… (all of the seat's roots in one cut). By AI agents, Wed Nov 11 2026. No macro, syntax, notation, axiom, sorry.
-/
import Derived.Test.YtlnpeokjbnplnaaChecked
import GoSem.Claim
import GoSem.ClaimJoined
import GoSem.ClaimMapViews
import Derived.JoinedTies
import Derived.KernelRfl
namespace Go.Proofs.Ytlnpeokjbnplnaa
/- THE CELL 'sum', in the pinned program and in every row, IS THE sha256 OF THE DUMP (.gsa) THAT YtlnpeokjbnplnaaProg.lean LOADS. Nothing in Lean hashes anything: it is a label: what it is worth is what the hold of that sum in a sandbox is worth. -/
noncomputable def Try.pinned : Pinned := { name := "ytlnpeokjbnplnaa", sum := "c78a3592b321ecb5b44212e15055079219f9ba6c43c5da393a14049b392a5ab2", checked := Try.checked }
namespace Rows
def none {H : Type} : Left H := { results := [], args := [] }

/-- 'poundagelaw11.TiersSteps': WHATEVER THE INPUT: true; the input reads as it did. -/
def tiersStepsSpec : ChangeSpec := { name := "tiersSteps", fn := fun _ => fun
  | [d1, d2, d3] => { results := [.lit (.bool true)], args := [d1, d2, d3] }
  | _ => none }
def tiersStepsRow : OpenClaim := { program := "ytlnpeokjbnplnaa", sum := "c78a3592b321ecb5b44212e15055079219f9ba6c43c5da393a14049b392a5ab2", func := "poundage/poundagelaw11.TiersSteps", spec := "tiersSteps", unfollowed := true, recurses := true, named := ["math/bits.divideError", "math/bits.overflowError"], apart := false }
def TiersStepsSaid : Prop := tiersStepsRow.holds Try.pinned (OpenSpec.ofChange tiersStepsSpec)

/-- ITS FALSE NEIGHBOUR: 'it returns false'. Refute it at one input. -/
def tiersStepsWrong : ChangeSpec := { name := "tiersSteps", fn := fun _ => fun
  | [d1, d2, d3] => { results := [.lit (.bool false)], args := [d1, d2, d3] }
  | _ => none }
def TiersStepsWrongFalsely : Prop := tiersStepsRow.holds Try.pinned (OpenSpec.ofChange tiersStepsWrong)

/-- 'poundagelaw11.TiersRise': WHATEVER THE INPUT: true; the input reads as it did. -/
def tiersRiseSpec : ChangeSpec := { name := "tiersRise", fn := fun _ => fun
  | [d1, d2, d3] => { results := [.lit (.bool true)], args := [d1, d2, d3] }
  | _ => none }
def tiersRiseRow : OpenClaim := { program := "ytlnpeokjbnplnaa", sum := "c78a3592b321ecb5b44212e15055079219f9ba6c43c5da393a14049b392a5ab2", func := "poundage/poundagelaw11.TiersRise", spec := "tiersRise", unfollowed := true, recurses := true, named := ["math/bits.divideError", "math/bits.overflowError"], apart := false }
def TiersRiseSaid : Prop := tiersRiseRow.holds Try.pinned (OpenSpec.ofChange tiersRiseSpec)

/-- ITS FALSE NEIGHBOUR: 'it returns false'. Refute it at one input. -/
def tiersRiseWrong : ChangeSpec := { name := "tiersRise", fn := fun _ => fun
  | [d1, d2, d3] => { results := [.lit (.bool false)], args := [d1, d2, d3] }
  | _ => none }
def TiersRiseWrongFalsely : Prop := tiersRiseRow.holds Try.pinned (OpenSpec.ofChange tiersRiseWrong)

/-- 'poundagelaw11.TiersBlocks': WHATEVER THE INPUT: true; the input reads as it did. -/
def tiersBlocksSpec : ChangeSpec := { name := "tiersBlocks", fn := fun _ => fun
  | [d1, d2, d3, d4] => { results := [.lit (.bool true)], args := [d1, d2, d3, d4] }
  | _ => none }
def tiersBlocksRow : OpenClaim := { program := "ytlnpeokjbnplnaa", sum := "c78a3592b321ecb5b44212e15055079219f9ba6c43c5da393a14049b392a5ab2", func := "poundage/poundagelaw11.TiersBlocks", spec := "tiersBlocks", unfollowed := true, recurses := true, named := ["math/bits.divideError", "math/bits.overflowError"], apart := false }
def TiersBlocksSaid : Prop := tiersBlocksRow.holds Try.pinned (OpenSpec.ofChange tiersBlocksSpec)

/-- ITS FALSE NEIGHBOUR: 'it returns false'. Refute it at one input. -/
def tiersBlocksWrong : ChangeSpec := { name := "tiersBlocks", fn := fun _ => fun
  | [d1, d2, d3, d4] => { results := [.lit (.bool false)], args := [d1, d2, d3, d4] }
  | _ => none }
def TiersBlocksWrongFalsely : Prop := tiersBlocksRow.holds Try.pinned (OpenSpec.ofChange tiersBlocksWrong)

/-- 'poundagelaw11.TiersOne': WHATEVER THE INPUT: true; the input reads as it did. -/
def tiersOneSpec : ChangeSpec := { name := "tiersOne", fn := fun _ => fun
  | [d1, d2, d3] => { results := [.lit (.bool true)], args := [d1, d2, d3] }
  | _ => none }
def tiersOneRow : OpenClaim := { program := "ytlnpeokjbnplnaa", sum := "c78a3592b321ecb5b44212e15055079219f9ba6c43c5da393a14049b392a5ab2", func := "poundage/poundagelaw11.TiersOne", spec := "tiersOne", unfollowed := true, recurses := true, named := ["math/bits.divideError", "math/bits.overflowError"], apart := false }
def TiersOneSaid : Prop := tiersOneRow.holds Try.pinned (OpenSpec.ofChange tiersOneSpec)

/-- ITS FALSE NEIGHBOUR: 'it returns false'. Refute it at one input. -/
def tiersOneWrong : ChangeSpec := { name := "tiersOne", fn := fun _ => fun
  | [d1, d2, d3] => { results := [.lit (.bool false)], args := [d1, d2, d3] }
  | _ => none }
def TiersOneWrongFalsely : Prop := tiersOneRow.holds Try.pinned (OpenSpec.ofChange tiersOneWrong)

/-- 'poundagelaw11.TiersMeet': WHATEVER THE INPUT: true; the input reads as it did. -/
def tiersMeetSpec : ChangeSpec := { name := "tiersMeet", fn := fun _ => fun
  | [d1, d2] => { results := [.lit (.bool true)], args := [d1, d2] }
  | _ => none }
def tiersMeetRow : OpenClaim := { program := "ytlnpeokjbnplnaa", sum := "c78a3592b321ecb5b44212e15055079219f9ba6c43c5da393a14049b392a5ab2", func := "poundage/poundagelaw11.TiersMeet", spec := "tiersMeet", unfollowed := true, recurses := true, named := ["math/bits.divideError", "math/bits.overflowError"], apart := false }
def TiersMeetSaid : Prop := tiersMeetRow.holds Try.pinned (OpenSpec.ofChange tiersMeetSpec)

/-- ITS FALSE NEIGHBOUR: 'it returns false'. Refute it at one input. -/
def tiersMeetWrong : ChangeSpec := { name := "tiersMeet", fn := fun _ => fun
  | [d1, d2] => { results := [.lit (.bool false)], args := [d1, d2] }
  | _ => none }
def TiersMeetWrongFalsely : Prop := tiersMeetRow.holds Try.pinned (OpenSpec.ofChange tiersMeetWrong)

/- THE SECOND FORM. 'bulk': how many values and letters a reading holds, each counted each time it is reached (what is shared counts as often as it is met; a slice's spare places count too). A statement '..UptoSaid' is the law's where the arguments, and the package variables that the reading takes, are together of bulk at most 1048576: NARROWER than '..Said'. Prove '..Said' where nothing that the law and all that it calls make is longer than what came in: it says more and counts as full. Else prove '..UptoSaid'. A law counts once. -/
mutual
def uptoBulk {H : Type} : DataW H → Nat
  | .lit (.string bytes) => bytes.length + 1
  | .lit _ => 1
  | .nil => 1
  | .ptr d => uptoBulk d + 1
  | .slice elems spare => uptoBulkAll elems + uptoBulkAll spare + 1
  | .agg parts => uptoBulkAll parts + 1
  | .iface _ d => uptoBulk d + 1
  | .map entries => uptoBulkEntries entries + 1
  | .held _ => 1
def uptoBulkAll {H : Type} : List (DataW H) → Nat
  | [] => 0
  | d :: r => uptoBulk d + uptoBulkAll r
def uptoBulkEntries {H : Type} : List (Lit × DataW H) → Nat
  | [] => 0
  | x :: r => uptoBulkEntry x + uptoBulkEntries r
def uptoBulkEntry {H : Type} : Lit × DataW H → Nat
  | (.string bytes, d) => bytes.length + uptoBulk d + 1
  | (_, d) => uptoBulk d + 1
 end
def uptoSmall : (H : Type) → List (DataW H) → Bool := fun _ ds => decide (uptoBulkAll ds ≤ 1048576)
def OpenSpec.upto (s : _root_.Go.ChangeSpec) : _root_.Go.OpenSpec := { _root_.Go.OpenSpec.ofChange s with cond := some uptoSmall }

/-- 'poundagelaw11.TiersSteps', WHERE WHAT IT READS IS OF BULK AT MOST 1048576: true; the input reads as it did. -/
def tiersStepsUptoRow : OpenClaim := { program := "ytlnpeokjbnplnaa", sum := "c78a3592b321ecb5b44212e15055079219f9ba6c43c5da393a14049b392a5ab2", func := "poundage/poundagelaw11.TiersSteps", spec := "tiersSteps", unfollowed := true, recurses := true, named := ["math/bits.divideError", "math/bits.overflowError"], apart := false, narrowed := true }
def TiersStepsUptoSaid : Prop := tiersStepsUptoRow.holds Try.pinned (OpenSpec.upto tiersStepsSpec)

/-- 'poundagelaw11.TiersRise', WHERE WHAT IT READS IS OF BULK AT MOST 1048576: true; the input reads as it did. -/
def tiersRiseUptoRow : OpenClaim := { program := "ytlnpeokjbnplnaa", sum := "c78a3592b321ecb5b44212e15055079219f9ba6c43c5da393a14049b392a5ab2", func := "poundage/poundagelaw11.TiersRise", spec := "tiersRise", unfollowed := true, recurses := true, named := ["math/bits.divideError", "math/bits.overflowError"], apart := false, narrowed := true }
def TiersRiseUptoSaid : Prop := tiersRiseUptoRow.holds Try.pinned (OpenSpec.upto tiersRiseSpec)

/-- 'poundagelaw11.TiersBlocks', WHERE WHAT IT READS IS OF BULK AT MOST 1048576: true; the input reads as it did. -/
def tiersBlocksUptoRow : OpenClaim := { program := "ytlnpeokjbnplnaa", sum := "c78a3592b321ecb5b44212e15055079219f9ba6c43c5da393a14049b392a5ab2", func := "poundage/poundagelaw11.TiersBlocks", spec := "tiersBlocks", unfollowed := true, recurses := true, named := ["math/bits.divideError", "math/bits.overflowError"], apart := false, narrowed := true }
def TiersBlocksUptoSaid : Prop := tiersBlocksUptoRow.holds Try.pinned (OpenSpec.upto tiersBlocksSpec)

/-- 'poundagelaw11.TiersOne', WHERE WHAT IT READS IS OF BULK AT MOST 1048576: true; the input reads as it did. -/
def tiersOneUptoRow : OpenClaim := { program := "ytlnpeokjbnplnaa", sum := "c78a3592b321ecb5b44212e15055079219f9ba6c43c5da393a14049b392a5ab2", func := "poundage/poundagelaw11.TiersOne", spec := "tiersOne", unfollowed := true, recurses := true, named := ["math/bits.divideError", "math/bits.overflowError"], apart := false, narrowed := true }
def TiersOneUptoSaid : Prop := tiersOneUptoRow.holds Try.pinned (OpenSpec.upto tiersOneSpec)

/-- 'poundagelaw11.TiersMeet', WHERE WHAT IT READS IS OF BULK AT MOST 1048576: true; the input reads as it did. -/
def tiersMeetUptoRow : OpenClaim := { program := "ytlnpeokjbnplnaa", sum := "c78a3592b321ecb5b44212e15055079219f9ba6c43c5da393a14049b392a5ab2", func := "poundage/poundagelaw11.TiersMeet", spec := "tiersMeet", unfollowed := true, recurses := true, named := ["math/bits.divideError", "math/bits.overflowError"], apart := false, narrowed := true }
def TiersMeetUptoSaid : Prop := tiersMeetUptoRow.holds Try.pinned (OpenSpec.upto tiersMeetSpec)

end Rows
end Go.Proofs.Ytlnpeokjbnplnaa
