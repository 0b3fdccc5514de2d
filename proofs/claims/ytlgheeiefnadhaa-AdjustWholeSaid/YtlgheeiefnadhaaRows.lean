/-
  No cell of these rows narrows 'for every input' (looked for: loops, veiled, ifaces, maps, wideKeys, modest, calm, conditions, laid).
  DERIVED. THE GIVEN ROWS OF THIS SEAT. 4 by the template 'for every input the law returns true; each argument reads behind the call as it read before'; 0 by the template 'total and deterministic' (their statements: YtlgheeiefnadhaaTotals.lean).
  GIVEN WITH THE SEED: the statements are not yours to turn. If you find one false, say at which input.
  Laid BY PROGRAM, IN A SANDBOX (cutbox-rows.mjs): the forced cells as the released guide's own fill.sh prints them over the translation 1099c8779f7f9d4e… (all of the seat's roots in one cut). By AI agents, Wed Nov 11 2026. No macro, syntax, notation, axiom, sorry.
-/
import Derived.Test.YtlgheeiefnadhaaChecked
import GoSem.Claim
import GoSem.ClaimJoined
import GoSem.ClaimMapViews
import Derived.JoinedTies
import Derived.KernelRfl
namespace Go.Proofs.Ytlgheeiefnadhaa
/- THE CELL 'sum', in the pinned program and in every row, IS THE sha256 OF THE DUMP (.gsa) THAT YtlgheeiefnadhaaProg.lean LOADS. Nothing in Lean hashes anything: it is a label: what it is worth is what the hold of that sum in a sandbox is worth. -/
noncomputable def Try.pinned : Pinned := { name := "ytlgheeiefnadhaa", sum := "1099c8779f7f9d4e63a4872e0ac046a5011dc01b21f906479b9f52c8c69f0f0f", checked := Try.checked }
namespace Rows
def none {H : Type} : Left H := { results := [], args := [] }

/-- 'poundagelaw12.AdjustRises': WHATEVER THE INPUT: true; the input reads as it did. -/
def adjustRisesSpec : ChangeSpec := { name := "adjustRises", fn := fun _ => fun
  | [d1, d2, d3] => { results := [.lit (.bool true)], args := [d1, d2, d3] }
  | _ => none }
def adjustRisesRow : OpenClaim := { program := "ytlgheeiefnadhaa", sum := "1099c8779f7f9d4e63a4872e0ac046a5011dc01b21f906479b9f52c8c69f0f0f", func := "poundage/poundagelaw12.AdjustRises", spec := "adjustRises", named := ["math/bits.divideError", "math/bits.overflowError"], apart := false }
def AdjustRisesSaid : Prop := adjustRisesRow.holds Try.pinned (OpenSpec.ofChange adjustRisesSpec)

/-- ITS FALSE NEIGHBOUR: 'it returns false'. Refute it at one input. -/
def adjustRisesWrong : ChangeSpec := { name := "adjustRises", fn := fun _ => fun
  | [d1, d2, d3] => { results := [.lit (.bool false)], args := [d1, d2, d3] }
  | _ => none }
def AdjustRisesWrongFalsely : Prop := adjustRisesRow.holds Try.pinned (OpenSpec.ofChange adjustRisesWrong)

/-- 'poundagelaw12.AdjustParts': WHATEVER THE INPUT: true; the input reads as it did. -/
def adjustPartsSpec : ChangeSpec := { name := "adjustParts", fn := fun _ => fun
  | [d1, d2, d3] => { results := [.lit (.bool true)], args := [d1, d2, d3] }
  | _ => none }
def adjustPartsRow : OpenClaim := { program := "ytlgheeiefnadhaa", sum := "1099c8779f7f9d4e63a4872e0ac046a5011dc01b21f906479b9f52c8c69f0f0f", func := "poundage/poundagelaw12.AdjustParts", spec := "adjustParts", named := ["math/bits.divideError", "math/bits.overflowError"], apart := false }
def AdjustPartsSaid : Prop := adjustPartsRow.holds Try.pinned (OpenSpec.ofChange adjustPartsSpec)

/-- ITS FALSE NEIGHBOUR: 'it returns false'. Refute it at one input. -/
def adjustPartsWrong : ChangeSpec := { name := "adjustParts", fn := fun _ => fun
  | [d1, d2, d3] => { results := [.lit (.bool false)], args := [d1, d2, d3] }
  | _ => none }
def AdjustPartsWrongFalsely : Prop := adjustPartsRow.holds Try.pinned (OpenSpec.ofChange adjustPartsWrong)

/-- 'poundagelaw12.AdjustCaps': WHATEVER THE INPUT: true; the input reads as it did. -/
def adjustCapsSpec : ChangeSpec := { name := "adjustCaps", fn := fun _ => fun
  | [d1, d2, d3] => { results := [.lit (.bool true)], args := [d1, d2, d3] }
  | _ => none }
def adjustCapsRow : OpenClaim := { program := "ytlgheeiefnadhaa", sum := "1099c8779f7f9d4e63a4872e0ac046a5011dc01b21f906479b9f52c8c69f0f0f", func := "poundage/poundagelaw12.AdjustCaps", spec := "adjustCaps", named := ["math/bits.divideError", "math/bits.overflowError"], apart := false }
def AdjustCapsSaid : Prop := adjustCapsRow.holds Try.pinned (OpenSpec.ofChange adjustCapsSpec)

/-- ITS FALSE NEIGHBOUR: 'it returns false'. Refute it at one input. -/
def adjustCapsWrong : ChangeSpec := { name := "adjustCaps", fn := fun _ => fun
  | [d1, d2, d3] => { results := [.lit (.bool false)], args := [d1, d2, d3] }
  | _ => none }
def AdjustCapsWrongFalsely : Prop := adjustCapsRow.holds Try.pinned (OpenSpec.ofChange adjustCapsWrong)

/-- 'poundagelaw12.AdjustWhole': WHATEVER THE INPUT: true; the input reads as it did. -/
def adjustWholeSpec : ChangeSpec := { name := "adjustWhole", fn := fun _ => fun
  | [d1, d2] => { results := [.lit (.bool true)], args := [d1, d2] }
  | _ => none }
def adjustWholeRow : OpenClaim := { program := "ytlgheeiefnadhaa", sum := "1099c8779f7f9d4e63a4872e0ac046a5011dc01b21f906479b9f52c8c69f0f0f", func := "poundage/poundagelaw12.AdjustWhole", spec := "adjustWhole", named := ["math/bits.divideError", "math/bits.overflowError"], apart := false }
def AdjustWholeSaid : Prop := adjustWholeRow.holds Try.pinned (OpenSpec.ofChange adjustWholeSpec)

/-- ITS FALSE NEIGHBOUR: 'it returns false'. Refute it at one input. -/
def adjustWholeWrong : ChangeSpec := { name := "adjustWhole", fn := fun _ => fun
  | [d1, d2] => { results := [.lit (.bool false)], args := [d1, d2] }
  | _ => none }
def AdjustWholeWrongFalsely : Prop := adjustWholeRow.holds Try.pinned (OpenSpec.ofChange adjustWholeWrong)

/- THE SECOND FORM. 'bulk': how many values and letters a reading holds, each counted each time it is reached (what is shared counts as often as it is met; a slice's spare places count too). A statement '..UptoSaid' is the law's where the arguments, and the package variables that the reading takes, are together of bulk at most 1048576: NARROWER than '..Said'. Prove '..Said' where nothing that the law and all that it calls make is longer than what came in: it says more and counts as full. Else prove '..UptoSaid'. A law counts once. -/
mutual
def uptoBulk {H : Type} : DataW H → Nat
  | .lit (.string bytes) => bytes.length + 1
  | .lit _ => 1
  | .nil => 1
  | .ptr d => uptoBulk d + 1
  | .slice elems spare => uptoBulkAll elems + uptoBulkAll spare + 1
  | .agg parts => uptoBulkAll parts + 1
  | .iface _ d => uptoBulk d + 1
  | .map entries => uptoBulkEntries entries + 1
  | .held _ => 1
def uptoBulkAll {H : Type} : List (DataW H) → Nat
  | [] => 0
  | d :: r => uptoBulk d + uptoBulkAll r
def uptoBulkEntries {H : Type} : List (Lit × DataW H) → Nat
  | [] => 0
  | x :: r => uptoBulkEntry x + uptoBulkEntries r
def uptoBulkEntry {H : Type} : Lit × DataW H → Nat
  | (.string bytes, d) => bytes.length + uptoBulk d + 1
  | (_, d) => uptoBulk d + 1
 end
def uptoSmall : (H : Type) → List (DataW H) → Bool := fun _ ds => decide (uptoBulkAll ds ≤ 1048576)
def OpenSpec.upto (s : _root_.Go.ChangeSpec) : _root_.Go.OpenSpec := { _root_.Go.OpenSpec.ofChange s with cond := some uptoSmall }

/-- 'poundagelaw12.AdjustRises', WHERE WHAT IT READS IS OF BULK AT MOST 1048576: true; the input reads as it did. -/
def adjustRisesUptoRow : OpenClaim := { program := "ytlgheeiefnadhaa", sum := "1099c8779f7f9d4e63a4872e0ac046a5011dc01b21f906479b9f52c8c69f0f0f", func := "poundage/poundagelaw12.AdjustRises", spec := "adjustRises", named := ["math/bits.divideError", "math/bits.overflowError"], apart := false, narrowed := true }
def AdjustRisesUptoSaid : Prop := adjustRisesUptoRow.holds Try.pinned (OpenSpec.upto adjustRisesSpec)

/-- 'poundagelaw12.AdjustParts', WHERE WHAT IT READS IS OF BULK AT MOST 1048576: true; the input reads as it did. -/
def adjustPartsUptoRow : OpenClaim := { program := "ytlgheeiefnadhaa", sum := "1099c8779f7f9d4e63a4872e0ac046a5011dc01b21f906479b9f52c8c69f0f0f", func := "poundage/poundagelaw12.AdjustParts", spec := "adjustParts", named := ["math/bits.divideError", "math/bits.overflowError"], apart := false, narrowed := true }
def AdjustPartsUptoSaid : Prop := adjustPartsUptoRow.holds Try.pinned (OpenSpec.upto adjustPartsSpec)

/-- 'poundagelaw12.AdjustCaps', WHERE WHAT IT READS IS OF BULK AT MOST 1048576: true; the input reads as it did. -/
def adjustCapsUptoRow : OpenClaim := { program := "ytlgheeiefnadhaa", sum := "1099c8779f7f9d4e63a4872e0ac046a5011dc01b21f906479b9f52c8c69f0f0f", func := "poundage/poundagelaw12.AdjustCaps", spec := "adjustCaps", named := ["math/bits.divideError", "math/bits.overflowError"], apart := false, narrowed := true }
def AdjustCapsUptoSaid : Prop := adjustCapsUptoRow.holds Try.pinned (OpenSpec.upto adjustCapsSpec)

/-- 'poundagelaw12.AdjustWhole', WHERE WHAT IT READS IS OF BULK AT MOST 1048576: true; the input reads as it did. -/
def adjustWholeUptoRow : OpenClaim := { program := "ytlgheeiefnadhaa", sum := "1099c8779f7f9d4e63a4872e0ac046a5011dc01b21f906479b9f52c8c69f0f0f", func := "poundage/poundagelaw12.AdjustWhole", spec := "adjustWhole", named := ["math/bits.divideError", "math/bits.overflowError"], apart := false, narrowed := true }
def AdjustWholeUptoSaid : Prop := adjustWholeUptoRow.holds Try.pinned (OpenSpec.upto adjustWholeSpec)

end Rows
end Go.Proofs.Ytlgheeiefnadhaa
