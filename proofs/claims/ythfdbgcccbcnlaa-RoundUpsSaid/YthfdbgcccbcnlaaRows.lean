/-
  No cell of these rows narrows 'for every input' (looked for: loops, veiled, ifaces, maps, wideKeys, modest, calm, conditions, laid).
  DERIVED. THE GIVEN ROWS OF THIS SEAT. 6 by the template 'for every input the law returns true; each argument reads behind the call as it read before'; 0 by the template 'total and deterministic' (their statements: YthfdbgcccbcnlaaTotals.lean).
  GIVEN WITH THE SEED: the statements are not yours to turn. If you find one false, say at which input.
  Laid BY PROGRAM, IN A SANDBOX (cutbox-rows.mjs): the forced cells as the released guide's own fill.sh prints them over the translation b692d0f3548e944b… (all of the seat's roots in one cut). By AI agents, Wed Nov 11 2026. No macro, syntax, notation, axiom, sorry.
-/
import Derived.Test.YthfdbgcccbcnlaaChecked
import GoSem.Claim
import GoSem.ClaimJoined
import GoSem.ClaimMapViews
import Derived.JoinedTies
import Derived.KernelRfl
namespace Go.Proofs.Ythfdbgcccbcnlaa
/- THE CELL 'sum', in the pinned program and in every row, IS THE sha256 OF THE DUMP (.gsa) THAT YthfdbgcccbcnlaaProg.lean LOADS. Nothing in Lean hashes anything: it is a label: what it is worth is what the hold of that sum in a sandbox is worth. -/
noncomputable def Try.pinned : Pinned := { name := "ythfdbgcccbcnlaa", sum := "b692d0f3548e944bf7585dba38612eb3deaee047e9979a9c3e87865e92c0695b", checked := Try.checked }
namespace Rows
def none {H : Type} : Left H := { results := [], args := [] }

/-- 'poundagelaw02.RoundNear': WHATEVER THE INPUT: true; the input reads as it did. -/
def roundNearSpec : ChangeSpec := { name := "roundNear", fn := fun _ => fun
  | [d1, d2, d3, d4] => { results := [.lit (.bool true)], args := [d1, d2, d3, d4] }
  | _ => none }
def roundNearRow : OpenClaim := { program := "ythfdbgcccbcnlaa", sum := "b692d0f3548e944bf7585dba38612eb3deaee047e9979a9c3e87865e92c0695b", func := "poundage/poundagelaw02.RoundNear", spec := "roundNear", named := ["math/bits.divideError", "math/bits.overflowError"], apart := false }
def RoundNearSaid : Prop := roundNearRow.holds Try.pinned (OpenSpec.ofChange roundNearSpec)

/-- ITS FALSE NEIGHBOUR: 'it returns false'. Refute it at one input. -/
def roundNearWrong : ChangeSpec := { name := "roundNear", fn := fun _ => fun
  | [d1, d2, d3, d4] => { results := [.lit (.bool false)], args := [d1, d2, d3, d4] }
  | _ => none }
def RoundNearWrongFalsely : Prop := roundNearRow.holds Try.pinned (OpenSpec.ofChange roundNearWrong)

/-- 'poundagelaw02.RoundModes': WHATEVER THE INPUT: true; the input reads as it did. -/
def roundModesSpec : ChangeSpec := { name := "roundModes", fn := fun _ => fun
  | [d1, d2, d3] => { results := [.lit (.bool true)], args := [d1, d2, d3] }
  | _ => none }
def roundModesRow : OpenClaim := { program := "ythfdbgcccbcnlaa", sum := "b692d0f3548e944bf7585dba38612eb3deaee047e9979a9c3e87865e92c0695b", func := "poundage/poundagelaw02.RoundModes", spec := "roundModes", named := ["math/bits.divideError", "math/bits.overflowError"], apart := false }
def RoundModesSaid : Prop := roundModesRow.holds Try.pinned (OpenSpec.ofChange roundModesSpec)

/-- ITS FALSE NEIGHBOUR: 'it returns false'. Refute it at one input. -/
def roundModesWrong : ChangeSpec := { name := "roundModes", fn := fun _ => fun
  | [d1, d2, d3] => { results := [.lit (.bool false)], args := [d1, d2, d3] }
  | _ => none }
def RoundModesWrongFalsely : Prop := roundModesRow.holds Try.pinned (OpenSpec.ofChange roundModesWrong)

/-- 'poundagelaw02.RoundTurned': WHATEVER THE INPUT: true; the input reads as it did. -/
def roundTurnedSpec : ChangeSpec := { name := "roundTurned", fn := fun _ => fun
  | [d1, d2, d3] => { results := [.lit (.bool true)], args := [d1, d2, d3] }
  | _ => none }
def roundTurnedRow : OpenClaim := { program := "ythfdbgcccbcnlaa", sum := "b692d0f3548e944bf7585dba38612eb3deaee047e9979a9c3e87865e92c0695b", func := "poundage/poundagelaw02.RoundTurned", spec := "roundTurned", named := ["math/bits.divideError", "math/bits.overflowError"], apart := false }
def RoundTurnedSaid : Prop := roundTurnedRow.holds Try.pinned (OpenSpec.ofChange roundTurnedSpec)

/-- ITS FALSE NEIGHBOUR: 'it returns false'. Refute it at one input. -/
def roundTurnedWrong : ChangeSpec := { name := "roundTurned", fn := fun _ => fun
  | [d1, d2, d3] => { results := [.lit (.bool false)], args := [d1, d2, d3] }
  | _ => none }
def RoundTurnedWrongFalsely : Prop := roundTurnedRow.holds Try.pinned (OpenSpec.ofChange roundTurnedWrong)

/-- 'poundagelaw02.RoundIs': WHATEVER THE INPUT: true; the input reads as it did. -/
def roundIsSpec : ChangeSpec := { name := "roundIs", fn := fun _ => fun
  | [d1, d2, d3, d4] => { results := [.lit (.bool true)], args := [d1, d2, d3, d4] }
  | _ => none }
def roundIsRow : OpenClaim := { program := "ythfdbgcccbcnlaa", sum := "b692d0f3548e944bf7585dba38612eb3deaee047e9979a9c3e87865e92c0695b", func := "poundage/poundagelaw02.RoundIs", spec := "roundIs", named := ["math/bits.divideError", "math/bits.overflowError"], apart := false }
def RoundIsSaid : Prop := roundIsRow.holds Try.pinned (OpenSpec.ofChange roundIsSpec)

/-- ITS FALSE NEIGHBOUR: 'it returns false'. Refute it at one input. -/
def roundIsWrong : ChangeSpec := { name := "roundIs", fn := fun _ => fun
  | [d1, d2, d3, d4] => { results := [.lit (.bool false)], args := [d1, d2, d3, d4] }
  | _ => none }
def RoundIsWrongFalsely : Prop := roundIsRow.holds Try.pinned (OpenSpec.ofChange roundIsWrong)

/-- 'poundagelaw02.RoundOrder': WHATEVER THE INPUT: true; the input reads as it did. -/
def roundOrderSpec : ChangeSpec := { name := "roundOrder", fn := fun _ => fun
  | [d1, d2, d3, d4] => { results := [.lit (.bool true)], args := [d1, d2, d3, d4] }
  | _ => none }
def roundOrderRow : OpenClaim := { program := "ythfdbgcccbcnlaa", sum := "b692d0f3548e944bf7585dba38612eb3deaee047e9979a9c3e87865e92c0695b", func := "poundage/poundagelaw02.RoundOrder", spec := "roundOrder", named := ["math/bits.divideError", "math/bits.overflowError"], apart := false }
def RoundOrderSaid : Prop := roundOrderRow.holds Try.pinned (OpenSpec.ofChange roundOrderSpec)

/-- ITS FALSE NEIGHBOUR: 'it returns false'. Refute it at one input. -/
def roundOrderWrong : ChangeSpec := { name := "roundOrder", fn := fun _ => fun
  | [d1, d2, d3, d4] => { results := [.lit (.bool false)], args := [d1, d2, d3, d4] }
  | _ => none }
def RoundOrderWrongFalsely : Prop := roundOrderRow.holds Try.pinned (OpenSpec.ofChange roundOrderWrong)

/-- 'poundagelaw02.RoundUps': WHATEVER THE INPUT: true; the input reads as it did. -/
def roundUpsSpec : ChangeSpec := { name := "roundUps", fn := fun _ => fun
  | [d1, d2] => { results := [.lit (.bool true)], args := [d1, d2] }
  | _ => none }
def roundUpsRow : OpenClaim := { program := "ythfdbgcccbcnlaa", sum := "b692d0f3548e944bf7585dba38612eb3deaee047e9979a9c3e87865e92c0695b", func := "poundage/poundagelaw02.RoundUps", spec := "roundUps", named := ["math/bits.divideError", "math/bits.overflowError"], apart := false }
def RoundUpsSaid : Prop := roundUpsRow.holds Try.pinned (OpenSpec.ofChange roundUpsSpec)

/-- ITS FALSE NEIGHBOUR: 'it returns false'. Refute it at one input. -/
def roundUpsWrong : ChangeSpec := { name := "roundUps", fn := fun _ => fun
  | [d1, d2] => { results := [.lit (.bool false)], args := [d1, d2] }
  | _ => none }
def RoundUpsWrongFalsely : Prop := roundUpsRow.holds Try.pinned (OpenSpec.ofChange roundUpsWrong)

/- THE SECOND FORM. 'bulk': how many values and letters a reading holds, each counted each time it is reached (what is shared counts as often as it is met; a slice's spare places count too). A statement '..UptoSaid' is the law's where the arguments, and the package variables that the reading takes, are together of bulk at most 1048576: NARROWER than '..Said'. Prove '..Said' where nothing that the law and all that it calls make is longer than what came in: it says more and counts as full. Else prove '..UptoSaid'. A law counts once. -/
mutual
def uptoBulk {H : Type} : DataW H → Nat
  | .lit (.string bytes) => bytes.length + 1
  | .lit _ => 1
  | .nil => 1
  | .ptr d => uptoBulk d + 1
  | .slice elems spare => uptoBulkAll elems + uptoBulkAll spare + 1
  | .agg parts => uptoBulkAll parts + 1
  | .iface _ d => uptoBulk d + 1
  | .map entries => uptoBulkEntries entries + 1
  | .held _ => 1
def uptoBulkAll {H : Type} : List (DataW H) → Nat
  | [] => 0
  | d :: r => uptoBulk d + uptoBulkAll r
def uptoBulkEntries {H : Type} : List (Lit × DataW H) → Nat
  | [] => 0
  | x :: r => uptoBulkEntry x + uptoBulkEntries r
def uptoBulkEntry {H : Type} : Lit × DataW H → Nat
  | (.string bytes, d) => bytes.length + uptoBulk d + 1
  | (_, d) => uptoBulk d + 1
 end
def uptoSmall : (H : Type) → List (DataW H) → Bool := fun _ ds => decide (uptoBulkAll ds ≤ 1048576)
def OpenSpec.upto (s : _root_.Go.ChangeSpec) : _root_.Go.OpenSpec := { _root_.Go.OpenSpec.ofChange s with cond := some uptoSmall }

/-- 'poundagelaw02.RoundNear', WHERE WHAT IT READS IS OF BULK AT MOST 1048576: true; the input reads as it did. -/
def roundNearUptoRow : OpenClaim := { program := "ythfdbgcccbcnlaa", sum := "b692d0f3548e944bf7585dba38612eb3deaee047e9979a9c3e87865e92c0695b", func := "poundage/poundagelaw02.RoundNear", spec := "roundNear", named := ["math/bits.divideError", "math/bits.overflowError"], apart := false, narrowed := true }
def RoundNearUptoSaid : Prop := roundNearUptoRow.holds Try.pinned (OpenSpec.upto roundNearSpec)

/-- 'poundagelaw02.RoundModes', WHERE WHAT IT READS IS OF BULK AT MOST 1048576: true; the input reads as it did. -/
def roundModesUptoRow : OpenClaim := { program := "ythfdbgcccbcnlaa", sum := "b692d0f3548e944bf7585dba38612eb3deaee047e9979a9c3e87865e92c0695b", func := "poundage/poundagelaw02.RoundModes", spec := "roundModes", named := ["math/bits.divideError", "math/bits.overflowError"], apart := false, narrowed := true }
def RoundModesUptoSaid : Prop := roundModesUptoRow.holds Try.pinned (OpenSpec.upto roundModesSpec)

/-- 'poundagelaw02.RoundTurned', WHERE WHAT IT READS IS OF BULK AT MOST 1048576: true; the input reads as it did. -/
def roundTurnedUptoRow : OpenClaim := { program := "ythfdbgcccbcnlaa", sum := "b692d0f3548e944bf7585dba38612eb3deaee047e9979a9c3e87865e92c0695b", func := "poundage/poundagelaw02.RoundTurned", spec := "roundTurned", named := ["math/bits.divideError", "math/bits.overflowError"], apart := false, narrowed := true }
def RoundTurnedUptoSaid : Prop := roundTurnedUptoRow.holds Try.pinned (OpenSpec.upto roundTurnedSpec)

/-- 'poundagelaw02.RoundIs', WHERE WHAT IT READS IS OF BULK AT MOST 1048576: true; the input reads as it did. -/
def roundIsUptoRow : OpenClaim := { program := "ythfdbgcccbcnlaa", sum := "b692d0f3548e944bf7585dba38612eb3deaee047e9979a9c3e87865e92c0695b", func := "poundage/poundagelaw02.RoundIs", spec := "roundIs", named := ["math/bits.divideError", "math/bits.overflowError"], apart := false, narrowed := true }
def RoundIsUptoSaid : Prop := roundIsUptoRow.holds Try.pinned (OpenSpec.upto roundIsSpec)

/-- 'poundagelaw02.RoundOrder', WHERE WHAT IT READS IS OF BULK AT MOST 1048576: true; the input reads as it did. -/
def roundOrderUptoRow : OpenClaim := { program := "ythfdbgcccbcnlaa", sum := "b692d0f3548e944bf7585dba38612eb3deaee047e9979a9c3e87865e92c0695b", func := "poundage/poundagelaw02.RoundOrder", spec := "roundOrder", named := ["math/bits.divideError", "math/bits.overflowError"], apart := false, narrowed := true }
def RoundOrderUptoSaid : Prop := roundOrderUptoRow.holds Try.pinned (OpenSpec.upto roundOrderSpec)

/-- 'poundagelaw02.RoundUps', WHERE WHAT IT READS IS OF BULK AT MOST 1048576: true; the input reads as it did. -/
def roundUpsUptoRow : OpenClaim := { program := "ythfdbgcccbcnlaa", sum := "b692d0f3548e944bf7585dba38612eb3deaee047e9979a9c3e87865e92c0695b", func := "poundage/poundagelaw02.RoundUps", spec := "roundUps", named := ["math/bits.divideError", "math/bits.overflowError"], apart := false, narrowed := true }
def RoundUpsUptoSaid : Prop := roundUpsUptoRow.holds Try.pinned (OpenSpec.upto roundUpsSpec)

end Rows
end Go.Proofs.Ythfdbgcccbcnlaa
