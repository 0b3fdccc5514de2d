/-
  No cell of these rows narrows 'for every input' (looked for: loops, veiled, ifaces, maps, wideKeys, modest, calm, conditions, laid).
  DERIVED. THE GIVEN ROWS OF THIS SEAT. 6 by the template 'for every input the law returns true; each argument reads behind the call as it read before'; 0 by the template 'total and deterministic' (their statements: YtbihahpaalcjjaaGreatTotals.lean).
  GIVEN WITH THE SEED: the statements are not yours to turn. If you find one false, say at which input.
  Laid BY PROGRAM, IN A SANDBOX (cutbox-rows.mjs): the forced cells as the released guide's own fill.sh prints them over the translation c4de84a58d063926… (all of the seat's roots in one cut). By AI agents, Wed Nov 11 2026. No macro, syntax, notation, axiom, sorry.
-/
import Derived.Test.YtbihahpaalcjjaaGreatChecked
import GoSem.Claim
import GoSem.ClaimJoined
import GoSem.ClaimMapViews
import Derived.JoinedTies
import Derived.KernelRfl
namespace Go.Proofs.YtbihahpaalcjjaaGreat
/- THE CELL 'sum', in the pinned program and in every row, IS THE sha256 OF THE DUMP (.gsa) THAT YtbihahpaalcjjaaGreatProg.lean LOADS. Nothing in Lean hashes anything: it is a label: what it is worth is what the hold of that sum in a sandbox is worth. -/
noncomputable def Tryz.pinned : Pinned := { name := "ytbihahpaalcjjaagreat", sum := "c4de84a58d0639266654290d7b7debf30b47c47f82622daf739bfe967292145b", checked := Tryz.checked }
namespace Rows
def none {H : Type} : Left H := { results := [], args := [] }

/-- 'poundagelaw18.NormalIs': WHATEVER THE INPUT: true; the input reads as it did. -/
def normalIsSpec : ChangeSpec := { name := "normalIs", fn := fun _ => fun
  | [d] => { results := [.lit (.bool true)], args := [d] }
  | _ => none }
def normalIsRow : OpenClaim := { program := "ytbihahpaalcjjaagreat", sum := "c4de84a58d0639266654290d7b7debf30b47c47f82622daf739bfe967292145b", func := "poundage/poundagelaw18.NormalIs", spec := "normalIs", unfollowed := true, recurses := true, named := ["math/bits.divideError", "math/bits.overflowError"], apart := false }
def NormalIsSaid : Prop := normalIsRow.holds Tryz.pinned (OpenSpec.ofChange normalIsSpec)

/-- ITS FALSE NEIGHBOUR: 'it returns false'. Refute it at one input. -/
def normalIsWrong : ChangeSpec := { name := "normalIs", fn := fun _ => fun
  | [d] => { results := [.lit (.bool false)], args := [d] }
  | _ => none }
def NormalIsWrongFalsely : Prop := normalIsRow.holds Tryz.pinned (OpenSpec.ofChange normalIsWrong)

/-- 'poundagelaw18.NormalSpans': WHATEVER THE INPUT: true; the input reads as it did. -/
def normalSpansSpec : ChangeSpec := { name := "normalSpans", fn := fun _ => fun
  | [d] => { results := [.lit (.bool true)], args := [d] }
  | _ => none }
def normalSpansRow : OpenClaim := { program := "ytbihahpaalcjjaagreat", sum := "c4de84a58d0639266654290d7b7debf30b47c47f82622daf739bfe967292145b", func := "poundage/poundagelaw18.NormalSpans", spec := "normalSpans", unfollowed := true, recurses := true, named := ["math/bits.divideError", "math/bits.overflowError"], apart := false }
def NormalSpansSaid : Prop := normalSpansRow.holds Tryz.pinned (OpenSpec.ofChange normalSpansSpec)

/-- ITS FALSE NEIGHBOUR: 'it returns false'. Refute it at one input. -/
def normalSpansWrong : ChangeSpec := { name := "normalSpans", fn := fun _ => fun
  | [d] => { results := [.lit (.bool false)], args := [d] }
  | _ => none }
def NormalSpansWrongFalsely : Prop := normalSpansRow.holds Tryz.pinned (OpenSpec.ofChange normalSpansWrong)

/-- 'poundagelaw18.NormalOne': WHATEVER THE INPUT: true; the input reads as it did. -/
def normalOneSpec : ChangeSpec := { name := "normalOne", fn := fun _ => fun
  | [d1, d2] => { results := [.lit (.bool true)], args := [d1, d2] }
  | _ => none }
def normalOneRow : OpenClaim := { program := "ytbihahpaalcjjaagreat", sum := "c4de84a58d0639266654290d7b7debf30b47c47f82622daf739bfe967292145b", func := "poundage/poundagelaw18.NormalOne", spec := "normalOne", unfollowed := true, recurses := true, named := ["math/bits.divideError", "math/bits.overflowError"], apart := false }
def NormalOneSaid : Prop := normalOneRow.holds Tryz.pinned (OpenSpec.ofChange normalOneSpec)

/-- ITS FALSE NEIGHBOUR: 'it returns false'. Refute it at one input. -/
def normalOneWrong : ChangeSpec := { name := "normalOne", fn := fun _ => fun
  | [d1, d2] => { results := [.lit (.bool false)], args := [d1, d2] }
  | _ => none }
def NormalOneWrongFalsely : Prop := normalOneRow.holds Tryz.pinned (OpenSpec.ofChange normalOneWrong)

/-- 'poundagelaw18.NormalOrder': WHATEVER THE INPUT: true; the input reads as it did. -/
def normalOrderSpec : ChangeSpec := { name := "normalOrder", fn := fun _ => fun
  | [d1, d2, d3] => { results := [.lit (.bool true)], args := [d1, d2, d3] }
  | _ => none }
def normalOrderRow : OpenClaim := { program := "ytbihahpaalcjjaagreat", sum := "c4de84a58d0639266654290d7b7debf30b47c47f82622daf739bfe967292145b", func := "poundage/poundagelaw18.NormalOrder", spec := "normalOrder", unfollowed := true, recurses := true, named := ["math/bits.divideError", "math/bits.overflowError"], apart := false }
def NormalOrderSaid : Prop := normalOrderRow.holds Tryz.pinned (OpenSpec.ofChange normalOrderSpec)

/-- ITS FALSE NEIGHBOUR: 'it returns false'. Refute it at one input. -/
def normalOrderWrong : ChangeSpec := { name := "normalOrder", fn := fun _ => fun
  | [d1, d2, d3] => { results := [.lit (.bool false)], args := [d1, d2, d3] }
  | _ => none }
def NormalOrderWrongFalsely : Prop := normalOrderRow.holds Tryz.pinned (OpenSpec.ofChange normalOrderWrong)

/-- 'poundagelaw18.NormalFixed': WHATEVER THE INPUT: true; the input reads as it did. -/
def normalFixedSpec : ChangeSpec := { name := "normalFixed", fn := fun _ => fun
  | [d1, d2] => { results := [.lit (.bool true)], args := [d1, d2] }
  | _ => none }
def normalFixedRow : OpenClaim := { program := "ytbihahpaalcjjaagreat", sum := "c4de84a58d0639266654290d7b7debf30b47c47f82622daf739bfe967292145b", func := "poundage/poundagelaw18.NormalFixed", spec := "normalFixed", unfollowed := true, recurses := true, named := ["math/bits.divideError", "math/bits.overflowError"], apart := false }
def NormalFixedSaid : Prop := normalFixedRow.holds Tryz.pinned (OpenSpec.ofChange normalFixedSpec)

/-- ITS FALSE NEIGHBOUR: 'it returns false'. Refute it at one input. -/
def normalFixedWrong : ChangeSpec := { name := "normalFixed", fn := fun _ => fun
  | [d1, d2] => { results := [.lit (.bool false)], args := [d1, d2] }
  | _ => none }
def NormalFixedWrongFalsely : Prop := normalFixedRow.holds Tryz.pinned (OpenSpec.ofChange normalFixedWrong)

/-- 'poundagelaw18.NormalSides': WHATEVER THE INPUT: true; the input reads as it did. -/
def normalSidesSpec : ChangeSpec := { name := "normalSides", fn := fun _ => fun
  | [d1, d2] => { results := [.lit (.bool true)], args := [d1, d2] }
  | _ => none }
def normalSidesRow : OpenClaim := { program := "ytbihahpaalcjjaagreat", sum := "c4de84a58d0639266654290d7b7debf30b47c47f82622daf739bfe967292145b", func := "poundage/poundagelaw18.NormalSides", spec := "normalSides", unfollowed := true, recurses := true, named := ["math/bits.divideError", "math/bits.overflowError"], apart := false }
def NormalSidesSaid : Prop := normalSidesRow.holds Tryz.pinned (OpenSpec.ofChange normalSidesSpec)

/-- ITS FALSE NEIGHBOUR: 'it returns false'. Refute it at one input. -/
def normalSidesWrong : ChangeSpec := { name := "normalSides", fn := fun _ => fun
  | [d1, d2] => { results := [.lit (.bool false)], args := [d1, d2] }
  | _ => none }
def NormalSidesWrongFalsely : Prop := normalSidesRow.holds Tryz.pinned (OpenSpec.ofChange normalSidesWrong)

/- THE SECOND FORM. 'bulk': how many values and letters a reading holds, each counted each time it is reached (what is shared counts as often as it is met; a slice's spare places count too). A statement '..UptoSaid' is the law's where the arguments, and the package variables that the reading takes, are together of bulk at most 1048576: NARROWER than '..Said'. Prove '..Said' where nothing that the law and all that it calls make is longer than what came in: it says more and counts as full. Else prove '..UptoSaid'. A law counts once. -/
mutual
def uptoBulk {H : Type} : DataW H → Nat
  | .lit (.string bytes) => bytes.length + 1
  | .lit _ => 1
  | .nil => 1
  | .ptr d => uptoBulk d + 1
  | .slice elems spare => uptoBulkAll elems + uptoBulkAll spare + 1
  | .agg parts => uptoBulkAll parts + 1
  | .iface _ d => uptoBulk d + 1
  | .map entries => uptoBulkEntries entries + 1
  | .held _ => 1
def uptoBulkAll {H : Type} : List (DataW H) → Nat
  | [] => 0
  | d :: r => uptoBulk d + uptoBulkAll r
def uptoBulkEntries {H : Type} : List (Lit × DataW H) → Nat
  | [] => 0
  | x :: r => uptoBulkEntry x + uptoBulkEntries r
def uptoBulkEntry {H : Type} : Lit × DataW H → Nat
  | (.string bytes, d) => bytes.length + uptoBulk d + 1
  | (_, d) => uptoBulk d + 1
 end
def uptoSmall : (H : Type) → List (DataW H) → Bool := fun _ ds => decide (uptoBulkAll ds ≤ 1048576)
def OpenSpec.upto (s : _root_.Go.ChangeSpec) : _root_.Go.OpenSpec := { _root_.Go.OpenSpec.ofChange s with cond := some uptoSmall }

/-- 'poundagelaw18.NormalIs', WHERE WHAT IT READS IS OF BULK AT MOST 1048576: true; the input reads as it did. -/
def normalIsUptoRow : OpenClaim := { program := "ytbihahpaalcjjaagreat", sum := "c4de84a58d0639266654290d7b7debf30b47c47f82622daf739bfe967292145b", func := "poundage/poundagelaw18.NormalIs", spec := "normalIs", unfollowed := true, recurses := true, named := ["math/bits.divideError", "math/bits.overflowError"], apart := false, narrowed := true }
def NormalIsUptoSaid : Prop := normalIsUptoRow.holds Tryz.pinned (OpenSpec.upto normalIsSpec)

/-- 'poundagelaw18.NormalSpans', WHERE WHAT IT READS IS OF BULK AT MOST 1048576: true; the input reads as it did. -/
def normalSpansUptoRow : OpenClaim := { program := "ytbihahpaalcjjaagreat", sum := "c4de84a58d0639266654290d7b7debf30b47c47f82622daf739bfe967292145b", func := "poundage/poundagelaw18.NormalSpans", spec := "normalSpans", unfollowed := true, recurses := true, named := ["math/bits.divideError", "math/bits.overflowError"], apart := false, narrowed := true }
def NormalSpansUptoSaid : Prop := normalSpansUptoRow.holds Tryz.pinned (OpenSpec.upto normalSpansSpec)

/-- 'poundagelaw18.NormalOne', WHERE WHAT IT READS IS OF BULK AT MOST 1048576: true; the input reads as it did. -/
def normalOneUptoRow : OpenClaim := { program := "ytbihahpaalcjjaagreat", sum := "c4de84a58d0639266654290d7b7debf30b47c47f82622daf739bfe967292145b", func := "poundage/poundagelaw18.NormalOne", spec := "normalOne", unfollowed := true, recurses := true, named := ["math/bits.divideError", "math/bits.overflowError"], apart := false, narrowed := true }
def NormalOneUptoSaid : Prop := normalOneUptoRow.holds Tryz.pinned (OpenSpec.upto normalOneSpec)

/-- 'poundagelaw18.NormalOrder', WHERE WHAT IT READS IS OF BULK AT MOST 1048576: true; the input reads as it did. -/
def normalOrderUptoRow : OpenClaim := { program := "ytbihahpaalcjjaagreat", sum := "c4de84a58d0639266654290d7b7debf30b47c47f82622daf739bfe967292145b", func := "poundage/poundagelaw18.NormalOrder", spec := "normalOrder", unfollowed := true, recurses := true, named := ["math/bits.divideError", "math/bits.overflowError"], apart := false, narrowed := true }
def NormalOrderUptoSaid : Prop := normalOrderUptoRow.holds Tryz.pinned (OpenSpec.upto normalOrderSpec)

/-- 'poundagelaw18.NormalFixed', WHERE WHAT IT READS IS OF BULK AT MOST 1048576: true; the input reads as it did. -/
def normalFixedUptoRow : OpenClaim := { program := "ytbihahpaalcjjaagreat", sum := "c4de84a58d0639266654290d7b7debf30b47c47f82622daf739bfe967292145b", func := "poundage/poundagelaw18.NormalFixed", spec := "normalFixed", unfollowed := true, recurses := true, named := ["math/bits.divideError", "math/bits.overflowError"], apart := false, narrowed := true }
def NormalFixedUptoSaid : Prop := normalFixedUptoRow.holds Tryz.pinned (OpenSpec.upto normalFixedSpec)

/-- 'poundagelaw18.NormalSides', WHERE WHAT IT READS IS OF BULK AT MOST 1048576: true; the input reads as it did. -/
def normalSidesUptoRow : OpenClaim := { program := "ytbihahpaalcjjaagreat", sum := "c4de84a58d0639266654290d7b7debf30b47c47f82622daf739bfe967292145b", func := "poundage/poundagelaw18.NormalSides", spec := "normalSides", unfollowed := true, recurses := true, named := ["math/bits.divideError", "math/bits.overflowError"], apart := false, narrowed := true }
def NormalSidesUptoSaid : Prop := normalSidesUptoRow.holds Tryz.pinned (OpenSpec.upto normalSidesSpec)

end Rows
end Go.Proofs.YtbihahpaalcjjaaGreat
