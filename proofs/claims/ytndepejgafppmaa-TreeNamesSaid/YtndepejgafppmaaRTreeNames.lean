/- WHAT IS PROVED: 'poundagelaw..TreeNames' answers true at every input, and the input reads as it did: the given statement, with no condition ahead of it. -/
import Derived.Test.YtndepejgafppmaaRows
import Derived.Test.YtndepejgafppmaaMcd
import Derived.WalkKit
import Derived.ProofKit
import Derived.OpenShut
import Derived.ShutString
import Derived.ChangeOld
import Derived.Below
import Derived.SizedLaws
namespace Go.Proofs.Ytndepejgafppmaa.treeNames
open Go Go.ChangeShapes Go.WideShapes Go.ChangeAt Go.RowKit Go.Proofs.Ytndepejgafppmaa.Abs
set_option linter.unusedVariables false
set_option maxRecDepth 100000
theorem own : ownKnob Try.prog.godebug = none := by kernel_rfl
theorem pars : Try.f3.params.toList = [28, 9] := by kernel_rfl
theorem laid : laidOutB Try.prog = true := by kernel_rfl
theorem spec {H : Type} (ds : List (DataW H)) (h : ds.length = Try.f3.params.size) : Rows.treeNamesSpec.fn H ds = { results := [.lit (.bool true)], args := ds } := by
  have h2 : Try.f3.params.size = 2 := by kernel_rfl
  rw [h2] at h
  match ds, h with
  | [_, _], _ => rfl
theorem law : ∀ ls, TypedL Try.prog 9 Try.f3.params.toList ls → CallW Try.prog 3 (argsAV Try.prog Try.f3.params.toList ls) Heap.none fun r _ => r = .d (.bool true) := by
    intro ls hT
    rw [pars] at hT ⊢
    obtain ⟨l0, ls1, rfl, t0, hT1⟩ := typedL_cons hT
    obtain ⟨a0, f0, e0⟩ := typed_plan t0
    obtain ⟨l1, ls2, rfl, t1, hT2⟩ := typedL_cons hT1
    obtain ⟨a1, rfl, e1⟩ := typed_stringV t1 (by kernel_rfl)
    obtain rfl := typedL_nil hT2
    simp only [argsAV, e0, e1]
    exact DataW.law (TreeNames_ok f0 a1)
set_option maxRecDepth 100000 in
theorem lifted (os : Os) (started : os.Started) (H : Type) (enc : TypeId × Value → H) :
    ReturnsInHanded {} Try.checked os 3 .any (Rows.treeNamesSpec.pre6 enc Try.prog Try.f3 Rows.treeNamesRow.domain false) (Rows.treeNamesSpec.post enc Try.prog Try.f3 false true false false) := by
  refine returnsInHanded_of_change_sized (C := Try.checked) own started (by kernel_rfl) Try.func3
    (ChangeSpec.witness6 (enc := enc) (C := Try.checked) false ⟨#[], #[.agg #[.string ⟨#[]⟩, .string ⟨#[]⟩, .int .i64 0, .int .i64 0, .int .i64 0, .int .i64 0, .int .i64 0, .int .i64 0, .slice none 0 0, .slice none 0 0, .slice none 0 0, .int .i64 0, .int .i64 0], .string ⟨#[]⟩], []⟩ 8 (by kernel_rfl) (by kernel_rfl) (by kernel_rfl) (by kernel_rfl)) ?_
  intro W base args ds gs before hval0 hW hcnd hsz0 _
  exact law_calls (n := 9) (tb := 4) rfl (by kernel_rfl) (by kernel_rfl) spec laid (by kernel_rfl) (fun j t v h1 h2 => Value.okWide_any_base (hval0 j t v h1 h2)) hW law
theorem over : Rows.treeNamesRow.holds Try.pinned (OpenSpec.ofChange Rows.treeNamesSpec) :=
  OpenClaim.holds_of_wide 3 Try.f3 rfl rfl rfl rfl rfl rfl rfl ⟨rfl, rfl, rfl, rfl, rfl⟩ rfl rfl rfl rfl rfl (by kernel_rfl) Try.func3 (by kernel_rfl)
    (of_decide_eq_true (by kernel_rfl)) (by unfold Func.isWrapper; first | (rw [if_pos (by decide +kernel)]; kernel_rfl) | (rw [if_neg (by decide +kernel)]; exact ⟨rfl, rfl⟩))
    (fun os started H enc _ => lifted os started H enc)
theorem proved : Rows.TreeNamesSaid := over
#print axioms proved
end Go.Proofs.Ytndepejgafppmaa.treeNames
namespace Go.Proofs.Ytndepejgafppmaa
/-- The row, under a short name, for the claim. -/
theorem treeNames_holds : Rows.TreeNamesSaid := treeNames.proved
end Go.Proofs.Ytndepejgafppmaa
