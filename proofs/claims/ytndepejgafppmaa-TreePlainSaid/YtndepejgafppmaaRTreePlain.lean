/- WHAT IS PROVED: 'poundagelaw..TreePlain' answers true at every input, and the input reads as it did: the given statement, with no condition ahead of it. -/
import Derived.Test.YtndepejgafppmaaRows
import Derived.Test.YtndepejgafppmaaMed
import Derived.WalkKit
import Derived.ProofKit
import Derived.OpenShut
import Derived.ShutString
import Derived.ChangeOld
import Derived.Below
import Derived.SizedLaws
namespace Go.Proofs.Ytndepejgafppmaa.treePlain
open Go Go.ChangeShapes Go.WideShapes Go.ChangeAt Go.RowKit Go.Proofs.Ytndepejgafppmaa.Abs
set_option linter.unusedVariables false
set_option maxRecDepth 100000
theorem own : ownKnob Try.prog.godebug = none := by kernel_rfl
theorem pars : Try.f7.params.toList = [28] := by kernel_rfl
theorem laid : laidOutB Try.prog = true := by kernel_rfl
theorem spec {H : Type} (ds : List (DataW H)) (h : ds.length = Try.f7.params.size) : Rows.treePlainSpec.fn H ds = { results := [.lit (.bool true)], args := ds } := by
  have h2 : Try.f7.params.size = 1 := by kernel_rfl
  rw [h2] at h
  match ds, h with
  | [_], _ => rfl
theorem law : ∀ ls, TypedL Try.prog 9 Try.f7.params.toList ls → CallW Try.prog 7 (argsAV Try.prog Try.f7.params.toList ls) Heap.none fun r _ => r = .d (.bool true) := by
    intro ls hT
    rw [pars] at hT ⊢
    obtain ⟨l0, ls1, rfl, t0, hT1⟩ := typedL_cons hT
    obtain ⟨a0, f0, e0⟩ := typed_plan t0
    obtain rfl := typedL_nil hT1
    simp only [argsAV, e0]
    exact DataW.law (TreePlain_ok f0)
set_option maxRecDepth 100000 in
theorem lifted (os : Os) (started : os.Started) (H : Type) (enc : TypeId × Value → H) :
    ReturnsInHanded {} Try.checked os 7 .any (Rows.treePlainSpec.pre6 enc Try.prog Try.f7 Rows.treePlainRow.domain false) (Rows.treePlainSpec.post enc Try.prog Try.f7 false true false false) := by
  refine returnsInHanded_of_change_sized (C := Try.checked) own started (by kernel_rfl) Try.func7
    (ChangeSpec.witness6 (enc := enc) (C := Try.checked) false ⟨#[], #[.agg #[.string ⟨#[]⟩, .string ⟨#[]⟩, .int .i64 0, .int .i64 0, .int .i64 0, .int .i64 0, .int .i64 0, .int .i64 0, .slice none 0 0, .slice none 0 0, .slice none 0 0, .int .i64 0, .int .i64 0]], []⟩ 8 (by kernel_rfl) (by kernel_rfl) (by kernel_rfl) (by kernel_rfl)) ?_
  intro W base args ds gs before hval0 hW hcnd hsz0 _
  exact law_calls (n := 9) (tb := 4) rfl (by kernel_rfl) (by kernel_rfl) spec laid (by kernel_rfl) (fun j t v h1 h2 => Value.okWide_any_base (hval0 j t v h1 h2)) hW law
theorem over : Rows.treePlainRow.holds Try.pinned (OpenSpec.ofChange Rows.treePlainSpec) :=
  OpenClaim.holds_of_wide 7 Try.f7 rfl rfl rfl rfl rfl rfl rfl ⟨rfl, rfl, rfl, rfl, rfl⟩ rfl rfl rfl rfl rfl (by kernel_rfl) Try.func7 (by kernel_rfl)
    (of_decide_eq_true (by kernel_rfl)) (by unfold Func.isWrapper; first | (rw [if_pos (by decide +kernel)]; kernel_rfl) | (rw [if_neg (by decide +kernel)]; exact ⟨rfl, rfl⟩))
    (fun os started H enc _ => lifted os started H enc)
theorem proved : Rows.TreePlainSaid := over
#print axioms proved
end Go.Proofs.Ytndepejgafppmaa.treePlain
namespace Go.Proofs.Ytndepejgafppmaa
/-- The row, under a short name, for the claim. -/
theorem treePlain_holds : Rows.TreePlainSaid := treePlain.proved
end Go.Proofs.Ytndepejgafppmaa
