/- WHAT IS PROVED: 'poundagelaw..NormalOrder' answers true at every input, and the input reads as it did: the given statement, with no condition ahead of it. -/
import Derived.Test.YtbihahpaalcjjaaGreatRows
import Derived.Test.YtbihahpaalcjjaaGreatMbf
import Derived.WalkKit
import Derived.ProofKit
import Derived.OpenShut
import Derived.ShutString
import Derived.ChangeOld
import Derived.Below
import Derived.SizedLaws
namespace Go.Proofs.YtbihahpaalcjjaaGreat.normalOrder
open Go Go.ChangeShapes Go.WideShapes Go.ChangeAt Go.RowKit Go.Proofs.YtbihahpaalcjjaaGreat.Abs
set_option linter.unusedVariables false
set_option maxRecDepth 100000
theorem own : ownKnob Tryz.prog.godebug = none := by kernel_rfl
theorem pars : Tryz.f6.params.toList = [26, 3, 3] := by kernel_rfl
theorem laid : laidOutB Tryz.prog = true := by kernel_rfl
theorem spec {H : Type} (ds : List (DataW H)) (h : ds.length = Tryz.f6.params.size) : Rows.normalOrderSpec.fn H ds = { results := [.lit (.bool true)], args := ds } := by
  have h2 : Tryz.f6.params.size = 3 := by kernel_rfl
  rw [h2] at h
  match ds, h with
  | [_, _, _], _ => rfl
theorem law : ∀ ls, TypedL Tryz.prog 9 Tryz.f6.params.toList ls → CallW Tryz.prog 6 (argsAV Tryz.prog Tryz.f6.params.toList ls) Heap.none fun r _ => r = .d (.bool true) := by
    intro ls hT
    rw [pars] at hT ⊢
    obtain ⟨l0, ls1, rfl, t0, hT1⟩ := typedL_cons hT
    obtain ⟨a0, f0, _, e0⟩ := typed_core t0
    obtain ⟨l1, ls2, rfl, t1, hT2⟩ := typedL_cons hT1
    obtain ⟨a1, rfl, f1, e1⟩ := typed_int t1 (by kernel_rfl)
    obtain ⟨l2, ls3, rfl, t2, hT3⟩ := typedL_cons hT2
    obtain ⟨a2, rfl, f2, e2⟩ := typed_int t2 (by kernel_rfl)
    obtain rfl := typedL_nil hT3
    simp only [argsAV, e0, e1, e2]
    exact DataW.law (NormalOrder_ok f0 f1 f2)
set_option maxRecDepth 100000 in
theorem lifted (os : Os) (started : os.Started) (H : Type) (enc : TypeId × Value → H) :
    ReturnsInHanded {} Tryz.checked os 6 .any (Rows.normalOrderSpec.pre6 enc Tryz.prog Tryz.f6 Rows.normalOrderRow.domain false) (Rows.normalOrderSpec.post enc Tryz.prog Tryz.f6 false true false false) := by
  refine returnsInHanded_of_change_sized (C := Tryz.checked) own started (by kernel_rfl) Tryz.func6
    (ChangeSpec.witness6 (enc := enc) (C := Tryz.checked) false ⟨#[], #[.agg #[.string ⟨#[]⟩, .int .i64 0, .int .i64 0, .slice none 0 0, .slice none 0 0, .slice none 0 0], .int .i64 0, .int .i64 0], []⟩ 8 (by kernel_rfl) (by kernel_rfl) (by kernel_rfl) (by kernel_rfl)) ?_
  intro W base args ds gs before hval0 hW hcnd hsz0 _
  exact law_calls (n := 9) (tb := 4) rfl (by kernel_rfl) (by kernel_rfl) spec laid (by kernel_rfl) (fun j t v h1 h2 => Value.okWide_any_base (hval0 j t v h1 h2)) hW law
theorem over : Rows.normalOrderRow.holds Tryz.pinned (OpenSpec.ofChange Rows.normalOrderSpec) :=
  OpenClaim.holds_of_wide 6 Tryz.f6 rfl rfl rfl rfl rfl rfl rfl ⟨rfl, rfl, rfl, rfl, rfl⟩ rfl rfl rfl rfl rfl (by kernel_rfl) Tryz.func6 (by kernel_rfl)
    (of_decide_eq_true (by kernel_rfl)) (by unfold Func.isWrapper; first | (rw [if_pos (by decide +kernel)]; kernel_rfl) | (rw [if_neg (by decide +kernel)]; exact ⟨rfl, rfl⟩))
    (fun os started H enc _ => lifted os started H enc)
theorem proved : Rows.NormalOrderSaid := over
#print axioms proved
end Go.Proofs.YtbihahpaalcjjaaGreat.normalOrder
namespace Go.Proofs.YtbihahpaalcjjaaGreat
/-- The row, under a short name, for the claim. -/
theorem normalOrder_holds : Rows.NormalOrderSaid := normalOrder.proved
end Go.Proofs.YtbihahpaalcjjaaGreat
