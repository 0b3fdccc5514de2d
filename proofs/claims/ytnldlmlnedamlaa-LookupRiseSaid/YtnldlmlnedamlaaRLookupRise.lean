/- WHAT IS PROVED: 'poundagelaw..LookupRise' answers true at every input, and the input reads as it did: the given statement, with no condition ahead of it. -/
import Derived.Test.YtnldlmlnedamlaaRows
import Derived.Test.YtnldlmlnedamlaaMbf
import Derived.WalkKit
import Derived.ProofKit
import Derived.OpenShut
import Derived.ShutString
import Derived.ChangeOld
import Derived.Below
import Derived.SizedLaws
namespace Go.Proofs.Ytnldlmlnedamlaa.lookupRise
open Go Go.ChangeShapes Go.WideShapes Go.ChangeAt Go.RowKit Go.Proofs.Ytnldlmlnedamlaa.Abs
set_option linter.unusedVariables false
set_option maxRecDepth 100000
theorem own : ownKnob Try.prog.godebug = none := by kernel_rfl
theorem pars : Try.f5.params.toList = [26, 3, 27, 3, 3] := by kernel_rfl
theorem laid : laidOutB Try.prog = true := by kernel_rfl
theorem spec {H : Type} (ds : List (DataW H)) (h : ds.length = Try.f5.params.size) : Rows.lookupRiseSpec.fn H ds = { results := [.lit (.bool true)], args := ds } := by
  have h2 : Try.f5.params.size = 5 := by kernel_rfl
  rw [h2] at h
  match ds, h with
  | [_, _, _, _, _], _ => rfl
theorem law : ∀ ls, TypedL Try.prog 9 Try.f5.params.toList ls → CallW Try.prog 5 (argsAV Try.prog Try.f5.params.toList ls) Heap.none fun r _ => r = .d (.bool true) := by
    intro ls hT
    rw [pars] at hT ⊢
    obtain ⟨l0, ls1, rfl, t0, hT1⟩ := typedL_cons hT
    obtain ⟨a0, f0, _, e0⟩ := typed_core t0
    obtain ⟨l1, ls2, rfl, t1, hT2⟩ := typedL_cons hT1
    obtain ⟨a1, rfl, f1, e1⟩ := typed_int t1 (by kernel_rfl)
    obtain ⟨l2, ls3, rfl, t2, hT3⟩ := typedL_cons hT2
    obtain ⟨a2, f2, n2, e2⟩ := typed_ints (e := 3) t2 (by kernel_rfl) (by kernel_rfl) (by kernel_rfl)
    obtain ⟨l3, ls4, rfl, t3, hT4⟩ := typedL_cons hT3
    obtain ⟨a3, rfl, f3, e3⟩ := typed_int t3 (by kernel_rfl)
    obtain ⟨l4, ls5, rfl, t4, hT5⟩ := typedL_cons hT4
    obtain ⟨a4, rfl, f4, e4⟩ := typed_int t4 (by kernel_rfl)
    obtain rfl := typedL_nil hT5
    simp only [argsAV, e0, e1, e2, e3, e4]
    exact DataW.law (LookupRise_ok f0 f1 f2 n2 f3 f4)
set_option maxRecDepth 100000 in
theorem lifted (os : Os) (started : os.Started) (H : Type) (enc : TypeId × Value → H) :
    ReturnsInHanded {} Try.checked os 5 .any (Rows.lookupRiseSpec.pre6 enc Try.prog Try.f5 Rows.lookupRiseRow.domain false) (Rows.lookupRiseSpec.post enc Try.prog Try.f5 false true false false) := by
  refine returnsInHanded_of_change_sized (C := Try.checked) own started (by kernel_rfl) Try.func5
    (ChangeSpec.witness6 (enc := enc) (C := Try.checked) false ⟨#[], #[.agg #[.string ⟨#[]⟩, .int .i64 0, .int .i64 0, .slice none 0 0, .slice none 0 0, .slice none 0 0], .int .i64 0, .slice none 0 0, .int .i64 0, .int .i64 0], []⟩ 8 (by kernel_rfl) (by kernel_rfl) (by kernel_rfl) (by kernel_rfl)) ?_
  intro W base args ds gs before hval0 hW hcnd hsz0 _
  exact law_calls (n := 9) (tb := 4) rfl (by kernel_rfl) (by kernel_rfl) spec laid (by kernel_rfl) (fun j t v h1 h2 => Value.okWide_any_base (hval0 j t v h1 h2)) hW law
theorem over : Rows.lookupRiseRow.holds Try.pinned (OpenSpec.ofChange Rows.lookupRiseSpec) :=
  OpenClaim.holds_of_wide 5 Try.f5 rfl rfl rfl rfl rfl rfl rfl ⟨rfl, rfl, rfl, rfl, rfl⟩ rfl rfl rfl rfl rfl (by kernel_rfl) Try.func5 (by kernel_rfl)
    (of_decide_eq_true (by kernel_rfl)) (by unfold Func.isWrapper; first | (rw [if_pos (by decide +kernel)]; kernel_rfl) | (rw [if_neg (by decide +kernel)]; exact ⟨rfl, rfl⟩))
    (fun os started H enc _ => lifted os started H enc)
theorem proved : Rows.LookupRiseSaid := over
#print axioms proved
end Go.Proofs.Ytnldlmlnedamlaa.lookupRise
namespace Go.Proofs.Ytnldlmlnedamlaa
/-- The row, under a short name, for the claim. -/
theorem lookupRise_holds : Rows.LookupRiseSaid := lookupRise.proved
end Go.Proofs.Ytnldlmlnedamlaa
