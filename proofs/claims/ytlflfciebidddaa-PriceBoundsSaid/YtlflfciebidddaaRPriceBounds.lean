/- WHAT IS PROVED: 'poundagelaw..PriceBounds' answers true at every input, and the input reads as it did: the given statement, with no condition ahead of it. -/
import Derived.Test.YtlflfciebidddaaRows
import Derived.Test.YtlflfciebidddaaMee
import Derived.WalkKit
import Derived.ProofKit
import Derived.OpenShut
import Derived.ShutString
import Derived.ChangeOld
import Derived.Below
import Derived.SizedLaws
namespace Go.Proofs.Ytlflfciebidddaa.priceBounds
open Go Go.ChangeShapes Go.WideShapes Go.ChangeAt Go.RowKit Go.Proofs.Ytlflfciebidddaa.Abs
set_option linter.unusedVariables false
set_option maxRecDepth 100000
theorem own : ownKnob Try.prog.godebug = none := by kernel_rfl
theorem pars : Try.f5.params.toList = [9, 3, 27] := by kernel_rfl
theorem laid : laidOutB Try.prog = true := by kernel_rfl
theorem spec {H : Type} (ds : List (DataW H)) (h : ds.length = Try.f5.params.size) : Rows.priceBoundsSpec.fn H ds = { results := [.lit (.bool true)], args := ds } := by
  have h2 : Try.f5.params.size = 3 := by kernel_rfl
  rw [h2] at h
  match ds, h with
  | [_, _, _], _ => rfl
theorem law : ∀ ls, TypedL Try.prog 9 Try.f5.params.toList ls → CallW Try.prog 5 (argsAV Try.prog Try.f5.params.toList ls) Heap.none fun r _ => r = .d (.bool true) := by
    intro ls hT
    rw [pars] at hT ⊢
    obtain ⟨l0, ls1, rfl, t0, hT1⟩ := typedL_cons hT
    obtain ⟨a0, rfl, e0⟩ := typed_stringV t0 (by kernel_rfl)
    obtain ⟨l1, ls2, rfl, t1, hT2⟩ := typedL_cons hT1
    obtain ⟨a1, rfl, f1, e1⟩ := typed_int t1 (by kernel_rfl)
    obtain ⟨l2, ls3, rfl, t2, hT3⟩ := typedL_cons hT2
    obtain ⟨a2, f2, n2, e2⟩ := typed_ints (e := 3) t2 (by kernel_rfl) (by kernel_rfl) (by kernel_rfl)
    obtain rfl := typedL_nil hT3
    simp only [argsAV, e0, e1, e2]
    exact DataW.law (PriceBounds_row a0 f1 f2 n2)
set_option maxRecDepth 100000 in
theorem lifted (os : Os) (started : os.Started) (H : Type) (enc : TypeId × Value → H) :
    ReturnsInHanded {} Try.checked os 5 .any (Rows.priceBoundsSpec.pre6 enc Try.prog Try.f5 Rows.priceBoundsRow.domain false) (Rows.priceBoundsSpec.post enc Try.prog Try.f5 false true false false) := by
  refine returnsInHanded_of_change_sized (C := Try.checked) own started (by kernel_rfl) Try.func5
    (ChangeSpec.witness6 (enc := enc) (C := Try.checked) false ⟨#[], #[.string ⟨#[]⟩, .int .i64 0, .slice none 0 0], []⟩ 8 (by kernel_rfl) (by kernel_rfl) (by kernel_rfl) (by kernel_rfl)) ?_
  intro W base args ds gs before hval0 hW hcnd hsz0 _
  exact law_calls (n := 9) (tb := 4) rfl (by kernel_rfl) (by kernel_rfl) spec laid (by kernel_rfl) (fun j t v h1 h2 => Value.okWide_any_base (hval0 j t v h1 h2)) hW law
theorem over : Rows.priceBoundsRow.holds Try.pinned (OpenSpec.ofChange Rows.priceBoundsSpec) :=
  OpenClaim.holds_of_wide 5 Try.f5 rfl rfl rfl rfl rfl rfl rfl ⟨rfl, rfl, rfl, rfl, rfl⟩ rfl rfl rfl rfl rfl (by kernel_rfl) Try.func5 (by kernel_rfl)
    (of_decide_eq_true (by kernel_rfl)) (by unfold Func.isWrapper; first | (rw [if_pos (by decide +kernel)]; kernel_rfl) | (rw [if_neg (by decide +kernel)]; exact ⟨rfl, rfl⟩))
    (fun os started H enc _ => lifted os started H enc)
theorem proved : Rows.PriceBoundsSaid := over
#print axioms proved
end Go.Proofs.Ytlflfciebidddaa.priceBounds
namespace Go.Proofs.Ytlflfciebidddaa
/-- The row, under a short name, for the claim. -/
theorem priceBounds_holds : Rows.PriceBoundsSaid := priceBounds.proved
end Go.Proofs.Ytlflfciebidddaa
