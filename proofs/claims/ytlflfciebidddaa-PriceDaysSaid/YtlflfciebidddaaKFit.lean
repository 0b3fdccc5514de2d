/- What fits, or does not. No claim stands here. -/
import Derived.Test.YtlflfciebidddaaAbsU
set_option linter.unusedSimpArgs false
set_option linter.unusedVariables false
namespace Go.Proofs.Ytlflfciebidddaa.Abs
open Go Go.RowKit Go.Proofs

def fitR (n : Int) : AV := .tup [i64 (if Fit n then n else 0), bv (Fit n)]
theorem fitR_yes {n : Int} (h : Fit n) : fitR n = .tup [i64 n, bv true] := by simp [fitR, h]
theorem fitR_no {n : Int} (h : ¬ Fit n) : fitR n = .tup [i64 0, bv false] := by simp [fitR, h]
theorem fitR_of {n m : Int} {b : Bool} (h : (b = true ∧ m = n ∧ Fit n) ∨ (b = false ∧ m = 0 ∧ ¬ Fit n)) : AV.tup [i64 m, bv b] = fitR n := by
  rcases h with ⟨rfl, rfl, h⟩ | ⟨rfl, rfl, h⟩
  · exact (fitR_yes h).symm
  · exact (fitR_no h).symm
theorem i64_congr {a b : Int} (h : a = b) : i64 a = i64 b := by rw [h]

theorem wI (n : Int) : IntKind.i64.wrap n = (n + 9223372036854775808) % 18446744073709551616 - 9223372036854775808 := IntKind.wrap_i64 n
def optR : Option Int → AV
  | some n => .tup [i64 n, bv true]
  | none => .tup [i64 0, bv false]
theorem fitR_ex (n : Int) : ∃ s u, fitR n = .tup [i64 s, bv u] ∧ (u = false → s = 0) := by
  by_cases h : Fit n
  · exact ⟨n, true, fitR_yes h, by simp⟩
  · exact ⟨0, false, fitR_no h, fun _ => rfl⟩
end Go.Proofs.Ytlflfciebidddaa.Abs
