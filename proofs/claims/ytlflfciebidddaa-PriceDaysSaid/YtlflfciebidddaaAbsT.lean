/- Rows of numbers as data; what a typed input is. No claim stands here. -/
import Derived.Test.YtlflfciebidddaaAbsR
import Derived.Test.YtlflfciebidddaaAbsW
set_option linter.unusedVariables false
set_option linter.unusedSimpArgs false
namespace Go.Proofs.Ytlflfciebidddaa.Abs
open Go Go.RowKit
/-- A row of numbers. -/
def rowI (l : List Int) : List (List D) := l.map fun n => [.int .i64 n]
theorem rowI_len {l : List Int} : (rowI l).length = l.length := List.length_map ..
theorem rowI_at {l : List Int} {i : Nat} {n : Int} (h : l[i]? = some n) : (rowI l)[i]? = some [.int .i64 n] := by simp [rowI, h]
theorem rowI_nth {l : List Int} {i : Nat} (h : i < l.length) : (rowI l)[((i : Int)).toNat]? = some [.int .i64 l[i]] := by
  rw [Int.toNat_natCast]; exact rowI_at (List.getElem?_eq_getElem h)
abbrev slI (l : List Int) : AV := .d (.sl 1 (rowI l))
def AllFit (l : List Int) : Prop := ∀ (i : Nat) (h : i < l.length), Fit l[i]
theorem i64_succ {i : Nat} (h : i < 9223372036854775807) : IntKind.i64.wrap ((i : Int) + 1) = ((i + 1 : Nat) : Int) := by rw [IntKind.wrap_i64]; omega
section
variable {P : Program} {n : Nat} {t : TypeId} {l : List D}
theorem typedL_cons {ts : List TypeId} {ls : List (List D)} (h : TypedL P n (t :: ts) ls) : ∃ l r, ls = l :: r ∧ typedW P n t l ∧ TypedL P n ts r := by
  cases ls with
  | nil => exact absurd h id
  | cons l r => exact ⟨l, r, rfl, h.1, h.2⟩
theorem typedL_nil {ls : List (List D)} (h : TypedL P n [] ls) : ls = [] := by
  cases ls with
  | nil => rfl
  | cons l r => exact absurd h id
theorem typed_bool (h : typedW P (n + 1) t l) (ht : P.underlying t = some .bool) : ∃ b, l = [.bool b] ∧ argAV P t l = bv b := by
  rw [typedW, ht] at h
  obtain ⟨b, rfl⟩ := h
  exact ⟨b, rfl, by simp [argAV, ht, cell1]⟩
theorem typed_int (h : typedW P (n + 1) t l) (ht : P.underlying t = some (.int .i64)) : ∃ z, l = [.int .i64 z] ∧ Fit z ∧ argAV P t l = i64 z := by
  rw [typedW, ht] at h
  obtain ⟨z, rfl, h⟩ := h
  exact ⟨z, rfl, fit_wf h, by simp [argAV, ht, cell1]⟩
theorem typed_slice {e : TypeId} (h : typedW P (n + 1) t l) (ht : P.underlying t = some (.slice e)) : ∃ xs, l = [.sl (P.cellsOf e) xs] ∧ xs.length ≤ maxLen ∧ (∀ el ∈ xs, typedW P n e el) ∧ argAV P t l = .d (.sl (P.cellsOf e) xs) := by
  rw [typedW, ht] at h
  obtain ⟨xs, rfl, h1, h2⟩ := h
  exact ⟨xs, rfl, h1, h2, by simp [argAV, ht, cell1]⟩
theorem typed_rowI {e : TypeId} {xs : List (List D)} (h : ∀ el ∈ xs, typedW P (n + 1) e el) (he : P.underlying e = some (.int .i64)) : ∃ zs, xs = rowI zs ∧ AllFit zs := by
  induction xs with
  | nil => exact ⟨[], rfl, fun i h => absurd h (Nat.not_lt_zero _)⟩
  | cons x xs ih =>
    obtain ⟨z, rfl, hz, _⟩ := typed_int (h x (List.mem_cons_self ..)) he
    obtain ⟨zs, rfl, h2⟩ := ih fun el h' => h el (List.mem_cons_of_mem _ h')
    refine ⟨z :: zs, rfl, fun i hi => ?_⟩
    cases i with
    | zero => exact hz
    | succ i => exact h2 i (by simpa using hi)
theorem typed_ints {e : TypeId} (h : typedW P (n + 2) t l) (ht : P.underlying t = some (.slice e)) (he : P.underlying e = some (.int .i64)) (hc : P.cellsOf e = 1) : ∃ zs, AllFit zs ∧ zs.length ≤ 9223372036854775807 ∧ argAV P t l = slI zs := by
  obtain ⟨xs, rfl, h1, h2, h3⟩ := typed_slice h ht
  obtain ⟨zs, rfl, h4⟩ := typed_rowI h2 he
  refine ⟨zs, h4, ?_, by rw [h3, hc]⟩
  rw [rowI_len] at h1
  exact h1
theorem typedL_of : ∀ {fs : List Field} {ls : List (List D)}, ls.length = fs.length → (∀ (j : Nat) f x, fs[j]? = some f → ls[j]? = some x → typedW P n f.type x) → TypedL P n (fs.map (·.type)) ls
  | [], [], _, _ => trivial
  | [], _ :: _, h, _ => by simp at h
  | _ :: _, [], h, _ => by simp at h
  | f :: fs, x :: ls, h, k => ⟨k 0 f x rfl rfl, typedL_of (by simpa using h) fun j f x h1 h2 => k (j + 1) f x (by simpa using h1) (by simpa using h2)⟩
theorem typed_struct {fs : Array Field} (h : typedW P (n + 1) t l) (ht : P.underlying t = some (.struct fs)) : ∃ ls, l = ls.flatten ∧ TypedL P n (fs.toList.map (·.type)) ls ∧ argAV P t l = .agg (mapD l) := by
  rw [typedW, ht] at h
  obtain ⟨ls, rfl, h1, h2⟩ := h
  exact ⟨ls, rfl, typedL_of (by simpa using h1) (fun j f x g1 g2 => h2 j f x (by simpa using g1) g2), by simp [argAV, ht]⟩
theorem lend_nil {H : Heap} : LendL H [] [] := LendL.refl _
theorem lend_cons {H : Heap} {x y : AV} {xs ys : List AV} (h : LendV H x y) (t : LendL H xs ys) : LendL H (x :: xs) (y :: ys) := by
  refine ⟨congrArg (· + 1) t.1, fun j u v h1 h2 => ?_⟩
  cases j with
  | zero => cases h1; cases h2; exact h
  | succ j => exact t.2 j u v h1 h2
theorem lend_own {H : Heap} {b sz cap cap' len : Nat} {e : TypeId} {xs : List (List D)} (h : H b = some (.row e sz cap' xs)) (hl : len = xs.length) : LendV H (.own b sz 0 len cap) (.d (.sl sz xs)) := by
  subst hl; exact .own b sz cap e cap' xs h
/-- A law's answer is true. -/
theorem DataW.law {f : FuncId} {args : List AV} (h : DataW P f args (bv true)) : CallW P f args Heap.none fun r _ => r = .d (.bool true) :=
  CallW.mono h fun r H' hr => by cases hr; rfl
end
end Go.Proofs.Ytlflfciebidddaa.Abs
