/- Of all numbers sums and products do not hang on the order of their parts, and a sum with more is more. No condition. -/
import Derived.Test.YthmcidkcindmpaaPExactOrderx1
namespace Go.Proofs.Ythmcidkcindmpaa.Pure
open Go.RowKit Go.Proofs.Ythmcidkcindmpaa.PExactOrder Go.Proofs.YthmcidkcindmpaaW.PrintWords Go.Proofs.YthmcidkcindmpaaW.PrintLast

theorem b64 {n : Int} (h : (Lit.int .i64 n).wf = true) : -9223372036854775808 ≤ n ∧ n ≤ 9223372036854775807 := by
  simp [Lit.wf, IntKind.min, IntKind.max, IntKind.signed, IntKind.bits] at h; omega

def Fit (n : Int) : Prop := -9223372036854775808 ≤ n ∧ n ≤ 9223372036854775807
instance (n : Int) : Decidable (Fit n) := by unfold Fit; infer_instance

theorem add_eq {a b : Int} (ha : Fit a) (hb : Fit b) : exact_Add.f a b = if Fit (a + b) then some (a + b, true) else some (0, false) := by
  by_cases h : Fit (a + b)
  · rw [if_pos h]
    unfold Fit at *; unfold exact_Add.f wrap64
    repeat' split
    all_goals first | (exfalso; omega) | (simp only [Option.some.injEq, Prod.mk.injEq, and_true]; omega)
  · rw [if_neg h]
    unfold Fit at *; unfold exact_Add.f wrap64
    repeat' split
    all_goals first | rfl | (exfalso; omega)

theorem sub_eq {a b : Int} (ha : Fit a) (hb : Fit b) : exact_Sub.f a b = if Fit (a - b) then some (a - b, true) else some (0, false) := by
  by_cases h : Fit (a - b)
  · rw [if_pos h]
    unfold Fit at *; unfold exact_Sub.f wrap64
    repeat' split
    all_goals first | (exfalso; omega) | (simp only [Option.some.injEq, Prod.mk.injEq, and_true]; omega)
  · rw [if_neg h]
    unfold Fit at *; unfold exact_Sub.f wrap64
    repeat' split
    all_goals first | rfl | (exfalso; omega)

theorem mul_back {a b : Int} (_ha : Fit a) (hb : Fit b) (h0 : b ≠ 0) (h1 : b ≠ -1) : wrap64 (Int.tdiv (wrap64 (a * b)) b) = a ↔ Fit (a * b) := by
  unfold Fit at *
  have hm : Int.natAbs (Int.tmod (wrap64 (a * b)) b) < Int.natAbs b := by
    rw [Int.natAbs_tmod]; exact Nat.mod_lt _ (by omega)
  have hd := Int.mul_tdiv_add_tmod (wrap64 (a * b)) b
  have hp : -9223372036854775808 ≤ wrap64 (a * b) ∧ wrap64 (a * b) ≤ 9223372036854775807 := by unfold wrap64; omega
  have hq : -9223372036854775808 ≤ Int.tdiv (wrap64 (a * b)) b ∧ Int.tdiv (wrap64 (a * b)) b ≤ 9223372036854775807 := by
    by_cases e1 : b = 1
    · subst e1; rw [Int.tdiv_one]; exact hp
    have h3 : Int.natAbs (Int.tdiv (wrap64 (a * b)) b) ≤ (wrap64 (a * b)).natAbs / 2 := by
      rw [Int.natAbs_tdiv]; exact Nat.div_le_div_left (by omega) (by omega)
    omega
  have hw : wrap64 (Int.tdiv (wrap64 (a * b)) b) = Int.tdiv (wrap64 (a * b)) b := by
    generalize Int.tdiv (wrap64 (a * b)) b = q at *
    unfold wrap64; omega
  rw [hw]
  constructor
  · intro e
    rw [e, Int.mul_comm b a] at hd
    generalize Int.tmod (wrap64 (a * b)) b = t at *
    generalize a * b = m at *
    unfold wrap64 at hd
    omega
  · intro f
    have : wrap64 (a * b) = a * b := by unfold wrap64; omega
    rw [this]; exact Int.mul_tdiv_cancel a h0

theorem mul_eq {a b : Int} (ha : Fit a) (hb : Fit b) (k : Nat) : exact_Mul.f (k + 1) a b = if Fit (a * b) then some (a * b, true) else some (0, false) := by
  have f0 : Fit 0 := by unfold Fit; omega
  unfold exact_Mul.f
  simp only [exact_Mul.j0]
  by_cases h0 : a = 0
  · subst h0; rw [if_pos rfl, if_pos trivial, if_pos (by simpa using f0)]; simp
  rw [if_neg h0]
  by_cases h1 : b = 0
  · subst h1; rw [if_pos (by rfl), if_pos (by simpa using f0)]; simp
  rw [if_neg (by simpa using h1)]
  by_cases h2 : a = -1
  · subst h2; rw [if_pos rfl, sub_eq f0 hb]
    have e : (0 : Int) - b = -1 * b := by omega
    rw [e]; split <;> rfl
  rw [if_neg h2]
  by_cases h3 : b = -1
  · subst h3; rw [if_pos rfl, sub_eq f0 ha]
    have e : (0 : Int) - a = a * -1 := by omega
    rw [e]; split <;> rfl
  rw [if_neg h3, if_neg h1]
  by_cases h : Fit (a * b)
  · rw [if_pos h, if_pos ((mul_back ha hb h1 h3).2 h)]
    have : wrap64 (a * b) = a * b := by unfold Fit at h; unfold wrap64; omega
    rw [this]
  · rw [if_neg h, if_neg (fun e => h ((mul_back ha hb h1 h3).1 e))]
theorem fd_no {a b : Int} (k : Nat) (h : b = 0 ∨ (a = -9223372036854775808 ∧ b = -1)) : exact_FloorDiv.f (k + 1) a b = some (0, 0, false) := by
  unfold exact_FloorDiv.f
  simp only [exact_FloorDiv.j0]
  rcases h with rfl | ⟨rfl, rfl⟩ <;> simp

theorem fd_yes {a b : Int} (ha : Fit a) (hb : Fit b) (k : Nat) (h0 : b ≠ 0) (h1 : ¬ (a = -9223372036854775808 ∧ b = -1)) :
    ∃ q r, exact_FloorDiv.f (k + 1) a b = some (q, r, true) ∧ a = q * b + r ∧ (0 < b → 0 ≤ r ∧ r < b) ∧ (b < 0 → b < r ∧ r ≤ 0) ∧ Fit q ∧ Fit r := by
  have hj : exact_FloorDiv.f (k + 1) a b = exact_FloorDiv.j0 (k + 1) a b false := by
    unfold exact_FloorDiv.f
    rw [if_neg h0]; split
    · next e => rw [show (b == -1) = false by simp; exact fun e2 => h1 ⟨e, e2⟩]
    · rfl
  rw [hj]
  simp only [exact_FloorDiv.j0]
  rw [if_neg (by decide), if_neg h0]
  have hd := Int.mul_tdiv_add_tmod a b
  have hm : Int.natAbs (Int.tmod a b) < Int.natAbs b := by
    rw [Int.natAbs_tmod]; exact Nat.mod_lt _ (by omega)
  have hs : 0 ≤ a → 0 ≤ Int.tmod a b := fun h => Int.tmod_nonneg b h
  have hs2 : a ≤ 0 → Int.tmod a b ≤ 0 := fun h => by
    have := Int.tmod_nonneg b (a := -a) (by omega)
    rw [Int.neg_tmod] at this; omega
  have hq : Int.natAbs (Int.tdiv a b) ≤ a.natAbs := by
    rw [Int.natAbs_tdiv]; exact Nat.div_le_self _ _
  have hq2 : 2 ≤ b.natAbs → Int.natAbs (Int.tdiv a b) ≤ a.natAbs / 2 := fun h => by
    rw [Int.natAbs_tdiv]; exact Nat.div_le_div_left h (by omega)
  have hq1 : b = -1 → Int.tdiv a b = -a := fun h => by subst h; simp
  unfold Fit at *
  have hfq : -9223372036854775808 ≤ Int.tdiv a b ∧ Int.tdiv a b ≤ 9223372036854775807 := by
    by_cases e : b = -1
    · rw [hq1 e]; omega
    · by_cases e2 : b = 1
      · subst e2; simp; omega
      · have := hq2 (by omega); omega
  have hmul : b * Int.tdiv a b = Int.tdiv a b * b := Int.mul_comm _ _
  have hz : Int.tdiv a b = 0 ∨ True := Or.inr trivial
  by_cases e0 : Int.tmod a b = 0
  · rw [if_pos e0]
    refine ⟨_, _, rfl, ?_, ?_, ?_, ?_, ?_⟩
    · have : wrap64 (Int.tdiv a b) = Int.tdiv a b := by unfold wrap64; omega
      rw [this]; omega
    all_goals first | omega | (unfold wrap64; omega)
  rw [if_neg e0]
  have hwq : wrap64 (Int.tdiv a b) = Int.tdiv a b := by unfold wrap64; omega
  rw [hwq]
  have hsign : (0 < Int.tmod a b → 0 < a) ∧ (Int.tmod a b < 0 → a < 0) := ⟨fun h => by omega, fun h => by omega⟩
  by_cases e1 : decide (Int.tmod a b < 0) = decide (b < 0)
  · rw [if_neg (by simp [e1])]
    rw [decide_eq_decide] at e1
    refine ⟨_, _, rfl, by omega, ?_, ?_, ?_, ?_⟩
    all_goals omega
  · rw [if_pos (by simpa using e1)]
    rw [decide_eq_decide] at e1
    have hr : wrap64 (Int.tmod a b + b) = Int.tmod a b + b := by unfold wrap64; omega
    have hlow : Int.tdiv a b ≠ -9223372036854775808 := by
      intro e
      by_cases e3 : b = -1
      · subst e3; omega
      · by_cases e2 : b = 1
        · subst e2; omega
        · have := hq2 (by omega)
          rw [e] at this; omega
    have hq' : wrap64 (Int.tdiv a b - 1) = Int.tdiv a b - 1 := by unfold wrap64; omega
    rw [hr, hq']
    refine ⟨_, _, rfl, ?_, ?_, ?_, ?_, ?_⟩
    · rw [Int.sub_mul]; omega
    all_goals omega

theorem alive_eq (k : Nat) : poundagelaw01_alive.f (k + 1) = some true := by
  unfold poundagelaw01_alive.f
  rw [mul_eq (by decide) (by decide)]
  rw [if_neg (by decide)]
  have h1 : exact_FloorDiv.f (k + 1) (-7) 2 = some (-4, 1, true) := by
    unfold exact_FloorDiv.f
    simp only [exact_FloorDiv.j0]
    decide +kernel
  rw [h1, add_eq (by decide) (by decide)]
  decide

theorem ExactOrder : poundagelaw01_ExactOrder.Pure := by
  intro a b c ha' hb' hc'
  have ha : Fit a := b64 ha'
  have hb : Fit b := b64 hb'
  have hc : Fit c := b64 hc'
  refine ⟨1, ?_⟩
  unfold poundagelaw01_ExactOrder.f
  rw [alive_eq, add_eq ha hb, add_eq hb ha, mul_eq ha hb, mul_eq hb ha, Int.add_comm b a, Int.mul_comm b a, add_eq ha hc]
  have e : ∀ p : Prop, ∀ _ : Decidable p, ∀ x y : Int × Bool, (if p then some x else some y) = some (if p then x else y) := fun p _ x y => by split <;> rfl
  rw [e, e, e]
  simp only [Option.bind_some, if_true, bne_self_eq_false, Bool.false_eq_true, if_false]
  by_cases h1 : Fit (a + b)
  · by_cases h2 : Fit (a + c)
    · rw [if_pos h1, if_pos h2]
      simp only [if_true, Option.some.injEq, beq_iff_eq, decide_eq_decide]
      omega
    · rw [if_pos h1, if_neg h2]; simp
  · rw [if_neg h1]; simp

end Go.Proofs.Ythmcidkcindmpaa.Pure
