/- Plain theory: where runs begin, and how many there are. No claim stands here. -/
import Derived.Test.YtmkennmppdmnhaaKLaw17
set_option linter.unusedSimpArgs false
set_option linter.unusedVariables false
namespace Go.Proofs.Ytmkennmppdmnhaa.Abs
open Go Go.RowKit Go.Proofs
/-- The days on which something else holds than on the day ahead. -/
def breaksN (val : Int → Int) (f : Int) : Nat → List Int
  | 0 => []
  | i + 1 => if val (f + 1 + i) = val (f + i) then breaksN val f i else breaksN val f i ++ [f + 1 + i]
theorem breaksN_congr {val val' : Int → Int} {f : Int} : ∀ {n : Nat}, (∀ i : Nat, i ≤ n → val (f + i) = val' (f + i)) → breaksN val f n = breaksN val' f n
  | 0, _ => rfl
  | n + 1, h => by
    rw [breaksN, breaksN, breaksN_congr (n := n) (fun i hi => h i (by omega))]
    have h1 := h n (by omega)
    have h2 := h (n + 1) (by omega)
    rw [show f + ((n + 1 : Nat) : Int) = f + 1 + n by omega] at h2
    rw [h1, h2]
theorem starts_runs {f : Int} {l : List Int} : ∀ {i : Nat}, i < l.length → (runsN f l (i + 1)).map (·.f) = f :: breaksN (valL f l) f i
  | 0, h => by simp [runsN, putR, breaksN]
  | i + 1, h => by
    have ih := starts_runs (i := i) (f := f) (l := l) (by omega)
    obtain ⟨q, h1, h2, h3⟩ := runsN_last (f := f) (l := l) (i := i)
    have hne : runsN f l (i + 1) ≠ [] := fun e => by rw [e] at h1; simp at h1
    have hv : valL f l (f + i) = q.v := by unfold valL; rw [h2, show (f + (i : Int) - f).toNat = i by omega]
    have hv2 : valL f l (f + 1 + i) = l.getD (i + 1) 0 := by unfold valL; rw [show (f + 1 + (i : Int) - f).toNat = i + 1 by omega]
    rw [runsN, breaksN, hv, hv2]
    generalize runsN f l (i + 1) = R at *
    rw [putR, h1]
    simp -implicitDefEqProofs only []
    by_cases he : q.v = l.getD (i + 1) 0
    · rw [if_pos he, if_pos he.symm, ← ih]
      obtain ⟨dl, hd⟩ := List.getLast?_eq_some_iff.1 h1
      subst hd
      simp
    · rw [if_neg he, if_neg (fun e => he e.symm), List.map_append, ih]
      simp -implicitDefEqProofs only [List.map_cons, List.map_nil, List.cons_append]
      rw [show f + ((i + 1 : Nat) : Int) = f + 1 + i by omega]
theorem holds_starts {c : CoreX} (hft : c.f ≤ c.t) : (holdsR c).map (·.f) = c.f :: breaksN (fun d => ((setC c d : Nat) : Int)) c.f (c.t - c.f).toNat := by
  have hl := @listC_len c
  have h := starts_runs (f := c.f) (l := listC c) (i := (c.t - c.f).toNat) (by omega)
  unfold holdsR runs
  rw [show (listC c).length = (c.t - c.f).toNat + 1 by omega, h]
  congr 1
  refine breaksN_congr fun i hi => ?_
  unfold valL
  rw [show (c.f + (i : Int) - c.f).toNat = i by omega, List.getD_eq_getElem?_getD, List.getElem?_eq_getElem (by omega)]
  simp [listC]
theorem breaks_or {val : Int → Int} {f a b m : Int} : ∀ n : Nat, (breaksN (orW val a b m) f n).length ≤ (breaksN val f n).length + (if a ≤ f + n then 1 else 0) + (if b < f + n then 1 else 0)
  | 0 => by simp [breaksN]
  | n + 1 => by
    have ih := breaks_or (val := val) (f := f) (a := a) (b := b) (m := m) n
    rw [breaksN, breaksN]
    have e : f + ((n + 1 : Nat) : Int) = f + 1 + n := by omega
    rw [e]
    by_cases h1 : orW val a b m (f + 1 + n) = orW val a b m (f + n)
    · rw [if_pos h1]
      split <;> (try rw [List.length_append, List.length_singleton]) <;> split <;> split <;> split at ih <;> split at ih <;> omega
    · rw [if_neg h1, List.length_append, List.length_singleton]
      by_cases h2 : val (f + 1 + n) = val (f + n)
      · rw [if_pos h2]
        have h3 : (if a ≤ f + 1 + n ∧ f + 1 + n ≤ b then m else 0) ≠ (if a ≤ f + n ∧ f + n ≤ b then m else 0) := fun k => h1 (by unfold orW; rw [h2, k])
        have h4 : ¬ (a ≤ f + 1 + n ∧ f + 1 + n ≤ b ∧ a ≤ f + n ∧ f + n ≤ b) := fun k => h3 (by rw [if_pos ⟨k.1, k.2.1⟩, if_pos ⟨k.2.2.1, k.2.2.2⟩])
        have h5 : ¬ (¬ (a ≤ f + 1 + n ∧ f + 1 + n ≤ b) ∧ ¬ (a ≤ f + n ∧ f + n ≤ b)) := fun k => h3 (by rw [if_neg k.1, if_neg k.2])
        split <;> split <;> split at ih <;> split at ih <;> omega
      · rw [if_neg h2, List.length_append, List.length_singleton]
        split <;> split <;> split at ih <;> split at ih <;> omega
theorem breaks_or2 {val : Int → Int} {f a b m : Int} (n : Nat) : (breaksN (orW val a b m) f n).length ≤ (breaksN val f n).length + 2 := by
  have := breaks_or (val := val) (f := f) (a := a) (b := b) (m := m) n
  split at this <;> split at this <;> omega
theorem breaks_const {v f : Int} : ∀ n : Nat, breaksN (fun _ => v) f n = []
  | 0 => rfl
  | n + 1 => by rw [breaksN, if_pos rfl, breaks_const]
theorem breaks_S {ss : List SumX} {f : Int} {n : Nat} (h8 : ss.length ≤ 8) : ∀ i : Nat, i ≤ ss.length → (breaksN (fun d => ((setS ss d i : Nat) : Int)) f n).length ≤ 2 * i
  | 0, _ => by
    show (breaksN (fun _ => ((0 : Nat) : Int)) f n).length ≤ 0
    rw [breaks_const]; simp
  | i + 1, h => by
    have ih := breaks_S (ss := ss) (f := f) (n := n) h8 i (by omega)
    rw [setS_step (by omega) h8]
    have := breaks_or2 (val := fun d => ((setS ss d i : Nat) : Int)) (f := f) (a := (ss[i]'(by omega)).f) (b := (ss[i]'(by omega)).t) (m := ((sumN (i : Int) : Nat) : Int)) n
    omega
theorem breaks_P {ss : List SumX} {ps : List PartX} {f : Int} {n : Nat} (h8 : ss.length ≤ 8) (h9 : ps.length ≤ 8) : ∀ i : Nat, i ≤ ps.length → (breaksN (fun d => ((setP ss ps d i : Nat) : Int)) f n).length ≤ 2 * (ss.length + i)
  | 0, _ => breaks_S h8 ss.length (Nat.le_refl _)
  | i + 1, h => by
    have ih := breaks_P (ss := ss) (ps := ps) (f := f) (n := n) h8 h9 i (by omega)
    rw [setP_step (by omega) h8 h9]
    have := breaks_or2 (val := fun d => ((setP ss ps d i : Nat) : Int)) (f := f) (a := (ps[i]'(by omega)).f) (b := (ps[i]'(by omega)).t) (m := ((partN (i : Int) : Nat) : Int)) n
    omega
theorem breaks_len {c : CoreX} (h8 : c.ss.length ≤ 8) (h9 : c.ps.length ≤ 8) (n : Nat) : (breaksN (fun d => ((setC c d : Nat) : Int)) c.f n).length ≤ 2 * (c.ss.length + c.ps.length) := breaks_P h8 h9 c.ps.length (Nat.le_refl _)
end Go.Proofs.Ytmkennmppdmnhaa.Abs
