/- Runs, in plain lists: a list's runs hold its values, and are as few as can be. No claim stands here. -/
import Derived.Test.YtmkennmppdmnhaaKLine14c
set_option linter.unusedSimpArgs false
set_option linter.unusedVariables false
namespace Go.Proofs.Ytmkennmppdmnhaa.Abs
open Go Go.RowKit Go.Proofs
/-- Runs that lie one behind the other, hold these values, and differ from neighbour to neighbour. -/
def FwdOK (val : Int → Int) (lo hi : Int) : List Run → Prop
  | [] => lo = hi
  | r :: R => r.f = lo ∧ r.f ≤ r.t ∧ (∀ x, r.f ≤ x → x ≤ r.t → val x = r.v) ∧ (∀ s, R.head? = some s → r.v ≠ s.v) ∧ FwdOK val (r.t + 1) hi R
theorem FwdOK.le {val : Int → Int} : ∀ {R : List Run} {lo hi : Int}, FwdOK val lo hi R → lo ≤ hi
  | [], lo, hi, h => by have : lo = hi := h; omega
  | r :: R, lo, hi, h => by
    obtain ⟨h1, h2, _, _, h5⟩ := h
    have := FwdOK.le h5
    omega
theorem putR_cons {r x : Run} {R : List Run} (h : R ≠ []) : putR (r :: R) x = r :: putR R x := by
  obtain ⟨q, hq⟩ : ∃ q, R.getLast? = some q := by
    cases hh : R.getLast? with
    | none => exact absurd (List.getLast?_eq_none_iff.1 hh) h
    | some q => exact ⟨q, rfl⟩
  have h2 : (r :: R).getLast? = some q := by
    rw [List.getLast?_cons, hq]; rfl
  unfold putR
  rw [hq, h2]
  simp -implicitDefEqProofs only []
  split
  · rw [List.dropLast_cons_of_ne_nil h]; rfl
  · rfl
theorem putR_head {x s : Run} {R : List Run} {q : Run} (h : (putR (s :: R) x).head? = some q) : q.v = s.v := by
  cases R with
  | nil =>
    unfold putR at h
    simp -implicitDefEqProofs only [List.getLast?_singleton] at h
    split at h
    · simp at h; subst h; rfl
    · simp at h; subst h; rfl
  | cons t R =>
    rw [putR_cons (by simp)] at h
    simp at h; subst h; rfl
theorem FwdOK.put {val : Int → Int} {hi : Int} : ∀ {R : List Run} {lo : Int}, FwdOK val lo hi R → FwdOK val lo (hi + 1) (putR R ⟨hi, hi, val hi⟩)
  | [], lo, h => by
    have : lo = hi := h
    subst this
    exact ⟨rfl, Int.le_refl _, fun x h1 h2 => by rw [show x = lo from Int.le_antisymm h2 h1], fun s h => (by cases h), rfl⟩
  | [r], lo, h => by
    obtain ⟨h1, h2, h3, h4, h5⟩ := h
    have h5 : r.t + 1 = hi := h5
    unfold putR
    simp -implicitDefEqProofs only [List.getLast?_singleton]
    split
    · next hv =>
      refine ⟨h1, by show r.f ≤ hi; omega, fun x x1 x2 => ?_, fun s h => (by cases h), rfl⟩
      by_cases hx : x = hi
      · subst hx; exact hv.symm
      · exact h3 x x1 (by have : x ≤ hi := x2; omega)
    · next hv =>
      refine ⟨h1, h2, h3, fun s h => ?_, ⟨h5.symm, Int.le_refl _, fun x x1 x2 => by rw [show x = hi from Int.le_antisymm x2 x1], fun s h => (by cases h), rfl⟩⟩
      cases h; exact hv
  | r :: s :: R, lo, h => by
    obtain ⟨h1, h2, h3, h4, h5⟩ := h
    rw [putR_cons (by simp)]
    refine ⟨h1, h2, h3, fun q hq => ?_, FwdOK.put h5⟩
    rw [putR_head hq]
    exact h4 s rfl
theorem runsN_ok (from' : Int) (l : List Int) : ∀ i : Nat, FwdOK (fun x => l.getD (x - from').toNat 0) from' (from' + i) (runsN from' l i)
  | 0 => by show from' = from' + ((0 : Nat) : Int); omega
  | i + 1 => by
    have h := (runsN_ok from' l i).put
    have e : l.getD (from' + (i : Int) - from').toNat 0 = l.getD i 0 := by rw [show (from' + (i : Int) - from').toNat = i by omega]
    try simp -implicitDefEqProofs only [] at h
    rw [e] at h
    rw [runsN, show from' + ((i + 1 : Nat) : Int) = from' + i + 1 by omega]
    exact h
theorem FwdOK.ge {val : Int → Int} {hi : Int} : ∀ {R : List Run} {lo : Int}, FwdOK val lo hi R → ∀ r ∈ R, lo ≤ r.t
  | [], _, _, r, hr => by cases hr
  | q :: R, lo, h, r, hr => by
    obtain ⟨h1, h2, _, _, h5⟩ := h
    rcases List.mem_cons.1 hr with rfl | hr
    · omega
    · have := FwdOK.ge h5 r hr; omega
theorem FwdOK.sorted {val : Int → Int} {hi : Int} : ∀ {R : List Run} {lo : Int}, FwdOK val lo hi R → SortedT R
  | [], _, _ => fun j k h1 => absurd h1 (Nat.not_lt_zero _)
  | q :: R, lo, h => by
    obtain ⟨h1, h2, _, _, h5⟩ := h
    intro j k hj hk hjk
    cases k with
    | zero =>
      have : j = 0 := by omega
      subst this; exact Int.le_refl _
    | succ k =>
      cases j with
      | zero =>
        have hk' : k < R.length := by simpa using hk
        have := FwdOK.ge h5 R[k] (List.getElem_mem hk')
        show q.t ≤ R[k].t
        omega
      | succ j => exact FwdOK.sorted h5 j k (by simpa using hj) (by simpa using hk) (by omega)
theorem atF_cons {r : Run} {R : List Run} {x : Int} : atF (r :: R) x = if r.t < x then atF R x else if r.f ≤ x then some r.v else none := by
  unfold atF idxR
  by_cases h : r.t < x
  · rw [if_pos h, List.takeWhile_cons_of_pos (by simpa using h), List.length_cons, List.getElem?_cons_succ]
  · rw [if_neg h, List.takeWhile_cons_of_neg (by simpa using h)]
    rfl
theorem FwdOK.at' {val : Int → Int} {hi x : Int} : ∀ {R : List Run} {lo : Int}, FwdOK val lo hi R → lo ≤ x → x < hi → atF R x = some (val x)
  | [], lo, h, h1, h2 => by have : lo = hi := h; omega
  | r :: R, lo, h, h1, h2 => by
    obtain ⟨g1, g2, g3, g4, g5⟩ := h
    rw [atF_cons]
    by_cases ht : r.t < x
    · rw [if_pos ht]; exact FwdOK.at' g5 (by omega) h2
    · rw [if_neg ht, if_pos (by omega), g3 x (by omega) (by omega)]
theorem runs_at {from' : Int} {l : List Int} {k : Nat} (h : k < l.length) : atF (runs from' l) (from' + k) = some l[k] := by
  have := (runsN_ok from' l l.length).at' (x := from' + k) (by omega) (by omega)
  rw [this]
  try simp -implicitDefEqProofs only []
  rw [show (from' + (k : Int) - from').toNat = k by omega]
  simp [h]
/-- Neighbours differ. -/
def Adj2 : List Run → Prop
  | [] => True
  | r :: R => (∀ s, R.head? = some s → r.v ≠ s.v) ∧ Adj2 R
theorem FwdOK.adj {val : Int → Int} {hi : Int} : ∀ {R : List Run} {lo : Int}, FwdOK val lo hi R → Adj2 R
  | [], _, _ => trivial
  | q :: R, lo, h => ⟨h.2.2.2.1, FwdOK.adj h.2.2.2.2⟩
theorem Adj2.last {S R : List Run} {x q : Run} (h : Adj2 (S ++ x :: R)) (hq : S.getLast? = some q) : q.v ≠ x.v := by
  induction S with
  | nil => cases hq
  | cons s S ih =>
    cases S with
    | nil =>
      simp at hq; subst hq
      exact h.1 x rfl
    | cons t S =>
      rw [List.getLast?_cons_cons] at hq
      exact ih h.2 hq
theorem putR_snoc {S R : List Run} {x : Run} (h : Adj2 (S ++ x :: R)) : putR S x = S ++ [x] := by
  unfold putR
  split
  · next q hq => exact if_neg (h.last hq)
  · next hq => rw [List.getLast?_eq_none_iff.1 hq]; rfl
theorem mapN_id {l : List Run} (h : Adj2 l) : ∀ i : Nat, i ≤ l.length → mapN (fun v => v) l i = l.take i
  | 0, _ => rfl
  | i + 1, hi => by
    have hi2 : i < l.length := by omega
    rw [mapN, List.getElem?_eq_getElem hi2]
    simp -implicitDefEqProofs only []
    rw [mapN_id h i (by omega)]
    have hs : l = l.take i ++ l[i] :: l.drop (i + 1) := by rw [← List.drop_eq_getElem_cons hi2, List.take_append_drop]
    have ha : Adj2 (l.take i ++ l[i] :: l.drop (i + 1)) := by rw [← hs]; exact h
    rw [List.take_succ_eq_append_getElem hi2]
    exact putR_snoc ha
theorem zip_self {l : List Run} (h : Adj2 l) (hft : ∀ r ∈ l, r.f ≤ r.t) : ∀ (n i : Nat), i ≤ l.length → l.length ≤ n + i → zipG (fun u _ => u) l l n i i (l.take i) = l
  | 0, i, h1, h2 => by
    rw [zipG, show i = l.length by omega, List.take_length]
  | n + 1, i, h1, h2 => by
    rw [zipG]
    by_cases hi : i < l.length
    · rw [List.getElem?_eq_getElem hi]
      simp -implicitDefEqProofs only [if_pos (Int.le_refl _), Int.max_self, Int.min_self]
      have hs : l = l.take i ++ l[i] :: l.drop (i + 1) := by rw [← List.drop_eq_getElem_cons hi, List.take_append_drop]
      have ha : Adj2 (l.take i ++ l[i] :: l.drop (i + 1)) := by rw [← hs]; exact h
      rw [if_pos (hft _ (List.getElem_mem hi)), putR_snoc ha, ← List.take_succ_eq_append_getElem hi]
      exact zip_self h hft n (i + 1) (by omega) (by omega)
    · rw [List.getElem?_eq_none (by omega)]
      simp -implicitDefEqProofs only []
      rw [show i = l.length by omega, List.take_length]
theorem FwdOK.ft {val : Int → Int} {hi : Int} : ∀ {R : List Run} {lo : Int}, FwdOK val lo hi R → ∀ r ∈ R, r.f ≤ r.t
  | [], _, _, r, hr => by cases hr
  | q :: R, lo, h, r, hr => by
    rcases List.mem_cons.1 hr with rfl | hr
    · exact h.2.1
    · exact FwdOK.ft h.2.2.2.2 r hr
end Go.Proofs.Ytmkennmppdmnhaa.Abs
