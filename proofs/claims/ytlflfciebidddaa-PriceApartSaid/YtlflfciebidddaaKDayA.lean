/- What a day of a core comes to: numbers alone. No claim stands here. -/
import Derived.Test.YtlflfciebidddaaKGoodR
import Derived.Test.YtlflfciebidddaaKCost13
set_option linter.unusedSimpArgs false
set_option linter.unusedVariables false
namespace Go.Proofs.Ytlflfciebidddaa.Abs
open Go Go.RowKit Go.Proofs
/-- A sum of the first ones. -/
def sg (g : Nat → Int) : Nat → Int
  | 0 => 0
  | n + 1 => sg g n + g n
theorem sg_congr {g h : Nat → Int} : ∀ {n : Nat}, (∀ i, i < n → g i = h i) → sg g n = sg h n
  | 0, _ => rfl
  | n + 1, k => by rw [sg, sg, sg_congr (fun i hi => k i (by omega)), k n (by omega)]
theorem sg_le {g h : Nat → Int} : ∀ {n : Nat}, (∀ i, i < n → g i ≤ h i) → sg g n ≤ sg h n
  | 0, _ => Int.le_refl _
  | n + 1, k => by
    have := sg_le (n := n) (fun i hi => k i (by omega))
    have := k n (by omega)
    rw [sg, sg]; omega
theorem sg_neg {g : Nat → Int} : ∀ n : Nat, sg (fun i => - g i) n = - sg g n
  | 0 => rfl
  | n + 1 => by rw [sg, sg, sg_neg n]; omega
theorem sg_nonneg {g : Nat → Int} : ∀ {n : Nat}, (∀ i, i < n → 0 ≤ g i) → 0 ≤ sg g n
  | 0, _ => Int.le_refl _
  | n + 1, k => by
    have := sg_nonneg (n := n) (fun i hi => k i (by omega))
    have := k n (by omega)
    rw [sg]; omega
theorem sg_mono {g : Nat → Int} {n : Nat} (h : ∀ i, 0 ≤ g i) : ∀ k : Nat, sg g n ≤ sg g (n + k)
  | 0 => Int.le_refl _
  | k + 1 => by
    have := sg_mono (n := n) h k
    have := h (n + k)
    rw [← Nat.add_assoc, sg]; omega
theorem sg_up {g : Nat → Int} {n m : Nat} (h : ∀ i, 0 ≤ g i) (hn : n ≤ m) : sg g n ≤ sg g m := by
  have := sg_mono (n := n) h (m - n)
  rwa [show n + (m - n) = m by omega] at this
theorem sg_abs {g h : Nat → Int} {n : Nat} (k : ∀ i, i < n → -h i ≤ g i ∧ g i ≤ h i) : -sg h n ≤ sg g n ∧ sg g n ≤ sg h n := by
  refine ⟨?_, sg_le fun i hi => (k i hi).2⟩
  rw [← sg_neg]
  exact sg_le fun i hi => (k i hi).1
theorem sg_add {g h : Nat → Int} : ∀ n : Nat, sg (fun i => g i + h i) n = sg g n + sg h n
  | 0 => rfl
  | n + 1 => by rw [sg, sg, sg, sg_add n]; omega
theorem sg_zero : ∀ n : Nat, sg (fun _ => 0) n = 0
  | 0 => rfl
  | n + 1 => by rw [sg, sg_zero n]; rfl
theorem sg_swap {g : Nat → Nat → Int} {n : Nat} : ∀ m : Nat, sg (fun i => sg (g i) m) n = sg (fun j => sg (fun i => g i j) n) m
  | 0 => by simp -implicitDefEqProofs only [sg, sg_zero]
  | m + 1 => by
    have : sg (fun i => sg (g i) (m + 1)) n = sg (fun i => sg (g i) m + g i m) n := sg_congr fun i _ => by rw [sg]
    rw [this, sg_add, sg_swap m, sg]
/-- Of one alone. -/
theorem sg_one {v : Int} {k : Nat} : ∀ {n : Nat}, sg (fun i => if i = k then v else 0) n = if k < n then v else 0
  | 0 => rfl
  | n + 1 => by
    rw [sg, sg_one]
    by_cases h : k < n
    · rw [if_pos h, if_neg (by omega), if_pos (by omega)]; omega
    · rw [if_neg h]
      by_cases e : n = k
      · rw [if_pos e, if_pos (by omega)]; omega
      · rw [if_neg e, if_neg (by omega)]; omega
/-- A part's price, where there is one. -/
def pv (x : PartX) (q : Int) : Int := (partO x q).getD 0
def sumAt (ss : List SumX) (d : Int) (j : Nat) : Int := match ss[j]? with
  | some s => if inW d s.f s.t then s.a else 0
  | none => 0
def baseAt (ps : List PartX) (d : Int) (m j : Nat) : Int := match ps[j]? with
  | some x => if x.me = m ∧ inW d x.f x.t then pv x 0 else 0
  | none => 0
def riseAt (ps : List PartX) (d : Int) (m : Nat) (q : Int) (j : Nat) : Int := match ps[j]? with
  | some x => if x.me = m ∧ inW d x.f x.t then pv x q - pv x 0 else 0
  | none => 0
def fixS (c : CoreX) (d : Int) : Int := sg (sumAt c.ss d) c.ss.length
def fixM (c : CoreX) (d : Int) (m : Nat) : Int := sg (baseAt c.ps d m) c.ps.length
def dayF (c : CoreX) (d : Int) : Int := fixS c d + sg (fixM c d) c.ms.length
def dayQ (c : CoreX) (d : Int) (m : Nat) (q : Int) : Int := sg (riseAt c.ps d m q) c.ps.length
def dayL (c : CoreX) (d : Int) (m : Nat) (mx : Int) : List Int := (List.range (mx + 1).toNat).map fun (q : Nat) => dayQ c d m q
def dayLs (c : CoreX) (d : Int) (k : Nat) : List (List Int) := (List.range k).map fun m => dayL c d m (match c.ms[m]? with | some x => x.mx | none => 0)
abbrev DayV : Type := Int × List (List Int)
def dayV (c : CoreX) (d : Int) : DayV := (dayF c d, dayLs c d c.ms.length)
/-- The greatest of a part's prices below a number. -/
def bestN (x : PartX) : Nat → Int
  | 0 => 0
  | n + 1 => max (bestN x n) (pv x n)
theorem bestN_pos {x : PartX} : ∀ n, 0 ≤ bestN x n
  | 0 => Int.le_refl _
  | n + 1 => by have := bestN_pos (x := x) n; rw [bestN]; omega
theorem bestN_ge {x : PartX} : ∀ {n k : Nat}, k < n → pv x k ≤ bestN x n
  | 0, k, h => by omega
  | n + 1, k, h => by
    rw [bestN]
    by_cases e : k = n
    · subst e; omega
    · have := bestN_ge (x := x) (show k < n by omega); omega
def mxAt (ms : List MeterX) (m : Int) : Int := match ms[m.toNat]? with
  | some x => x.mx
  | none => 0
def bestAt (c : CoreX) (j : Nat) : Int := match c.ps[j]? with
  | some x => bestN x (mxAt c.ms x.me + 1).toNat
  | none => 0
theorem bestAt_pos {c : CoreX} (j : Nat) : 0 ≤ bestAt c j := by
  unfold bestAt; split
  · exact bestN_pos _
  · exact Int.le_refl _
def amtAt (ss : List SumX) (j : Nat) : Int := match ss[j]? with
  | some s => s.a
  | none => 0
def totN (c : CoreX) (i : Nat) : Int := sg (amtAt c.ss) c.ss.length + sg (bestAt c) i
/-- A price that is neither missing nor too great. -/
def okQ (x : PartX) (q : Int) : Prop := ∃ n, partO x q = some n ∧ 0 ≤ n ∧ n ≤ 1152921504606846976
structure fitsC (c : CoreX) : Prop where
  great : ¬ greatC c
  good : goodC c
  parts : ∀ x ∈ c.ps, ∀ q : Nat, q < (mxAt c.ms x.me + 1).toNat → okQ x q
  tot : ∀ i, i ≤ c.ps.length → totN c i ≤ 1152921504606846976
noncomputable instance (c : CoreX) : Decidable (fitsC c) := Classical.propDecidable _
theorem okQ_pv {x : PartX} {q : Int} (h : okQ x q) : partO x q = some (pv x q) ∧ 0 ≤ pv x q ∧ pv x q ≤ 1152921504606846976 := by
  obtain ⟨n, h1, h2, h3⟩ := h
  unfold pv
  rw [h1]
  exact ⟨rfl, h2, h3⟩
/-- What fits, in bounds. -/
structure BndC (c : CoreX) : Prop where
  mx : ∀ (m : Nat) (h : m < c.ms.length), 0 ≤ c.ms[m].mx ∧ c.ms[m].mx ≤ 2000
  me : ∀ x ∈ c.ps, 0 ≤ x.me ∧ x.me < (c.ms.length : Int)
  amt : ∀ s ∈ c.ss, 0 ≤ s.a ∧ s.a ≤ 1000000000000
theorem fitsC.bnd {c : CoreX} (h : goodC c) : BndC c :=
  ⟨fun m hm => (h.ms m hm).1, fun x hx => ⟨(h.ps x hx).1.1, (h.ps x hx).1.2.1⟩, fun s hs => (h.ss s hs).1⟩
theorem mxAt_eq {ms : List MeterX} {m : Nat} (h : m < ms.length) : mxAt ms m = ms[m].mx := by
  unfold mxAt; rw [Int.toNat_natCast, List.getElem?_eq_getElem h]
theorem amt_pos {c : CoreX} (h : goodC c) (j : Nat) : 0 ≤ amtAt c.ss j := by
  unfold amtAt
  cases e : c.ss[j]? with
  | none => exact Int.le_refl _
  | some s => exact ((fitsC.bnd h).amt s (List.mem_of_getElem? e)).1
theorem sumAt_bnd {c : CoreX} (h : goodC c) (d : Int) (j : Nat) : 0 ≤ sumAt c.ss d j ∧ sumAt c.ss d j ≤ amtAt c.ss j := by
  have hp := amt_pos h j
  unfold amtAt at *
  unfold sumAt
  cases e : c.ss[j]? with
  | none => exact ⟨Int.le_refl _, Int.le_refl _⟩
  | some s =>
    rw [e] at hp
    simp -implicitDefEqProofs only [] at hp ⊢
    split <;> omega
theorem part_bnd {c : CoreX} (h : fitsC c) {x : PartX} (hx : x ∈ c.ps) {q : Int} (h0 : 0 ≤ q) (hq : q ≤ mxAt c.ms x.me) : partO x q = some (pv x q) ∧ 0 ≤ pv x q ∧ pv x q ≤ bestN x (mxAt c.ms x.me + 1).toNat ∧ pv x q ≤ 1152921504606846976 := by
  have hk := h.parts x hx q.toNat (by omega)
  rw [Int.toNat_of_nonneg h0] at hk
  obtain ⟨h1, h2, h3⟩ := okQ_pv hk
  have hb := bestN_ge (x := x) (show q.toNat < (mxAt c.ms x.me + 1).toNat by omega)
  rw [Int.toNat_of_nonneg h0] at hb
  exact ⟨h1, h2, hb, h3⟩
theorem mx_nonneg {c : CoreX} (h : goodC c) {x : PartX} (hx : x ∈ c.ps) : 0 ≤ mxAt c.ms x.me := by
  obtain ⟨h1, h2⟩ := (fitsC.bnd h).me x hx
  have := (fitsC.bnd h).mx x.me.toNat (by omega)
  unfold mxAt
  rw [List.getElem?_eq_getElem (show x.me.toNat < c.ms.length by omega)]
  exact this.1
theorem baseAt_bnd {c : CoreX} (h : fitsC c) (d : Int) (m j : Nat) : 0 ≤ baseAt c.ps d m j ∧ baseAt c.ps d m j ≤ bestAt c j := by
  have hp := bestAt_pos (c := c) j
  unfold bestAt at *
  unfold baseAt
  cases e : c.ps[j]? with
  | none => exact ⟨Int.le_refl _, Int.le_refl _⟩
  | some x =>
    have hx := List.mem_of_getElem? e
    rw [e] at hp
    simp -implicitDefEqProofs only [] at hp ⊢
    obtain ⟨h1, h2, h3, h4⟩ := part_bnd h hx (Int.le_refl 0) (mx_nonneg h.good hx)
    split <;> omega
theorem riseAt_bnd {c : CoreX} (h : fitsC c) (d : Int) {m : Nat} (hm : m < c.ms.length) {q : Int} (h0 : 0 ≤ q) (hq : q ≤ c.ms[m].mx) (j : Nat) : -bestAt c j ≤ riseAt c.ps d m q j ∧ riseAt c.ps d m q j ≤ bestAt c j := by
  have hp := bestAt_pos (c := c) j
  unfold bestAt at *
  unfold riseAt
  cases e : c.ps[j]? with
  | none => exact ⟨Int.le_refl _, Int.le_refl _⟩
  | some x =>
    have hx := List.mem_of_getElem? e
    rw [e] at hp
    simp -implicitDefEqProofs only [] at hp ⊢
    by_cases hc : x.me = m ∧ inW d x.f x.t
    · rw [if_pos hc]
      have hmx : mxAt c.ms x.me = c.ms[m].mx := by rw [hc.1]; exact mxAt_eq hm
      obtain ⟨h1, h2, h3, h4⟩ := part_bnd h hx (Int.le_refl 0) (mx_nonneg h.good hx)
      obtain ⟨g1, g2, g3, g4⟩ := part_bnd h hx h0 (by rw [hmx]; exact hq)
      omega
    · rw [if_neg hc]; omega
theorem sgAmt_pos {c : CoreX} (h : goodC c) (n : Nat) : 0 ≤ sg (amtAt c.ss) n := sg_nonneg fun i _ => amt_pos h i
theorem best_le {c : CoreX} (h : fitsC c) {i : Nat} (hi : i ≤ c.ps.length) : 0 ≤ sg (bestAt c) i ∧ sg (bestAt c) i ≤ 1152921504606846976 := by
  have h1 := h.tot i hi
  have h2 := sgAmt_pos h.good c.ss.length
  unfold totN at h1
  exact ⟨sg_nonneg fun i _ => bestAt_pos i, by omega⟩
theorem fixS_bnd {c : CoreX} (h : goodC c) (d : Int) {i : Nat} (hi : i ≤ c.ss.length) : 0 ≤ sg (sumAt c.ss d) i ∧ sg (sumAt c.ss d) i ≤ 1000000000000 * i := by
  refine ⟨sg_nonneg fun j _ => (sumAt_bnd h d j).1, ?_⟩
  have key : ∀ n : Nat, n ≤ c.ss.length → sg (amtAt c.ss) n ≤ 1000000000000 * n := by
    intro n
    induction n with
    | zero => intro _; exact Int.le_refl _
    | succ n ih =>
      intro hn
      have := ih (by omega)
      have h1 := ((fitsC.bnd h).amt _ (List.getElem_mem (show n < c.ss.length by omega))).2
      rw [sg]
      have : amtAt c.ss n = c.ss[n].a := by unfold amtAt; rw [List.getElem?_eq_getElem (by omega)]
      omega
  have := sg_le (n := i) fun j _ => (sumAt_bnd h d j).2
  have := key i hi
  omega
theorem fixM_bnd {c : CoreX} (h : fitsC c) (d : Int) (m : Nat) {i : Nat} (hi : i ≤ c.ps.length) : 0 ≤ sg (baseAt c.ps d m) i ∧ sg (baseAt c.ps d m) i ≤ 1152921504606846976 := by
  have := (best_le h hi).2
  have h2 := sg_le (n := i) fun j _ => (baseAt_bnd h d m j).2
  exact ⟨sg_nonneg fun j _ => (baseAt_bnd h d m j).1, by omega⟩
theorem rise_bnd {c : CoreX} (h : fitsC c) (d : Int) {m : Nat} (hm : m < c.ms.length) {q : Int} (h0 : 0 ≤ q) (hq : q ≤ c.ms[m].mx) {i : Nat} (hi : i ≤ c.ps.length) : -1152921504606846976 ≤ sg (riseAt c.ps d m q) i ∧ sg (riseAt c.ps d m q) i ≤ 1152921504606846976 := by
  have := (best_le h hi).2
  have h2 := sg_abs (n := i) fun j _ => riseAt_bnd h d hm h0 hq j
  omega
theorem fixMs_bnd {c : CoreX} (h : fitsC c) (d : Int) : ∀ k : Nat, 0 ≤ sg (fixM c d) k ∧ sg (fixM c d) k ≤ 1152921504606846976 * k
  | 0 => ⟨Int.le_refl _, Int.le_refl _⟩
  | k + 1 => by
    have := fixMs_bnd h d k
    have := fixM_bnd h d k (Nat.le_refl c.ps.length)
    unfold fixM at *
    rw [sg]; omega
end Go.Proofs.Ytlflfciebidddaa.Abs
