/- The best one of a curve is the best of its numbers. No claim stands here. -/
import Derived.Test.YthamjpioodlckaaKExt20
import Derived.Test.YthamjpioodlckaaKChain15
set_option linter.unusedSimpArgs false
set_option linter.unusedVariables false
namespace Go.Proofs.Ythamjpioodlckaa.Abs
open Go Go.RowKit Go.Proofs
theorem GChain.mem {val : Int → Int} {n : Int} : ∀ {G : List Grp} {a : Int}, GChain val n G a → ∀ g ∈ G, 1 ≤ g.c ∧ ∀ k : Nat, (k : Int) < g.c → 0 ≤ g.f + k * g.w ∧ g.f + k * g.w < n ∧ val (g.f + k * g.w) = g.v + k * g.r
  | h :: G, a, ⟨_, _, c3, _, _, c6, c7⟩, g, hg => by
    rcases List.mem_cons.1 hg with rfl | hg
    · exact ⟨c3, c6⟩
    · exact c7.mem g hg
theorem fold_ind {bt : Int → Int → Bool} {P : Int × Int → Prop} : ∀ {G : List Grp} {b : Int × Int}, P b → (∀ g ∈ G, P (endA g) ∧ P (endB g)) → P (foldG bt G b)
  | [], b, h, _ => h
  | g :: G, b, h, hG => by
    obtain ⟨h1, h2⟩ := hG g (List.mem_cons_self ..)
    have hp : ∀ {b c : Int × Int}, P b → P c → P (pickB bt b c) := fun hb hc => by
      unfold pickB
      split <;> assumption
    exact fold_ind (G := G) (b := pickB bt (pickB bt b (endA g)) (endB g)) (hp (hp h h1) h2) (fun g' hg => hG g' (List.mem_cons_of_mem _ hg))
/-- What is best is no worse than each end. -/
structure Bet (bt : Int → Int → Bool) (R : Int → Int → Prop) : Prop where
  refl : ∀ a, R a a
  trans : ∀ a b c, R a b → R b c → R a c
  yes : ∀ a b, bt a b = true → R a b
  no : ∀ a b, bt a b = false → R b a
theorem pick_best {bt : Int → Int → Bool} {R : Int → Int → Prop} (h : Bet bt R) (b c : Int × Int) : R (pickB bt b c).1 b.1 ∧ R (pickB bt b c).1 c.1 := by
  unfold pickB
  cases e : bt c.1 b.1
  · exact ⟨h.refl _, h.no _ _ e⟩
  · exact ⟨h.yes _ _ e, h.refl _⟩
theorem fold_best {bt : Int → Int → Bool} {R : Int → Int → Prop} (h : Bet bt R) : ∀ {G : List Grp} {b : Int × Int}, R (foldG bt G b).1 b.1 ∧ ∀ g ∈ G, R (foldG bt G b).1 (endA g).1 ∧ R (foldG bt G b).1 (endB g).1
  | [], b => ⟨h.refl _, fun _ hg => by cases hg⟩
  | g :: G, b => by
    obtain ⟨h1, h2⟩ := fold_best h (G := G) (b := pickB bt (pickB bt b (endA g)) (endB g))
    have p1 := pick_best h b (endA g)
    have p2 := pick_best h (pickB bt b (endA g)) (endB g)
    have q1 := h.trans _ _ _ h1 p2.1
    refine ⟨h.trans _ _ _ q1 p1.1, fun g' hg => ?_⟩
    rcases List.mem_cons.1 hg with rfl | hg
    · exact ⟨h.trans _ _ _ q1 p1.2, h.trans _ _ _ h1 p2.2⟩
    · exact h2 g' hg
theorem atG_mem : ∀ {G : List Grp} {q v : Int}, atG G q = some v → ∃ g ∈ G, g.f ≤ q ∧ v = valG g q
  | [], q, v, h => by cases h
  | g :: G, q, v, h => by
    rw [atG] at h
    cases e : atG G q with
    | some u =>
      rw [e] at h
      obtain ⟨g', h1, h2, h3⟩ := atG_mem e
      cases h
      exact ⟨g', List.mem_cons_of_mem _ h1, h2, h3⟩
    | none =>
      rw [e] at h
      simp -implicitDefEqProofs only [] at h
      split at h
      · next hf => cases h; exact ⟨g, List.mem_cons_self .., hf, rfl⟩
      · cases h
theorem val_between {g : Grp} {q : Int} (hw : 0 ≤ g.w) (hc : 1 ≤ g.c) (hq : g.f ≤ q) : ∃ j : Int, 0 ≤ j ∧ j ≤ g.c - 1 ∧ valG g q = g.v + j * g.r := by
  unfold valG
  split
  · exact ⟨0, by omega, by omega, by omega⟩
  · refine ⟨min ((q - g.f).tdiv g.w) (g.c - 1), ?_, by omega, rfl⟩
    have : 0 ≤ (q - g.f).tdiv g.w := Int.tdiv_nonneg (by omega) hw
    omega
theorem btw_max {v r j c M : Int} (h0 : 0 ≤ j) (hc : j ≤ c - 1) (h1 : v ≤ M) (h2 : v + (c - 1) * r ≤ M) : v + j * r ≤ M := by
  by_cases h : 0 ≤ r
  · have := Int.mul_le_mul_of_nonneg_right hc h
    omega
  · have := Int.mul_nonneg h0 (show 0 ≤ -r by omega)
    rw [Int.mul_neg] at this
    omega
theorem btw_min {v r j c M : Int} (h0 : 0 ≤ j) (hc : j ≤ c - 1) (h1 : M ≤ v) (h2 : M ≤ v + (c - 1) * r) : M ≤ v + j * r := by
  have := btw_max (v := -v) (r := -r) (M := -M) h0 hc (by omega) (by rw [Int.mul_neg]; omega)
  rw [Int.mul_neg] at this
  omega
theorem best_spec {bt : Int → Int → Bool} {R : Int → Int → Prop} (hb : Bet bt R) (hR : ∀ {v r j c M : Int}, 0 ≤ j → j ≤ c - 1 → R M v → R M (v + (c - 1) * r) → R M (v + j * r)) {l : List Int} (h : CurL l) {B : Int × Int} (hB : bestG bt (gps l) = B) :
    (0 ≤ B.2 ∧ B.2 < l.length ∧ valL 0 l B.2 = B.1) ∧ ∀ (i : Nat) (hi : i < l.length), R B.1 l[i] := by
  have hok := gps_ok h
  obtain ⟨h0, _⟩ := gps_first h.1
  have hat := fun (i : Nat) (hi : i < l.length) => gps_at hi
  have hch := gps_chain (l := l)
  have hmem := hch.mem
  generalize gps l = G at *
  match G, h0 with
  | g :: G, _ =>
    have key : ∀ g' ∈ g :: G, (0 ≤ (endA g').2 ∧ (endA g').2 < l.length ∧ valL 0 l (endA g').2 = (endA g').1) ∧ (0 ≤ (endB g').2 ∧ (endB g').2 < l.length ∧ valL 0 l (endB g').2 = (endB g').1) := fun g' hg => by
      obtain ⟨c1, c2⟩ := hmem g' hg
      have a := c2 0 (by omega)
      have b := c2 (g'.c - 1).toNat (by omega)
      rw [show (((g'.c - 1).toNat : Nat) : Int) = g'.c - 1 by omega] at b
      simp -implicitDefEqProofs only [Int.natCast_zero, Int.zero_mul, Int.add_zero] at a
      exact ⟨a, b⟩
    subst hB
    refine ⟨?_, fun i hi => ?_⟩
    · exact fold_ind (P := fun p : Int × Int => 0 ≤ p.2 ∧ p.2 < l.length ∧ valL 0 l p.2 = p.1) (key g (List.mem_cons_self ..)).1 key
    · obtain ⟨g', m1, m2, m3⟩ := atG_mem (hat i hi)
      have gk := hok g' m1
      obtain ⟨j, j1, j2, j3⟩ := val_between gk.w.1 gk.c.1 m2
      rw [m3, j3]
      obtain ⟨e1, e2⟩ := (fold_best hb (G := g :: G) (b := endA g)).2 g' m1
      exact hR j1 j2 e1 e2
theorem most_spec {l : List Int} (h : CurL l) {B : Int × Int} (hB : bestG (fun a b => decide (b < a)) (gps l) = B) : (0 ≤ B.2 ∧ B.2 < l.length ∧ valL 0 l B.2 = B.1) ∧ ∀ (i : Nat) (hi : i < l.length), l[i] ≤ B.1 :=
  best_spec (R := fun a b => b ≤ a) ⟨fun a => Int.le_refl _, fun a b c h1 h2 => Int.le_trans h2 h1, fun a b e => by have := of_decide_eq_true e; omega, fun a b e => by have := of_decide_eq_false e; omega⟩ (fun h0 hc h1 h2 => btw_max h0 hc h1 h2) h hB
theorem least_spec {l : List Int} (h : CurL l) {B : Int × Int} (hB : bestG (fun a b => decide (a < b)) (gps l) = B) : (0 ≤ B.2 ∧ B.2 < l.length ∧ valL 0 l B.2 = B.1) ∧ ∀ (i : Nat) (hi : i < l.length), B.1 ≤ l[i] :=
  best_spec (R := fun a b => a ≤ b) ⟨fun a => Int.le_refl _, fun a b c h1 h2 => Int.le_trans h1 h2, fun a b e => by have := of_decide_eq_true e; omega, fun a b e => by have := of_decide_eq_false e; omega⟩ (fun h0 hc h1 h2 => btw_min h0 hc h1 h2) h hB
end Go.Proofs.Ythamjpioodlckaa.Abs
