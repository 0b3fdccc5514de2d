/- Groups, one behind the other. No claim stands here. -/
import Derived.Test.YthamjpioodlckaaKLine15
set_option linter.unusedSimpArgs false
set_option linter.unusedVariables false
namespace Go.Proofs.Ythamjpioodlckaa.Abs
open Go Go.RowKit Go.Proofs
theorem FwdOK.uniq {val val' : Int → Int} {m m' hi : Int} {R : List Run} (h : FwdOK val m hi R) (h' : FwdOK val' m' hi R) : m = m' := by
  cases R with
  | nil => have e1 : m = hi := h; have e2 : m' = hi := h'; omega
  | cons a R => rw [← h.1, ← h'.1]
theorem FwdOK.behind {val : Int → Int} {hi : Int} : ∀ {R : List Run} {lo : Int} (k : Nat) (h : k < R.length), FwdOK val lo hi R → FwdOK val (R[k].t + 1) hi (R.drop (k + 1)) ∧ R[k].f ≤ R[k].t
  | a :: R, lo, 0, h, ⟨g1, g2, g3, g4, g5⟩ => ⟨g5, g2⟩
  | a :: R, lo, k + 1, h, ⟨g1, g2, g3, g4, g5⟩ => by
    obtain ⟨h1, h2⟩ := FwdOK.behind k (by simpa using h) g5
    exact ⟨by simpa using h1, by simpa using h2⟩
/-- Groups, one behind the other. -/
def GChain (val : Int → Int) (n : Int) : List Grp → Int → Prop
  | [], _ => True
  | g :: G, at' => at' ≤ g.f ∧ (G ≠ [] → 2 ≤ g.c) ∧ 1 ≤ g.c ∧ (g.c = 1 → g.w = 0 ∧ g.r = 0) ∧ (1 < g.c → 1 ≤ g.w ∧ g.r ≠ 0) ∧ (∀ k : Nat, (k : Int) < g.c → 0 ≤ g.f + k * g.w ∧ g.f + k * g.w < n ∧ val (g.f + k * g.w) = g.v + k * g.r) ∧ GChain val n G (g.f + (g.c - 1) * g.w + 1)
theorem groups_chain {val : Int → Int} {hi : Int} : ∀ (n : Nat) {R : List Run} {lo at' : Int}, R.length ≤ n → FwdOK val lo hi R → 0 ≤ lo → at' ≤ lo → GChain val hi (groups R) at'
  | _, [], lo, at', _, h, _, _ => trivial
  | 0, a :: l, lo, at', hn, h, _, _ => absurd hn (by simp)
  | n + 1, a :: l, lo, at', hn, h, h0, hat => by
    obtain ⟨h1, h2, hc⟩ := @grpOf_le a l
    simp -implicitDefEqProofs only [List.length_cons] at hn
    obtain ⟨m, k1, k2, k3⟩ := FwdOK.drop (grpOf a l).2 h (by simp -implicitDefEqProofs only [List.length_cons]; omega)
    have hl' : ((a :: l).drop (grpOf a l).2).length ≤ n := by rw [List.length_drop]; simp -implicitDefEqProofs only [List.length_cons]; omega
    have hgf : (grpOf a l).1.f = lo := by
      have := h.1
      cases l <;> exact this
    have hmem := h.mem_val
    have hlast : (grpOf a l).1.f + ((grpOf a l).1.c - 1) * (grpOf a l).1.w + 1 ≤ m := by
      obtain ⟨j, hj⟩ : ∃ j, (grpOf a l).2 = j + 1 := ⟨(grpOf a l).2 - 1, by omega⟩
      obtain ⟨e1, e2, e3⟩ := grp_nth (a := a) (l := l) j (by omega)
      obtain ⟨b1, b2⟩ := h.behind j e1
      rw [← hj] at b1
      have := b1.uniq k1
      rw [hc, hj, show (((j + 1 : Nat) : Int) - 1) = j by omega, ← e2]
      omega
    rw [groups_cons]
    refine ⟨by omega, fun hne => ?_, by omega, fun h3 => ?_, fun h3 => ?_, fun k hk => ?_, groups_chain n hl' k1 (by omega) hlast⟩
    · rcases grp_wide h with ⟨w0, w1, w2, w3⟩ | ⟨w0, w1, w2, w3⟩
      · subst w0; exact absurd (show groups (List.drop 1 [a]) = [] from rfl) hne
      · omega
    · rcases grp_wide h with ⟨w0, w1, w2, w3⟩ | ⟨w0, w1, w2, w3⟩
      · exact ⟨w1, w2⟩
      · omega
    · rcases grp_wide h with ⟨w0, w1, w2, w3⟩ | ⟨w0, w1, w2, w3⟩
      · omega
      · exact ⟨w1, w2⟩
    · obtain ⟨e1, e2, e3⟩ := grp_nth (a := a) (l := l) k (by omega)
      obtain ⟨m1, m2, m3, m4⟩ := hmem _ (List.getElem_mem e1)
      rw [e2, e3] at m4
      rw [e2] at m1 m2
      exact ⟨by omega, by omega, m4⟩
theorem gps_chain {l : List Int} : GChain (valL 0 l) l.length (gps l) 0 := by
  have := groups_chain _ (Nat.le_refl _) (runs_fwd 0 l) (Int.le_refl _) (Int.le_refl _)
  rwa [Int.zero_add] at this
end Go.Proofs.Ythamjpioodlckaa.Abs
