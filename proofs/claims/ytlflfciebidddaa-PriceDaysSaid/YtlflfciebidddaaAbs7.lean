/- One operation of the model does what the abstract one says: new variables, structs and slices put together, slices that grow. No claim stands here. -/
import Derived.Test.YtlflfciebidddaaAbs6
import Derived.Laws.NewFold
namespace Go.Proofs.Ytlflfciebidddaa.Abs
open Go Go.RowKit

theorem cellIs_sound {P : Program} {F : Nat → Prop} {w : World} {x : AV} {v : Value} (h : cellIs x v = true) : VR P F w x v ∧ v.oneCell' = true := by
  unfold cellIs at h
  split at h
  · simp only [Bool.and_eq_true, beq_iff_eq] at h; obtain ⟨rfl, rfl⟩ := h; exact ⟨.d _ _ (.int _ _), rfl⟩
  · simp only [beq_iff_eq] at h; subst h; exact ⟨.d _ _ (.bool _), rfl⟩
  · simp only [decide_eq_true_eq] at h; subst h; exact ⟨.d _ _ (.str _), rfl⟩
  · exact ⟨.nilp, rfl⟩
  · exact ⟨.nilsl _, rfl⟩
  · exact ⟨.nilfn, rfl⟩
  · cases h
theorem cellsAre_sound {P : Program} {F : Nat → Prop} {w : World} : ∀ {z : List AV} {vs : List Value}, cellsAre z vs = true → VRL P F w z vs ∧ ∀ v ∈ vs, v.oneCell' = true
  | [], [], _ => ⟨VRL.nil, fun v h => by simp at h⟩
  | x :: z, v :: vs, h => by
    simp only [cellsAre, Bool.and_eq_true] at h
    have h1 := cellIs_sound (P := P) (F := F) (w := w) h.1
    have h2 := cellsAre_sound (P := P) (F := F) (w := w) h.2
    exact ⟨VRL.cons h1.1 h2.1, fun u hu => by
      rcases List.mem_cons.1 hu with rfl | hu
      · exact h1.2
      · exact h2.2 u hu⟩
  | [], _ :: _, h => by simp [cellsAre] at h
  | _ :: _, [], h => by simp [cellsAre] at h
theorem zeroC_sound {P : Program} {t : TypeId} {z : List AV} (h : zeroC P t = some z) :
    ∃ i v, P.info? t = some i ∧ i.zero = some v ∧ z.length = i.size ∧ v.cells.size = i.size ∧ ∀ F w, VRL P F w z v.cells.toList ∧ ∀ u ∈ v.cells.toList, u.oneCell' = true := by
  unfold zeroC at h
  split at h
  · next i z' h1 h2 =>
    split at h
    · next v h3 =>
      split at h
      · next h4 =>
        simp only [Bool.and_eq_true, beq_iff_eq] at h4
        cases h
        have h5 := fun F w => cellsAre_sound (P := P) (F := F) (w := w) h4.1
        have := (h5 (fun _ => True) default).1.1
        exact ⟨i, v, h1, h3, h4.2, by simp at this; omega, h5⟩
      · cases h
    · cases h
  · cases h
theorem run_zeroValue {P : Program} {t : TypeId} {i : TypeInfo} {v : Value} (h : P.info? t = some i) (hz : i.zero = some v) (w : World) : (zeroValue t).run P w = .ok v w := by
  simp [zeroValue, typeInfo, h, hz]

section
variable {P : Program} {F : Nat → Prop} {H : Heap} {w : World}
theorem new_sound (hh : HRel P F H w) (e : TypeId) {cells : List AV} {us : List Value} (hu : VRL P F w cells us) (h1 : ∀ u ∈ us, u.oneCell' = true) {K : Nat → Heap → Prop} (hk : Alloc H (.box e cells) K) :
    ∃ F' H' w', (newRow e us.toArray).run P w = .ok ⟨w.heap.size, 0, none⟩ w' ∧ HRel P F' H' w' ∧ Step F H w F' H' w' ∧ K w.heap.size H' := by
  refine ⟨F, _, w.alloc (.cells us.toArray e), by simp [newRow], hh.alloc _ (.box e cells) ⟨us, ?_, ?_, h1⟩, Step.alloc _ _, hk _ (hh.fresh (Nat.le_refl _))⟩
  · exact heap_alloc_new w _
  · exact hu.mono (fun _ h => h) (fun k hk => Below.heap_alloc w _ k (hh.old k hk))

/-! ### filling cells -/
theorem foldl_set (new : List Value) : ∀ (k off : Nat) (cs : Array Value), off + k + new.length ≤ cs.size →
    ((new.zipIdx k).foldl (fun cs (p : Value × Nat) => cs.setIfInBounds (off + p.2) p.1) cs).toList = cs.toList.take (off + k) ++ new ++ cs.toList.drop (off + k + new.length) := by
  induction new with
  | nil => intro k off cs h; simp
  | cons v new ih =>
    intro k off cs h
    simp only [List.zipIdx_cons, List.foldl_cons]
    rw [ih (k + 1) off _ (by simp at h ⊢; omega)]
    simp only [Array.toList_setIfInBounds, List.length_cons] at h ⊢
    rw [show off + (k + 1) = off + k + 1 by omega, List.take_set, List.drop_set_of_lt (by omega)]
    rw [show off + k + 1 + new.length = off + k + (new.length + 1) by omega]
    simp only [List.append_assoc, List.cons_append]
    rw [List.take_succ_eq_append_getElem (by simpa using (by omega : off + k < cs.size))]
    rw [List.set_append_right _ _ (by simp; omega)]
    simp [Nat.min_eq_left (show off + k ≤ cs.size by omega)]

theorem fill_sound {place : Nat → Option (Nat × Nat)} : ∀ (parts : List (Nat × Value)) (ap : List (Nat × Nat × AV)) {cells cs : List AV} {cur : List Value},
    VRL P F w cells cur → (∀ u ∈ cur, u.oneCell' = true) → ap.length = parts.length →
    (∀ (j : Nat) q r, ap[j]? = some q → parts[j]? = some r → place r.1 = some (q.1, q.2.1) ∧ VR P F w q.2.2 r.2) → buildC cells ap = some cs →
    ∃ us : List Value, Instr.fill place cur.toArray parts = some us.toArray ∧ VRL P F w cs us ∧ (∀ u ∈ us, u.oneCell' = true)
  | [], ap, cells, cs, cur, hc, h1, hl, _, hb => by
    have : ap = [] := by simpa using hl
    subst this
    simp only [buildC, Option.some.injEq] at hb
    subst hb
    exact ⟨cur, rfl, hc, h1⟩
  | (i, v) :: parts, ap, cells, cs, cur, hc, h1, hl, hp, hb => by
    cases ap with
    | nil => simp at hl
    | cons q ap =>
      obtain ⟨off, size, x⟩ := q
      obtain ⟨hpl, hx⟩ := hp 0 _ _ rfl rfl
      simp only [buildC] at hb
      split at hb
      · next hf =>
        obtain ⟨us, e1, e2, e3, e4⟩ := cells_sound hx hf.1
        have hlen : off + us.length ≤ cur.length := by have := hf.2; rw [lenAV_eq, hc.1] at this; omega
        have hcl : (cellsAV x).length = us.length := e3.1
        have hfold := foldl_set us 0 off cur.toArray (by simpa using hlen)
        simp only [Nat.add_zero, List.toList_toArray] at hfold
        have ih := fill_sound parts ap (cur := cur.take off ++ us ++ cur.drop (off + us.length)) (hc.setSeg e3 (by rw [hcl, hc.1]; exact hlen))
          (fun u hu => by
            simp only [List.mem_append] at hu
            rcases hu with (hu | hu) | hu
            · exact h1 u (List.mem_of_mem_take hu)
            · exact e4 u hu
            · exact h1 u (List.mem_of_mem_drop hu)) (by simpa using hl) (fun j q r g1 g2 => hp (j + 1) q r (by simpa using g1) (by simpa using g2)) hb
        obtain ⟨us', f1, f2, f3⟩ := ih
        refine ⟨us', ?_, f2, f3⟩
        rw [← f1]
        simp only [Instr.fill, hpl, e1]
        rw [if_neg (by simp; omega)]
        congr 1
        apply Array.ext'
        rw [← hfold]
        simp
      · cases hb
end
end Go.Proofs.Ytlflfciebidddaa.Abs
