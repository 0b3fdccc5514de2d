/- One operation of the model does what the abstract one says: what is stored, made, appended. No claim stands here. -/
import Derived.Test.YtlflfciebidddaaAbs5
import Derived.Laws.AppendOwn
namespace Go.Proofs.Ytlflfciebidddaa.Abs
open Go Go.RowKit

theorem cells_one {v : Value} (h : v.oneCell' = true) : v.cells = #[v] := by cases v <;> first | rfl | cases h
theorem okCell_one {P : Program} {F : Nat → Prop} {w : World} {x : AV} {v : Value} (hv : VR P F w x v) (h : okCell x = true) : v.oneCell' = true := by
  cases hv <;> first | rfl | cases h | skip
  next x hx => exact hx.one
theorem cells_sound {P : Program} {F : Nat → Prop} {w : World} {x : AV} {v : Value} {n : Nat} (hv : VR P F w x v) (h : fits n x = true) :
    ∃ us : List Value, v.cells = us.toArray ∧ us.length = n ∧ VRL P F w (cellsAV x) us ∧ ∀ u ∈ us, u.oneCell' = true := by
  cases hv
  case agg xs cs hl h1 h2 =>
    simp only [fits, lenAV_eq, beq_iff_eq] at h
    exact ⟨cs, rfl, by omega, ⟨hl, h1⟩, h2⟩
  case tup => simp [fits, okCell] at h
  case void => simp [fits, okCell] at h
  case undef => simp [fits, okCell] at h
  case d y hy =>
    simp only [fits, Bool.and_eq_true, beq_iff_eq] at h
    exact ⟨[v], cells_one hy.one, by simp [h.1], VRL.cons (.d _ _ hy) VRL.nil, by simpa using hy.one⟩
  all_goals
    simp only [fits, Bool.and_eq_true, beq_iff_eq] at h
    refine ⟨[_], rfl, by simp [h.1], VRL.cons ?_ VRL.nil, by simp [Value.oneCell']⟩
    first | exact .nilp | exact .nilsl _ | exact .nilfn | exact .ptr _ _ | exact .eptr _ _ _ _ | exact .own _ _ _ _ _ (by assumption) | (constructor <;> assumption)

theorem setSeg_eq : ∀ (cs : List AV) (off : Nat) (ns : List AV), off + ns.length ≤ cs.length → setSeg cs off ns = cs.take off ++ ns ++ cs.drop (off + ns.length)
  | [], off, ns, h => by
    simp at h
    obtain ⟨rfl, rfl⟩ := h
    simp [setSeg]
  | c :: cs, 0, [], _ => by simp [setSeg]
  | c :: cs, 0, n :: ns, h => by
    have := setSeg_eq cs 0 ns (by simpa using h)
    simp only [setSeg, this]
    simp
  | c :: cs, k + 1, ns, h => by
    have := setSeg_eq cs k ns (by simp at h; omega)
    simp only [setSeg, this]
    simp [Nat.add_right_comm]
theorem setSegD_eq : ∀ (cs : List D) (off : Nat) (ns : List D), off + ns.length ≤ cs.length → setSegD cs off ns = cs.take off ++ ns ++ cs.drop (off + ns.length)
  | [], off, ns, h => by
    simp at h
    obtain ⟨rfl, rfl⟩ := h
    simp [setSegD]
  | c :: cs, 0, [], _ => by simp [setSegD]
  | c :: cs, 0, n :: ns, h => by
    have := setSegD_eq cs 0 ns (by simpa using h)
    simp only [setSegD, this]
    simp
  | c :: cs, k + 1, ns, h => by
    have := setSegD_eq cs k ns (by simp at h; omega)
    simp only [setSegD, this]
    simp [Nat.add_right_comm]

section
variable {P : Program} {F : Nat → Prop} {H : Heap} {w : World}
theorem VRL.take {xs : List AV} {cs : List Value} (h : VRL P F w xs cs) (n : Nat) : VRL P F w (xs.take n) (cs.take n) :=
  ⟨by simp [h.1], fun j x v h1 h2 => by
    simp only [List.getElem?_take] at h1 h2
    split at h1
    · next hj => rw [if_pos hj] at h2; exact h.2 j x v h1 h2
    · cases h1⟩
theorem VRL.drop {xs : List AV} {cs : List Value} (h : VRL P F w xs cs) (n : Nat) : VRL P F w (xs.drop n) (cs.drop n) :=
  ⟨by simp [h.1], fun j x v h1 h2 => by simp only [List.getElem?_drop] at h1 h2; exact h.2 _ x v h1 h2⟩
theorem VRL.setSeg {xs ns : List AV} {cs us : List Value} (h : VRL P F w xs cs) (hn : VRL P F w ns us) {off : Nat} (hl : off + ns.length ≤ xs.length) :
    VRL P F w (setSeg xs off ns) (cs.take off ++ us ++ cs.drop (off + us.length)) := by
  rw [setSeg_eq _ _ _ hl, hn.1]
  exact ((h.take off).append hn).append (h.drop _)

theorem setRow_facts (w : World) (b : Nat) (cur new : Array Value) (t : TypeId) (hb : w.heap[b]? = some (.cells cur t (0, 0))) :
    (w.setRow b new).heap[b]? = some (.cells new t (0, 0)) ∧ (∀ k, k ≠ b → (w.setRow b new).heap[k]? = w.heap[k]?) ∧ (w.setRow b new).heap.size = w.heap.size :=
  ⟨setRow_heap w b cur new t (0, 0) hb, fun k hk => setRow_other w b k new hk, by simp [World.setRow]⟩

/-! ### data out of cells -/
theorem frz_sound (hh : HRel P F H w) {v : AV} {u : Value} (hv : VR P F w v u) {K : D → Heap → Prop} (hk : frz H v K) :
    ∃ x F' H', RD F' w x u ∧ HRel P F' H' w ∧ Step F H w F' H' w ∧ K x H' := by
  cases hv <;> try exact hk.elim
  case d x hx => exact ⟨x, F, H, hx, hh, Step.refl _ _ _, hk⟩
  case nilsl sz => exact ⟨_, F, H, .nil sz none 0, hh, Step.refl _ _ _, hk⟩
  case own b sz off len cap hlc =>
    simp only [frz] at hk
    split at hk
    · next t sz' cap' xs e =>
      obtain ⟨⟨rfl, rfl, rfl⟩, hk⟩ := hk
      refine ⟨_, _, _, ?_, hh.freeze e, Step.freeze e, hk⟩
      rw [Nat.zero_mul]
      exact (hh.at_ _ _ e).read (fun _ h => .inl h) (.inr rfl) cap hlc
    · exact hk.elim
theorem frzL_sound : ∀ (l : List AV) {F : Nat → Prop} {H : Heap} {us : List Value} {K : List D → Heap → Prop}, HRel P F H w → VRL P F w l us → frzL H l K →
    ∃ ds F' H', ds.length = us.length ∧ (∀ (j : Nat) c u, ds[j]? = some c → us[j]? = some u → RD F' w c u) ∧ HRel P F' H' w ∧ Step F H w F' H' w ∧ K ds H'
  | [], F, H, us, K, hh, hv, hk => by
    obtain rfl := hv.unnil
    exact ⟨[], F, H, rfl, fun j c u h _ => by simp at h, hh, Step.refl _ _ _, hk⟩
  | x :: l, F, H, us, K, hh, hv, hk => by
    obtain ⟨u, us, rfl, hx, hl⟩ := hv.uncons
    obtain ⟨d, F1, H1, r1, h1, s1, hk1⟩ := frz_sound hh hx hk
    obtain ⟨ds, F2, H2, e2, r2, h2, s2, hk2⟩ := frzL_sound l h1 (hl.mono s1.mono (fun _ _ => rfl)) hk1
    refine ⟨d :: ds, F2, H2, by simp [e2], fun j c v e3 e4 => ?_, h2, s1.trans s2, hk2⟩
    cases j with
    | zero => simp at e3 e4; subst e3; subst e4; exact r1.mono s2.mono (fun _ _ => rfl)
    | succ j => exact r2 j c v (by simpa using e3) (by simpa using e4)

/-! ### a store -/
theorem run_storeVar {t : TypeId} {i : TypeInfo} (hi : P.info? t = some i) {v : Value} {us : List Value} (hv : v.cells = us.toArray) (hl : us.length = i.size) (h1 : ∀ u ∈ us, u.oneCell' = true)
    {b off : Nat} {cur : Array Value} {t' : TypeId} (hb : w.heap[b]? = some (.cells cur t' (0, 0))) (hr : off + us.length ≤ cur.size) :
    (Instr.storeAt t (.pointer (some ⟨b, off, none⟩)) v).run P w = .ok () (w.setRow b (cur.toList.take off ++ us ++ cur.toList.drop (off + us.length)).toArray) := by
  have hst := run_storeCells_at P b off t' us 0 cur w hb (by simpa using hr) h1
  simp only [Nat.add_zero] at hst
  simp [Instr.storeAt, Instr.sureAddr, storeVar, hv, run_sizeOf hi, hl, hst]

theorem store_sound (hh : HRel P F H w) {t : TypeId} {i : TypeInfo} (hi : P.info? t = some i) {p v : AV} {pv vv : Value} (hp : VR P F w p pv) (hv : VR P F w v vv) {K : Heap → Prop} (hk : storeW i.size p v H K) :
    ∃ F' H' w', (Instr.storeAt t pv vv).run P w = .ok () w' ∧ HRel P F' H' w' ∧ Step F H w F' H' w' ∧ K H' := by
  obtain ⟨hf, hk⟩ := hk
  obtain ⟨us, hc, hl, hus, h1⟩ := cells_sound hv hf
  have hlen : (cellsAV v).length = i.size := by rw [hus.1, hl]
  cases hp <;> try exact hk.elim
  case ptr b off =>
    dsimp only at hk
    split at hk
    · next t' cells e =>
      obtain ⟨hb, hk⟩ := hk
      rw [lenAV_eq] at hb
      obtain ⟨cur, c1, c2, c3⟩ := hh.at_ _ _ e
      have hr := run_storeVar hi hc hl h1 (b := b) (off := off) c1 (by have := c2.1; simp; omega)
      obtain ⟨f1, f2, f3⟩ := setRow_facts w b cur.toArray (cur.toArray.toList.take off ++ us ++ cur.toArray.toList.drop (off + us.length)).toArray t' c1
      refine ⟨F, _, _, hr, hh.turn (x := .box t' (setSeg cells off (cellsAV v))) e f2 f3 ⟨_, f1, ?_, ?_⟩, Step.turn e f2 f3 rfl rfl rfl, hk⟩
      · exact (c2.setSeg hus (by omega)).mono (fun _ h => h) (fun k hfk => f2 k (fun e2 => by subst e2; exact hh.apart _ _ e hfk))
      · intro u hu
        simp only [List.mem_append] at hu
        rcases hu with (hu | hu) | hu
        · exact c3 u (List.mem_of_mem_take hu)
        · exact h1 u hu
        · exact c3 u (List.mem_of_mem_drop hu)
    · exact hk.elim
  case eptr b sz ix j =>
    dsimp only at hk
    obtain ⟨ds, F1, H1, e1, r1, h1', s1, hk⟩ := frzL_sound _ hh hus hk
    split at hk
    · next t' sz' cap xs e =>
      obtain ⟨rfl, _, el, he, hb, hk⟩ := hk
      obtain ⟨cur, c1, c2, c3, c4, c5, c6, c7, c8⟩ := h1'.at_ _ _ e
      simp only [Int.toNat_natCast] at he hk
      have hx : ix < xs.length := (List.getElem?_eq_some_iff.1 he).1
      have hel := c6 el (List.mem_of_getElem? he)
      have hm : (ix + 1) * sz ≤ cap * sz := Nat.mul_le_mul_right _ (by omega)
      rw [Nat.add_mul, Nat.one_mul] at hm
      have hr := run_storeVar hi hc hl h1 (b := b) (off := ix * sz + j) c1 (by simp; omega)
      obtain ⟨f1, f2, f3⟩ := setRow_facts w b cur.toArray (cur.toArray.toList.take (ix * sz + j) ++ us ++ cur.toArray.toList.drop (ix * sz + j + us.length)).toArray t' c1
      refine ⟨F1, _, _, hr, h1'.turn (x := .row t' sz cap (xs.set ix (setSegD el j ds))) e f2 f3 ⟨_, f1, ?_, ?_, c4, c5, ?_, ?_, ?_⟩, s1.trans (Step.turn e f2 f3 rfl rfl rfl), hk⟩
      · simp; omega
      · simpa using c3
      · intro el' hel'
        rcases List.mem_or_eq_of_mem_set hel' with h | rfl
        · exact c6 _ h
        · rw [setSegD_eq _ _ _ (by omega)]; simp; omega
      · intro i' j' el' c u g1 g2 g3
        have hj' : j' < sz := by
          have := (List.getElem?_eq_some_iff.1 g2).1
          rcases List.mem_or_eq_of_mem_set (List.mem_of_getElem? g1) with h | rfl
          · rw [c6 _ h] at this; exact this
          · rw [setSegD_eq _ _ _ (by omega)] at this; simp at this; omega
        have hi' : i' < xs.length := by have := (List.getElem?_eq_some_iff.1 g1).1; simpa using this
        have hkeep : ∀ k, F1 k → (w.setRow b (cur.toArray.toList.take (ix * sz + j) ++ us ++ cur.toArray.toList.drop (ix * sz + j + us.length)).toArray).heap[k]? = w.heap[k]? :=
          fun k hfk => f2 k (fun e2 => by subst e2; exact h1'.apart _ _ e hfk)
        by_cases hii : i' = ix
        · subst hii
          rw [List.getElem?_set_self hi', Option.some.injEq] at g1
          subst g1
          rw [setSegD_eq _ _ _ (by omega)] at g2
          by_cases ha : j' < j
          · rw [List.append_assoc, List.getElem?_append_left (by simp; omega), List.getElem?_take_of_lt ha] at g2
            rw [List.toList_toArray, List.append_assoc, List.getElem?_append_left (by simp; omega), List.getElem?_take_of_lt (by omega)] at g3
            exact (c7 _ _ _ _ _ he g2 g3).mono (fun _ h => h) hkeep
          · by_cases hb2 : j' < j + us.length
            · rw [List.getElem?_append_left (by simp; omega), List.getElem?_append_right (by simp; omega)] at g2
              rw [List.toList_toArray, List.getElem?_append_left (by simp; omega), List.getElem?_append_right (by simp; omega)] at g3
              refine (r1 (j' - j) c u ?_ ?_).mono (fun _ h => h) hkeep
              · rw [← g2]; congr 1; simp; omega
              · rw [← g3]; congr 1; simp; omega
            · rw [List.getElem?_append_right (by simp; omega), List.getElem?_drop] at g2
              rw [List.toList_toArray, List.getElem?_append_right (by simp; omega), List.getElem?_drop] at g3
              refine (c7 i' j' el c u he ?_ ?_).mono (fun _ h => h) hkeep
              · rw [← g2]; congr 1; simp; omega
              · rw [← g3]; congr 1; simp; omega
        · rw [List.getElem?_set_ne (fun e => hii e.symm)] at g1
          have hout : i' * sz + j' < ix * sz + j ∨ ix * sz + j + us.length ≤ i' * sz + j' := by
            rcases Nat.lt_or_gt_of_ne hii with h | h
            · left
              have : (i' + 1) * sz ≤ ix * sz := Nat.mul_le_mul_right _ (by omega)
              rw [Nat.add_mul, Nat.one_mul] at this; omega
            · right
              have : (ix + 1) * sz ≤ i' * sz := Nat.mul_le_mul_right _ (by omega)
              rw [Nat.add_mul, Nat.one_mul] at this; omega
          refine (c7 i' j' el' c u g1 g2 ?_).mono (fun _ h => h) hkeep
          rw [← g3, List.toList_toArray]
          rcases hout with ho | ho
          · rw [List.append_assoc, List.getElem?_append_left (by simp; omega), List.getElem?_take_of_lt ho]
          · rw [List.getElem?_append_right (by simp; omega), List.getElem?_drop]; congr 1; simp; omega
      · intro u hu
        simp only [List.toList_toArray, List.mem_append] at hu
        rcases hu with (hu | hu) | hu
        · exact c8 u (List.mem_of_mem_take hu)
        · exact h1 u hu
        · exact c8 u (List.mem_of_mem_drop hu)
    · exact hk.elim
end
end Go.Proofs.Ytlflfciebidddaa.Abs
