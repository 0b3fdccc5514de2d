/- One operation of the model does what the abstract one says: slices put together, and slices that grow. No claim stands here. -/
import Derived.Test.YtlflfciebidddaaAbs7
namespace Go.Proofs.Ytlflfciebidddaa.Abs
open Go Go.RowKit

section
variable {P : Program} {F : Nat → Prop} {H : Heap} {w : World}

theorem repeatL_get (z : List AV) : ∀ (n k : Nat), (repeatL z n)[k]? = if k < n * z.length then z[k % z.length]? else none
  | 0, k => by simp [repeatL]
  | n + 1, k => by
    rw [repeatL, List.getElem?_append]
    split
    · next h => rw [if_pos (by rw [Nat.add_mul]; omega), Nat.mod_eq_of_lt h]
    · next h =>
      have ih := repeatL_get z n (k - z.length)
      rw [ih]
      have e : (k - z.length) % z.length = k % z.length := (Nat.mod_eq_sub_mod (by omega)).symm
      rw [e]
      have : (k - z.length < n * z.length) ↔ (k < (n + 1) * z.length) := by rw [Nat.add_mul]; omega
      simp only [this]
theorem repeat_sound {z : List AV} {zv : Array Value} (hz : VRL P F w z zv.toList) (n : Nat) :
    VRL P F w (repeatL z n) ((Array.range (n * z.length)).map fun i => zv[i % zv.size]!).toList := by
  have hl : z.length = zv.size := by simpa using hz.1
  refine ⟨?_, fun j x v h1 h2 => ?_⟩
  · have h0 : (repeatL z n).length = n * z.length := by
      induction n with
      | zero => simp [repeatL]
      | succ n ih => rw [repeatL, List.length_append, ih, Nat.add_mul]; omega
    simp [h0]
  · rw [repeatL_get] at h1
    split at h1
    · next hj =>
      simp only [Array.toList_map, List.getElem?_map, Array.toList_range, List.getElem?_range hj, Option.map_some, Option.some.injEq] at h2
      refine hz.2 (j % z.length) x v h1 ?_
      have hm : j % z.length < zv.size := by rw [← hl]; exact Nat.mod_lt _ (by rcases Nat.eq_zero_or_pos z.length with h | h; · rw [h] at hj; omega
                                                                               · exact h)
      rw [← hl] at h2
      rw [← h2]
      simp [Array.getElem!_eq_getD, Array.getD, hm, hl ▸ hm]
    · cases h1

theorem cutL_len (sz : Nat) : ∀ (n : Nat) (l : List D), (cutL sz n l).length = n
  | 0, _ => rfl
  | n + 1, l => by simp [cutL, cutL_len sz n]
theorem cutL_el (sz : Nat) : ∀ (n : Nat) (l : List D), l.length = n * sz → ∀ el ∈ cutL sz n l, el.length = sz
  | 0, _, _, el, h => by simp [cutL] at h
  | n + 1, l, hl, el, h => by
    rw [Nat.add_mul, Nat.one_mul] at hl
    rcases List.mem_cons.1 h with rfl | h
    · simp; omega
    · exact cutL_el sz n _ (by simp; omega) el h
theorem cutL_get (sz : Nat) : ∀ (n : Nat) (l : List D) (i j : Nat) (el : List D) (c : D), (cutL sz n l)[i]? = some el → el[j]? = some c → l[i * sz + j]? = some c
  | 0, _, i, j, el, c, h, _ => by simp [cutL] at h
  | n + 1, l, 0, j, el, c, h, h2 => by
    simp only [cutL, List.getElem?_cons_zero, Option.some.injEq] at h
    subst h
    rw [List.getElem?_take] at h2
    split at h2
    · simpa using h2
    · cases h2
  | n + 1, l, i + 1, j, el, c, h, h2 => by
    simp only [cutL, List.getElem?_cons_succ] at h
    have := cutL_get sz n _ i j el c h h2
    rw [List.getElem?_drop] at this
    rw [← this, Nat.add_mul]
    congr 1
    omega

/-! ### a slice's elements -/
structure Elems (P : Program) (F : Nat → Prop) (w : World) (u : Value) (sz : Nat) (xs : List (List D)) : Prop where
  nil : xs = [] → ∃ a c, u = .slice a 0 c
  len : ∀ el ∈ xs, el.length = sz
  mem : xs = [] ∨ ∃ b off c, ∃ news : List Value, u = .slice (some ⟨b, off, none⟩) xs.length c ∧ news.length = xs.length * sz ∧ (∀ (j : Nat) v, news[j]? = some v → w.cell? ⟨b, off + j, none⟩ = some v) ∧
    (∀ (i j : Nat) el c v, xs[i]? = some el → el[j]? = some c → news[i * sz + j]? = some v → RD F w c v) ∧ ∀ v ∈ news, v.oneCell' = true
theorem row_lt {sz cap n i j : Nat} (hi : i < n) (hn : n ≤ cap) (hj : j < sz) : i * sz + j < cap * sz := by
  have : (i + 1) * sz ≤ cap * sz := Nat.mul_le_mul_right _ (by omega)
  rw [Nat.add_mul, Nat.one_mul] at this
  omega
theorem elems_sound (hh : HRel P F H w) {v : AV} {u : Value} (hv : VR P F w v u) {K : Nat → List (List D) → Prop} (hk : elemsW H v K) : ∃ sz xs, Elems P F w u sz xs ∧ K sz xs := by
  cases hv <;> try exact hk.elim
  case d x hx =>
    cases hx <;> try exact hk.elim
    case nil sz a cap => exact ⟨sz, [], ⟨fun _ => ⟨a, cap, rfl⟩, fun _ h => by simp at h, .inl rfl⟩, hk⟩
    case sl sz xs b off cap f hF hcap hsz hc hr =>
      refine ⟨sz, xs, ⟨fun e => by subst e; exact ⟨_, _, rfl⟩, hsz, ?_⟩, hk⟩
      rcases Nat.eq_zero_or_pos sz with h0 | h0
      · by_cases hx : xs = []
        · exact .inl hx
        · refine .inr ⟨b, off, cap, [], rfl, by simp [h0], fun j v h => by simp at h, fun i j el c v h1 h2 h3 => by simp at h3, fun v h => by simp at h⟩
      · have hget : ∀ k, k < xs.length * sz → ∃ el c, xs[k / sz]? = some el ∧ el[k % sz]? = some c := fun k hk => by
          have hi : k / sz < xs.length := (Nat.div_lt_iff_lt_mul h0).2 hk
          have hj : k % sz < (xs[k / sz]).length := by rw [hsz _ (List.getElem_mem hi)]; exact Nat.mod_lt _ h0
          exact ⟨_, _, List.getElem?_eq_getElem hi, List.getElem?_eq_getElem hj⟩
        have hdm : ∀ k, k / sz * sz + k % sz = k := fun k => by rw [Nat.mul_comm]; exact Nat.div_add_mod k sz
        refine .inr ⟨b, off, cap, (List.range (xs.length * sz)).map f, rfl, by simp, fun j v h => ?_, fun i j el c v h1 h2 h3 => ?_, fun v h => ?_⟩
        · obtain ⟨hk1, rfl⟩ := List.getElem?_eq_some_iff.1 h
          simp only [List.length_map, List.length_range] at hk1
          simp only [List.getElem_map, List.getElem_range]
          obtain ⟨el, c, e1, e2⟩ := hget _ hk1
          have := hc _ _ el c e1 e2
          rw [hdm] at this
          exact this
        · obtain ⟨hk1, rfl⟩ := List.getElem?_eq_some_iff.1 h3
          simp only [List.getElem_map, List.getElem_range]
          exact hr i j el c h1 h2
        · simp only [List.mem_map, List.mem_range] at h
          obtain ⟨k, hk1, rfl⟩ := h
          obtain ⟨el, c, e1, e2⟩ := hget _ hk1
          have := (hr _ _ el c e1 e2).one
          rw [hdm] at this
          exact this
  case nilsl sz => exact ⟨sz, [], ⟨fun _ => ⟨none, 0, rfl⟩, fun _ h => by simp at h, .inl rfl⟩, hk⟩
  case own b sz off len cap hlc =>
    simp only [elemsW] at hk
    split at hk
    · next t sz' cap' xs e =>
      obtain ⟨⟨rfl, rfl, rfl⟩, hk⟩ := hk
      obtain ⟨cur, c1, c2, c3, c4, c5, c6, c7, c8⟩ := hh.at_ _ _ e
      refine ⟨sz, xs, ⟨fun e => by subst e; exact ⟨_, _, rfl⟩, c6, .inr ⟨b, 0, cap, cur.take (xs.length * sz), by rw [Nat.zero_mul], ?_, fun j v h => ?_, fun i j el c v h1 h2 h3 => ?_, fun v h => c8 v (List.mem_of_mem_take h)⟩⟩, hk⟩
      · have : xs.length * sz ≤ cap' * sz := Nat.mul_le_mul_right _ c3
        simp; omega
      · rw [List.getElem?_take] at h
        split at h
        · simp [World.cell?, c1, h]
        · cases h
      · rw [List.getElem?_take] at h3
        split at h3
        · exact c7 i j el c v h1 h2 h3
        · cases h3
    · exact hk.elim

theorem HRel.drop (hh : HRel P F H w) (b : Nat) : HRel P F (upd H b none) w where
  at_ := fun k y hy => by
    rw [upd_get] at hy
    split at hy
    · cases hy
    · exact hh.at_ k y hy
  apart := fun k y hy => by
    rw [upd_get] at hy
    split at hy
    · cases hy
    · exact hh.apart k y hy
  old := hh.old
theorem Step.drop (b : Nat) : Step F H w F (upd H b none) w where
  os := rfl
  tape := rfl
  output := rfl
  size := Nat.le_refl _
  keep := fun _ _ _ => rfl
  dom := fun k hk => by
    rw [upd_get] at hk
    split at hk
    · exact absurd rfl hk
    · exact .inl hk
  mono := fun _ h => h
  new := fun _ h => .inl h
theorem HRel.drew (hh : HRel P F H w) : HRel P F H w.drew where
  at_ := fun k y hy => (hh.at_ k y hy).mono rfl (fun _ h => h) (fun _ _ => rfl)
  apart := hh.apart
  old := hh.old
theorem Step.drew : Step F H w F H w.drew := ⟨rfl, rfl, rfl, Nat.le_refl _, fun _ _ _ => rfl, fun _ h => .inl h, fun _ h => h, fun _ h => .inl h⟩

/-- A row that is new, after a draw. -/
theorem newRow_ok (hh : HRel P F H w) {e : TypeId} {sz cap : Nat} {xs : List (List D)} {cur : List Value} (h1 : cur.length = cap * sz) (h2 : xs.length ≤ cap) (h3 : cap ≤ maxLen) (h4 : 0 < sz) (h5 : ∀ el ∈ xs, el.length = sz)
    (h6 : ∀ (i j : Nat) el c u, xs[i]? = some el → el[j]? = some c → cur[i * sz + j]? = some u → RD F w c u) (h7 : ∀ v ∈ cur, v.oneCell' = true) :
    HRel P F (upd H w.heap.size (some (.row e sz cap xs))) (w.drew.alloc (.cells cur.toArray e)) ∧ Step F H w F (upd H w.heap.size (some (.row e sz cap xs))) (w.drew.alloc (.cells cur.toArray e)) := by
  refine ⟨hh.drew.alloc (w := w.drew) _ _ ⟨cur, heap_alloc_new w.drew _, h1, h2, h3, h4, h5, fun i j el c u g1 g2 g3 => ?_, h7⟩, Step.drew.trans (Step.alloc (w := w.drew) _ _)⟩
  exact (h6 i j el c u g1 g2 g3).mono (fun _ h => h) (fun k hk => Below.heap_alloc w.drew _ k (hh.old k hk))

theorem zeroCells_one {z : Value} (hz : ∀ u ∈ z.cells.toList, u.oneCell' = true) (hs : 0 < z.cells.size) (n : Nat) : ∀ u ∈ (Builtin.zeroCells z.cells n).toList, u.oneCell' = true := by
  intro u hu
  simp only [Builtin.zeroCells, Array.toList_map, List.mem_map] at hu
  obtain ⟨i, _, rfl⟩ := hu
  have hm : i % z.cells.size < z.cells.size := Nat.mod_lt _ hs
  refine hz _ ?_
  simp [Array.getElem!_eq_getD, Array.getD, hm]

theorem run_append_none (w : World) (t ty e : TypeId) (i : TypeInfo) (ht : P.underlying t = some (.slice e)) (hi : P.info? e = some i) (base : Option Addr) (n cap : Nat) (a : Option Addr) (c : Nat) (h : n ≤ cap) :
    (Builtin.append_ #[t, t] ty #[.slice base n cap, .slice a 0 c]).run P w = .ok (.slice base n cap) w := by
  cases a <;> cases base <;> simp [Builtin.append_, run_underlying ht, sizeOf, typeInfo, hi, Builtin.lenOf, h, Builtin.firstCells, loadCells, loadCellsFrom, storeCells]
theorem append_sound (hh : HRel P F H w) {t ty e : TypeId} {i : TypeInfo} {z : List AV} (ht : P.underlying t = some (.slice e)) (hi : P.info? e = some i) (hz : zeroC P e = some z) (hsz : i.size ≠ 0) (hby : i.bytes ≠ 0)
    {sv xv : AV} {su xu : Value} (hs : VR P F w sv su) (hx : VR P F w xv xu) {K : AV → Heap → Prop}
    (hk0 : elemsW H xv fun sz' ys => (ys = [] ∧ z.length = i.size ∧ match (generalizing := false) sv with
      | .nilsl n => K (.nilsl n) H
      | .own b n off len cap => K (.own b n off len cap) H
      | _ => False) ∨ VC (sz' = i.size ∧ ys ≠ [] ∧ z.length = i.size) (
      match (generalizing := false) sv with
      | .nilsl _ => VC (ys.length * i.bytes ≤ 140737488355328 ∧ ys.length ≤ maxLen) (Alloc H (.row e i.size 0 []) fun b _ => ∀ cap, K (.own b i.size 0 ys.length cap) (upd H b (some (.row e i.size cap ys))))
      | .own b sz'' off len cap => match (generalizing := false) H b with
        | some (.row e' sz''' cap'' xs) => VC (e' = e ∧ sz'' = i.size ∧ sz''' = i.size ∧ off = 0 ∧ cap = cap'' ∧ len = xs.length ∧ (xs.length + ys.length) * i.bytes ≤ 140737488355328 ∧ xs.length + ys.length ≤ maxLen)
            (Grow H b fun b' cap' => K (.own b' i.size 0 (len + ys.length) cap') (upd (upd H b none) b' (some (.row e i.size cap' (xs ++ ys)))))
        | _ => False
      | _ => False)) :
    ∃ v av F' H' w', (Builtin.append_ #[t, t] ty #[su, xu]).run P w = .ok v w' ∧ VR P F' w' av v ∧ HRel P F' H' w' ∧ Step F H w F' H' w' ∧ K av H' := by
  obtain ⟨sz', ys, he, hk⟩ := elems_sound hh hx hk0
  clear hk0
  rcases hk with ⟨h0, _, hk⟩ | hk
  · obtain ⟨a, c, rfl⟩ := he.nil h0
    cases hs <;> try exact hk.elim
    case nilsl n => exact ⟨_, _, F, H, w, run_append_none w t ty e i ht hi none 0 0 a c (Nat.le_refl _), .nilsl n, hh, Step.refl F H w, hk⟩
    case own b n off len cap hlc => exact ⟨_, _, F, H, w, run_append_none w t ty e i ht hi _ len cap a c hlc, .own b n off len cap hlc, hh, Step.refl F H w, hk⟩
  obtain ⟨⟨rfl, hy, hzl⟩, hk⟩ := hk
  obtain ⟨i', zv, hi', hzv, _, hzs, hzz⟩ := zeroC_sound hz
  rw [hi] at hi'; cases hi'
  obtain ⟨b0, off0, c0, news, rfl, hl, hc, hr, h1⟩ := he.mem.resolve_left hy
  have hc' : ∀ (j : Nat) v, news[j]? = some v → w.cell? ((⟨b0, off0, none⟩ : Addr).add j) = some v := fun j v h => by rw [addr_add]; exact hc j v h
  have hpos : 0 < ys.length := List.length_pos_iff.2 hy
  cases hs <;> try exact hk.elim
  case nilsl sz0 =>
    obtain ⟨⟨hb1, hb2⟩, hk⟩ := hk
    have hr0 := run_append_nil (P := P) w t ty e i zv ht hi hzv ⟨b0, off0, none⟩ ys.length c0 news hl hc' hpos (by simp only [maxLen] at hb2; omega) (by omega)
    have hge := grownCap_ge w ys.length 0 e
    have hcm := grownCap_le_maxLen w ys.length 0 e hb2
    generalize grownCap w ys.length 0 e = cap at *
    have hcur : (news.toArray ++ Builtin.zeroCells zv.cells (cap - ys.length)) = (news ++ (Builtin.zeroCells zv.cells (cap - ys.length)).toList).toArray := by simp
    rw [hcur] at hr0
    obtain ⟨g1, g2⟩ := newRow_ok (e := e) hh (sz := i.size) (cap := cap) (xs := ys) (cur := news ++ (Builtin.zeroCells zv.cells (cap - ys.length)).toList)
      (by rw [List.length_append, hl]; simp only [Array.length_toList, size_zeroCells, hzs]; rw [← Nat.add_mul]; congr 1; omega) hge hcm (by omega) he.len
      (fun a j el c u e1 e2 e3 => by
        have hlt := row_lt (sz := i.size) (List.getElem?_eq_some_iff.1 e1).1 (Nat.le_refl _) (by have := (List.getElem?_eq_some_iff.1 e2).1; rw [he.len el (List.mem_of_getElem? e1)] at this; exact this)
        rw [List.getElem?_append_left (by rw [hl]; exact hlt)] at e3
        exact hr a j el c u e1 e2 e3)
      (fun v hv => by
        rcases List.mem_append.1 hv with hv | hv
        · exact h1 v hv
        · exact zeroCells_one (hzz (fun _ => True) w).2 (by omega) _ v hv)
    refine ⟨_, _, F, _, _, hr0, ?_, g1, g2, hk _ (hh.fresh (Nat.le_refl _)) cap⟩
    have := VR.own (P := P) (F := F) (w := w.drew.alloc (.cells (news ++ (Builtin.zeroCells zv.cells (cap - ys.length)).toList).toArray e)) w.heap.size i.size 0 ys.length cap hge
    rw [Nat.zero_mul] at this
    exact this
  case own b sz0 off len cap hlc =>
    dsimp only at hk
    split at hk
    · next e' sz1 cap1 xs eH =>
      obtain ⟨⟨rfl, rfl, rfl, rfl, rfl, rfl, hb1, hb2⟩, hk⟩ := hk
      obtain ⟨cur, c1, c2, c3, c4, c5, c6, c7, c8⟩ := hh.at_ _ _ eH
      rw [Nat.zero_mul]
      have hxs : xs.length * i.size ≤ cap * i.size := Nat.mul_le_mul_right _ c3
      by_cases hroom : xs.length + ys.length ≤ cap
      · have hfit : xs.length * i.size + news.length ≤ cur.toArray.size := by
          have : (xs.length + ys.length) * i.size ≤ cap * i.size := Nat.mul_le_mul_right _ hroom
          rw [Nat.add_mul] at this
          simp; omega
        have hr0 := run_append_room (P := P) w t ty e' i ht hi b xs.length cap cur.toArray c1 ⟨b0, off0, none⟩ ys.length c0 news hl hc' h1 hroom hfit
        obtain ⟨f1, f2, f3⟩ := setRow_facts w b cur.toArray (cur.toArray.toList.take (xs.length * i.size) ++ news ++ cur.toArray.toList.drop (xs.length * i.size + news.length)).toArray e' c1
        have hupd : upd (upd H b none) b (some (.row e' i.size cap (xs ++ ys))) = upd H b (some (.row e' i.size cap (xs ++ ys))) := by
          funext k; simp only [upd_get]; split <;> rfl
        have hkeep : ∀ k, F k → (w.setRow b (cur.toArray.toList.take (xs.length * i.size) ++ news ++ cur.toArray.toList.drop (xs.length * i.size + news.length)).toArray).heap[k]? = w.heap[k]? :=
          fun k hfk => f2 k (fun e2 => by subst e2; exact hh.apart _ _ eH hfk)
        refine ⟨_, _, F, _, _, hr0, ?_, ?_, ?_, hk b cap (by simp [upd_get])⟩
        · have := VR.own (P := P) (F := F) (w := w.setRow b (cur.toArray.toList.take (xs.length * i.size) ++ news ++ cur.toArray.toList.drop (xs.length * i.size + news.length)).toArray) b i.size 0 (xs.length + ys.length) cap hroom
          rw [Nat.zero_mul] at this
          exact this
        · rw [hupd]
          refine hh.turn eH f2 f3 ⟨_, f1, ?_, ?_, c4, c5, ?_, ?_, ?_⟩
          · simp at hfit ⊢; omega
          · simpa using hroom
          · intro el hel
            rcases List.mem_append.1 hel with h | h
            · exact c6 el h
            · exact he.len el h
          · intro a j el c u e1 e2 e3
            have hj : j < i.size := by
              have := (List.getElem?_eq_some_iff.1 e2).1
              rcases List.mem_append.1 (List.mem_of_getElem? e1) with h | h
              · rw [c6 el h] at this; exact this
              · rw [he.len el h] at this; exact this
            by_cases ha : a < xs.length
            · rw [List.getElem?_append_left ha] at e1
              have hlt := row_lt (sz := i.size) ha (Nat.le_refl _) hj
              rw [List.toList_toArray, List.append_assoc, List.getElem?_append_left (by simp; omega), List.getElem?_take_of_lt hlt] at e3
              exact (c7 a j el c u e1 e2 e3).mono (fun _ h => h) hkeep
            · rw [List.getElem?_append_right (by omega)] at e1
              have hlt := row_lt (sz := i.size) (List.getElem?_eq_some_iff.1 e1).1 (Nat.le_refl _) hj
              have hsub : a * i.size = xs.length * i.size + (a - xs.length) * i.size := by rw [← Nat.add_mul]; congr 1; omega
              rw [List.toList_toArray, List.getElem?_append_left (by simp; omega), List.getElem?_append_right (by simp; omega)] at e3
              refine (hr (a - xs.length) j el c u e1 e2 ?_).mono (fun _ h => h) hkeep
              rw [← e3]; congr 1; simp; omega
          · intro u hu
            simp only [List.toList_toArray, List.mem_append] at hu
            rcases hu with (hu | hu) | hu
            · exact c8 u (List.mem_of_mem_take hu)
            · exact h1 u hu
            · exact c8 u (List.mem_of_mem_drop hu)
        · rw [hupd]
          exact Step.turn eH f2 f3 rfl rfl rfl
      · have hold : ∀ (j : Nat) v, (cur.take (xs.length * i.size))[j]? = some v → w.cell? ((⟨b, 0, none⟩ : Addr).add j) = some v := fun j v h => by
          rw [addr_add, Nat.zero_add]
          rw [List.getElem?_take] at h
          split at h
          · simp [World.cell?, c1, h]
          · cases h
        have hr0 := run_append_grow (P := P) w t ty e' i zv ht hi hzv ⟨b, 0, none⟩ xs.length cap (cur.take (xs.length * i.size)) (by simp; omega) hold ⟨b0, off0, none⟩ ys.length c0 news hl hc' (by omega)
          (by simp only [maxLen] at hb2; omega) (growslice_fits (by omega) hb1)
        have hge := grownCap_ge w (xs.length + ys.length) cap e'
        have hcm := grownCap_le_maxLen w (xs.length + ys.length) cap e' hb2
        generalize grownCap w (xs.length + ys.length) cap e' = cap' at *
        have hcur : ((cur.take (xs.length * i.size)).toArray ++ news.toArray ++ Builtin.zeroCells zv.cells (cap' - (xs.length + ys.length))) = (cur.take (xs.length * i.size) ++ news ++ (Builtin.zeroCells zv.cells (cap' - (xs.length + ys.length))).toList).toArray := by simp
        rw [hcur] at hr0
        have hh' := hh.drop b
        have hfr : upd H b none w.heap.size = none := by
          rw [upd_get]; split
          · rfl
          · exact hh.fresh (Nat.le_refl _)
        obtain ⟨g1, g2⟩ := newRow_ok (e := e') hh' (sz := i.size) (cap := cap') (xs := xs ++ ys) (cur := cur.take (xs.length * i.size) ++ news ++ (Builtin.zeroCells zv.cells (cap' - (xs.length + ys.length))).toList)
          (by
            simp only [List.length_append, List.length_take, hl, Array.length_toList, size_zeroCells, hzs]
            rw [Nat.min_eq_left (by omega), ← Nat.add_mul, ← Nat.add_mul]; congr 1; omega)
          (by simpa using hge) hcm (by omega)
          (fun el hel => by
            rcases List.mem_append.1 hel with h | h
            · exact c6 el h
            · exact he.len el h)
          (fun a j el c u e1 e2 e3 => by
            have hj : j < i.size := by
              have := (List.getElem?_eq_some_iff.1 e2).1
              rcases List.mem_append.1 (List.mem_of_getElem? e1) with h | h
              · rw [c6 el h] at this; exact this
              · rw [he.len el h] at this; exact this
            by_cases ha : a < xs.length
            · rw [List.getElem?_append_left ha] at e1
              have hlt := row_lt (sz := i.size) ha (Nat.le_refl _) hj
              rw [List.append_assoc, List.getElem?_append_left (by simp; omega), List.getElem?_take_of_lt hlt] at e3
              exact c7 a j el c u e1 e2 e3
            · rw [List.getElem?_append_right (by omega)] at e1
              have hlt := row_lt (sz := i.size) (List.getElem?_eq_some_iff.1 e1).1 (Nat.le_refl _) hj
              have hsub : a * i.size = xs.length * i.size + (a - xs.length) * i.size := by rw [← Nat.add_mul]; congr 1; omega
              rw [List.getElem?_append_left (by simp; omega), List.getElem?_append_right (by simp; omega)] at e3
              refine hr (a - xs.length) j el c u e1 e2 ?_
              rw [← e3]; congr 1; simp; omega)
          (fun v hv => by
            simp only [List.mem_append] at hv
            rcases hv with (hv | hv) | hv
            · exact c8 v (List.mem_of_mem_take hv)
            · exact h1 v hv
            · exact zeroCells_one (hzz (fun _ => True) w).2 (by omega) _ v hv)
        refine ⟨_, _, F, _, _, hr0, ?_, g1, (Step.drop b).trans g2, hk _ cap' hfr⟩
        have := VR.own (P := P) (F := F) (w := w.drew.alloc (.cells (cur.take (xs.length * i.size) ++ news ++ (Builtin.zeroCells zv.cells (cap' - (xs.length + ys.length))).toList).toArray e')) w.heap.size i.size 0 (xs.length + ys.length) cap' hge
        rw [Nat.zero_mul] at this
        exact this
    · exact hk.elim
end
end Go.Proofs.Ytlflfciebidddaa.Abs
