/- Each operation of the model that has a translation does what the abstract one says. No claim stands here. -/
import Derived.Test.YtlflfciebidddaaAbs9
import Derived.Laws.MakeOwn
namespace Go.Proofs.Ytlflfciebidddaa.Abs
open Go Go.RowKit

section
variable {P : Program} {F : Nat → Prop} {H : Heap} {w : World}

/-! ### structs and slices put together -/
theorem run_places (fs : List Field) (h : fs.all (fun f => (P.info? f.type).isSome) = true) (w : World) :
    (fs.mapM fun f => do pure (f.offset, ← sizeOf f.type) : Sem (List (Nat × Nat))).run P w = .ok (fs.map fun f => (f.offset, P.cellsOf f.type)) w := by
  induction fs with
  | nil => simp
  | cons f fs ih =>
    simp only [List.all_cons, Bool.and_eq_true] at h
    obtain ⟨i, hi⟩ := Option.isSome_iff_exists.1 h.1
    simp only [List.mapM_cons, Sem.run_bind, run_sizeOf hi, Result.andThen_ok, Sem.run_pure, ih h.2, List.map_cons, Program.cellsOf, hi, Option.map_some, Option.getD_some]
theorem run_placesA (fs : Array Field) (h : fs.toList.all (fun f => (P.info? f.type).isSome) = true) (w : World) :
    (fs.mapM fun f => do pure (f.offset, ← sizeOf f.type) : Sem (Array (Nat × Nat))).run P w = .ok (fs.map fun f => (f.offset, P.cellsOf f.type)) w := by
  have e := Array.toList_mapM (m := Sem) (xs := fs) (f := fun f => do pure (f.offset, ← sizeOf f.type))
  have h2 := run_places (P := P) fs.toList h w
  rw [← e] at h2
  simp only [Sem.run_map] at h2
  cases hx : (fs.mapM fun f => do pure (f.offset, ← sizeOf f.type) : Sem (Array (Nat × Nat))).run P w with
  | halt x w2 => rw [hx] at h2; simp [Result.andThen] at h2
  | ok arr w2 =>
    rw [hx] at h2
    simp only [Result.andThen_ok, Result.ok.injEq] at h2
    obtain ⟨h3, rfl⟩ := h2
    congr 1
    apply Array.ext'
    simpa using h3

theorem partsC_sound {s : St} {a : Act} (ht : ∀ t, VR P F w (s.t t) (a.tmps.getD t undef)) {fs : Array Field} : ∀ {parts : List (Nat × Operand)} {l : List (Nat × Nat × Opd)}, partsC P fs parts = some l →
    (evP s.t l).length = parts.length ∧ ∀ (j : Nat) q r, (evP s.t l)[j]? = some q → (parts.map fun p => (p.1, a.eval p.2))[j]? = some r →
      (fs.map fun f => (f.offset, P.cellsOf f.type))[r.1]? = some (q.1, q.2.1) ∧ VR P F w q.2.2 r.2
  | [], l, h => by
    simp only [partsC, Option.some.injEq] at h
    subst h
    exact ⟨rfl, fun j q r h => by simp [evP] at h⟩
  | (i, x) :: parts, l, h => by
    simp only [partsC] at h
    split at h
    · next f l' hf hl' =>
      cases h
      obtain ⟨e1, e2⟩ := partsC_sound ht hl'
      refine ⟨by simp [evP, e1], fun j q r g1 g2 => ?_⟩
      cases j with
      | zero =>
        simp only [evP, List.getElem?_cons_zero, Option.some.injEq, List.map_cons] at g1 g2
        subst g1; subst g2
        exact ⟨by simp [hf], ev_sound ht x⟩
      | succ j => exact e2 j q r (by simpa [evP] using g1) (by simpa using g2)
    · cases h

theorem evP_pair {t : TM} (sz : Nat) : ∀ (parts : List (Nat × Opd)), evP t (parts.map fun p => (p.1 * sz, sz, p.2)) = evQ t sz parts
  | [] => rfl
  | (i, x) :: r => by simp [evP, evQ, evP_pair sz r]
theorem evQ_sound {s : St} {a : Act} (ht : ∀ t, VR P F w (s.t t) (a.tmps.getD t undef)) (sz : Nat) : ∀ (parts : List (Nat × Operand)),
    (evQ s.t sz (parts.map fun p => (p.1, opdC P p.2))).length = parts.length ∧
    ∀ (j : Nat) q r, (evQ s.t sz (parts.map fun p => (p.1, opdC P p.2)))[j]? = some q → (parts.map fun p => (p.1, a.eval p.2))[j]? = some r →
      some (r.1 * sz, sz) = some (q.1, q.2.1) ∧ VR P F w q.2.2 r.2
  | [] => ⟨rfl, fun j q r h => by simp [evQ] at h⟩
  | (i, x) :: parts => by
    obtain ⟨e1, e2⟩ := evQ_sound ht sz parts
    refine ⟨by simp [evQ, e1], fun j q r g1 g2 => ?_⟩
    cases j with
    | zero =>
      simp only [evQ, List.map_cons, List.getElem?_cons_zero, Option.some.injEq] at g1 g2
      subst g1; subst g2
      exact ⟨rfl, ev_sound ht x⟩
    | succ j => exact e2 j q r (by simpa [evQ] using g1) (by simpa using g2)

theorem build_struct {s : St} {a : Act} (ht : ∀ t, VR P F w (s.t t) (a.tmps.getD t undef)) {t : TypeId} {fs : Array Field} {z : List AV} {parts : Array (Nat × Operand)} {l : List (Nat × Nat × Opd)}
    (hu : P.underlying t = some (.struct fs)) (hz : zeroC P t = some z) (ha : fs.toList.all (fun f => (P.info? f.type).isSome) = true) (hl : partsC P fs parts.toList = some l) {cs : List AV} (hb : buildC z (evP s.t l) = some cs) :
    ∃ us : List Value, (Instr.build t (parts.map fun (i, x) => (i, a.eval x))).run P w = .ok (.agg us.toArray) w ∧ VR P F w (.agg cs) (.agg us.toArray) := by
  obtain ⟨i, zv, hi, hzv, h3, h4, h5⟩ := zeroC_sound hz
  obtain ⟨e1, e2⟩ := partsC_sound (F := F) (w := w) ht hl
  obtain ⟨us, f1, f2, f3⟩ := fill_sound (P := P) (F := F) (w := w) (place := ((fs.map fun f => (f.offset, P.cellsOf f.type))[·]?)) (parts.toList.map fun p => (p.1, a.eval p.2)) (evP s.t l) (h5 F w).1 (h5 F w).2 (by simpa using e1) e2 hb
  refine ⟨us, ?_, .agg _ _ f2.1 f2.2 f3⟩
  have hp := run_placesA (P := P) fs ha w
  simp only [Instr.build, Sem.run_bind, run_zeroValue hi hzv, Result.andThen_ok, run_underlying hu, Sem.run_pure, hp]
  have f1' : Instr.fill ((fs.map fun f => (f.offset, P.cellsOf f.type))[·]?) zv.cells (parts.map fun (i, x) => (i, a.eval x)).toList = some us.toArray := by
    rw [← f1]; congr 1; simp
  rw [f1']
  rfl
theorem build_array {s : St} {a : Act} (ht : ∀ t, VR P F w (s.t t) (a.tmps.getD t undef)) {t e : TypeId} {n : Nat} {j : TypeInfo} {z : List AV} {parts : Array (Nat × Operand)}
    (hu : P.underlying t = some (.array n e)) (hz : zeroC P t = some z) (hj : P.info? e = some j) {cs : List AV} (hb : buildC z (evQ s.t j.size (parts.toList.map fun p => (p.1, opdC P p.2))) = some cs) :
    ∃ us : List Value, (Instr.build t (parts.map fun (i, x) => (i, a.eval x))).run P w = .ok (.agg us.toArray) w ∧ VR P F w (.agg cs) (.agg us.toArray) := by
  obtain ⟨i, zv, hi, hzv, h3, h4, h5⟩ := zeroC_sound hz
  obtain ⟨e1, e2⟩ := evQ_sound (P := P) (F := F) (w := w) ht j.size parts.toList
  obtain ⟨us, f1, f2, f3⟩ := fill_sound (P := P) (F := F) (w := w) (place := fun i => some (i * j.size, j.size)) (parts.toList.map fun p => (p.1, a.eval p.2)) _ (h5 F w).1 (h5 F w).2 (by simpa using e1) e2 hb
  refine ⟨us, ?_, .agg _ _ f2.1 f2.2 f3⟩
  simp only [Instr.build, Sem.run_bind, run_zeroValue hi hzv, Result.andThen_ok, run_underlying hu, Sem.run_pure, run_sizeOf hj]
  have f1' : Instr.fill (fun i => some (i * j.size, j.size)) zv.cells (parts.map fun (i, x) => (i, a.eval x)).toList = some us.toArray := by
    rw [← f1]; congr 1; simp
  rw [f1']
  rfl
theorem buildSlice_sound {s : St} {a : Act} (hh : HRel P F H w) (ht : ∀ t, VR P F w (s.t t) (a.tmps.getD t undef)) {t e : TypeId} {len : Nat} {j : TypeInfo} {z : List AV} {parts : Array (Nat × Operand)}
    (hu : P.underlying t = some (.slice e)) (hz : zeroC P e = some z) (hj : P.info? e = some j) (h0 : j.size ≠ 0) (hlen : len * j.size ≤ 1000) {K : AV → Heap → Prop}
    (hk : match (generalizing := false) buildC (repeatL z len) (evQ s.t j.size (parts.toList.map fun p => (p.1, opdC P p.2))) with
      | some cs => frzL H cs fun ds H' => Alloc H' (.row e j.size len (cutL j.size len ds)) fun b H'' => K (.own b j.size 0 len len) H''
      | none => False) :
    ∃ v av F' H' w', (Instr.buildSlice t len (parts.map fun (i, x) => (i, a.eval x))).run P w = .ok v w' ∧ VR P F' w' av v ∧ HRel P F' H' w' ∧ Step F H w F' H' w' ∧ K av H' := by
  obtain ⟨i, zv, hi, hzv, h3, h4, h5⟩ := zeroC_sound hz
  rw [hj] at hi; cases hi
  split at hk
  · next cs hb =>
    obtain ⟨e1, e2⟩ := evQ_sound (P := P) (F := F) (w := w) ht j.size parts.toList
    have hrep := repeat_sound (P := P) (F := F) (w := w) (h5 F w).1 len
    have hone : ∀ u ∈ ((Array.range (len * z.length)).map fun i => zv.cells[i % zv.cells.size]!).toList, u.oneCell' = true := by
      intro u hu
      simp only [Array.toList_map, List.mem_map] at hu
      obtain ⟨k, _, rfl⟩ := hu
      have hm : k % zv.cells.size < zv.cells.size := Nat.mod_lt _ (by omega)
      refine (h5 F w).2 _ ?_
      simp [hm]
    obtain ⟨us, f1, f2, f3⟩ := fill_sound (P := P) (F := F) (w := w) (place := fun i => some (i * j.size, j.size)) (parts.toList.map fun p => (p.1, a.eval p.2)) _ hrep hone (by simpa using e1) e2 hb
    obtain ⟨ds, F1, H1, g1, g2, g3, g4, hk⟩ := frzL_sound cs hh f2 hk
    have hbl : ∀ (cells cs : List AV) (ap : List (Nat × Nat × AV)), buildC cells ap = some cs → cs.length = cells.length := by
      intro cells cs ap
      induction ap generalizing cells with
      | nil => intro h; simp only [buildC, Option.some.injEq] at h; rw [h]
      | cons q ap ih =>
        obtain ⟨off, size, x⟩ := q
        intro h
        simp only [buildC] at h
        split at h
        · next hf =>
          rw [ih _ h]
          have hc : (cellsAV x).length = size := by
            have := hf.1
            cases x <;> simp_all [fits, lenAV_eq, cellsAV]
          rw [setSeg_eq _ _ _ (by rw [hc]; have := hf.2; rw [lenAV_eq] at this; exact this)]
          have := hf.2; rw [lenAV_eq] at this
          simp; omega
        · cases h
    have hul : us.length = len * j.size := by
      rw [← f2.1, hbl _ _ _ hb, hrep.1]; simp [h3]
    have hds : ds.length = len * j.size := by rw [g1, hul]
    have hrun : (Instr.buildSlice t len (parts.map fun (i, x) => (i, a.eval x))).run P w = .ok (.slice (some ⟨w.heap.size, 0, none⟩) len len) (w.alloc (.cells us.toArray e)) := by
      have hbig : ¬ (16777216 < len * j.size) := by omega
      by_cases hz0 : len * j.size = 0
      · have hlen0 : len = 0 := by rcases Nat.mul_eq_zero.1 hz0 with h | h; · exact h
                                   · exact absurd h h0
        subst hlen0
        have f1' : Instr.fill (fun i => some (i * j.size, j.size)) #[] (parts.map fun (i, x) => (i, a.eval x)).toList = some us.toArray := by
          rw [← f1]; congr 1 <;> simp
        have hr : ∀ g : Nat → Value, (Array.range 0).map g = #[] := fun g => by simp
        simp only [Instr.buildSlice, Sem.run_bind, run_underlying hu, Result.andThen_ok, run_sizeOf hj]
        rw [if_neg (by omega)]
        simp only [Sem.run_bind, Result.andThen_ok, hz0, if_true, Sem.run_pure, hr]
        have f1'' : Instr.fill (fun i => some (i * j.size, j.size)) #[] (parts.map fun x => (x.fst, a.eval x.snd)).toList = some us.toArray := f1'
        rw [f1'']
        simp [newRow]
      · have f1' : Instr.fill (fun i => some (i * j.size, j.size)) ((Array.range (len * j.size)).map fun i => zv.cells[i % zv.cells.size]!) (parts.map fun (i, x) => (i, a.eval x)).toList = some us.toArray := by
          rw [Array.toArray_toList, h3] at f1
          rw [← f1]; congr 1; simp
        simp only [Instr.buildSlice, Sem.run_bind, run_underlying hu, Result.andThen_ok, run_sizeOf hj]
        rw [if_neg (by omega)]
        simp only [Sem.run_bind, Result.andThen_ok, hz0, if_false, run_zeroValue hj hzv, Sem.run_pure]
        rw [f1']
        simp [newRow]
    have hnew := g3.alloc (.cells us.toArray e) (.row e j.size len (cutL j.size len ds)) ⟨us, heap_alloc_new w _, hul, by rw [cutL_len]; exact Nat.le_refl _, by simp only [maxLen]; have : len ≤ len * j.size := Nat.le_mul_of_pos_right _ (by omega); omega, by omega,
      cutL_el _ _ _ hds, fun i' j' el c u q1 q2 q3 => (g2 _ _ _ (cutL_get _ _ _ _ _ _ _ q1 q2) q3).mono (fun _ h => h) (fun k hk => Below.heap_alloc w _ k (g3.old k hk)), f3⟩
    refine ⟨_, _, F1, _, _, hrun, ?_, hnew, g4.trans (Step.alloc _ _), hk _ (g3.fresh (Nat.le_refl _))⟩
    have := VR.own (P := P) (F := F1) (w := w.alloc (.cells us.toArray e)) w.heap.size j.size 0 len len (Nat.le_refl _)
    rw [Nat.zero_mul] at this
    exact this
  · exact hk.elim

/-! ### slices made of zeros -/
theorem toDL_frz0 {H : Heap} {K : List D → Heap → Prop} : ∀ {l : List AV} {ds : List D}, toDL l = some ds → K ds H → frzL H l K
  | [], ds, h, hk => by
    simp only [toDL, Option.some.injEq] at h
    subst h
    exact hk
  | v :: l, ds, h, hk => by
    cases v <;> simp only [toDL, reduceCtorEq] at h
    case d x =>
      split at h
      · next ds' e =>
        cases h
        exact toDL_frz0 (K := fun xs H'' => K (_ :: xs) H'') e hk
      · cases h
    case nilsl sz =>
      split at h
      · next ds' e =>
        cases h
        exact toDL_frz0 (K := fun xs H'' => K (_ :: xs) H'') e hk
      · cases h
theorem toDL_app : ∀ {a b : List AV} {x y : List D}, toDL a = some x → toDL b = some y → toDL (a ++ b) = some (x ++ y)
  | [], b, x, y, h, k => by
    simp only [toDL, Option.some.injEq] at h
    subst h
    exact k
  | v :: a, b, x, y, h, k => by
    cases v <;> simp only [toDL, reduceCtorEq] at h
    case d q =>
      split at h
      · next ds e =>
        cases h
        simp only [List.cons_append, toDL, toDL_app e k]
      · cases h
    case nilsl sz =>
      split at h
      · next ds e =>
        cases h
        simp only [List.cons_append, toDL, toDL_app e k]
      · cases h
theorem toDL_length : ∀ {a : List AV} {x : List D}, toDL a = some x → x.length = a.length
  | [], x, h => by
    simp only [toDL, Option.some.injEq] at h
    subst h; rfl
  | v :: a, x, h => by
    cases v <;> simp only [toDL, reduceCtorEq] at h
    case d q =>
      split at h
      · next ds e => cases h; simp [toDL_length e]
      · cases h
    case nilsl sz =>
      split at h
      · next ds e => cases h; simp [toDL_length e]
      · cases h
theorem toDL_repeat {z : List AV} {ds : List D} (h : toDL z = some ds) : ∀ n : Nat, toDL (repeatL z n) = some (List.replicate n ds).flatten
  | 0 => rfl
  | n + 1 => by
    rw [repeatL, List.replicate_succ, List.flatten_cons]
    exact toDL_app h (toDL_repeat h n)
theorem cutL_rep {ds : List D} {sz : Nat} (h : ds.length = sz) : ∀ n : Nat, cutL sz n (List.replicate n ds).flatten = List.replicate n ds
  | 0 => rfl
  | n + 1 => by
    rw [List.replicate_succ, List.flatten_cons, cutL, List.take_left' h, List.drop_left' h, cutL_rep h n]
theorem make_sound (hh : HRel P F H w) {t e : TypeId} {j : TypeInfo} {z : List AV} {ds : List D} {k : IntKind} {n : Int} (hu : P.underlying t = some (.slice e)) (hz : zeroC P e = some z) (hj : P.info? e = some j) (h0 : j.size ≠ 0) (hd : toDL z = some ds) (hn : 0 ≤ n ∧ n * j.bytes ≤ 281474976710656 ∧ n ≤ 9223372036854775807) {K : AV → Heap → Prop}
    (hk : Alloc H (.row e j.size n.toNat (List.replicate n.toNat ds)) fun b H' => K (.own b j.size 0 n.toNat n.toNat) H') :
    ∃ v av F' H' w', (Instr.makeSlice t (.int k n) (.int k n)).run P w = .ok v w' ∧ VR P F' w' av v ∧ HRel P F' H' w' ∧ Step F H w F' H' w' ∧ K av H' := by
  obtain ⟨i, zv, hi, hzv, h3, h4, h5⟩ := zeroC_sound hz
  rw [hj] at hi; cases hi
  have hrep := repeat_sound (P := P) (F := F) (w := w) (h5 F w).1 n.toNat
  have hone : ∀ u ∈ ((Array.range (n.toNat * z.length)).map fun i => zv.cells[i % zv.cells.size]!).toList, u.oneCell' = true := by
    intro u hu
    simp only [Array.toList_map, List.mem_map] at hu
    obtain ⟨k, _, rfl⟩ := hu
    have hm : k % zv.cells.size < zv.cells.size := Nat.mod_lt _ (by omega)
    refine (h5 F w).2 _ ?_
    simp [hm]
  have hdl := toDL_repeat hd n.toNat
  obtain ⟨ds', F1, H1, g1, g2, g3, g4, hk'⟩ := frzL_sound (K := fun ds' H' => ds' = (List.replicate n.toNat ds).flatten ∧ H' = H) _ hh hrep (toDL_frz0 hdl ⟨rfl, rfl⟩)
  obtain ⟨rfl, rfl⟩ := hk'
  have hdsl : ds.length = j.size := by rw [toDL_length hd]; omega
  have hcut := cutL_rep hdsl n.toNat
  have hul : ((Array.range (n.toNat * z.length)).map fun i => zv.cells[i % zv.cells.size]!).toList.length = n.toNat * j.size := by simp [h3]
  have hdl2 : (List.replicate n.toNat ds).flatten.length = n.toNat * j.size := by rw [g1, hul]
  have hrun := run_make (P := P) w t e j zv hu hj hzv k k n n hn.1 (Int.le_refl _) (by rw [Int.mul_comm]; exact hn.2.1) hn.2.2
  have hnew := g3.alloc (.cells (madeCells zv.cells (n.toNat * j.size)) e) (.row e j.size n.toNat (List.replicate n.toNat ds)) ⟨((Array.range (n.toNat * z.length)).map fun i => zv.cells[i % zv.cells.size]!).toList, by rw [Array.toArray_toList, h3]; exact heap_alloc_new w _, hul, by rw [List.length_replicate]; exact Nat.le_refl _, by simp only [maxLen]; omega, by omega,
    fun el hel => by rw [(List.mem_replicate.1 hel).2]; exact hdsl, fun i' j' el c u q1 q2 q3 => (g2 _ _ _ (cutL_get _ _ _ _ _ _ _ (by rw [hcut]; exact q1) q2) q3).mono (fun _ h => h) (fun k hk => Below.heap_alloc w _ k (g3.old k hk)), hone⟩
  refine ⟨_, _, F1, _, _, hrun, ?_, hnew, g4.trans (Step.alloc _ _), hk _ (g3.fresh (Nat.le_refl _))⟩
  have := VR.own (P := P) (F := F1) (w := w.alloc (.cells (madeCells zv.cells (n.toNat * j.size)) e)) w.heap.size j.size 0 n.toNat n.toNat (Nat.le_refl _)
  rw [Nat.zero_mul] at this
  exact this

/-! ### the least and the greatest -/
theorem minmax_sound (isMax : Bool) (k : IntKind) : ∀ (xs : List AV) (us : List Value) (n m : Int), VRL P F w xs us → minmaxL isMax k n xs = some m →
    (us.foldlM (if isMax then Builtin.max2 else Builtin.min2) (Value.int k n)).run P w = .ok (.int k m) w
  | [], us, n, m, hv, h => by
    obtain rfl := hv.unnil
    simp only [minmaxL, Option.some.injEq] at h
    subst h
    simp
  | x :: xs, us, n, m, hv, h => by
    obtain ⟨u, us, rfl, hx, hl⟩ := hv.uncons
    cases hx <;> try (simp only [minmaxL, reduceCtorEq] at h)
    next y hy =>
    cases hy <;> try (simp only [minmaxL, reduceCtorEq] at h)
    next k' n' =>
    split at h
    · next e =>
      subst e
      have ih := minmax_sound isMax k xs us _ m hl h
      rw [List.foldlM_cons]
      cases isMax
      · have e : (Builtin.min2 (.int k n) (.int k n')).run P w = .ok (.int k (min n n')) w := by
          show Sem.run P (pure (Value.int k (if n' < n then n' else n))) w = _
          rw [Sem.run_pure]; congr 2; split <;> omega
        simp only [Bool.false_eq_true, if_false] at ih ⊢
        simp only [Sem.run_bind, e, Result.andThen_ok]
        exact ih
      · have e : (Builtin.max2 (.int k n) (.int k n')).run P w = .ok (.int k (max n n')) w := by
          show Sem.run P (pure (Value.int k (if n' > n then n' else n))) w = _
          rw [Sem.run_pure]; congr 2; split <;> omega
        simp only [if_true] at ih ⊢
        simp only [Sem.run_bind, e, Result.andThen_ok]
        exact ih
    · cases h
end
end Go.Proofs.Ytlflfciebidddaa.Abs
