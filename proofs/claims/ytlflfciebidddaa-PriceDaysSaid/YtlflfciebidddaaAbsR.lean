/- A row's input, read as data; what a law's row asks, from what its function answers. No claim stands here. -/
import Derived.Test.YtlflfciebidddaaAbsG
import Derived.ProofKit
import Derived.OpenShut
import Derived.ChangeOld
import Derived.Below
import Derived.Carry
import Derived.ChangeCalls
import Derived.SizedLaws
set_option linter.unusedVariables false
set_option linter.unusedSimpArgs false
namespace Go.Proofs.Ytlflfciebidddaa.Abs
open Go Go.RowKit Go.ChangeShapes

/-- Cells that a type's value is made of. -/
def typedW (P : Program) : Nat → TypeId → List D → Prop
  | 0, _, _ => False
  | n + 1, t, l => match P.underlying t with
    | some .bool => ∃ b, l = [.bool b]
    | some (.int k) => ∃ z, l = [.int k z] ∧ (Lit.int k z).wf = true
    | some .string => ∃ s, l = [.str s] ∧ s.size ≤ maxLen
    | some (.slice e) => ∃ xs, l = [.sl (P.cellsOf e) xs] ∧ xs.length ≤ maxLen ∧ ∀ el ∈ xs, typedW P n e el
    | some (.struct fs) => ∃ ls : List (List D), l = ls.flatten ∧ ls.length = fs.size ∧ ∀ (j : Nat) f x, fs[j]? = some f → ls[j]? = some x → typedW P n f.type x
    | _ => False

def tilesB (P : Program) : Nat → List Field → Nat → Bool
  | o, [], e => o == e
  | o, f :: r, e => f.offset == o && tilesB P (o + P.cellsOf f.type) r e
def readT (P : Program) : Nat → TypeId → Bool
  | 0, _ => false
  | n + 1, t => match P.underlying t with
    | some .bool | some (.int _) | some .string => P.cellsOf t == 1
    | some (.slice e) => readT P n e && P.cellsOf e != 0 && P.cellsOf t == 1
    | some (.struct fs) => tilesB P 0 fs.toList (P.cellsOf t) && fs.toList.all fun f => readT P n f.type
    | _ => false

section
variable {P : Program} {H : Type} {enc : TypeId × Value → H} {w : World} {sp : Nat → Bool} {held : Bool}

theorem tile_flat {F : Nat → Prop} : ∀ {fs : List Field} {o : Nat} {cs : List Value} {ls : List (List D)}, tilesB P o fs cs.length = true → ls.length = fs.length →
    (∀ (j : Nat) f x, fs[j]? = some f → ls[j]? = some x → x.length = ((cs.drop f.offset).take (P.cellsOf f.type)).length ∧ ((cs.drop f.offset).take (P.cellsOf f.type)).length = P.cellsOf f.type ∧
      ∀ (i : Nat) c u, x[i]? = some c → ((cs.drop f.offset).take (P.cellsOf f.type))[i]? = some u → RD F w c u) →
    ls.flatten.length = (cs.drop o).length ∧ ∀ (i : Nat) c u, ls.flatten[i]? = some c → (cs.drop o)[i]? = some u → RD F w c u
  | [], o, cs, ls, ht, hl, h => by
    simp only [tilesB, beq_iff_eq] at ht
    cases ls with
    | nil => exact ⟨by simp [ht], fun i c u h => by simp at h⟩
    | cons x r => simp at hl
  | f :: fs, o, cs, ls, ht, hl, h => by
    simp only [tilesB, Bool.and_eq_true, beq_iff_eq] at ht
    cases ls with
    | nil => simp at hl
    | cons x r =>
      obtain ⟨h1, h2⟩ := tile_flat (F := F) (ls := r) ht.2 (by simpa using hl) fun j f' x' hf hx => h (j + 1) f' x' (by simpa using hf) (by simpa using hx)
      obtain ⟨g1, g2, g3⟩ := h 0 f x rfl rfl
      rw [ht.1] at g1 g2 g3
      rw [g2] at g1
      have hlt : o + P.cellsOf f.type ≤ cs.length ∨ P.cellsOf f.type = 0 := by
        simp only [List.length_take, List.length_drop] at g2
        omega
      simp only [List.length_drop] at h1
      refine ⟨?_, fun i c u hc hu => ?_⟩
      · simp only [List.flatten_cons, List.length_append, List.length_drop, g1, h1]
        omega
      · simp only [List.flatten_cons] at hc
        by_cases hi : i < x.length
        · rw [List.getElem?_append_left hi] at hc
          refine g3 i c u hc ?_
          rw [List.getElem?_take_of_lt (by omega)]
          exact hu
        · rw [List.getElem?_append_right (by omega)] at hc
          refine h2 (i - x.length) c u hc ?_
          rw [List.getElem?_drop] at hu ⊢
          rw [← hu]
          congr 1
          omega

theorem cell_lt {a : Addr} {v : Value} (h : w.cell? a = some v) : a.block < w.heap.size ∧ a.spot = none := by
  unfold World.cell? at h
  split at h
  · next e =>
    refine ⟨(Array.getElem?_eq_some_iff.1 e).1, ?_⟩
    split at h
    · cases h
    · next hs => simpa using hs
  · cases h

theorem trod_read : ∀ (n : Nat) (fuel : Nat) (t : TypeId) (cs : List Value) (x : _root_.Go.DataW H × List MemPlace), readT P n t = true → _root_.Go.DataW.trod enc P w 0 sp held fuel t cs = some x →
    ∃ l, typedW P n t l ∧ l.length = cs.length ∧ cs.length = P.cellsOf t ∧ ∀ (j : Nat) c u, l[j]? = some c → cs[j]? = some u → RD (fun b => b < w.heap.size) w c u
  | 0, fuel, t, cs, x, hr, h => by cases hr
  | n + 1, fuel, t, cs, x, hr, h => by
    unfold readT at hr
    unfold typedW
    have one : ∀ (d : D) (v : Value), P.cellsOf t = 1 → cs = [v] → RD (fun b => b < w.heap.size) w d v → ([d] : List D).length = cs.length ∧ cs.length = P.cellsOf t ∧ ∀ (j : Nat) c u, [d][j]? = some c → cs[j]? = some u → RD (fun b => b < w.heap.size) w c u := fun d v hlen e hd => by
      refine ⟨by rw [e]; rfl, by rw [e, hlen]; rfl, fun j c u h1 h2 => ?_⟩
      rw [e] at h2
      cases j with
      | zero => simp at h1 h2; subst h1; subst h2; exact hd
      | succ j => simp at h1
    split at hr
    · next hu =>
      obtain ⟨b, hcs, hx⟩ := _root_.Go.DataW.trod_bool hu h
      try rw [hu]
      exact ⟨[.bool b], ⟨b, rfl⟩, one _ _ (by simpa using hr) hcs (.bool b)⟩
    · next k hu =>
      obtain ⟨z, hcs, hx, hw⟩ := _root_.Go.DataW.trod_int hu h
      try rw [hu]
      exact ⟨[.int k z], ⟨z, rfl, hw⟩, one _ _ (by simpa using hr) hcs (.int k z)⟩
    · next hu =>
      obtain ⟨s, hcs, hx, hw⟩ := _root_.Go.DataW.trod_string hu h
      try rw [hu]
      exact ⟨[.str s], ⟨s, rfl, hw⟩, one _ _ (by simpa using hr) hcs (.str s)⟩
    · next e hu =>
      simp only [Bool.and_eq_true, bne_iff_ne, ne_eq, beq_iff_eq] at hr
      try rw [hu]
      rcases _root_.Go.DataW.trod_slice hu h with ⟨hcs, hx⟩ | ⟨a, len, cap, elems, rest, m, _, hcs, hx, hb, hl, hm, hel, hat, hsp, hns⟩
      · exact ⟨[.sl (P.cellsOf e) []], ⟨[], rfl, by simp, by simp⟩, one _ _ hr.2 hcs (.nil _ _ _)⟩
      · -- each element's cells, and what they read as
        have each : ∀ i, i < len → ∃ (us : List Value) (l : List D), us.length = P.cellsOf e ∧ l.length = P.cellsOf e ∧ typedW P n e l ∧ (∀ j u, us[j]? = some u → w.cell? ((a.add (i * P.cellsOf e)).add j) = some u) ∧
            ∀ (j : Nat) c u, l[j]? = some c → us[j]? = some u → RD (fun b => b < w.heap.size) w c u := fun i hi => by
          have h1 := hat i hi
          rw [List.getElem?_eq_getElem (by omega)] at h1
          rw [Option.bind_eq_some_iff] at h1
          obtain ⟨us, h2, h3⟩ := h1
          obtain ⟨l, g1, g2, g3, g4⟩ := trod_read n m e us _ hr.1.1 h3
          refine ⟨us, l, g3, by omega, g1, fun j u hj => ?_, g4⟩
          have hjl := (List.getElem?_eq_some_iff.1 hj).1
          obtain ⟨k1, k2, k3⟩ := World.cells?_some h2
          have := k3 j (by omega)
          rw [this]
          exact hj
        have hch : ∃ f : Nat → List Value × List D, ∀ i, i < len → (f i).1.length = P.cellsOf e ∧ (f i).2.length = P.cellsOf e ∧ typedW P n e (f i).2 ∧ (∀ j u, (f i).1[j]? = some u → w.cell? ((a.add (i * P.cellsOf e)).add j) = some u) ∧
            ∀ (j : Nat) c u, (f i).2[j]? = some c → (f i).1[j]? = some u → RD (fun b => b < w.heap.size) w c u := by
          refine ⟨fun i => if hi : i < len then (⟨(each i hi).choose, (each i hi).choose_spec.choose⟩ : List Value × List D) else ([], []), fun i hi => ?_⟩
          simp only [hi, dif_pos]
          exact (each i hi).choose_spec.choose_spec
        obtain ⟨f, hf⟩ := hch
        refine ⟨[.sl (P.cellsOf e) ((List.range len).map fun i => (f i).2)], ⟨_, rfl, by simp; omega, fun el hmem => ?_⟩, one _ _ hr.2 hcs ?_⟩
        · obtain ⟨i, hi, rfl⟩ := List.mem_map.1 hmem
          exact (hf i (by simpa using hi)).2.2.1
        · by_cases h0 : len = 0
          · subst h0
            exact .nil _ _ _
          · obtain ⟨z1, z2, z3, z4, z5⟩ := hf 0 (by omega)
            have hz : ∃ u, (f 0).1[0]? = some u := ⟨_, List.getElem?_eq_getElem (by omega)⟩
            obtain ⟨u0, hu0⟩ := hz
            have hbl := cell_lt (z4 0 u0 hu0)
            rw [Nat.zero_mul, show ∀ x : Addr, x.add 0 = x from fun x => rfl, show ∀ x : Addr, x.add 0 = x from fun x => rfl] at hbl
            have ha : a = ⟨a.block, a.off, none⟩ := by
              obtain ⟨ab, ao, as⟩ := a
              have := hbl.2
              simp only at this
              rw [this]
            have hblk : a.block < w.heap.size := hbl.1
            have hpos : 0 < P.cellsOf e := by omega
            have key := RD.sl (F := fun b => b < w.heap.size) (w := w) (P.cellsOf e) ((List.range len).map fun i => (f i).2) a.block a.off cap (fun k => (f (k / P.cellsOf e)).1.getD (k % P.cellsOf e) Go.undef) hblk (by simp; omega)
              (fun el hmem => by obtain ⟨i, hi, rfl⟩ := List.mem_map.1 hmem; exact (hf i (by simpa using hi)).2.1)
              (fun i j el c hi hj => by
                simp only [List.getElem?_map, Option.map_eq_some_iff] at hi
                obtain ⟨i', hi', rfl⟩ := hi
                have hlt : i < len := by
                  have := (List.getElem?_eq_some_iff.1 hi').1
                  simpa using this
                have : i' = i := by
                  rw [List.getElem?_range hlt] at hi'
                  exact (Option.some.inj hi').symm
                subst this
                obtain ⟨y1, y2, y3, y4, y5⟩ := hf i' hlt
                have hjl : j < P.cellsOf e := by rw [← y2]; exact (List.getElem?_eq_some_iff.1 hj).1
                have e1 : (i' * P.cellsOf e + j) / P.cellsOf e = i' := by
                  rw [Nat.mul_comm, Nat.mul_add_div hpos, Nat.div_eq_of_lt hjl, Nat.add_zero]
                have e2 : (i' * P.cellsOf e + j) % P.cellsOf e = j := by
                  rw [Nat.mul_comm, Nat.mul_add_mod, Nat.mod_eq_of_lt hjl]
                have hu : (f i').1[j]? = some ((f i').1.getD j Go.undef) := by
                  rw [List.getD_eq_getElem?_getD, List.getElem?_eq_getElem (by omega)]
                  rfl
                have := y4 j _ hu
                rw [ha] at this
                rw [addr_add, addr_add] at this
                simp only [e1, e2]
                rw [← this, Nat.add_assoc])
              (fun i j el c hi hj => by
                simp only [List.getElem?_map, Option.map_eq_some_iff] at hi
                obtain ⟨i', hi', rfl⟩ := hi
                have hlt : i < len := by
                  have := (List.getElem?_eq_some_iff.1 hi').1
                  simpa using this
                have : i' = i := by
                  rw [List.getElem?_range hlt] at hi'
                  exact (Option.some.inj hi').symm
                subst this
                obtain ⟨y1, y2, y3, y4, y5⟩ := hf i' hlt
                have hjl : j < P.cellsOf e := by rw [← y2]; exact (List.getElem?_eq_some_iff.1 hj).1
                have e1 : (i' * P.cellsOf e + j) / P.cellsOf e = i' := by
                  rw [Nat.mul_comm, Nat.mul_add_div hpos, Nat.div_eq_of_lt hjl, Nat.add_zero]
                have e2 : (i' * P.cellsOf e + j) % P.cellsOf e = j := by
                  rw [Nat.mul_comm, Nat.mul_add_mod, Nat.mod_eq_of_lt hjl]
                simp only [e1, e2]
                refine y5 j c _ hj ?_
                rw [List.getD_eq_getElem?_getD, List.getElem?_eq_getElem (by omega)]
                rfl)
            rw [← ha] at key
            simpa using key
    · next fs hu =>
      simp only [Bool.and_eq_true, List.all_eq_true] at hr
      try rw [hu]
      obtain ⟨xs, m, _, hx, hl, hxl, hf⟩ := _root_.Go.DataW.trod_struct hu h
      have each : ∀ j, j < fs.size → ∃ l f, fs[j]? = some f ∧ typedW P n f.type l ∧ l.length = ((cs.drop f.offset).take (P.cellsOf f.type)).length ∧ ((cs.drop f.offset).take (P.cellsOf f.type)).length = P.cellsOf f.type ∧
          ∀ (i : Nat) c u, l[i]? = some c → ((cs.drop f.offset).take (P.cellsOf f.type))[i]? = some u → RD (fun b => b < w.heap.size) w c u := fun j hj => by
        obtain ⟨f, hfj⟩ : ∃ f, fs[j]? = some f := ⟨_, Array.getElem?_eq_getElem hj⟩
        have h1 := hf j f hfj
        rw [List.getElem?_eq_getElem (by omega)] at h1
        obtain ⟨l, g1, g2, g3, g4⟩ := trod_read n m f.type _ _ (hr.2 f (by simpa using Array.mem_of_getElem? hfj)) h1
        exact ⟨l, f, hfj, g1, g2, g3, g4⟩
      have hch : ∃ g : Nat → List D, ∀ j f, fs[j]? = some f → typedW P n f.type (g j) ∧ (g j).length = ((cs.drop f.offset).take (P.cellsOf f.type)).length ∧ ((cs.drop f.offset).take (P.cellsOf f.type)).length = P.cellsOf f.type ∧
          ∀ (i : Nat) c u, (g j)[i]? = some c → ((cs.drop f.offset).take (P.cellsOf f.type))[i]? = some u → RD (fun b => b < w.heap.size) w c u := by
        refine ⟨fun j => if hj : j < fs.size then (each j hj).choose else [], fun j f hj => ?_⟩
        have hlt : j < fs.size := (Array.getElem?_eq_some_iff.1 hj).1
        simp only [hlt, dif_pos]
        obtain ⟨f', h1, h2⟩ := (each j hlt).choose_spec
        rw [hj] at h1; cases h1
        exact h2
      obtain ⟨g, hg⟩ := hch
      have hget : ∀ (j : Nat) x, ((List.range fs.size).map g)[j]? = some x → x = g j := fun j x hx => by
        simp only [List.getElem?_map, Option.map_eq_some_iff] at hx
        obtain ⟨i', hi', rfl⟩ := hx
        have hlt : j < fs.size := by
          have := (List.getElem?_eq_some_iff.1 hi').1
          simpa using this
        rw [List.getElem?_range hlt] at hi'
        cases hi'
        rfl
      obtain ⟨k1, k2⟩ := tile_flat (P := P) (F := fun b => b < w.heap.size) (w := w) (fs := fs.toList) (o := 0) (cs := cs) (ls := (List.range fs.size).map g) (by rw [hl]; exact hr.1) (by simp) fun j f x hj hx => by
        rw [hget j x hx]
        exact (hg j f (by simpa using hj)).2
      refine ⟨((List.range fs.size).map g).flatten, ⟨_, rfl, by simp, fun j f x hj hx => ?_⟩, by simpa using k1, hl, fun j c u h1 h2 => k2 j c u h1 (by simpa using h2)⟩
      rw [hget j x hx]
      exact (hg j f hj).1
    · cases hr

def cell1 : List D → AV
  | [x] => .d x
  | _ => .undef
/-- Which value these cells are. -/
def argAV (P : Program) (t : TypeId) (l : List D) : AV :=
  match P.underlying t with
  | some (.struct _) => .agg (mapD l)
  | _ => cell1 l

theorem arg_read {n : Nat} {t : TypeId} {v : Value} {d : _root_.Go.DataW H} {ps : List MemPlace} (hr : readT P n t = true) (hv : Value.okWide P w .any 0 t v) (h : _root_.Go.DataW.Trod enc P w 0 sp held t v d ps) :
    ∃ l, typedW P n t l ∧ VR P (fun b => b < w.heap.size) w (argAV P t l) v := by
  obtain ⟨fuel, h⟩ := h
  obtain ⟨l, h1, h2, h3, h4⟩ := trod_read n fuel t _ _ hr h
  refine ⟨l, h1, ?_⟩
  cases n with
  | zero => cases hr
  | succ n =>
    unfold readT at hr
    unfold Value.okWide at hv
    unfold typedW at h1
    unfold argAV
    have one : ∀ d : D, (∀ cs, v ≠ .agg cs) → l = [d] → VR P (fun b => b < w.heap.size) w (cell1 l) v := fun d hv hl => by
      subst hl
      have e : v.cells = #[v] := by cases v <;> first | rfl | exact absurd rfl (hv _)
      rw [e] at h4
      exact .d _ _ (h4 0 d v rfl rfl)
    split at hr
    · next hu =>
      try rw [hu] at hv
      try rw [hu] at h1
      try rw [hu]
      obtain ⟨b, hl⟩ := h1
      exact one _ (fun cs e => by subst e; simp [Cell.okWide, Cell.ok, hu] at hv) hl
    · next k hu =>
      try rw [hu] at hv
      try rw [hu] at h1
      try rw [hu]
      obtain ⟨b, hl, _⟩ := h1
      exact one _ (fun cs e => by subst e; simp [Cell.okWide, Cell.ok, hu] at hv) hl
    · next hu =>
      try rw [hu] at hv
      try rw [hu] at h1
      try rw [hu]
      obtain ⟨b, hl, _⟩ := h1
      exact one _ (fun cs e => by subst e; simp [Cell.okWide, Cell.ok, hu] at hv) hl
    · next e hu =>
      try rw [hu] at hv
      try rw [hu] at h1
      try rw [hu]
      obtain ⟨b, hl, _⟩ := h1
      exact one _ (fun cs e => by subst e; simp [Cell.okWide, Cell.ok, hu] at hv) hl
    · next fs hu =>
      try rw [hu] at hv
      try rw [hu]
      obtain ⟨cs, rfl, hsz, _⟩ := hv
      obtain ⟨cs⟩ := cs
      dsimp only
      have : (Value.agg ⟨cs⟩).cells.toList = cs := rfl
      rw [this] at h2 h3 h4
      have hvr := VRL.mapD (P := P) (F := fun b => b < w.heap.size) (w := w) (el := l) (us := cs) h2 h4
      refine .agg _ cs hvr.1 hvr.2 fun u hu => ?_
      obtain ⟨j, hj⟩ := List.getElem?_of_mem hu
      have hlt := (List.getElem?_eq_some_iff.1 hj).1
      exact (h4 j _ u (List.getElem?_eq_getElem (by omega)) hj).one
    · cases hr

def TypedL (P : Program) (n : Nat) : List TypeId → List (List D) → Prop
  | [], [] => True
  | t :: ts, l :: ls => typedW P n t l ∧ TypedL P n ts ls
  | _, _ => False
def argsAV (P : Program) : List TypeId → List (List D) → List AV
  | t :: ts, l :: ls => argAV P t l :: argsAV P ts ls
  | _, _ => []
def paramB (P : Program) (n : Nat) (t : TypeId) : Bool := readT P n t && P.readableRec t && decide (t < P.types.size)

theorem args_read {n : Nat} (hl : laidOutB P = true) : ∀ {ts : List TypeId} {vs : List Value} {ds : List (_root_.Go.DataW H)} {ps : List MemPlace}, ts.all (paramB P n) = true → (∀ (j : Nat) t v, ts[j]? = some t → vs[j]? = some v → Value.okWide P w .any 0 t v) →
    _root_.Go.DataW.TrodAll enc P w 0 (fun _ => true) true ts vs ds ps →
    (∃ ls, TypedL P n ts ls ∧ VRL P (fun b => b < w.heap.size) w (argsAV P ts ls) vs) ∧ ∀ w', Below w.heap.size w w' → ∃ pa, _root_.Go.DataW.TrodAll enc P w' 0 (fun b => decide (b < w.heap.size)) true ts vs ds pa
  | [], vs, ds, ps, hp, hv, h => by
    obtain ⟨rfl, rfl, rfl⟩ := trodAll_nil h
    exact ⟨⟨[], trivial, .nil⟩, fun w' _ => ⟨[], rfl⟩⟩
  | t :: ts, vs, ds, ps, hp, hv, h => by
    obtain ⟨v0, vs0, d0, ds0, p0, q0, rfl, rfl, rfl, h0, r0⟩ := trodAll_cons h
    simp only [List.all_cons, Bool.and_eq_true] at hp
    obtain ⟨⟨ls, h1, h2⟩, h3⟩ := args_read hl hp.2 (fun j t v h1 h2 => hv (j + 1) t v (by simpa using h1) (by simpa using h2)) r0
    have hp1 := hp.1
    simp only [paramB, Bool.and_eq_true, decide_eq_true_eq] at hp1
    obtain ⟨l, g1, g2⟩ := arg_read hp1.1.1 (hv 0 t v0 rfl rfl) h0
    refine ⟨⟨l :: ls, ⟨g1, h1⟩, .cons g2 h2⟩, fun w' hb => ?_⟩
    obtain ⟨pa, h4⟩ := h3 w' hb
    obtain ⟨fuel, h0'⟩ := h0
    exact ⟨_, trodAll_cons_mk (Below.trod hl hp1.1.2 hp1.2 ⟨fuel, h0'⟩ hb fun x hx => _root_.Go.DataW.trod_lt _ _ _ _ h0' x hx) h4⟩

theorem Step.below {F F' : Nat → Prop} {H' : Heap} {w' : World} (h : Step F Heap.none w F' H' w') : Below w.heap.size w w' :=
  ⟨h.os, h.tape, h.output, h.size, fun k hk => h.keep k hk rfl⟩

/-- A law's row, from its function's contract. -/
theorem law_calls {fid : FuncId} {f : Func} {s : ChangeSpec} {args : Array Value} {ds gs : List (_root_.Go.DataW H)} {before : List MemPlace} {n : Nat} {tb : TypeId} (hvars : s.vars = []) (hres : f.resultTypes = #[tb]) (htb : P.underlying tb = some .bool)
    (hspec : ∀ ds : List (_root_.Go.DataW H), ds.length = f.params.size → s.fn H ds = { results := [.lit (.bool true)], args := ds }) (hl : laidOutB P = true) (hok : f.params.toList.all (paramB P n) = true)
    (hval : ∀ (j : Nat) t v, f.params[j]? = some t → args[j]? = some v → Value.okWide P w .any 0 t v)
    (hW : _root_.Go.DataW.Whole enc P f.params.toList s.vars false w args.toList ds gs before)
    (hlaw : ∀ ls, TypedL P n f.params.toList ls → CallW P fid (argsAV P f.params.toList ls) Heap.none fun r _ => r = .d (.bool true)) :
    Calls P fid args w fun e W' => ∃ v, e = .returned v ∧ s.post enc P f false true false false w args v W' := by
  have hW' := hW
  obtain ⟨p, q, hA, hV, rfl, hfz, hnd⟩ := hW
  rw [hvars] at hV
  obtain ⟨rfl, rfl⟩ := trodVars_none hV
  obtain ⟨⟨ls, h1, h2⟩, h3⟩ := args_read hl hok (fun j t v g1 g2 => hval j t v (by simpa using g1) (by simpa using g2)) hA
  have hlen : ds.length = f.params.size := by
    have := (_root_.Go.trodAll_length hA).2
    simpa using this
  refine (hlaw ls h1 _ w args.toList ⟨fun b x hb => (by cases hb), fun b x hb => (by cases hb), fun b hb => hb⟩ h2).mono fun e W' hh => ?_
  obtain ⟨r, H', F', v, rfl, hv, _, hst, rfl⟩ := hh
  cases hv; next hv =>
  cases hv
  obtain ⟨pa, h4⟩ := h3 W' hst.below
  have hs := hspec ds hlen
  refine ⟨_, rfl, ds, [], p ++ [], [], pa, [], hW', ?_, ?_, ?_, hst.below.frame _, fun h => by cases h⟩
  · rw [List.append_nil, hs, hres]
    exact trodAll_mk1 (shut_bool htb _)
  · rw [List.append_nil, hs]
    exact h4
  · rw [List.append_nil, hs, hvars]
    rfl
end
end Go.Proofs.Ytlflfciebidddaa.Abs
