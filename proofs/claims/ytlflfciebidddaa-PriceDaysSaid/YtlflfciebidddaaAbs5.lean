/- One operation of the model does what the abstract one says: the operations that read, and those that reckon. No claim stands here. -/
import Derived.Test.YtlflfciebidddaaAbs4
import Derived.TacticsIn
namespace Go.Proofs.Ytlflfciebidddaa.Abs
open Go Go.RowKit

/-! ### lists of abstract values -/
theorem lenAV_eq (l : List AV) : lenAV l = l.length := by induction l <;> simp [lenAV, *]
theorem nth_eq (l : List AV) (i : Nat) (h : i < l.length) : l[i]? = some (nth l i) := by
  induction l generalizing i with
  | nil => simp at h
  | cons a l ih => cases i with
    | zero => rfl
    | succ i => simpa [nth] using ih i (by simpa using h)
theorem VRL.nth {P : Program} {F : Nat → Prop} {w : World} {xs : List AV} {cs : List Value} (h : VRL P F w xs cs) {i : Nat} (hi : i < lenAV xs) : ∃ u, cs[i]? = some u ∧ VR P F w (nth xs i) u := by
  rw [lenAV_eq] at hi
  have hc : i < cs.length := by rw [← h.1]; exact hi
  exact ⟨cs[i], List.getElem?_eq_getElem hc, h.2 i _ _ (nth_eq xs i hi) (List.getElem?_eq_getElem hc)⟩
theorem VRL.seg {P : Program} {F : Nat → Prop} {w : World} {xs : List AV} {cs : List Value} (h : VRL P F w xs cs) (off n : Nat) : VRL P F w (seg xs off n) ((cs.drop off).take n) := by
  refine ⟨by simp [Abs.seg, h.1], fun j x v h1 h2 => ?_⟩
  simp only [Abs.seg, List.getElem?_take, List.getElem?_drop] at h1 h2
  split at h1
  · next hj => rw [if_pos hj] at h2; exact h.2 _ _ _ h1 h2
  · cases h1
theorem VRL.nil {P : Program} {F : Nat → Prop} {w : World} : VRL P F w [] [] := ⟨rfl, fun j x v h _ => by simp at h⟩
theorem VRL.cons {P : Program} {F : Nat → Prop} {w : World} {x : AV} {v : Value} {xs : List AV} {vs : List Value} (h : VR P F w x v) (t : VRL P F w xs vs) : VRL P F w (x :: xs) (v :: vs) :=
  ⟨by simp [t.1], fun j y u h1 h2 => by
    cases j with
    | zero => simp at h1 h2; subst h1; subst h2; exact h
    | succ j => exact t.2 j y u (by simpa using h1) (by simpa using h2)⟩
theorem VRL.append {P : Program} {F : Nat → Prop} {w : World} {xs ys : List AV} {vs us : List Value} (h : VRL P F w xs vs) (t : VRL P F w ys us) : VRL P F w (xs ++ ys) (vs ++ us) := by
  refine ⟨by simp [h.1, t.1], fun j y u h1 h2 => ?_⟩
  by_cases hj : j < xs.length
  · rw [List.getElem?_append_left hj] at h1
    rw [List.getElem?_append_left (by rw [← h.1]; exact hj)] at h2
    exact h.2 j y u h1 h2
  · rw [List.getElem?_append_right (by omega)] at h1
    rw [List.getElem?_append_right (by rw [← h.1]; omega), ← h.1] at h2
    exact t.2 _ y u h1 h2
theorem VRL.uncons {P : Program} {F : Nat → Prop} {w : World} {x : AV} {xs : List AV} {vs : List Value} (h : VRL P F w (x :: xs) vs) : ∃ v us, vs = v :: us ∧ VR P F w x v ∧ VRL P F w xs us := by
  cases vs with
  | nil => have := h.1; simp at this
  | cons v us => exact ⟨v, us, rfl, h.2 0 x v rfl rfl, by have := h.1; simpa using this, fun j y u h1 h2 => h.2 (j + 1) y u (by simpa using h1) (by simpa using h2)⟩
theorem VRL.unnil {P : Program} {F : Nat → Prop} {w : World} {vs : List Value} (h : VRL P F w [] vs) : vs = [] := by
  have := h.1; simpa using this.symm
theorem mapD_eq (l : List D) : mapD l = l.map .d := by induction l <;> simp [mapD, *]
theorem VRL.mapD {P : Program} {F : Nat → Prop} {w : World} {el : List D} {us : List Value} (hl : el.length = us.length) (h : ∀ (j : Nat) c u, el[j]? = some c → us[j]? = some u → RD F w c u) : VRL P F w (mapD el) us := by
  rw [mapD_eq]
  refine ⟨by simp [hl], fun j x v h1 h2 => ?_⟩
  simp only [List.getElem?_map, Option.map_eq_some_iff] at h1
  obtain ⟨c, h3, rfl⟩ := h1
  exact .d _ _ (h j c v h3 h2)
theorem RD.one {F : Nat → Prop} {w : World} {x : D} {v : Value} (h : RD F w x v) : v.oneCell' = true := by cases h <;> rfl

/-! ### operands -/
section
variable {P : Program} {F : Nat → Prop} {w : World} {s : St} {a : Act}
theorem ofCell_sound (v : Value) : VR P F w (ofCell v) v := by
  cases v with
  | bool b => exact .d _ _ (.bool b)
  | int k n => exact .d _ _ (.int k n)
  | string s => exact .d _ _ (.str s)
  | pointer q => cases q with
    | none => exact .nilp
    | some q => exact .undef _
  | nilFunc => exact .nilfn
  | _ => exact .undef _
theorem constC_sound (v : Value) : VR P F w (constC v) v := by
  unfold constC
  split
  · exact .nilsl 0
  · next cs =>
    split
    · next h =>
      have := VR.agg (P := P) (F := F) (w := w) (cs.toList.map ofCell) cs.toList (by simp) (fun j x v h1 h2 => by
        simp only [List.getElem?_map, Option.map_eq_some_iff] at h1
        obtain ⟨c, h3, rfl⟩ := h1
        rw [h2] at h3; cases h3; exact ofCell_sound _) (fun v hv => by simp only [List.all_eq_true] at h; exact h v hv)
      simpa using this
    · exact .undef _
  · exact ofCell_sound _
theorem ev_sound (hr : ∀ t, VR P F w (s.t t) (a.tmps.getD t undef)) (x : Operand) : VR P F w (ev s.t (opdC P x)) (a.eval x) := by
  cases x with
  | tmp t => exact hr t
  | const v => exact constC_sound v
  | global g => exact .undef _
  | func f =>
    simp only [opdC, Act.eval]
    by_cases h : enters P f = true
    · rw [if_pos h]; exact .fn f [] [] h rfl (fun j x v h1 _ => by simp at h1)
    · rw [if_neg h]; exact .undef _
theorem evL_sound (hr : ∀ t, VR P F w (s.t t) (a.tmps.getD t undef)) (l : List Operand) : VRL P F w (evL s.t (l.map (opdC P))) (l.map a.eval) := by
  induction l with
  | nil => exact VRL.nil
  | cons x l ih => exact VRL.cons (ev_sound hr x) ih
end

/-! ### what an operation owes -/
def OpOK (P : Program) (s : St) (F : Nat → Prop) (a : Act) (w : World) (o : Oper) (K : AV → Heap → Prop) : Prop :=
  ∀ (r : Option Nat) (next : Act → World → Prop) (Q : Exit → Act → World → Prop),
    (∀ v av H' F' w', VR P F' w' av v → HRel P F' H' w' → Step F s.H w F' H' w' → K av H' → next (a.put o.dst v) w') → o.wpIn (wideR r) 0 P a w next Q

section
variable {P : Program} {F : Nat → Prop} {w : World} {s : St} {a : Act} {o : Oper} {K : AV → Heap → Prop}
theorem not_defer {ρ : Operand → Value} {w' : World} {x : Next} (h : (execOp ρ o).run P w = .ok x w') (hx : ∀ d, x ≠ .defer d) : ∀ c, o.op ≠ .defer c := by
  intro c hc
  simp only [execOp, hc, Sem.run_bind, Sem.run_pure] at h
  cases hr : (resolve ρ c o.type).run P w with
  | ok d w1 => rw [hr] at h; simp only [Result.andThen_ok, Result.ok.injEq] at h; exact hx _ h.1.symm
  | halt e w1 => rw [hr] at h; simp [Result.andThen] at h
theorem wpIn_run {r : Option Nat} {next : Act → World → Prop} {Q : Exit → Act → World → Prop} {w' : World} {x : Next} (h : (execOp a.eval o).run P w = .ok x w') (hx : ∀ d, x ≠ .defer d)
    (hu : o.uponIn (wideR r) 0 P a next Q (.ok x w')) : o.wpIn (wideR r) 0 P a w next Q := by
  refine ⟨fun _ _ => trivial, ?_⟩
  rw [Oper.semAt_eq _ _ _ (not_defer h hx), h]
  exact hu
theorem OpOK.value {v : Value} {av : AV} {H' : Heap} {F' : Nat → Prop} {w' : World} (h : (execOp a.eval o).run P w = .ok (.value v) w') (hv : VR P F' w' av v) (hh : HRel P F' H' w') (st : Step F s.H w F' H' w') (hk : K av H') : OpOK P s F a w o K := by
  intro r next Q hn
  refine wpIn_run h (by simp) ?_
  exact hn v av H' F' w' hv hh st hk
theorem OpOK.skip {H' : Heap} {F' : Nat → Prop} {w' : World} (h : (execOp a.eval o).run P w = .ok .skip w') (hh : HRel P F' H' w') (st : Step F s.H w F' H' w') (hk : K .void H') : OpOK P s F a w o K := by
  intro r next Q hn
  refine wpIn_run h (by simp) ?_
  exact hn undef .void H' F' w' .void hh st hk
theorem OpOK.same (hh : HRel P F s.H w) {v : Value} {av : AV} (h : (execOp a.eval o).run P w = .ok (.value v) w) (hv : VR P F w av v) (hk : K av s.H) : OpOK P s F a w o K :=
  OpOK.value h hv hh (Step.refl _ _ _) hk
end

section
variable {P : Program} {F : Nat → Prop} {w : World}
theorem aggOf_none {t : TypeId} (h : aggOf P t = some none) : ∃ d, P.underlying t = some d ∧ (∀ fs, d ≠ .struct fs) ∧ (∀ n e, d ≠ .array n e) ∧ ∃ i, P.info? t = some i := by
  unfold aggOf at h
  split at h <;> simp at h
  next d i h1 h2 h3 h4 => exact ⟨d, h3, fun fs e => h1 fs e, fun n e e2 => h2 n e e2, i, h4⟩
theorem aggOf_some {t : TypeId} {n : Nat} (h : aggOf P t = some (some n)) : ∃ d, P.underlying t = some d ∧ ((∃ fs, d = .struct fs) ∨ ∃ m e, d = .array m e) ∧ ∃ i, P.info? t = some i ∧ i.size = n := by
  unfold aggOf at h
  split at h <;> simp at h
  · next fs i h3 h4 => exact ⟨_, h3, .inl ⟨_, rfl⟩, i, h4, h⟩
  · next m e i h3 h4 => exact ⟨_, h3, .inr ⟨_, _, rfl⟩, i, h4, h⟩
theorem run_isAgg_no {t : TypeId} (h : aggOf P t = some none) : (isAgg t).run P w = .ok false w := by
  obtain ⟨d, h1, h2, h3, i, h4⟩ := aggOf_none h
  simp only [isAgg, Sem.run_bind, run_underlying h1, Result.andThen_ok]
  cases d <;> simp_all
theorem run_isAgg_yes {t : TypeId} {n : Nat} (h : aggOf P t = some (some n)) : (isAgg t).run P w = .ok true w := by
  obtain ⟨d, h1, h2, i, h4⟩ := aggOf_some h
  simp only [isAgg, Sem.run_bind, run_underlying h1, Result.andThen_ok]
  rcases h2 with ⟨fs, rfl⟩ | ⟨m, e, rfl⟩ <;> rfl
theorem run_sizeOf {t : TypeId} {i : TypeInfo} (h : P.info? t = some i) : (sizeOf t).run P w = .ok i.size w := by
  simp [sizeOf, typeInfo, h]
theorem addr_add (b off j : Nat) : (⟨b, off, none⟩ : Addr).add j = ⟨b, off + j, none⟩ := by
  unfold Addr.add; split <;> simp_all
theorem run_load1 {t : TypeId} (h : aggOf P t = some none) {p : Addr} {v : Value} (hc : w.cell? p = some v) : (loadVar t p).run P w = .ok v w := by
  simp only [loadVar, Sem.run_bind, run_isAgg_no h, Result.andThen_ok, Bool.false_eq_true, if_false]
  simp [load, Sem.run, hc]
theorem run_loadn {t : TypeId} {n : Nat} (h : aggOf P t = some (some n)) {b off : Nat} {us : List Value} (hl : us.length = n)
    (hc : ∀ (j : Nat) u, us[j]? = some u → w.cell? ⟨b, off + j, none⟩ = some u) : (loadVar t ⟨b, off, none⟩).run P w = .ok (.agg us.toArray) w := by
  obtain ⟨d, h1, h2, i, h4, h5⟩ := aggOf_some h
  simp only [loadVar, Sem.run_bind, run_isAgg_yes h, Result.andThen_ok, if_true, run_sizeOf h4, h5]
  rw [← hl, run_loadCells_list (P := P) w ⟨b, off, none⟩ us (fun j v hv => by rw [addr_add]; exact hc j v hv)]
  simp [Sem.run]
/-- Cells in a row, read. -/
theorem load_at {t : TypeId} {g : Option Nat} (h : aggOf P t = some g) {b off o : Nat} {us : List Value} {xs : List AV} (hx : VRL P F w xs us) (h1 : ∀ v ∈ us, v.oneCell' = true)
    (hc : ∀ (j : Nat) u, us[j]? = some u → w.cell? ⟨b, o + j, none⟩ = some u) {K : AV → Prop}
    (hk : match (generalizing := false) g with | none => VC (off < lenAV xs) (K (nth xs off)) | some n => VC (off + n ≤ lenAV xs) (K (.agg (seg xs off n)))) :
    ∃ v av, (loadVar t ⟨b, o + off, none⟩).run P w = .ok v w ∧ VR P F w av v ∧ K av := by
  cases g with
  | none =>
    obtain ⟨u, hu, hv⟩ := hx.nth hk.1
    exact ⟨u, _, run_load1 h (hc _ _ hu), hv, hk.2⟩
  | some n =>
    have hs := hx.seg off n
    have hn : ((us.drop off).take n).length = n := by
      have := hk.1; rw [lenAV_eq, hx.1] at this; simp; omega
    refine ⟨_, _, run_loadn h hn (fun j u hu => ?_), .agg _ _ hs.1 hs.2 (fun v hv => h1 v (List.mem_of_mem_drop (List.mem_of_mem_take hv))), hk.2⟩
    simp only [List.getElem?_take, List.getElem?_drop] at hu
    split at hu
    · rw [Nat.add_assoc]; exact hc _ _ hu
    · cases hu
theorem load_sound {H : Heap} (hh : HRel P F H w) {t : TypeId} {g : Option Nat} (h : aggOf P t = some g) {p : AV} {pv : Value} (hp : VR P F w p pv) {K : AV → Prop} (hk : loadW g p H K) :
    ∃ v av, (Instr.loadAt t pv).run P w = .ok v w ∧ VR P F w av v ∧ K av := by
  cases hp <;> try exact hk.elim
  case ptr b off =>
    simp only [loadW] at hk
    split at hk
    · next t' cells e =>
      obtain ⟨cur, h1, h2, h3⟩ := hh.at_ _ _ e
      have hc : ∀ (j : Nat) u, cur[j]? = some u → w.cell? ⟨b, 0 + j, none⟩ = some u := fun j u hu => by simp [World.cell?, h1, hu]
      obtain ⟨v, av, r, hv, hk2⟩ := load_at (b := b) (o := 0) (off := off) h h2 h3 hc (K := K) (by cases g <;> exact hk)
      rw [Nat.zero_add] at r
      exact ⟨v, av, by simpa [Instr.loadAt, Instr.sureAddr] using r, hv, hk2⟩
    · exact hk.elim
  case eptr b sz i j =>
    simp only [loadW] at hk
    split at hk
    · next t' sz' cap xs e =>
      obtain ⟨rfl, _, el, he, hk⟩ := hk
      obtain ⟨cur, h1, h2, h3, h4, h5, h6, h7, h8⟩ := hh.at_ _ _ e
      simp only [Int.toNat_natCast] at he
      have hi : i < xs.length := (List.getElem?_eq_some_iff.1 he).1
      have hel := h6 el (List.mem_of_getElem? he)
      have hb : (i + 1) * sz ≤ cap * sz := Nat.mul_le_mul_right _ (by omega)
      rw [Nat.add_mul, Nat.one_mul] at hb
      have hus : VRL P F w (mapD el) ((cur.drop (i * sz)).take sz) := VRL.mapD (by simp; omega) (fun j c u e1 e2 => by
        simp only [List.getElem?_take, List.getElem?_drop] at e2
        split at e2
        · exact h7 i j el c u he e1 e2
        · cases e2)
      have hc : ∀ (j : Nat) u, ((cur.drop (i * sz)).take sz)[j]? = some u → w.cell? ⟨b, i * sz + j, none⟩ = some u := fun j u hu => by
        simp only [List.getElem?_take, List.getElem?_drop] at hu
        split at hu
        · simp [World.cell?, h1, hu]
        · cases hu
      obtain ⟨v, av, r, hv, hk2⟩ := load_at (b := b) (o := i * sz) (off := j) h hus (fun v hv => h8 v (List.mem_of_mem_drop (List.mem_of_mem_take hv))) hc (K := K)
        (by cases g <;> simpa [mapD_eq, lenAV_eq] using hk)
      exact ⟨v, av, by simpa [Instr.loadAt, Instr.sureAddr] using r, hv, hk2⟩
    · exact hk.elim
  case dptr el off b o us hF hl hc hr =>
    have hus : VRL P F w (mapD el) us := VRL.mapD hl hr
    have h1 : ∀ v ∈ us, v.oneCell' = true := fun v hv => by
      obtain ⟨j, hj, e⟩ := List.getElem_of_mem hv
      exact (hr j (el[j]'(by omega)) v (List.getElem?_eq_getElem _) (by rw [List.getElem?_eq_getElem hj, e])).one
    obtain ⟨v, av, r, hv, hk2⟩ := load_at (b := b) (o := o) (off := off) h hus h1 hc (K := K) (by unfold loadW at hk; cases g <;> simpa [mapD_eq, lenAV_eq] using hk)
    exact ⟨v, av, by simpa [Instr.loadAt, Instr.sureAddr] using r, hv, hk2⟩
end
end Go.Proofs.Ytlflfciebidddaa.Abs
