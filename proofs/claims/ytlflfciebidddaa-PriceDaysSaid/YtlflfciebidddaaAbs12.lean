/- A row of operations, a code, a loop, a function: the model does what the abstract one says; and how calls under a contract are put together. No claim stands here. -/
import Derived.Test.YtlflfciebidddaaAbsF
import Derived.OrdersIn
namespace Go.Proofs.Ytlflfciebidddaa.Abs
open Go Go.RowKit

section
variable {P : Program} {B : Nat} {r : Option Nat}

theorem Step.defs {F F' : Nat → Prop} {H H' : Heap} {w w' : World} {ds : List Deferred} (st : Step F H w F' H' w') (h : DefOK B F H ds w) : DefOK B F' H' ds w' := by
  obtain ⟨h0, ms, h1, h2, h3⟩ := h
  refine ⟨Nat.le_trans h0 st.size, ms, h1, h2, fun D hD => ?_⟩
  obtain ⟨g1, g2, g3, g4⟩ := h3 D hD
  have hlt : D < w.heap.size := (Array.getElem?_eq_some_iff.1 g4).1
  refine ⟨g1, ?_, fun hF => ?_, (st.keep D hlt g2).trans g4⟩
  · cases e : H' D with
    | none => rfl
    | some x => rcases st.dom D (by rw [e]; simp) with h | h
                · exact absurd g2 h
                · omega
  · rcases st.new D hF with h | h | h
    · exact g3 h
    · exact h g2
    · omega

theorem Rel.put {F F' : Nat → Prop} {s : St} {a : Act} {w w' : World} {H' : Heap} (hr : Rel P B F s a w) (st : Step F s.H w F' H' w') (hh : HRel P F' H' w') (dst : Option Nat) {av : AV} {v : Value} (hv : VR P F' w' av v) :
    Rel P B F' (putS s dst av H') (a.put dst v) w' := by
  obtain ⟨h1, h2, h3, h4⟩ := hr
  have h4' : ∀ t, VR P F' w' (s.t t) (a.tmps.getD t undef) := fun t => st.VR h1 (h4 t)
  have h2 := st.defs h2
  cases dst with
  | none => exact ⟨hh, h2, h3, h4'⟩
  | some d =>
    simp only [putS]
    split
    · next hd =>
      refine ⟨hh, h2, by simp [Act.put, h3], fun t => ?_⟩
      simp only [putT_get, Act.put]
      by_cases e : d = t
      · subst e
        simp only [beq_self_eq_true, cond_true]
        rw [show (a.tmps.setIfInBounds d v).getD d undef = v by simp [Array.getD, h3, hd]]
        exact hv
      · rw [show (d == t) = false by simpa using e]
        simp only [cond_false]
        rw [show (a.tmps.setIfInBounds d v).getD t undef = a.tmps.getD t undef by rw [Array.getD_eq_getD_getElem?, Array.getD_eq_getD_getElem?, Array.getElem?_setIfInBounds_ne e]]
        exact h4' t
    · next hd =>
      have e : a.tmps.setIfInBounds d v = a.tmps := by
        apply Array.ext'
        simp only [Array.toList_setIfInBounds]
        exact List.set_eq_of_length_le (by simp; omega)
      simp only [Act.put, e]
      exact ⟨hh, h2, h3, h4'⟩

theorem Step.put {F F' F'' : Nat → Prop} {s : St} {w w' w'' : World} {H' H'' : Heap} {dst : Option Nat} {av : AV} (h : Step F s.H w F' H' w') (h2 : Step F' (putS s dst av H').H w' F'' H'' w'') : Step F s.H w F'' H'' w'' :=
  h.trans (by rw [putS_H] at h2; exact h2)

/-- One operation of a region. -/
theorem one_sound {ops : Array Oper} {Q : Exit → Act → World → Prop} {o : Oper} {ao : AO} {F : Nat → Prop} {s : St} {a : Act} {w : World} {K : St → Prop} {K' : Act → World → Prop} (hc : aoC P ops o = some ao) (hr : Rel P B F s a w) (hk : stepW P ao s K)
    (hq : ∀ F' s' a' w', Rel P B F' s' a' w' → Step F s.H w F' s'.H w' → K s' → K' a' w') : if Region.wanted o (yielded ops a.tmps) then o.wpIn (wideR r) 0 P a w K' Q else (∀ f, o.about P w a.eval = some f → (wideR r).fn f) ∧ K' (a.put o.dst undef) w := by
  unfold aoC at hc
  split at hc
  · next g op hg hop =>
    cases hc
    have run : opW P s.t s.H (fun v H' => K (putS s o.dst v H')) op → o.wpIn (wideR r) 0 P a w K' Q := fun hk =>
      opW_sound hop hr hk r _ _ fun v av H' F' w' h1 h2 h3 h4 => hq F' _ _ _ (hr.put h3 h2 o.dst h1) (by rw [putS_H]; exact h3) h4
    have skip : K (putS s o.dst .void s.H) → (∀ f, o.about P w a.eval = some f → (wideR r).fn f) ∧ K' (a.put o.dst undef) w := fun hk =>
      ⟨fun _ _ => trivial, hq F _ _ _ (hr.put (Step.refl _ _ _) hr.1 o.dst .void) (by rw [putS_H]; exact Step.refl _ _ _) hk⟩
    cases hgd : o.guard with
    | none =>
      rw [hgd] at hg
      simp only [guardC, Option.some.injEq] at hg
      subst hg
      rw [if_pos (by simp [Region.wanted, hgd])]
      exact run hk
    | some jw =>
      obtain ⟨j, want⟩ := jw
      rw [hgd] at hg
      simp only [guardC] at hg
      split at hg
      · next d hd =>
        cases hg
        have ht := hr.2.2.2 d
        simp only [stepW, goes] at hk
        cases hsd : s.t d <;> rw [hsd] at hk <;> try exact hk.elim
        case d x =>
          cases x <;> try exact hk.elim
          next c =>
          rw [hsd] at ht
          generalize hv : a.tmps.getD d undef = v at ht
          cases ht; next ht =>
          cases ht
          have hy : yielded ops a.tmps j = some c := by
            have hlt : d < a.tmps.size := by
              rcases Nat.lt_or_ge d a.tmps.size with h | h
              · exact h
              · rw [Array.getD_eq_getD_getElem?, Array.getElem?_eq_none h] at hv; cases hv
            have h2 : a.tmps[d]? = some (.bool c) := by
              rw [Array.getD_eq_getD_getElem?, Array.getElem?_eq_getElem hlt] at hv
              rw [Array.getElem?_eq_getElem hlt]
              simpa using hv
            simp [yielded, hd, h2]
          have hw : Region.wanted o (yielded ops a.tmps) = (c == want) := by simp [Region.wanted, hgd, hy]
          rw [hw]
          dsimp only at hk
          cases hcw : (c == want) with
          | true => rw [hcw] at hk; rw [if_pos rfl]; exact run hk
          | false => rw [hcw] at hk; rw [if_neg (by simp)]; exact skip hk
        case void =>
          rw [hsd] at ht
          generalize hv : a.tmps.getD d undef = v at ht
          cases ht
          have hy : yielded ops a.tmps j = none := by
            unfold yielded
            rw [hd]
            simp only [Option.bind_some]
            rw [Array.getD_eq_getD_getElem?] at hv
            cases h3 : a.tmps[d]? with
            | none => rfl
            | some u =>
              rw [h3] at hv
              simp only [Option.getD_some] at hv
              subst hv
              rfl
          have hw : Region.wanted o (yielded ops a.tmps) = false := by simp [Region.wanted, hgd, hy]
          rw [hw, if_neg (by simp)]
          exact skip hk
      · cases hg
  · cases hc

theorem opsW_sound {ops : Array Oper} {Q : Exit → Act → World → Prop} : ∀ {l : List Oper} {al : List AO} {F : Nat → Prop} {s : St} {a : Act} {w : World} {K : St → Prop}, aosC P ops l = some al → Rel P B F s a w → opsW P al s K →
    (∀ F' s' a' w', Rel P B F' s' a' w' → Step F s.H w F' s'.H w' → K s' → Q .normal a' w') → wpListIn (wideR r) 0 P ops Q l a w
  | [], al, F, s, a, w, K, hc, hr, hk, hq => by
    simp only [aosC, Option.some.injEq] at hc
    subst hc
    exact hq F s a w hr (Step.refl _ _ _) hk
  | o :: l, al, F, s, a, w, K, hc, hr, hk, hq => by
    simp only [aosC] at hc
    split at hc
    · next ao al' ha hl =>
      cases hc
      rw [opsW_cons] at hk
      exact one_sound ha hr hk fun F' s' a' w' h1 h2 h3 => opsW_sound hl h1 h3 fun F'' s'' a'' w'' r1 r2 r3 => hq F'' s'' a'' w'' r1 (h2.trans r2) r3
    · cases hc

/-! ### regions whose order is open -/
theorem toDL_frz {H : Heap} {K : List D → Heap → Prop} : ∀ {l : List AV} {ds : List D}, toDL l = some ds → K ds H → frzL H l K
  | [], ds, h, hk => by simp only [toDL, Option.some.injEq] at h; subst h; exact hk
  | x :: l, ds, h, hk => by
    cases x <;> simp only [toDL, reduceCtorEq] at h
    all_goals
      split at h
      · next ds' e =>
        cases h
        exact toDL_frz (K := fun xs H'' => K (_ :: xs) H'') e hk
      · cases h
theorem drawOp_le {t : TM} {H : Heap} {K : AV → Heap → Prop} {b b2 : Bool} {news : List Nat} {lp : Bool} {kp : Option (List Nat)} {op : AOp} (h : opW P t H K (drawOp b b2 news lp kp op)) : opW P t H K op := by
  cases op <;> try exact h
  case load g x =>
    simp only [drawOp] at h
    split at h
    · simp only [opW] at h ⊢
      split at h
      · next el off e => rw [e]; exact h
      · exact h.elim
    · split at h
      · split at h
        · next d =>
          simp only [opW, ev] at h ⊢
          split at h
          · next b off e => rw [e]; exact h
          · exact h.elim
        · exact h
      · split at h
        · exact h
        · exact h.2
  case store n p v =>
    cases p with
    | c x => exact h
    | t d =>
      simp only [drawOp] at h
      split at h
      · simp only [opW] at h ⊢
        simp only [ev]
        split at h
        · next b off e =>
          rw [e]
          exact h
        · exact h.elim
      · exact h
  case buildSlice e sz len z ps =>
    simp only [drawOp, opW] at h ⊢
    split at h
    · next cs e1 =>
      split at h
      · next ds e2 => exact toDL_frz (K := fun ds H' => Alloc H' (.row e sz len (cutL sz len ds)) fun b H'' => K (.own b sz 0 len len) H'') e2 h
      · exact h.elim
    · exact h.elim
  case call f xs =>
    cases b
    · simp only [drawOp, Bool.false_eq_true, if_false] at h
      split at h
      · simp only [opW] at h ⊢
        exact CallW.mono' h fun r H' h => h.2
      · exact PCallK.call h
    · exact h
  case callv g xs =>
    cases b
    · simp only [drawOp, opW] at h ⊢
      simp only [Bool.false_eq_true, if_false, opW] at h
      split at h
      · next e => rw [e]; exact PCallK.call h
      · exact h.elim
    · exact h
theorem drawn_le {o : AO} {b b2 : Bool} {news : List Nat} {lp : Bool} {kp : Option (List Nat)} {s : St} {K : St → Prop} (h : stepW P { o with op := drawOp b b2 news lp kp o.op } s K) : stepW P o s K := by
  have e : goes s.t { o with op := drawOp b b2 news lp kp o.op } = goes s.t o := rfl
  unfold stepW at *
  rw [e] at h
  split
  · next e => rw [e] at h; exact drawOp_le h
  · next e => rw [e] at h; exact h
  · next e => rw [e] at h; exact h

theorem Rel.drawn {F : Nat → Prop} {s : St} {a : Act} {w : World} (h : Rel P B F s a w) (n : Nat) : Rel P B F s a { w with drawn := n } :=
  ⟨⟨fun b x hb => (h.1.at_ b x hb).mono rfl (fun _ h => h) (fun _ _ => rfl), h.1.apart, h.1.old⟩, h.2.1, h.2.2.1, fun t => (h.2.2.2 t).mono (fun _ h => h) (fun _ _ => rfl)⟩
theorem Step.drawn (F : Nat → Prop) (H : Heap) (w : World) (n : Nat) : Step F H w F H { w with drawn := n } where
  os := rfl
  tape := rfl
  output := rfl
  size := Nat.le_refl _
  keep := fun _ _ _ => rfl
  dom := fun _ h => .inl h
  mono := fun _ h => h
  new := fun _ h => .inl h

theorem aosC_get {ops : Array Oper} : ∀ {l : List Oper} {al : List AO}, aosC P ops l = some al → al.length = l.length ∧ ∀ (i : Nat) o, l[i]? = some o → ∃ ao, al[i]? = some ao ∧ aoC P ops o = some ao
  | [], al, h => by simp only [aosC, Option.some.injEq] at h; subst h; exact ⟨rfl, fun i o h => by simp at h⟩
  | o :: l, al, h => by
    simp only [aosC] at h
    split at h
    · next a l' h1 h2 =>
      cases h
      obtain ⟨g1, g2⟩ := aosC_get h2
      refine ⟨by simp [g1], fun i o' hi => ?_⟩
      cases i with
      | zero => simp only [List.getElem?_cons_zero, Option.some.injEq] at hi; subst hi; exact ⟨a, by simp, h1⟩
      | succ i => simpa using g2 i o' (by simpa using hi)
    · cases h

/-- What the abstract row must be like for the given one. -/
structure Drawn (P : Program) (ops : Array Oper) (after clo : List (List Nat)) (aos : List AO) : Prop where
  ops_ : ∀ (i : Nat) o, ops[i]? = some o → ∃ ao bo b2 nw lp kp, aoC P ops o = some ao ∧ aos[i]? = some { ao with op := drawOp bo b2 nw lp kp ao.op } ∧ after.getD i [] = dafter o
  clo_ : ∀ i, ∀ x ∈ clo.getD i [], ∃ k ∈ after.getD i [], k = x ∨ x ∈ clo.getD k []
  aft_ : ∀ i, ∀ k ∈ after.getD i [], k < ops.size

theorem any_sound {ops : Array Oper} {after clo : List (List Nat)} {aos : List AO} {Q : Exit → Act → World → Prop} {K : St → Prop} {F0 : Nat → Prop} {H0 : Heap} {w0 : World} (hd : Drawn P ops after clo aos)
    (hq : ∀ F' s' a' w', Rel P B F' s' a' w' → Step F0 H0 w0 F' s'.H w' → K s' → Q .normal a' w') :
    ∀ (n : Nat) (l : List Nat) (listed : Array Bool) (F : Nat → Prop) (s : St) (a : Act) (w : World), l.length = n → listed.size = ops.size → (∀ j, j < ops.size → (listed.getD j false = false ↔ j ∈ l)) → (∀ j ∈ l, j < ops.size) →
      l.Pairwise (fun i j => pairOk after clo aos i j = true) → (∀ i ∈ l, i ∉ after.getD i []) → (∀ k, k < ops.size → k ∉ l → ∀ x ∈ l, x ∉ clo.getD k []) →
      Rel P B F s a w → Step F0 H0 w0 F s.H w → seqW P aos l s K → wpAnyIn (wideR r) 0 P .any ops Q n listed a w := by
  have rdy : ∀ (l : List Nat) (listed : Array Bool), listed.size = ops.size → (∀ j, j < ops.size → (listed.getD j false = false ↔ j ∈ l)) → (∀ j ∈ l, j < ops.size) →
      ∀ i, i ∈ Region.ready .any ops listed ↔ i ∈ l ∧ ∀ k ∈ after.getD i [], k ∉ l := by
    intro l listed hs hl hlt i
    rw [mem_ready]
    have hgd : ∀ j, listed.getD j true = false ↔ j ∈ l := fun j => by
      by_cases hj : j < ops.size
      · rw [← hl j hj]
        rw [Array.getD_eq_getD_getElem?, Array.getD_eq_getD_getElem?, Array.getElem?_eq_getElem (by omega)]
        simp
      · refine ⟨fun h => ?_, fun h => absurd (hlt j h) hj⟩
        rw [Array.getD_eq_getD_getElem?, Array.getElem?_eq_none (by omega)] at h
        cases h
    rw [hgd]
    refine and_congr_right fun hi => ?_
    obtain ⟨o, ho⟩ : ∃ o, ops[i]? = some o := ⟨_, Array.getElem?_eq_getElem (hlt i hi)⟩
    obtain ⟨ao, bo, b2, nw, lp, kp, h1, h2, h3⟩ := hd.ops_ i o ho
    refine ⟨fun ⟨o', ho', h⟩ k hk => ?_, fun h => ⟨o, ho, fun e he hb => ?_⟩⟩
    · rw [ho] at ho'; cases ho'
      rw [h3] at hk
      simp only [dafter, List.mem_map, List.mem_filter] at hk
      obtain ⟨e, ⟨he, hb⟩, rfl⟩ := hk
      intro hc
      have := h e (by simpa using he) hb
      have h' := (hl e.on (hlt e.on hc)).2 hc
      rw [this] at h'; cases h'
    · have hk : e.on ∈ after.getD i [] := by
        rw [h3]
        simp only [dafter, List.mem_map, List.mem_filter]
        exact ⟨e, ⟨by simpa using he, hb⟩, rfl⟩
      cases hv : listed.getD e.on false with
      | true => rfl
      | false => exact absurd ((hl e.on (hd.aft_ i _ hk)).1 hv) (h _ hk)
  intro n
  induction n with
  | zero =>
    intro l listed F s a w hn hs hl hlt hp hi hc hr hst hk
    cases l with
    | cons x l => simp at hn
    | nil =>
      refine ⟨?_, hq F s a w hr hst hk⟩
      rw [List.eq_nil_iff_forall_not_mem]
      intro i hi
      rw [rdy [] listed hs hl hlt i] at hi
      cases hi.1
  | succ n ih =>
    intro l listed F s a w hn hs hl hlt hp hi hc hr hst hk
    refine ⟨fun hnil => ?_, fun i hri => ?_⟩
    · exfalso
      cases l with
      | nil => simp at hn
      | cons x l =>
        have hx : x ∈ Region.ready .any ops listed := by
          rw [rdy (x :: l) listed hs hl hlt x]
          refine ⟨by simp, fun k hk hkl => ?_⟩
          rcases List.mem_cons.1 hkl with rfl | h
          · exact hi k (by simp) hk
          · have := (List.pairwise_cons.1 hp).1 k h
            simp only [pairOk, Bool.and_eq_true, Bool.not_eq_true', List.contains_eq_mem, decide_eq_false_iff_not] at this
            exact this.1.1 hk
        rw [hnil] at hx; cases hx
    · rw [rdy l listed hs hl hlt i] at hri
      obtain ⟨hil, hri⟩ := hri
      have hci : ∀ x ∈ l, x ∉ clo.getD i [] := fun x hx hxc => by
        obtain ⟨k, hk, h | h⟩ := hd.clo_ i x hxc
        · subst h; exact hri k hk hx
        · exact hc k (hd.aft_ i k hk) (hri k hk) x hx h
      obtain ⟨o, h1, h2⟩ := seq_first hp hci hil hk
      have hilt := hlt i hil
      obtain ⟨oo, hoo⟩ : ∃ o, ops[i]? = some o := ⟨_, Array.getElem?_eq_getElem hilt⟩
      obtain ⟨ao, bo, b2, nw, lp, kp, g1, g2, g3⟩ := hd.ops_ i oo hoo
      rw [g2] at h1; cases h1
      unfold wpOpIn
      rw [hoo]
      have hnd : l.Nodup := hp.imp fun {x y} h => by
        simp only [pairOk, Bool.and_eq_true, bne_iff_ne, ne_eq] at h
        exact h.1.2
      refine one_sound g1 hr (drawn_le h2) fun F' s' a' w' r1 r2 r3 => ih (l.erase i) _ F' s' a' w' (by rw [List.length_erase_of_mem hil]; omega) (by simp [hs]) (fun j hj => ?_) (fun j hj => hlt j (List.mem_of_mem_erase hj))
        (hp.sublist List.erase_sublist) (fun j hj => hi j (List.mem_of_mem_erase hj)) (fun k hk hkl x hx => ?_) r1 (hst.trans r2) r3
      · rw [hnd.mem_erase_iff]
        by_cases e : i = j
        · subst e
          simp [Array.getD_eq_getD_getElem?, hs, hilt]
        · rw [getD_set_ne false e, hl j hj]
          exact ⟨fun h => ⟨fun e' => e e'.symm, h⟩, fun h => h.2⟩
      · have hxl := List.mem_of_mem_erase hx
        by_cases e : k = i
        · subst e; exact hci x hxl
        · exact hc k hk (fun hkl' => hkl ((hnd.mem_erase_iff).2 ⟨e, hkl'⟩)) x hxl

theorem drawC1_sound {ld : Nat} {ops : Array Oper} {id : Nat} {ac : ACode} (hc : drawC1 P ld ops = some ac) : ∃ l, ac = .dops l ∧ ∀ {s : St} {K : St → Prop}, opsW P l s K →
    ∀ {B : Nat} {r : Option Nat} {F : Nat → Prop} {a : Act} {w : World} {Q : Exit → Act → World → Prop}, Rel P B F s a w → (∀ F' s' a' w', Rel P B F' s' a' w' → Step F s.H w F' s'.H w' → K s' → Q .normal a' w') → (Code.region id ops true).wpIn (wideR r) 0 P Q a w := by
  unfold drawC1 at hc
  split at hc
  · cases hc
  · next aos0 h0 =>
    obtain ⟨hlen, hget⟩ := aosC_get h0
    simp only [Array.length_toList] at hlen
    extract_lets after clo heavy stores lds ordered apart open1 adrOf keeps lps news0 dsts outs news aos ord at hc
    split at hc
    · next hchk =>
      simp only [Option.map_eq_some_iff] at hc
      obtain ⟨l, hl, rfl⟩ := hc
      refine ⟨l, rfl, ?_⟩
      simp only [Bool.and_eq_true, beq_iff_eq, List.all_eq_true, decide_eq_true_eq, Bool.not_eq_true', List.contains_eq_mem, decide_eq_false_iff_not, List.mem_range] at hchk
      obtain ⟨⟨⟨⟨⟨⟨⟨hm, hol⟩, hco⟩, hpo⟩, hor⟩, hcov⟩, haf⟩, hcl⟩ := hchk
      have hal : aos.length = ops.size := by simp only [aos, List.length_map, List.length_zipIdx, hlen]
      rw [hal] at hol hor hcov haf hcl
      have hafl : after.length = ops.size := by simp [after]
      have hd : Drawn P ops after clo aos := by
        refine ⟨fun i o hi => ?_, fun i x hx => ?_, fun i k hk => ?_⟩
        · obtain ⟨ao, h1, h2⟩ := hget i o (by simpa using hi)
          refine ⟨ao, ordered i, lds i, news, lps i, keeps i, h2, ?_, ?_⟩
          · simp [aos, h1]
          · simp [after, hi]
        · have hi : i < clo.length := by
            rcases Nat.lt_or_ge i clo.length with h | h
            · exact h
            · simp [List.getElem?_eq_none h] at hx
          simp only [cloOk, List.all_eq_true, List.mem_range, List.any_eq_true, Bool.or_eq_true, beq_iff_eq, List.contains_eq_mem, decide_eq_true_eq] at hco
          exact hco i hi x hx
        · have hi : i < after.length := by
            rcases Nat.lt_or_ge i after.length with h | h
            · exact h
            · simp [List.getElem?_eq_none h] at hk
          rw [List.getD_eq_getElem?_getD, List.getElem?_eq_getElem hi] at hk
          exact haf _ (List.getElem_mem hi) k (by simpa using hk)
      intro s K hk B r F a w Q hr hq
      refine wpIn_region_any hm ?_
      refine any_sound hd (F0 := F) (H0 := s.H) (w0 := w) hq ops.size ord _ F s a _ hol (by simp) (fun j hj => ?_) (fun j hj => (hor j hj).1) (pairs_pw hpo) (fun i hi => (hor i hi).2) (fun k hk hkl => absurd (hcov k hk) hkl) (hr.drawn _) (Step.drawn _ _ _ _) (seqW_opsW hl hk)
      simp [Array.getD_eq_getD_getElem?, hj, hcov j hj]
    · cases hc
theorem drawC_sound {ops : Array Oper} {id : Nat} {ac : ACode} (hc : drawC P ops = some ac) : ∃ l, ac = .dops l ∧ ∀ {s : St} {K : St → Prop}, opsW P l s K →
    ∀ {B : Nat} {r : Option Nat} {F : Nat → Prop} {a : Act} {w : World} {Q : Exit → Act → World → Prop}, Rel P B F s a w → (∀ F' s' a' w', Rel P B F' s' a' w' → Step F s.H w F' s'.H w' → K s' → Q .normal a' w') → (Code.region id ops true).wpIn (wideR r) 0 P Q a w := by
  unfold drawC at hc
  split at hc
  · exact drawC1_sound hc
  split at hc
  · next c h => cases hc; exact drawC1_sound h
  · split at hc
    · next c h => cases hc; exact drawC1_sound h
    · split at hc
      · next c h => cases hc; exact drawC1_sound h
      · exact drawC1_sound hc

/-! ### codes -/
theorem AW.mono {c : Code} {s : St} {Q Q' : Out → St → Prop} (h : AW P r c s Q) (hq : ∀ o s', Q o s' → Q' o s') : AW P r c s Q' :=
  fun B F a w hr => Code.wpIn_mono (fun _ _ _ ⟨o, s', F', h1, h2, h3, h4⟩ => ⟨o, s', F', h1, h2, h3, hq o s' h4⟩) (h B F a w hr)

theorem acW_sound {r : Option Nat} : ∀ {ac : ACode} {c : Code} {s : St} {Q : Out → St → Prop}, codeC P c = some ac → (r = none ∨ flatA ac = true) → acW P ac s Q → AW P r c s Q
  | .skip, c, s, Q, hc, hf, hk => by
    cases c <;> simp only [codeC, Option.map_eq_some_iff, reduceCtorEq, and_false, exists_false, Option.some.injEq] at hc
    case skip => exact fun B F a w hr => wpIn_skip ⟨.normal, s, F, trivial, hr, Step.refl _ _ _, hk⟩
    case region id ops draw =>
      split at hc
      · obtain ⟨_, e, _⟩ := drawC_sound (id := id) hc
        cases e
      · simp at hc
    case seq x y => split at hc <;> simp at hc
    case rangeFunc g ps x y => split at hc <;> (try split at hc) <;> simp at hc
    case cond x y z => split at hc <;> simp at hc
  | .ops l, c, s, Q, hc, hf, hk => by
    cases c <;> simp only [codeC, Option.map_eq_some_iff, reduceCtorEq, and_false, exists_false, Option.some.injEq] at hc
    case region id ops draw =>
      split at hc
      · obtain ⟨_, e, _⟩ := drawC_sound (id := id) hc
        cases e
      · next hd =>
        simp only [Option.map_eq_some_iff, ACode.ops.injEq] at hc
        obtain ⟨al, h1, rfl⟩ := hc
        have : draw = false := by simpa using hd
        subst this
        exact fun B F a w hr => wpIn_region_list (opsW_sound h1 hr hk fun F' s' a' w' h2 h3 h4 => ⟨.normal, s', F', trivial, h2, h3, h4⟩)
    case seq x y => split at hc <;> simp at hc
    case rangeFunc g ps x y => split at hc <;> (try split at hc) <;> simp at hc
    case cond x y z => split at hc <;> simp at hc
  | .dops l, c, s, Q, hc, hf, hk => by
    cases c <;> simp only [codeC, Option.map_eq_some_iff, reduceCtorEq, and_false, exists_false, Option.some.injEq] at hc
    case region id ops draw =>
      split at hc
      · next hd =>
        obtain ⟨l', e, h⟩ := drawC_sound (id := id) hc
        cases e
        have : draw = true := by simpa using hd
        subst this
        exact fun B F a w hr => h hk hr fun F' s' a' w' h2 h3 h4 => ⟨.normal, s', F', trivial, h2, h3, h4⟩
      · simp at hc
    case seq x y => split at hc <;> simp at hc
    case rangeFunc g ps x y => split at hc <;> (try split at hc) <;> simp at hc
    case cond x y z => split at hc <;> simp at hc
  | .seq x y, c, s, Q, hc, hf, hk => by
    cases c <;> simp only [codeC, Option.map_eq_some_iff, reduceCtorEq, and_false, exists_false, Option.some.injEq] at hc
    case region id ops draw =>
      split at hc
      · obtain ⟨_, e, _⟩ := drawC_sound (id := id) hc
        cases e
      · simp at hc
    case rangeFunc g ps x y => split at hc <;> (try split at hc) <;> simp at hc
    case seq cx cy =>
      split at hc
      · next x' y' hx hy =>
        cases hc
        intro B F a w hr
        refine wpIn_seq (Code.wpIn_mono ?_ (acW_sound hx (hf.imp id fun h => by simp only [flatA, Bool.and_eq_true] at h; first | exact h.1 | exact h) hk B F a w hr))
        rintro e a1 w1 ⟨o, s1, F1, h1, h2, h3, h4⟩
        cases o <;> cases e <;> simp only [OutR] at h1
        · exact Code.wpIn_mono (fun e a2 w2 ⟨o, s2, F2, g1, g2, g3, g4⟩ => ⟨o, s2, F2, g1, g2, h3.trans g3, g4⟩) (acW_sound hy (hf.imp id fun h => by simp only [flatA, Bool.and_eq_true] at h; exact h.2) h4 B F1 a1 w1 h2)
        · exact ⟨.exit _, s1, F1, h1, h2, h3, h4⟩
        · exact ⟨.ret, s1, F1, trivial, h2, h3, h4⟩
      · cases hc
    case cond x y z => split at hc <;> simp at hc
  | .cond q x y, c, s, Q, hc, hf, hk => by
    cases c <;> simp only [codeC, Option.map_eq_some_iff, reduceCtorEq, and_false, exists_false, Option.some.injEq] at hc
    case region id ops draw =>
      split at hc
      · obtain ⟨_, e, _⟩ := drawC_sound (id := id) hc
        cases e
      · simp at hc
    case seq x y => split at hc <;> simp at hc
    case rangeFunc g ps x y => split at hc <;> (try split at hc) <;> simp at hc
    case cond cq cx cy =>
      split at hc
      · next x' y' hx hy =>
        cases hc
        intro B F a w hr
        simp only [acW] at hk
        split at hk
        · next b e =>
          have hv := ev_sound hr.2.2.2 cq
          rw [e] at hv
          generalize hu : a.eval cq = u at hv
          cases hv; next hv =>
          cases hv
          cases b
          · exact wpIn_cond_false hu (acW_sound hy (hf.imp id fun h => by simp only [flatA, Bool.and_eq_true] at h; exact h.2) (hk.2 rfl) B F a w hr)
          · exact wpIn_cond_true hu (acW_sound hx (hf.imp id fun h => by simp only [flatA, Bool.and_eq_true] at h; exact h.1) (hk.1 rfl) B F a w hr)
        · exact hk.elim
      · cases hc
  | .block id x, c, s, Q, hc, hf, hk => by
    cases c <;> simp only [codeC, Option.map_eq_some_iff, reduceCtorEq, and_false, exists_false, Option.some.injEq, ACode.block.injEq] at hc
    case region id ops draw =>
      split at hc
      · obtain ⟨_, e, _⟩ := drawC_sound (id := id) hc
        cases e
      · simp at hc
    case seq x y => split at hc <;> simp at hc
    case rangeFunc g ps x y => split at hc <;> (try split at hc) <;> simp at hc
    case cond x y z => split at hc <;> simp at hc
    case block id' cx =>
      obtain ⟨x', hx, rfl, rfl⟩ := hc
      intro B F a w hr
      refine wpIn_block (Code.wpIn_mono ?_ (acW_sound hx (hf.imp id fun h => by simp only [flatA, Bool.and_eq_true] at h; first | exact h.1 | exact h) hk B F a w hr))
      rintro e a1 w1 ⟨o, s1, F1, h1, h2, h3, h4⟩
      cases o <;> cases e <;> simp only [OutR] at h1
      · exact ⟨.normal, s1, F1, trivial, h2, h3, h4⟩
      · subst h1
        simp only [Exit.inBlock]
        dsimp only at h4
        split
        · next hi => rw [if_pos hi] at h4; exact ⟨.normal, s1, F1, trivial, h2, h3, h4⟩
        · next hi => rw [if_neg hi] at h4; exact ⟨.exit _, s1, F1, rfl, h2, h3, h4⟩
      · exact ⟨.ret, s1, F1, trivial, h2, h3, h4⟩
  | .loop x, c, s, Q, hc, hf, hk => by
    cases c <;> simp only [codeC, Option.map_eq_some_iff, reduceCtorEq, and_false, exists_false, Option.some.injEq, ACode.loop.injEq] at hc
    case region id ops draw =>
      split at hc
      · obtain ⟨_, e, _⟩ := drawC_sound (id := id) hc
        cases e
      · simp at hc
    case seq x y => split at hc <;> simp at hc
    case rangeFunc g ps x y => split at hc <;> (try split at hc) <;> simp at hc
    case cond x y z => split at hc <;> simp at hc
    case loop cx =>
      obtain ⟨x', hx, rfl⟩ := hc
      exact hk r cx hx (hf.imp id fun h => by simpa only [flatA] using h)
  | .rangef g ps x y, c, s, Q, hc, hf, hk => by
    cases c <;> simp only [codeC, Option.map_eq_some_iff, reduceCtorEq, and_false, exists_false, Option.some.injEq] at hc
    case region id ops draw =>
      split at hc
      · obtain ⟨_, e, _⟩ := drawC_sound (id := id) hc
        cases e
      · simp at hc
    case seq x y => split at hc <;> simp at hc
    case cond x y z => split at hc <;> simp at hc
    case rangeFunc g' ps' a b =>
      rcases hf with rfl | hf
      · split at hc
        · next x' y' hx hy =>
          split at hc
          · next hfl =>
            simp only [Option.some.injEq, ACode.rangef.injEq] at hc
            obtain ⟨h1, h2, h3, h4⟩ := hc
            subst h3 h4
            simp only [Bool.and_eq_true] at hfl
            exact hk g' ps' a b h1 h2 hx hy hfl.1 hfl.2
          · cases hc
        · cases hc
      · simp [flatA] at hf
  | .exit id, c, s, Q, hc, hf, hk => by
    cases c <;> simp only [codeC, Option.map_eq_some_iff, reduceCtorEq, and_false, exists_false, Option.some.injEq, ACode.exit.injEq] at hc
    case region id ops draw =>
      split at hc
      · obtain ⟨_, e, _⟩ := drawC_sound (id := id) hc
        cases e
      · simp at hc
    case seq x y => split at hc <;> simp at hc
    case rangeFunc g ps x y => split at hc <;> (try split at hc) <;> simp at hc
    case cond x y z => split at hc <;> simp at hc
    case exit id' => subst hc; exact fun B F a w hr => wpIn_exit ⟨.exit _, s, F, rfl, hr, Step.refl _ _ _, hk⟩
  | .ret, c, s, Q, hc, hf, hk => by
    cases c <;> simp only [codeC, Option.map_eq_some_iff, reduceCtorEq, and_false, exists_false, Option.some.injEq] at hc
    case region id ops draw =>
      split at hc
      · obtain ⟨_, e, _⟩ := drawC_sound (id := id) hc
        cases e
      · simp at hc
    case seq x y => split at hc <;> simp at hc
    case rangeFunc g ps x y => split at hc <;> (try split at hc) <;> simp at hc
    case cond x y z => split at hc <;> simp at hc
    case ret => exact fun B F a w hr => wpIn_ret ⟨.ret, s, F, trivial, hr, Step.refl _ _ _, hk⟩

/-! ### loops -/
/-- A state that tells less. -/
structure Abst (s t : St) : Prop where
  n : t.n = s.n
  tm : ∀ i, t.t i = .undef ∨ t.t i = s.t i
  hp : ∀ k, t.H k = none ∨ t.H k = s.H k
theorem Abst.refl (s : St) : Abst s s := ⟨rfl, fun _ => .inr rfl, fun _ => .inr rfl⟩
theorem Rel.abst {F : Nat → Prop} {s t : St} {a : Act} {w : World} (hr : Rel P B F s a w) (h : Abst s t) : Rel P B F t a w := by
  obtain ⟨h1, h2, h3, h4⟩ := hr
  refine ⟨⟨fun b x hb => ?_, fun b x hb => ?_, h1.old⟩, ?_, by rw [h.n]; exact h3, fun i => ?_⟩
  · rcases h.hp b with e | e <;> rw [e] at hb
    · cases hb
    · exact h1.at_ b x hb
  · rcases h.hp b with e | e <;> rw [e] at hb
    · cases hb
    · exact h1.apart b x hb
  · obtain ⟨h0, ms, g1, g2, g3⟩ := h2
    refine ⟨h0, ms, g1, g2, fun D hD => ?_⟩
    obtain ⟨k1, k2, k3, k4⟩ := g3 D hD
    exact ⟨k1, by rcases h.hp D with e | e <;> rw [e]; exact k2, k3, k4⟩
  · rcases h.tm i with e | e <;> rw [e]
    · exact .undef _
    · exact h4 i
theorem Step.less {F F' : Nat → Prop} {H H0 H' : Heap} {w w' : World} (st : Step F H0 w F' H' w') (h : ∀ k, H0 k = none ∨ H0 k = H k) : Step F H w F' H' w' where
  os := st.os
  tape := st.tape
  output := st.output
  size := st.size
  keep := fun k hk hn => st.keep k hk (by rcases h k with e | e <;> simp_all)
  dom := fun k hk => by
    rcases st.dom k hk with e | e
    · exact .inl (by rcases h k with e2 | e2 <;> simp_all)
    · exact .inr e
  mono := st.mono
  new := fun k hk => by
    rcases st.new k hk with e | e | e
    · exact .inl e
    · exact .inr (.inl (by rcases h k with e2 | e2 <;> simp_all))
    · exact .inr (.inr e)
theorem AW.abst {c : Code} {s t : St} {Q : Out → St → Prop} (h : Abst s t) (hk : AW P r c t Q) : AW P r c s Q :=
  fun B F a w hr => Code.wpIn_mono (fun _ _ _ ⟨o, s', F', h1, h2, h3, h4⟩ => ⟨o, s', F', h1, h2, h3.less h.hp, h4⟩) (hk B F a w (hr.abst h))

theorem wpIn_loop_rel {c : Code} {Q : Exit → Act → World → Prop} (I : Nat → Act → World → Prop)
    (round : ∀ n a w, I n a w → c.wpIn (wideR r) 0 P (Exit.then (fun a' w' => ∃ m, m < n ∧ I m a' w') Q) a w) : ∀ (n : Nat) (a : Act) (w : World), I n a w → (Code.loop c).wpIn (wideR r) 0 P Q a w := by
  intro n a w h0 b k cs hro hb hr
  have key : ∀ n a w, I n a w → ∃ e a' w', Q e a' w' ∧ ArrivesIn (Machine.fenced P (wideR r)) P (lone (b.atR a (.code c :: .inLoop c :: k)) cs w) b k cs e a' w' := by
    intro n
    induction n using Nat.strongRecOn with
    | _ n ih =>
      intro a w hI
      obtain ⟨e, a1, w1, hq, harr⟩ := round n a w hI b (.inLoop c :: k) cs hro hb hr
      cases e with
      | normal =>
        obtain ⟨m, hm, hI1⟩ := hq
        obtain ⟨e2, a2, w2, hq2, harr2⟩ := ih m hm a1 w1 hI1
        exact ⟨e2, a2, w2, hq2, .of_steps (StepsIn.trans harr (.one (fenced_calm hb hr rfl) stepR_inLoop)) harr2⟩
      | exit id => exact ⟨_, a1, w1, hq, .pass (x := .inLoop c) rfl (fun _ _ => .inl (by simp)) harr⟩
      | goto l => exact ⟨_, a1, w1, hq, .pass (x := .inLoop c) rfl (fun _ _ => .inl (by simp)) harr⟩
      | ret => exact ⟨_, a1, w1, hq, .pass (x := .inLoop c) rfl (fun _ _ => .inl (by simp)) harr⟩
      | panic ch => exact ⟨_, a1, w1, hq, .pass (x := .inLoop c) rfl (fun _ _ => .inl (by simp)) harr⟩
      | outgrown => exact ⟨_, a1, w1, hq, .pass (x := .inLoop c) rfl (fun _ _ => .inl (by simp)) harr⟩
  obtain ⟨e, a', w', hq, harr⟩ := key n a w h0
  exact ⟨e, a', w', hq, .of_steps (.one (fenced_calm hb hr rfl) stepR_loop) harr⟩

theorem LoopW_rule {α : Type} (I : α → Prop) (mk : α → St) (μ : α → Nat) {b : ACode} {s : St} {Q : Out → St → Prop} (x0 : α) (h0 : I x0) (ha : Abst s (mk x0))
    (round : ∀ x, I x → acW P b (mk x) fun o s' => match o with | .normal => ∃ y, I y ∧ μ y < μ x ∧ Abst s' (mk y) | o => Q o s') : LoopW P b s Q := by
  intro r c hc hf
  refine AW.abst ha ?_
  intro B F a w hr
  refine wpIn_loop_rel (fun n a' w' => ∃ x F', I x ∧ μ x = n ∧ Rel P B F' (mk x) a' w' ∧ Step F (mk x0).H w F' (mk x).H w') ?_ (μ x0) a w ⟨x0, F, h0, rfl, hr, Step.refl _ _ _⟩
  rintro n a1 w1 ⟨x, F1, hI, rfl, hr1, hs1⟩
  refine Code.wpIn_mono ?_ (acW_sound hc hf (round x hI) B F1 a1 w1 hr1)
  rintro e a2 w2 ⟨o, s2, F2, g1, g2, g3, g4⟩
  cases o <;> cases e <;> simp only [OutR] at g1
  · obtain ⟨y, hy, hm, hab⟩ := g4
    refine ⟨μ y, hm, y, F2, hy, rfl, g2.abst hab, hs1.trans ⟨g3.os, g3.tape, g3.output, g3.size, g3.keep, fun k hk => g3.dom k ?_, g3.mono, g3.new⟩⟩
    rcases hab.hp k with e | e
    · exact absurd e hk
    · rw [← e]; exact hk
  · exact ⟨.exit _, s2, F2, g1, g2, hs1.trans g3, g4⟩
  · exact ⟨.ret, s2, F2, trivial, g2, hs1.trans g3, g4⟩
end
end Go.Proofs.Ytlflfciebidddaa.Abs
