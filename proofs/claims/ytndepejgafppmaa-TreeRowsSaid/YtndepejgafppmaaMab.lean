/- Part of the machine and the contracts of one law (joined by kmerge.py). No claim stands here. -/
import Derived.Below
import Derived.Carry
import Derived.ChangeCalls
import Derived.ChangeOld
import Derived.IntWalk
import Derived.KernelRfl
import Derived.Laws.Append
import Derived.Laws.AppendOwn
import Derived.Laws.Cells
import Derived.Laws.CopyRow
import Derived.Laws.Entries
import Derived.Laws.MakeOwn
import Derived.Laws.NewFold
import Derived.Laws.Rows
import Derived.Laws.StructEq
import Derived.OpenShut
import Derived.Orders
import Derived.OrdersIn
import Derived.ProofKit
import Derived.RangeFuncLeaves
import Derived.RangeFuncSeq
import Derived.SizedLaws
import Derived.TacticsIn
import Derived.WalkKit
import Derived.Test.YtndepejgafppmaaMaa
set_option maxRecDepth 100000
set_option linter.unusedSimpArgs false
set_option linter.unusedVariables false
namespace Go.Proofs.Ytndepejgafppmaa.Abs
open Go Go.RowKit Go.ChangeShapes
section
variable {P : Program} {B : Nat} {r : Option Nat}
theorem Step.defs {F F' : Nat → Prop} {H H' : Heap} {w w' : World} {ds : List Deferred} (st : Step F H w F' H' w') (h : DefOK B F H ds w) : DefOK B F' H' ds w' := by
  obtain ⟨h0, ms, h1, h2, h3⟩ := h
  refine ⟨Nat.le_trans h0 st.size, ms, h1, h2, fun D hD => ?_⟩
  obtain ⟨g1, g2, g3, g4⟩ := h3 D hD
  have hlt : D < w.heap.size := (Array.getElem?_eq_some_iff.1 g4).1
  refine ⟨g1, ?_, fun hF => ?_, (st.keep D hlt g2).trans g4⟩
  · cases e : H' D with
    | none => rfl
    | some x => rcases st.dom D (by rw [e]; simp) with h | h
                · exact absurd g2 h
                · omega
  · rcases st.new D hF with h | h | h
    · exact g3 h
    · exact h g2
    · omega
theorem Rel.put {F F' : Nat → Prop} {s : St} {a : Act} {w w' : World} {H' : Heap} (hr : Rel P B F s a w) (st : Step F s.H w F' H' w') (hh : HRel P F' H' w') (dst : Option Nat) {av : AV} {v : Value} (hv : VR P F' w' av v) :
    Rel P B F' (putS s dst av H') (a.put dst v) w' := by
  obtain ⟨h1, h2, h3, h4⟩ := hr
  have h4' : ∀ t, VR P F' w' (s.t t) (a.tmps.getD t undef) := fun t => st.VR h1 (h4 t)
  have h2 := st.defs h2
  cases dst with
  | none => exact ⟨hh, h2, h3, h4'⟩
  | some d =>
    simp only [putS]
    split
    · next hd =>
      refine ⟨hh, h2, by simp [Act.put, h3], fun t => ?_⟩
      simp only [putT_get, Act.put]
      by_cases e : d = t
      · subst e
        simp only [beq_self_eq_true, cond_true]
        rw [show (a.tmps.setIfInBounds d v).getD d undef = v by simp [Array.getD, h3, hd]]
        exact hv
      · rw [show (d == t) = false by simpa using e]
        simp only [cond_false]
        rw [show (a.tmps.setIfInBounds d v).getD t undef = a.tmps.getD t undef by rw [Array.getD_eq_getD_getElem?, Array.getD_eq_getD_getElem?, Array.getElem?_setIfInBounds_ne e]]
        exact h4' t
    · next hd =>
      have e : a.tmps.setIfInBounds d v = a.tmps := by
        apply Array.ext'
        simp only [Array.toList_setIfInBounds]
        exact List.set_eq_of_length_le (by simp; omega)
      simp only [Act.put, e]
      exact ⟨hh, h2, h3, h4'⟩
theorem Step.put {F F' F'' : Nat → Prop} {s : St} {w w' w'' : World} {H' H'' : Heap} {dst : Option Nat} {av : AV} (h : Step F s.H w F' H' w') (h2 : Step F' (putS s dst av H').H w' F'' H'' w'') : Step F s.H w F'' H'' w'' :=
  h.trans (by rw [putS_H] at h2; exact h2)
/-- One operation of a region. -/
theorem one_sound {ops : Array Oper} {Q : Exit → Act → World → Prop} {o : Oper} {ao : AO} {F : Nat → Prop} {s : St} {a : Act} {w : World} {K : St → Prop} {K' : Act → World → Prop} (hc : aoC P ops o = some ao) (hr : Rel P B F s a w) (hk : stepW P ao s K)
    (hq : ∀ F' s' a' w', Rel P B F' s' a' w' → Step F s.H w F' s'.H w' → K s' → K' a' w') : if Region.wanted o (yielded ops a.tmps) then o.wpIn (wideR r) 0 P a w K' Q else (∀ f, o.about P w a.eval = some f → (wideR r).fn f) ∧ K' (a.put o.dst undef) w := by
  unfold aoC at hc
  split at hc
  · next g op hg hop =>
    cases hc
    have run : opW P s.t s.H (fun v H' => K (putS s o.dst v H')) op → o.wpIn (wideR r) 0 P a w K' Q := fun hk =>
      opW_sound hop hr hk r _ _ fun v av H' F' w' h1 h2 h3 h4 => hq F' _ _ _ (hr.put h3 h2 o.dst h1) (by rw [putS_H]; exact h3) h4
    have skip : K (putS s o.dst .void s.H) → (∀ f, o.about P w a.eval = some f → (wideR r).fn f) ∧ K' (a.put o.dst undef) w := fun hk =>
      ⟨fun _ _ => trivial, hq F _ _ _ (hr.put (Step.refl _ _ _) hr.1 o.dst .void) (by rw [putS_H]; exact Step.refl _ _ _) hk⟩
    cases hgd : o.guard with
    | none =>
      rw [hgd] at hg
      simp only [guardC, Option.some.injEq] at hg
      subst hg
      rw [if_pos (by simp [Region.wanted, hgd])]
      exact run hk
    | some jw =>
      obtain ⟨j, want⟩ := jw
      rw [hgd] at hg
      simp only [guardC] at hg
      split at hg
      · next d hd =>
        cases hg
        have ht := hr.2.2.2 d
        simp only [stepW, goes] at hk
        cases hsd : s.t d <;> rw [hsd] at hk <;> try exact hk.elim
        case d x =>
          cases x <;> try exact hk.elim
          next c =>
          rw [hsd] at ht
          generalize hv : a.tmps.getD d undef = v at ht
          cases ht; next ht =>
          cases ht
          have hy : yielded ops a.tmps j = some c := by
            have hlt : d < a.tmps.size := by
              rcases Nat.lt_or_ge d a.tmps.size with h | h
              · exact h
              · rw [Array.getD_eq_getD_getElem?, Array.getElem?_eq_none h] at hv; cases hv
            have h2 : a.tmps[d]? = some (.bool c) := by
              rw [Array.getD_eq_getD_getElem?, Array.getElem?_eq_getElem hlt] at hv
              rw [Array.getElem?_eq_getElem hlt]
              simpa using hv
            simp [yielded, hd, h2]
          have hw : Region.wanted o (yielded ops a.tmps) = (c == want) := by simp [Region.wanted, hgd, hy]
          rw [hw]
          dsimp only at hk
          cases hcw : (c == want) with
          | true => rw [hcw] at hk; rw [if_pos rfl]; exact run hk
          | false => rw [hcw] at hk; rw [if_neg (by simp)]; exact skip hk
        case void =>
          rw [hsd] at ht
          generalize hv : a.tmps.getD d undef = v at ht
          cases ht
          have hy : yielded ops a.tmps j = none := by
            unfold yielded
            rw [hd]
            simp only [Option.bind_some]
            rw [Array.getD_eq_getD_getElem?] at hv
            cases h3 : a.tmps[d]? with
            | none => rfl
            | some u =>
              rw [h3] at hv
              simp only [Option.getD_some] at hv
              subst hv
              rfl
          have hw : Region.wanted o (yielded ops a.tmps) = false := by simp [Region.wanted, hgd, hy]
          rw [hw, if_neg (by simp)]
          exact skip hk
      · cases hg
  · cases hc
theorem opsW_sound {ops : Array Oper} {Q : Exit → Act → World → Prop} : ∀ {l : List Oper} {al : List AO} {F : Nat → Prop} {s : St} {a : Act} {w : World} {K : St → Prop}, aosC P ops l = some al → Rel P B F s a w → opsW P al s K →
    (∀ F' s' a' w', Rel P B F' s' a' w' → Step F s.H w F' s'.H w' → K s' → Q .normal a' w') → wpListIn (wideR r) 0 P ops Q l a w
  | [], al, F, s, a, w, K, hc, hr, hk, hq => by
    simp only [aosC, Option.some.injEq] at hc
    subst hc
    exact hq F s a w hr (Step.refl _ _ _) hk
  | o :: l, al, F, s, a, w, K, hc, hr, hk, hq => by
    simp only [aosC] at hc
    split at hc
    · next ao al' ha hl =>
      cases hc
      rw [opsW_cons] at hk
      exact one_sound ha hr hk fun F' s' a' w' h1 h2 h3 => opsW_sound hl h1 h3 fun F'' s'' a'' w'' r1 r2 r3 => hq F'' s'' a'' w'' r1 (h2.trans r2) r3
    · cases hc
theorem toDL_frz {H : Heap} {K : List D → Heap → Prop} : ∀ {l : List AV} {ds : List D}, toDL l = some ds → K ds H → frzL H l K
  | [], ds, h, hk => by simp only [toDL, Option.some.injEq] at h; subst h; exact hk
  | x :: l, ds, h, hk => by
    cases x <;> simp only [toDL, reduceCtorEq] at h
    all_goals
      split at h
      · next ds' e =>
        cases h
        exact toDL_frz (K := fun xs H'' => K (_ :: xs) H'') e hk
      · cases h
theorem drawOp_le {t : TM} {H : Heap} {K : AV → Heap → Prop} {b b2 : Bool} {news : List Nat} {lp : Bool} {kp : Option (List Nat)} {op : AOp} (h : opW P t H K (drawOp b b2 news lp kp op)) : opW P t H K op := by
  cases op <;> try exact h
  case load g x =>
    simp only [drawOp] at h
    split at h
    · simp only [opW] at h ⊢
      split at h
      · next el off e => rw [e]; exact h
      · exact h.elim
    · split at h
      · split at h
        · next d =>
          simp only [opW, ev] at h ⊢
          split at h
          · next b off e => rw [e]; exact h
          · exact h.elim
        · exact h
      · split at h
        · exact h
        · exact h.2
  case store n p v =>
    cases p with
    | c x => exact h
    | t d =>
      simp only [drawOp] at h
      split at h
      · simp only [opW] at h ⊢
        simp only [ev]
        split at h
        · next b off e =>
          rw [e]
          exact h
        · exact h.elim
      · exact h
  case buildSlice e sz len z ps =>
    simp only [drawOp, opW] at h ⊢
    split at h
    · next cs e1 =>
      split at h
      · next ds e2 => exact toDL_frz (K := fun ds H' => Alloc H' (.row e sz len (cutL sz len ds)) fun b H'' => K (.own b sz 0 len len) H'') e2 h
      · exact h.elim
    · exact h.elim
  case call f xs =>
    cases b
    · simp only [drawOp, Bool.false_eq_true, if_false] at h
      split at h
      · simp only [opW] at h ⊢
        exact CallW.mono' h fun r H' h => h.2
      · exact PCallK.call h
    · exact h
  case callv g xs =>
    cases b
    · simp only [drawOp, opW] at h ⊢
      simp only [Bool.false_eq_true, if_false, opW] at h
      split at h
      · next e => rw [e]; exact PCallK.call h
      · exact h.elim
    · exact h
theorem drawn_le {o : AO} {b b2 : Bool} {news : List Nat} {lp : Bool} {kp : Option (List Nat)} {s : St} {K : St → Prop} (h : stepW P { o with op := drawOp b b2 news lp kp o.op } s K) : stepW P o s K := by
  have e : goes s.t { o with op := drawOp b b2 news lp kp o.op } = goes s.t o := rfl
  unfold stepW at *
  rw [e] at h
  split
  · next e => rw [e] at h; exact drawOp_le h
  · next e => rw [e] at h; exact h
  · next e => rw [e] at h; exact h
theorem Rel.drawn {F : Nat → Prop} {s : St} {a : Act} {w : World} (h : Rel P B F s a w) (n : Nat) : Rel P B F s a { w with drawn := n } :=
  ⟨⟨fun b x hb => (h.1.at_ b x hb).mono rfl (fun _ h => h) (fun _ _ => rfl), h.1.apart, h.1.old⟩, h.2.1, h.2.2.1, fun t => (h.2.2.2 t).mono (fun _ h => h) (fun _ _ => rfl)⟩
theorem Step.drawn (F : Nat → Prop) (H : Heap) (w : World) (n : Nat) : Step F H w F H { w with drawn := n } where
  os := rfl
  tape := rfl
  output := rfl
  size := Nat.le_refl _
  keep := fun _ _ _ => rfl
  dom := fun _ h => .inl h
  mono := fun _ h => h
  new := fun _ h => .inl h
theorem aosC_get {ops : Array Oper} : ∀ {l : List Oper} {al : List AO}, aosC P ops l = some al → al.length = l.length ∧ ∀ (i : Nat) o, l[i]? = some o → ∃ ao, al[i]? = some ao ∧ aoC P ops o = some ao
  | [], al, h => by simp only [aosC, Option.some.injEq] at h; subst h; exact ⟨rfl, fun i o h => by simp at h⟩
  | o :: l, al, h => by
    simp only [aosC] at h
    split at h
    · next a l' h1 h2 =>
      cases h
      obtain ⟨g1, g2⟩ := aosC_get h2
      refine ⟨by simp [g1], fun i o' hi => ?_⟩
      cases i with
      | zero => simp only [List.getElem?_cons_zero, Option.some.injEq] at hi; subst hi; exact ⟨a, by simp, h1⟩
      | succ i => simpa using g2 i o' (by simpa using hi)
    · cases h
/-- What the abstract row must be like for the given one. -/
structure Drawn (P : Program) (ops : Array Oper) (after clo : List (List Nat)) (aos : List AO) : Prop where
  ops_ : ∀ (i : Nat) o, ops[i]? = some o → ∃ ao bo b2 nw lp kp, aoC P ops o = some ao ∧ aos[i]? = some { ao with op := drawOp bo b2 nw lp kp ao.op } ∧ after.getD i [] = dafter o
  clo_ : ∀ i, ∀ x ∈ clo.getD i [], ∃ k ∈ after.getD i [], k = x ∨ x ∈ clo.getD k []
  aft_ : ∀ i, ∀ k ∈ after.getD i [], k < ops.size
theorem any_sound {ops : Array Oper} {after clo : List (List Nat)} {aos : List AO} {Q : Exit → Act → World → Prop} {K : St → Prop} {F0 : Nat → Prop} {H0 : Heap} {w0 : World} (hd : Drawn P ops after clo aos)
    (hq : ∀ F' s' a' w', Rel P B F' s' a' w' → Step F0 H0 w0 F' s'.H w' → K s' → Q .normal a' w') :
    ∀ (n : Nat) (l : List Nat) (listed : Array Bool) (F : Nat → Prop) (s : St) (a : Act) (w : World), l.length = n → listed.size = ops.size → (∀ j, j < ops.size → (listed.getD j false = false ↔ j ∈ l)) → (∀ j ∈ l, j < ops.size) →
      l.Pairwise (fun i j => pairOk after clo aos i j = true) → (∀ i ∈ l, i ∉ after.getD i []) → (∀ k, k < ops.size → k ∉ l → ∀ x ∈ l, x ∉ clo.getD k []) →
      Rel P B F s a w → Step F0 H0 w0 F s.H w → seqW P aos l s K → wpAnyIn (wideR r) 0 P .any ops Q n listed a w := by
  have rdy : ∀ (l : List Nat) (listed : Array Bool), listed.size = ops.size → (∀ j, j < ops.size → (listed.getD j false = false ↔ j ∈ l)) → (∀ j ∈ l, j < ops.size) →
      ∀ i, i ∈ Region.ready .any ops listed ↔ i ∈ l ∧ ∀ k ∈ after.getD i [], k ∉ l := by
    intro l listed hs hl hlt i
    rw [mem_ready]
    have hgd : ∀ j, listed.getD j true = false ↔ j ∈ l := fun j => by
      by_cases hj : j < ops.size
      · rw [← hl j hj]
        rw [Array.getD_eq_getD_getElem?, Array.getD_eq_getD_getElem?, Array.getElem?_eq_getElem (by omega)]
        simp
      · refine ⟨fun h => ?_, fun h => absurd (hlt j h) hj⟩
        rw [Array.getD_eq_getD_getElem?, Array.getElem?_eq_none (by omega)] at h
        cases h
    rw [hgd]
    refine and_congr_right fun hi => ?_
    obtain ⟨o, ho⟩ : ∃ o, ops[i]? = some o := ⟨_, Array.getElem?_eq_getElem (hlt i hi)⟩
    obtain ⟨ao, bo, b2, nw, lp, kp, h1, h2, h3⟩ := hd.ops_ i o ho
    refine ⟨fun ⟨o', ho', h⟩ k hk => ?_, fun h => ⟨o, ho, fun e he hb => ?_⟩⟩
    · rw [ho] at ho'; cases ho'
      rw [h3] at hk
      simp only [dafter, List.mem_map, List.mem_filter] at hk
      obtain ⟨e, ⟨he, hb⟩, rfl⟩ := hk
      intro hc
      have := h e (by simpa using he) hb
      have h' := (hl e.on (hlt e.on hc)).2 hc
      rw [this] at h'; cases h'
    · have hk : e.on ∈ after.getD i [] := by
        rw [h3]
        simp only [dafter, List.mem_map, List.mem_filter]
        exact ⟨e, ⟨by simpa using he, hb⟩, rfl⟩
      cases hv : listed.getD e.on false with
      | true => rfl
      | false => exact absurd ((hl e.on (hd.aft_ i _ hk)).1 hv) (h _ hk)
  intro n
  induction n with
  | zero =>
    intro l listed F s a w hn hs hl hlt hp hi hc hr hst hk
    cases l with
    | cons x l => simp at hn
    | nil =>
      refine ⟨?_, hq F s a w hr hst hk⟩
      rw [List.eq_nil_iff_forall_not_mem]
      intro i hi
      rw [rdy [] listed hs hl hlt i] at hi
      cases hi.1
  | succ n ih =>
    intro l listed F s a w hn hs hl hlt hp hi hc hr hst hk
    refine ⟨fun hnil => ?_, fun i hri => ?_⟩
    · exfalso
      cases l with
      | nil => simp at hn
      | cons x l =>
        have hx : x ∈ Region.ready .any ops listed := by
          rw [rdy (x :: l) listed hs hl hlt x]
          refine ⟨by simp, fun k hk hkl => ?_⟩
          rcases List.mem_cons.1 hkl with rfl | h
          · exact hi k (by simp) hk
          · have := (List.pairwise_cons.1 hp).1 k h
            simp only [pairOk, Bool.and_eq_true, Bool.not_eq_true', List.contains_eq_mem, decide_eq_false_iff_not] at this
            exact this.1.1 hk
        rw [hnil] at hx; cases hx
    · rw [rdy l listed hs hl hlt i] at hri
      obtain ⟨hil, hri⟩ := hri
      have hci : ∀ x ∈ l, x ∉ clo.getD i [] := fun x hx hxc => by
        obtain ⟨k, hk, h | h⟩ := hd.clo_ i x hxc
        · subst h; exact hri k hk hx
        · exact hc k (hd.aft_ i k hk) (hri k hk) x hx h
      obtain ⟨o, h1, h2⟩ := seq_first hp hci hil hk
      have hilt := hlt i hil
      obtain ⟨oo, hoo⟩ : ∃ o, ops[i]? = some o := ⟨_, Array.getElem?_eq_getElem hilt⟩
      obtain ⟨ao, bo, b2, nw, lp, kp, g1, g2, g3⟩ := hd.ops_ i oo hoo
      rw [g2] at h1; cases h1
      unfold wpOpIn
      rw [hoo]
      have hnd : l.Nodup := hp.imp fun {x y} h => by
        simp only [pairOk, Bool.and_eq_true, bne_iff_ne, ne_eq] at h
        exact h.1.2
      refine one_sound g1 hr (drawn_le h2) fun F' s' a' w' r1 r2 r3 => ih (l.erase i) _ F' s' a' w' (by rw [List.length_erase_of_mem hil]; omega) (by simp [hs]) (fun j hj => ?_) (fun j hj => hlt j (List.mem_of_mem_erase hj))
        (hp.sublist List.erase_sublist) (fun j hj => hi j (List.mem_of_mem_erase hj)) (fun k hk hkl x hx => ?_) r1 (hst.trans r2) r3
      · rw [hnd.mem_erase_iff]
        by_cases e : i = j
        · subst e
          simp [Array.getD_eq_getD_getElem?, hs, hilt]
        · rw [getD_set_ne false e, hl j hj]
          exact ⟨fun h => ⟨fun e' => e e'.symm, h⟩, fun h => h.2⟩
      · have hxl := List.mem_of_mem_erase hx
        by_cases e : k = i
        · subst e; exact hci x hxl
        · exact hc k hk (fun hkl' => hkl ((hnd.mem_erase_iff).2 ⟨e, hkl'⟩)) x hxl
theorem drawC1_sound {ld : Nat} {ops : Array Oper} {id : Nat} {ac : ACode} (hc : drawC1 P ld ops = some ac) : ∃ l, ac = .dops l ∧ ∀ {s : St} {K : St → Prop}, opsW P l s K →
    ∀ {B : Nat} {r : Option Nat} {F : Nat → Prop} {a : Act} {w : World} {Q : Exit → Act → World → Prop}, Rel P B F s a w → (∀ F' s' a' w', Rel P B F' s' a' w' → Step F s.H w F' s'.H w' → K s' → Q .normal a' w') → (Code.region id ops true).wpIn (wideR r) 0 P Q a w := by
  unfold drawC1 at hc
  split at hc
  · cases hc
  · next aos0 h0 =>
    obtain ⟨hlen, hget⟩ := aosC_get h0
    simp only [Array.length_toList] at hlen
    extract_lets after clo heavy stores lds ordered apart open1 adrOf keeps lps news0 dsts outs news aos ord at hc
    split at hc
    · next hchk =>
      simp only [Option.map_eq_some_iff] at hc
      obtain ⟨l, hl, rfl⟩ := hc
      refine ⟨l, rfl, ?_⟩
      simp only [Bool.and_eq_true, beq_iff_eq, List.all_eq_true, decide_eq_true_eq, Bool.not_eq_true', List.contains_eq_mem, decide_eq_false_iff_not, List.mem_range] at hchk
      obtain ⟨⟨⟨⟨⟨⟨⟨hm, hol⟩, hco⟩, hpo⟩, hor⟩, hcov⟩, haf⟩, hcl⟩ := hchk
      have hal : aos.length = ops.size := by simp only [aos, List.length_map, List.length_zipIdx, hlen]
      rw [hal] at hol hor hcov haf hcl
      have hafl : after.length = ops.size := by simp [after]
      have hd : Drawn P ops after clo aos := by
        refine ⟨fun i o hi => ?_, fun i x hx => ?_, fun i k hk => ?_⟩
        · obtain ⟨ao, h1, h2⟩ := hget i o (by simpa using hi)
          refine ⟨ao, ordered i, lds i, news, lps i, keeps i, h2, ?_, ?_⟩
          · simp [aos, h1]
          · simp [after, hi]
        · have hi : i < clo.length := by
            rcases Nat.lt_or_ge i clo.length with h | h
            · exact h
            · simp [List.getElem?_eq_none h] at hx
          simp only [cloOk, List.all_eq_true, List.mem_range, List.any_eq_true, Bool.or_eq_true, beq_iff_eq, List.contains_eq_mem, decide_eq_true_eq] at hco
          exact hco i hi x hx
        · have hi : i < after.length := by
            rcases Nat.lt_or_ge i after.length with h | h
            · exact h
            · simp [List.getElem?_eq_none h] at hk
          rw [List.getD_eq_getElem?_getD, List.getElem?_eq_getElem hi] at hk
          exact haf _ (List.getElem_mem hi) k (by simpa using hk)
      intro s K hk B r F a w Q hr hq
      refine wpIn_region_any hm ?_
      refine any_sound hd (F0 := F) (H0 := s.H) (w0 := w) hq ops.size ord _ F s a _ hol (by simp) (fun j hj => ?_) (fun j hj => (hor j hj).1) (pairs_pw hpo) (fun i hi => (hor i hi).2) (fun k hk hkl => absurd (hcov k hk) hkl) (hr.drawn _) (Step.drawn _ _ _ _) (seqW_opsW hl hk)
      simp [Array.getD_eq_getD_getElem?, hj, hcov j hj]
    · cases hc
theorem drawC_sound {ops : Array Oper} {id : Nat} {ac : ACode} (hc : drawC P ops = some ac) : ∃ l, ac = .dops l ∧ ∀ {s : St} {K : St → Prop}, opsW P l s K →
    ∀ {B : Nat} {r : Option Nat} {F : Nat → Prop} {a : Act} {w : World} {Q : Exit → Act → World → Prop}, Rel P B F s a w → (∀ F' s' a' w', Rel P B F' s' a' w' → Step F s.H w F' s'.H w' → K s' → Q .normal a' w') → (Code.region id ops true).wpIn (wideR r) 0 P Q a w := by
  unfold drawC at hc
  split at hc
  · exact drawC1_sound hc
  split at hc
  · next c h => cases hc; exact drawC1_sound h
  · split at hc
    · next c h => cases hc; exact drawC1_sound h
    · split at hc
      · next c h => cases hc; exact drawC1_sound h
      · exact drawC1_sound hc
theorem AW.mono {c : Code} {s : St} {Q Q' : Out → St → Prop} (h : AW P r c s Q) (hq : ∀ o s', Q o s' → Q' o s') : AW P r c s Q' :=
  fun B F a w hr => Code.wpIn_mono (fun _ _ _ ⟨o, s', F', h1, h2, h3, h4⟩ => ⟨o, s', F', h1, h2, h3, hq o s' h4⟩) (h B F a w hr)
theorem acW_sound {r : Option Nat} : ∀ {ac : ACode} {c : Code} {s : St} {Q : Out → St → Prop}, codeC P c = some ac → (r = none ∨ flatA ac = true) → acW P ac s Q → AW P r c s Q
  | .skip, c, s, Q, hc, hf, hk => by
    cases c <;> simp only [codeC, Option.map_eq_some_iff, reduceCtorEq, and_false, exists_false, Option.some.injEq] at hc
    case skip => exact fun B F a w hr => wpIn_skip ⟨.normal, s, F, trivial, hr, Step.refl _ _ _, hk⟩
    case region id ops draw =>
      split at hc
      · obtain ⟨_, e, _⟩ := drawC_sound (id := id) hc
        cases e
      · simp at hc
    case seq x y => split at hc <;> simp at hc
    case rangeFunc g ps x y => split at hc <;> (try split at hc) <;> simp at hc
    case cond x y z => split at hc <;> simp at hc
  | .ops l, c, s, Q, hc, hf, hk => by
    cases c <;> simp only [codeC, Option.map_eq_some_iff, reduceCtorEq, and_false, exists_false, Option.some.injEq] at hc
    case region id ops draw =>
      split at hc
      · obtain ⟨_, e, _⟩ := drawC_sound (id := id) hc
        cases e
      · next hd =>
        simp only [Option.map_eq_some_iff, ACode.ops.injEq] at hc
        obtain ⟨al, h1, rfl⟩ := hc
        have : draw = false := by simpa using hd
        subst this
        exact fun B F a w hr => wpIn_region_list (opsW_sound h1 hr hk fun F' s' a' w' h2 h3 h4 => ⟨.normal, s', F', trivial, h2, h3, h4⟩)
    case seq x y => split at hc <;> simp at hc
    case rangeFunc g ps x y => split at hc <;> (try split at hc) <;> simp at hc
    case cond x y z => split at hc <;> simp at hc
  | .dops l, c, s, Q, hc, hf, hk => by
    cases c <;> simp only [codeC, Option.map_eq_some_iff, reduceCtorEq, and_false, exists_false, Option.some.injEq] at hc
    case region id ops draw =>
      split at hc
      · next hd =>
        obtain ⟨l', e, h⟩ := drawC_sound (id := id) hc
        cases e
        have : draw = true := by simpa using hd
        subst this
        exact fun B F a w hr => h hk hr fun F' s' a' w' h2 h3 h4 => ⟨.normal, s', F', trivial, h2, h3, h4⟩
      · simp at hc
    case seq x y => split at hc <;> simp at hc
    case rangeFunc g ps x y => split at hc <;> (try split at hc) <;> simp at hc
    case cond x y z => split at hc <;> simp at hc
  | .seq x y, c, s, Q, hc, hf, hk => by
    cases c <;> simp only [codeC, Option.map_eq_some_iff, reduceCtorEq, and_false, exists_false, Option.some.injEq] at hc
    case region id ops draw =>
      split at hc
      · obtain ⟨_, e, _⟩ := drawC_sound (id := id) hc
        cases e
      · simp at hc
    case rangeFunc g ps x y => split at hc <;> (try split at hc) <;> simp at hc
    case seq cx cy =>
      split at hc
      · next x' y' hx hy =>
        cases hc
        intro B F a w hr
        refine wpIn_seq (Code.wpIn_mono ?_ (acW_sound hx (hf.imp id fun h => by simp only [flatA, Bool.and_eq_true] at h; first | exact h.1 | exact h) hk B F a w hr))
        rintro e a1 w1 ⟨o, s1, F1, h1, h2, h3, h4⟩
        cases o <;> cases e <;> simp only [OutR] at h1
        · exact Code.wpIn_mono (fun e a2 w2 ⟨o, s2, F2, g1, g2, g3, g4⟩ => ⟨o, s2, F2, g1, g2, h3.trans g3, g4⟩) (acW_sound hy (hf.imp id fun h => by simp only [flatA, Bool.and_eq_true] at h; exact h.2) h4 B F1 a1 w1 h2)
        · exact ⟨.exit _, s1, F1, h1, h2, h3, h4⟩
        · exact ⟨.ret, s1, F1, trivial, h2, h3, h4⟩
      · cases hc
    case cond x y z => split at hc <;> simp at hc
  | .cond q x y, c, s, Q, hc, hf, hk => by
    cases c <;> simp only [codeC, Option.map_eq_some_iff, reduceCtorEq, and_false, exists_false, Option.some.injEq] at hc
    case region id ops draw =>
      split at hc
      · obtain ⟨_, e, _⟩ := drawC_sound (id := id) hc
        cases e
      · simp at hc
    case seq x y => split at hc <;> simp at hc
    case rangeFunc g ps x y => split at hc <;> (try split at hc) <;> simp at hc
    case cond cq cx cy =>
      split at hc
      · next x' y' hx hy =>
        cases hc
        intro B F a w hr
        simp only [acW] at hk
        split at hk
        · next b e =>
          have hv := ev_sound hr.2.2.2 cq
          rw [e] at hv
          generalize hu : a.eval cq = u at hv
          cases hv; next hv =>
          cases hv
          cases b
          · exact wpIn_cond_false hu (acW_sound hy (hf.imp id fun h => by simp only [flatA, Bool.and_eq_true] at h; exact h.2) (hk.2 rfl) B F a w hr)
          · exact wpIn_cond_true hu (acW_sound hx (hf.imp id fun h => by simp only [flatA, Bool.and_eq_true] at h; exact h.1) (hk.1 rfl) B F a w hr)
        · exact hk.elim
      · cases hc
  | .block id x, c, s, Q, hc, hf, hk => by
    cases c <;> simp only [codeC, Option.map_eq_some_iff, reduceCtorEq, and_false, exists_false, Option.some.injEq, ACode.block.injEq] at hc
    case region id ops draw =>
      split at hc
      · obtain ⟨_, e, _⟩ := drawC_sound (id := id) hc
        cases e
      · simp at hc
    case seq x y => split at hc <;> simp at hc
    case rangeFunc g ps x y => split at hc <;> (try split at hc) <;> simp at hc
    case cond x y z => split at hc <;> simp at hc
    case block id' cx =>
      obtain ⟨x', hx, rfl, rfl⟩ := hc
      intro B F a w hr
      refine wpIn_block (Code.wpIn_mono ?_ (acW_sound hx (hf.imp id fun h => by simp only [flatA, Bool.and_eq_true] at h; first | exact h.1 | exact h) hk B F a w hr))
      rintro e a1 w1 ⟨o, s1, F1, h1, h2, h3, h4⟩
      cases o <;> cases e <;> simp only [OutR] at h1
      · exact ⟨.normal, s1, F1, trivial, h2, h3, h4⟩
      · subst h1
        simp only [Exit.inBlock]
        dsimp only at h4
        split
        · next hi => rw [if_pos hi] at h4; exact ⟨.normal, s1, F1, trivial, h2, h3, h4⟩
        · next hi => rw [if_neg hi] at h4; exact ⟨.exit _, s1, F1, rfl, h2, h3, h4⟩
      · exact ⟨.ret, s1, F1, trivial, h2, h3, h4⟩
  | .loop x, c, s, Q, hc, hf, hk => by
    cases c <;> simp only [codeC, Option.map_eq_some_iff, reduceCtorEq, and_false, exists_false, Option.some.injEq, ACode.loop.injEq] at hc
    case region id ops draw =>
      split at hc
      · obtain ⟨_, e, _⟩ := drawC_sound (id := id) hc
        cases e
      · simp at hc
    case seq x y => split at hc <;> simp at hc
    case rangeFunc g ps x y => split at hc <;> (try split at hc) <;> simp at hc
    case cond x y z => split at hc <;> simp at hc
    case loop cx =>
      obtain ⟨x', hx, rfl⟩ := hc
      exact hk r cx hx (hf.imp id fun h => by simpa only [flatA] using h)
  | .rangef g ps x y, c, s, Q, hc, hf, hk => by
    cases c <;> simp only [codeC, Option.map_eq_some_iff, reduceCtorEq, and_false, exists_false, Option.some.injEq] at hc
    case region id ops draw =>
      split at hc
      · obtain ⟨_, e, _⟩ := drawC_sound (id := id) hc
        cases e
      · simp at hc
    case seq x y => split at hc <;> simp at hc
    case cond x y z => split at hc <;> simp at hc
    case rangeFunc g' ps' a b =>
      rcases hf with rfl | hf
      · split at hc
        · next x' y' hx hy =>
          split at hc
          · next hfl =>
            simp only [Option.some.injEq, ACode.rangef.injEq] at hc
            obtain ⟨h1, h2, h3, h4⟩ := hc
            subst h3 h4
            simp only [Bool.and_eq_true] at hfl
            exact hk g' ps' a b h1 h2 hx hy hfl.1 hfl.2
          · cases hc
        · cases hc
      · simp [flatA] at hf
  | .exit id, c, s, Q, hc, hf, hk => by
    cases c <;> simp only [codeC, Option.map_eq_some_iff, reduceCtorEq, and_false, exists_false, Option.some.injEq, ACode.exit.injEq] at hc
    case region id ops draw =>
      split at hc
      · obtain ⟨_, e, _⟩ := drawC_sound (id := id) hc
        cases e
      · simp at hc
    case seq x y => split at hc <;> simp at hc
    case rangeFunc g ps x y => split at hc <;> (try split at hc) <;> simp at hc
    case cond x y z => split at hc <;> simp at hc
    case exit id' => subst hc; exact fun B F a w hr => wpIn_exit ⟨.exit _, s, F, rfl, hr, Step.refl _ _ _, hk⟩
  | .ret, c, s, Q, hc, hf, hk => by
    cases c <;> simp only [codeC, Option.map_eq_some_iff, reduceCtorEq, and_false, exists_false, Option.some.injEq] at hc
    case region id ops draw =>
      split at hc
      · obtain ⟨_, e, _⟩ := drawC_sound (id := id) hc
        cases e
      · simp at hc
    case seq x y => split at hc <;> simp at hc
    case rangeFunc g ps x y => split at hc <;> (try split at hc) <;> simp at hc
    case cond x y z => split at hc <;> simp at hc
    case ret => exact fun B F a w hr => wpIn_ret ⟨.ret, s, F, trivial, hr, Step.refl _ _ _, hk⟩
/-- A state that tells less. -/
structure Abst (s t : St) : Prop where
  n : t.n = s.n
  tm : ∀ i, t.t i = .undef ∨ t.t i = s.t i
  hp : ∀ k, t.H k = none ∨ t.H k = s.H k
theorem Abst.refl (s : St) : Abst s s := ⟨rfl, fun _ => .inr rfl, fun _ => .inr rfl⟩
theorem Rel.abst {F : Nat → Prop} {s t : St} {a : Act} {w : World} (hr : Rel P B F s a w) (h : Abst s t) : Rel P B F t a w := by
  obtain ⟨h1, h2, h3, h4⟩ := hr
  refine ⟨⟨fun b x hb => ?_, fun b x hb => ?_, h1.old⟩, ?_, by rw [h.n]; exact h3, fun i => ?_⟩
  · rcases h.hp b with e | e <;> rw [e] at hb
    · cases hb
    · exact h1.at_ b x hb
  · rcases h.hp b with e | e <;> rw [e] at hb
    · cases hb
    · exact h1.apart b x hb
  · obtain ⟨h0, ms, g1, g2, g3⟩ := h2
    refine ⟨h0, ms, g1, g2, fun D hD => ?_⟩
    obtain ⟨k1, k2, k3, k4⟩ := g3 D hD
    exact ⟨k1, by rcases h.hp D with e | e <;> rw [e]; exact k2, k3, k4⟩
  · rcases h.tm i with e | e <;> rw [e]
    · exact .undef _
    · exact h4 i
theorem Step.less {F F' : Nat → Prop} {H H0 H' : Heap} {w w' : World} (st : Step F H0 w F' H' w') (h : ∀ k, H0 k = none ∨ H0 k = H k) : Step F H w F' H' w' where
  os := st.os
  tape := st.tape
  output := st.output
  size := st.size
  keep := fun k hk hn => st.keep k hk (by rcases h k with e | e <;> simp_all)
  dom := fun k hk => by
    rcases st.dom k hk with e | e
    · exact .inl (by rcases h k with e2 | e2 <;> simp_all)
    · exact .inr e
  mono := st.mono
  new := fun k hk => by
    rcases st.new k hk with e | e | e
    · exact .inl e
    · exact .inr (.inl (by rcases h k with e2 | e2 <;> simp_all))
    · exact .inr (.inr e)
theorem AW.abst {c : Code} {s t : St} {Q : Out → St → Prop} (h : Abst s t) (hk : AW P r c t Q) : AW P r c s Q :=
  fun B F a w hr => Code.wpIn_mono (fun _ _ _ ⟨o, s', F', h1, h2, h3, h4⟩ => ⟨o, s', F', h1, h2, h3.less h.hp, h4⟩) (hk B F a w (hr.abst h))
theorem wpIn_loop_rel {c : Code} {Q : Exit → Act → World → Prop} (I : Nat → Act → World → Prop)
    (round : ∀ n a w, I n a w → c.wpIn (wideR r) 0 P (Exit.then (fun a' w' => ∃ m, m < n ∧ I m a' w') Q) a w) : ∀ (n : Nat) (a : Act) (w : World), I n a w → (Code.loop c).wpIn (wideR r) 0 P Q a w := by
  intro n a w h0 b k cs hro hb hr
  have key : ∀ n a w, I n a w → ∃ e a' w', Q e a' w' ∧ ArrivesIn (Machine.fenced P (wideR r)) P (lone (b.atR a (.code c :: .inLoop c :: k)) cs w) b k cs e a' w' := by
    intro n
    induction n using Nat.strongRecOn with
    | _ n ih =>
      intro a w hI
      obtain ⟨e, a1, w1, hq, harr⟩ := round n a w hI b (.inLoop c :: k) cs hro hb hr
      cases e with
      | normal =>
        obtain ⟨m, hm, hI1⟩ := hq
        obtain ⟨e2, a2, w2, hq2, harr2⟩ := ih m hm a1 w1 hI1
        exact ⟨e2, a2, w2, hq2, .of_steps (StepsIn.trans harr (.one (fenced_calm hb hr rfl) stepR_inLoop)) harr2⟩
      | exit id => exact ⟨_, a1, w1, hq, .pass (x := .inLoop c) rfl (fun _ _ => .inl (by simp)) harr⟩
      | goto l => exact ⟨_, a1, w1, hq, .pass (x := .inLoop c) rfl (fun _ _ => .inl (by simp)) harr⟩
      | ret => exact ⟨_, a1, w1, hq, .pass (x := .inLoop c) rfl (fun _ _ => .inl (by simp)) harr⟩
      | panic ch => exact ⟨_, a1, w1, hq, .pass (x := .inLoop c) rfl (fun _ _ => .inl (by simp)) harr⟩
      | outgrown => exact ⟨_, a1, w1, hq, .pass (x := .inLoop c) rfl (fun _ _ => .inl (by simp)) harr⟩
  obtain ⟨e, a', w', hq, harr⟩ := key n a w h0
  exact ⟨e, a', w', hq, .of_steps (.one (fenced_calm hb hr rfl) stepR_loop) harr⟩
theorem LoopW_rule {α : Type} (I : α → Prop) (mk : α → St) (μ : α → Nat) {b : ACode} {s : St} {Q : Out → St → Prop} (x0 : α) (h0 : I x0) (ha : Abst s (mk x0))
    (round : ∀ x, I x → acW P b (mk x) fun o s' => match o with | .normal => ∃ y, I y ∧ μ y < μ x ∧ Abst s' (mk y) | o => Q o s') : LoopW P b s Q := by
  intro r c hc hf
  refine AW.abst ha ?_
  intro B F a w hr
  refine wpIn_loop_rel (fun n a' w' => ∃ x F', I x ∧ μ x = n ∧ Rel P B F' (mk x) a' w' ∧ Step F (mk x0).H w F' (mk x).H w') ?_ (μ x0) a w ⟨x0, F, h0, rfl, hr, Step.refl _ _ _⟩
  rintro n a1 w1 ⟨x, F1, hI, rfl, hr1, hs1⟩
  refine Code.wpIn_mono ?_ (acW_sound hc hf (round x hI) B F1 a1 w1 hr1)
  rintro e a2 w2 ⟨o, s2, F2, g1, g2, g3, g4⟩
  cases o <;> cases e <;> simp only [OutR] at g1
  · obtain ⟨y, hy, hm, hab⟩ := g4
    refine ⟨μ y, hm, y, F2, hy, rfl, g2.abst hab, hs1.trans ⟨g3.os, g3.tape, g3.output, g3.size, g3.keep, fun k hk => g3.dom k ?_, g3.mono, g3.new⟩⟩
    rcases hab.hp k with e | e
    · exact absurd e hk
    · rw [← e]; exact hk
  · exact ⟨.exit _, s2, F2, g1, g2, hs1.trans g3, g4⟩
  · exact ⟨.ret, s2, F2, trivial, g2, hs1.trans g3, g4⟩
end
section
variable {P : Program}
theorem argT_sound {F : Nat → Prop} {w : World} (n : Nat) : ∀ (args : List AV) (vs : List Value) (i : Nat), VRL P F w args vs →
    ∀ t, VR P F w (argT args i t) (if i ≤ t ∧ t < i + vs.length then vs.getD (t - i) undef else undef)
  | [], vs, i, hv, t => by
    obtain rfl := hv.unnil
    rw [if_neg (by simp)]
    exact .void
  | x :: l, vs, i, hv, t => by
    obtain ⟨v, vs, rfl, hx, hl⟩ := hv.uncons
    simp only [argT, putT_get]
    by_cases e : i = t
    · subst e
      simp only [beq_self_eq_true, cond_true]
      rw [if_pos (by simp)]
      simpa using hx
    · rw [show (i == t) = false by simpa using e]
      simp only [cond_false]
      have ih := argT_sound n l vs (i + 1) hl t
      by_cases h : i + 1 ≤ t ∧ t < i + 1 + vs.length
      · rw [if_pos h] at ih
        rw [if_pos (by simp; omega)]
        rw [show t - i = (t - (i + 1)) + 1 by omega]
        simpa using ih
      · rw [if_neg h] at ih
        rw [if_neg (by simp; omega)]
        exact ih
theorem resC_sound {F : Nat → Prop} {s : St} {a : Act} {w : World} (hr : HRel P F s.H w) (ht : ∀ t, VR P F w (s.t t) (a.tmps.getD t undef)) : ∀ {rs : List ResultVar} {ar : List ARes} {K : List AV → Prop}, resC P rs = some ar → resL s ar K →
    ∃ vs : List Value, ∃ avs, ((rs.mapM fun
      | .tmp t => pure (a.tmps.getD t undef)
      | .cell q t => do loadVar t (← asAddr (a.tmps.getD q undef)) : Sem (List Value)).run P w = .ok vs w) ∧ VRL P F w avs vs ∧ K avs
  | [], ar, K, hc, hk => by
    simp only [resC, Option.some.injEq] at hc
    subst hc
    exact ⟨[], [], by simp, VRL.nil, hk⟩
  | .tmp t :: rs, ar, K, hc, hk => by
    simp only [resC, Option.map_eq_some_iff] at hc
    obtain ⟨ar', h1, rfl⟩ := hc
    obtain ⟨vs, avs, e1, e2, e3⟩ := resC_sound hr ht h1 hk
    exact ⟨_ :: vs, _ :: avs, by simp only [List.mapM_cons, Sem.run_bind, Sem.run_pure, Result.andThen_ok, e1], VRL.cons (ht t) e2, e3⟩
  | .cell q t :: rs, ar, K, hc, hk => by
    simp only [resC] at hc
    split at hc
    · next g l hg hl =>
      cases hc
      obtain ⟨v, av, h1, h2, h3⟩ := load_sound hr hg (ht q) (K := fun v => resL s l fun vs => K (v :: vs)) hk
      obtain ⟨vs, avs, e1, e2, e3⟩ := resC_sound hr ht hl h3
      refine ⟨v :: vs, av :: avs, ?_, VRL.cons h2 e2, e3⟩
      have h4 : (do loadVar t (← asAddr (a.tmps.getD q undef)) : Sem Value).run P w = .ok v w := by
        cases hq : a.tmps.getD q undef with
        | pointer p => cases p with
          | none =>
            rw [hq] at h1
            simp [Instr.loadAt, Instr.sureAddr, stuck, Sem.run] at h1
          | some p =>
            rw [hq] at h1
            simpa [Instr.loadAt, Instr.sureAddr, asAddr] using h1
        | _ =>
          rw [hq] at h1
          simp [Instr.loadAt, Instr.sureAddr, stuck, Sem.run] at h1
      simp only [List.mapM_cons, Sem.run_bind, Result.andThen_ok, e1, Sem.run_pure] at h4 ⊢
      rw [h4]
      simp only [Result.andThen_ok, e1]
    · cases hc
theorem RunC_eq {Q : Out → St → Prop} {c : ACode} {s : St} (h : RunC P Q c [] s) : acW P c s Q := by
  unfold RunC at h
  have e : (fun o s' => RunO P Q [] o s') = Q := by funext o s'; exact RunO_nil
  rw [e] at h
  exact h
/-- The blocks of loops that are over, shut. -/
def shut : List Nat → World → World
  | [], w => w
  | D :: ms, w => shut ms (w.putObj D (.deferred none))
theorem shut_heap : ∀ {ms : List Nat} {w : World} {k : Nat}, k ∉ ms → (shut ms w).heap[k]? = w.heap[k]?
  | [], w, k, _ => rfl
  | D :: ms, w, k, h => by
    simp only [List.mem_cons, not_or] at h
    simp only [shut]
    rw [shut_heap h.2, World.putObj_heap_other h.1]
theorem shut_size : ∀ {ms : List Nat} {w : World}, (shut ms w).heap.size = w.heap.size
  | [], w => rfl
  | D :: ms, w => by simp only [shut]; rw [shut_size, World.putObj_size]
theorem shut_rest : ∀ {ms : List Nat} {w : World}, (shut ms w).os = w.os ∧ (shut ms w).tape = w.tape ∧ (shut ms w).output = w.output
  | [], w => ⟨rfl, rfl, rfl⟩
  | D :: ms, w => by simp only [shut]; exact shut_rest
theorem leaves_marks {fn : Func} {tmps : Array Value} {R : Ending → World → Prop} : ∀ (ms : List Nat) (w : World), ms.Nodup → (∀ D ∈ ms, w.heap[D]? = some (.deferred (some []))) →
    LeavesIn Fence.wide 0 P fn tmps R [] .returning (shut ms w) → LeavesInM Fence.wide 0 P fn tmps R (ms.map coll) .returning w
  | [], w, _, _, h => h
  | D :: ms, w, hn, hd, h => by
    rw [List.nodup_cons] at hn
    refine ⟨by simp, .inl ⟨D, _, rfl, run_takeDeferred (hd D (by simp)), leaves_marks ms _ hn.2 (fun k hk => ?_) h⟩⟩
    rw [World.putObj_heap_other (fun e => hn.1 (by rw [← e]; exact hk))]
    exact hd k (by simp [hk])
theorem CallW_intro {f : FuncId} {af : AFunc} {args : List AV} {H : Heap} {K : AV → Heap → Prop} (hc : funcC P f = some af) (hn : args.length ≤ af.n)
    (h : RunC P (finW af.results K) af.body [] ⟨af.n, argT args 0, H⟩) : CallW P f args H K := by
  have h := RunC_eq h
  unfold funcC at hc
  split at hc
  · next fn hf =>
    split at hc
    · next c hb =>
      split at hc
      · next ac rs hac hrs =>
        cases hc
        intro F w vs hh hv
        have hlen : args.length = vs.length := hv.1
        refine (callsIn_wide (n := 0)).1 (callsIn_of_wp_marks hf hb trivial ?_)
        have hrel : Rel P w.heap.size F ⟨fn.ntmps, argT args 0, H⟩ { tmps := vs.toArray ++ Array.replicate (fn.ntmps - vs.toArray.size) undef, defers := [] } w := by
          refine ⟨hh, ⟨Nat.le_refl _, [], rfl, List.nodup_nil, fun D h => by simp at h⟩, by simp only [Array.size_append, Array.size_replicate, List.size_toArray]; dsimp only at hn; omega, fun t => ?_⟩
          have := argT_sound fn.ntmps args vs 0 hv t
          have e : (vs.toArray ++ Array.replicate (fn.ntmps - vs.toArray.size) undef).getD t undef = if 0 ≤ t ∧ t < 0 + vs.length then vs.getD (t - 0) undef else undef := by
            rw [Array.getD_eq_getD_getElem?, Array.getElem?_append]
            by_cases ht : t < vs.length
            · rw [if_pos (by simpa using ht), if_pos (by omega)]; simp
            · rw [if_neg (by simpa using ht), if_neg (by omega), Array.getElem?_replicate]
              split <;> rfl
          rw [e]
          exact this
        refine Code.wpIn_mono (F := Fence.wide) ?_ (acW_sound (r := none) hac (.inl rfl) h w.heap.size F _ w hrel)
        rintro e a' w' ⟨o, s', F', h1, h2, h3, h4⟩
        have fin : resW s' rs (fun r => K r s'.H) → LeavesInM Fence.wide 0 P fn a'.tmps (fun e w' => ∃ r H' F' v, e = .returned v ∧ VR P F' w' r v ∧ HRel P F' H' w' ∧ Step F H w F' H' w' ∧ K r H') a'.defers .returning w' := by
          intro hk
          obtain ⟨g1, ⟨g0, ms, gd, gn, gm⟩, g3, g4⟩ := h2
          rw [gd]
          refine leaves_marks ms w' gn (fun D hD => (gm D hD).2.2.2) ?_
          show ∃ v, (results fn a'.tmps).run P (shut ms w') = .ok v (shut ms w') ∧ ∃ r H' F' v', Ending.returned v = .returned v' ∧ _
          have hoF : ∀ k, F' k → (shut ms w').heap[k]? = w'.heap[k]? := fun k hk => shut_heap fun hm => (gm k hm).2.2.1 hk
          have hh' : HRel P F' s'.H (shut ms w') := ⟨fun b x hb => (g1.at_ b x hb).mono (shut_heap fun hm => by rw [(gm b hm).2.1] at hb; cases hb) (fun _ h => h) hoF, g1.apart, fun b hb => by rw [shut_size]; exact g1.old b hb⟩
          have ht' : ∀ t, VR P F' (shut ms w') (s'.t t) (a'.tmps.getD t undef) := fun t => (g4 t).mono (fun _ h => h) hoF
          have h3 : Step F H w F' s'.H (shut ms w') := ⟨shut_rest.1.trans h3.os, shut_rest.2.1.trans h3.tape, shut_rest.2.2.trans h3.output, by rw [shut_size]; exact h3.size,
            fun k hk hn => (shut_heap fun hm => by have := (gm k hm).1; omega).trans (h3.keep k hk hn), h3.dom, h3.mono, h3.new⟩
          clear g4 g1 gm gn gd g0
          generalize shut ms w' = w' at *
          obtain ⟨us, avs, e1, e2, e3⟩ := resC_sound hh' ht' hrs hk
          have hres : (results fn a'.tmps).run P w' = .ok (if h : us.toArray.size = 1 then us.toArray[0] else .tuple us.toArray) w' := by
            have em := Array.toList_mapM (m := Sem) (xs := fn.results) (f := fun
              | .tmp t => pure (a'.tmps.getD t undef)
              | .cell q t => do loadVar t (← asAddr (a'.tmps.getD q undef)))
            rw [← em] at e1
            simp only [Sem.run_map] at e1
            unfold results
            rw [Sem.run_bind]
            generalize hx : (Sem.run P (Array.mapM _ fn.results) w') = rr at e1 ⊢
            cases rr with
            | halt x w2 => simp [Result.andThen] at e1
            | ok arr w2 =>
              simp only [Result.andThen_ok, Result.ok.injEq] at e1
              obtain ⟨e4, rfl⟩ := e1
              have e5 : arr = us.toArray := by apply Array.ext'; simpa using e4
              subst e5
              rfl
          refine ⟨_, hres, ?_⟩
          match avs, us, e2, e3 with
          | [], [], e2, e3 => exact ⟨_, s'.H, F', _, rfl, .tup [] [] rfl (fun j x v h _ => by simp at h), hh', h3, e3⟩
          | [x], [u], e2, e3 => exact ⟨_, s'.H, F', _, rfl, e2.2 0 _ _ rfl rfl, hh', h3, e3⟩
          | x :: y :: l, u :: v :: us, e2, e3 =>
            refine ⟨_, s'.H, F', _, rfl, ?_, hh', h3, e3⟩
            rw [dif_neg (by simp)]
            exact .tup _ _ e2.1 e2.2
          | [], _ :: _, e2, _ => have := e2.1; simp at this
          | _ :: _, [], e2, _ => have := e2.1; simp at this
          | [x], _ :: _ :: _, e2, _ => have := e2.1; simp at this
          | _ :: _ :: _, [u], e2, _ => have := e2.1; simp at this
        cases o <;> cases e <;> simp only [OutR] at h1
        · exact fin h4
        · exact h4.elim
        · exact fin h4
      · cases hc
    · cases hc
  · cases hc
theorem CallW.mono {f : FuncId} {args : List AV} {H : Heap} {K K' : AV → Heap → Prop} (h : CallW P f args H K) (hk : ∀ r H', K r H' → K' r H') : CallW P f args H K' :=
  fun F w vs hh hv => (h F w vs hh hv).mono fun _ _ ⟨r, H', F', v, h1, h2, h3, h4, h5⟩ => ⟨r, H', F', v, h1, h2, h3, h4, hk r H' h5⟩
def LoopQ {α : Type} (I : α → Prop) (mk : α → St) (μ : α → Nat) (x : α) (R : Out → St → Prop) : Out → St → Prop
  | .normal, s' => ∃ y, I y ∧ μ y < μ x ∧ Abst s' (mk y)
  | .exit i, s' => R (.exit i) s'
  | .ret, s' => R .ret s'
theorem LoopQ_exit {α : Type} {I : α → Prop} {mk : α → St} {μ : α → Nat} {x : α} {R : Out → St → Prop} {s' : St} {i : Nat} : LoopQ I mk μ x R (.exit i) s' = R (.exit i) s' := rfl
theorem LoopQ_ret {α : Type} {I : α → Prop} {mk : α → St} {μ : α → Nat} {x : α} {R : Out → St → Prop} {s' : St} : LoopQ I mk μ x R .ret s' = R .ret s' := rfl
theorem LoopA_rule {α : Type} (I : α → Prop) (mk : α → St) (μ : α → Nat) {Q : Out → St → Prop} {b : ACode} {k : List Item} {s : St} (x0 : α) (h0 : I x0) (ha : Abst s (mk x0))
    (round : ∀ x, I x → RunC P (LoopQ I mk μ x (RunO P Q k)) b [] (mk x)) : LoopA P Q b k s := by
  refine LoopW_rule I mk μ x0 h0 ha fun x hx => ?_
  have h := RunC_eq (round x hx)
  refine cast (congrArg (acW P b (mk x)) ?_) h
  funext o s'; cases o <;> rfl
/-- Only these temporaries are told of. -/
def keepT : List (Nat × AV) → TM
  | [] => fun _ => .undef
  | (i, v) :: l => putT (keepT l) i v
def AllAt (t : TM) : List (Nat × AV) → Prop
  | [] => True
  | (i, v) :: l => t i = v ∧ AllAt t l
theorem Abst_keep {s : St} {n : Nat} {l : List (Nat × AV)} {H : Heap} (hn : n = s.n) (h : AllAt s.t l) (hp : ∀ k, H k = none ∨ H k = s.H k) : Abst s ⟨n, keepT l, H⟩ := by
  refine ⟨hn, fun i => ?_, hp⟩
  show keepT l i = .undef ∨ keepT l i = s.t i
  induction l with
  | nil => exact .inl rfl
  | cons p l ih =>
    obtain ⟨j, v⟩ := p
    simp only [keepT, putT_get]
    by_cases e : j = i
    · subst e; simp only [beq_self_eq_true, cond_true]; exact .inr h.1.symm
    · rw [show (j == i) = false by simpa using e]; exact ih h.2
end
/-- Blocks hold this. -/
def AllH (H : Heap) : List (Nat × Blk) → Prop
  | [] => True
  | (b, x) :: l => H b = some x ∧ AllH H l
/-- The temporaries of a round: yield's arguments in their places. -/
def putL (n : Nat) (t : TM) : List Nat → List AV → TM
  | p :: ps, v :: vs => putL n (if p < n then putT t p v else t) ps vs
  | _, _ => t
section
variable {P : Program}
theorem AllH_upd {H : Heap} {l : Nat} {y : Option Blk} (hl : H l = none) : ∀ {bl : List (Nat × Blk)}, AllH H bl → AllH (upd H l y) bl
  | [], _ => trivial
  | (b, x) :: bl, h => by
    refine ⟨?_, AllH_upd hl h.2⟩
    have h1 := h.1
    rw [upd_get, if_neg (fun e => by rw [e] at hl; rw [hl] at h1; cases h1)]
    exact h1
theorem HRel.less {F : Nat → Prop} {H H0 : Heap} {w : World} (h : HRel P F H w) (hp : ∀ k, H0 k = none ∨ H0 k = H k) : HRel P F H0 w :=
  have hs : ∀ b x, H0 b = some x → H b = some x := fun b x hb => by
    rcases hp b with e | e
    · rw [e] at hb; cases hb
    · rw [← e]; exact hb
  ⟨fun b x hb => h.at_ b x (hs b x hb), fun b x hb => h.apart b x (hs b x hb), h.old⟩
theorem HRel.putObj {F : Nat → Prop} {H : Heap} {w : World} {l : Nat} (o : Obj) (h : HRel P F H w) (hl : H l = none) (hF : ¬ F l) : HRel P F H (w.putObj l o) :=
  ⟨fun b x hb => (h.at_ b x hb).mono (World.putObj_heap_other fun e => by rw [e, hl] at hb; cases hb) (fun _ h => h) (fun k hk => World.putObj_heap_other fun e => hF (e ▸ hk)),
   h.apart, fun b hb => by rw [World.putObj_size]; exact h.old b hb⟩
theorem HRel.put {F : Nat → Prop} {H : Heap} {w : World} {l : Nat} {o : Obj} {ts : List AV} {us : List Value} (h : HRel P F H w) (hl : H l = none) (hF : ¬ F l) (ho : w.heap[l]? = some o) (hv : VRL P F w ts us) : HRel P F (upd H l (some (.obj o ts us))) w :=
  ⟨fun b x hb => by
    rw [upd_get] at hb
    split at hb
    · next e => subst e; cases hb; exact ⟨ho, hv⟩
    · exact h.at_ b x hb,
   fun b x hb => by
    rw [upd_get] at hb
    split at hb
    · next e => subst e; exact hF
    · exact h.apart b x hb, h.old⟩
theorem AllH_iff {H : Heap} : ∀ {bl : List (Nat × Blk)}, AllH H bl ↔ ∀ p ∈ bl, H p.1 = some p.2
  | [] => by simp [AllH]
  | (b, x) :: bl => by simp only [AllH, List.mem_cons, forall_eq_or_imp, AllH_iff]
def RangeQ {α : Type} (I : List (List AV) → α → Prop) (hl : α → List (Nat × Blk)) (pre : List (List AV)) (n : Nat) (t : TM) (R : Out → St → Prop) : Out → St → Prop
  | .normal, s' => ∃ y, I pre y ∧ AllH s'.H (hl y)
  | .exit i, s' => R (.exit i) ⟨n, t, s'.H⟩
  | .ret, s' => R .ret ⟨n, t, s'.H⟩
theorem RangeQ_exit {α : Type} {I : List (List AV) → α → Prop} {hl : α → List (Nat × Blk)} {pre : List (List AV)} {n : Nat} {t : TM} {s' : St} {R : Out → St → Prop} {i : Nat} : RangeQ I hl pre n t R (.exit i) s' = R (.exit i) ⟨n, t, s'.H⟩ := rfl
theorem RangeQ_ret {α : Type} {I : List (List AV) → α → Prop} {hl : α → List (Nat × Blk)} {pre : List (List AV)} {n : Nat} {t : TM} {s' : St} {R : Out → St → Prop} : RangeQ I hl pre n t R .ret s' = R .ret ⟨n, t, s'.H⟩ := rfl
end
/-- Cells that a type's value is made of. -/
def typedW (P : Program) : Nat → TypeId → List D → Prop
  | 0, _, _ => False
  | n + 1, t, l => match P.underlying t with
    | some .bool => ∃ b, l = [.bool b]
    | some (.int k) => ∃ z, l = [.int k z] ∧ (Lit.int k z).wf = true
    | some .string => ∃ s, l = [.str s] ∧ s.size ≤ maxLen
    | some (.slice e) => ∃ xs, l = [.sl (P.cellsOf e) xs] ∧ xs.length ≤ maxLen ∧ ∀ el ∈ xs, typedW P n e el
    | some (.struct fs) => ∃ ls : List (List D), l = ls.flatten ∧ ls.length = fs.size ∧ ∀ (j : Nat) f x, fs[j]? = some f → ls[j]? = some x → typedW P n f.type x
    | _ => False
def tilesB (P : Program) : Nat → List Field → Nat → Bool
  | o, [], e => o == e
  | o, f :: r, e => f.offset == o && tilesB P (o + P.cellsOf f.type) r e
def readT (P : Program) : Nat → TypeId → Bool
  | 0, _ => false
  | n + 1, t => match P.underlying t with
    | some .bool | some (.int _) | some .string => P.cellsOf t == 1
    | some (.slice e) => readT P n e && P.cellsOf e != 0 && P.cellsOf t == 1
    | some (.struct fs) => tilesB P 0 fs.toList (P.cellsOf t) && fs.toList.all fun f => readT P n f.type
    | _ => false
section
variable {P : Program} {H : Type} {enc : TypeId × Value → H} {w : World} {sp : Nat → Bool} {held : Bool}
theorem tile_flat {F : Nat → Prop} : ∀ {fs : List Field} {o : Nat} {cs : List Value} {ls : List (List D)}, tilesB P o fs cs.length = true → ls.length = fs.length →
    (∀ (j : Nat) f x, fs[j]? = some f → ls[j]? = some x → x.length = ((cs.drop f.offset).take (P.cellsOf f.type)).length ∧ ((cs.drop f.offset).take (P.cellsOf f.type)).length = P.cellsOf f.type ∧
      ∀ (i : Nat) c u, x[i]? = some c → ((cs.drop f.offset).take (P.cellsOf f.type))[i]? = some u → RD F w c u) →
    ls.flatten.length = (cs.drop o).length ∧ ∀ (i : Nat) c u, ls.flatten[i]? = some c → (cs.drop o)[i]? = some u → RD F w c u
  | [], o, cs, ls, ht, hl, h => by
    simp only [tilesB, beq_iff_eq] at ht
    cases ls with
    | nil => exact ⟨by simp [ht], fun i c u h => by simp at h⟩
    | cons x r => simp at hl
  | f :: fs, o, cs, ls, ht, hl, h => by
    simp only [tilesB, Bool.and_eq_true, beq_iff_eq] at ht
    cases ls with
    | nil => simp at hl
    | cons x r =>
      obtain ⟨h1, h2⟩ := tile_flat (F := F) (ls := r) ht.2 (by simpa using hl) fun j f' x' hf hx => h (j + 1) f' x' (by simpa using hf) (by simpa using hx)
      obtain ⟨g1, g2, g3⟩ := h 0 f x rfl rfl
      rw [ht.1] at g1 g2 g3
      rw [g2] at g1
      have hlt : o + P.cellsOf f.type ≤ cs.length ∨ P.cellsOf f.type = 0 := by
        simp only [List.length_take, List.length_drop] at g2
        omega
      simp only [List.length_drop] at h1
      refine ⟨?_, fun i c u hc hu => ?_⟩
      · simp only [List.flatten_cons, List.length_append, List.length_drop, g1, h1]
        omega
      · simp only [List.flatten_cons] at hc
        by_cases hi : i < x.length
        · rw [List.getElem?_append_left hi] at hc
          refine g3 i c u hc ?_
          rw [List.getElem?_take_of_lt (by omega)]
          exact hu
        · rw [List.getElem?_append_right (by omega)] at hc
          refine h2 (i - x.length) c u hc ?_
          rw [List.getElem?_drop] at hu ⊢
          rw [← hu]
          congr 1
          omega
theorem cell_lt {a : Addr} {v : Value} (h : w.cell? a = some v) : a.block < w.heap.size ∧ a.spot = none := by
  unfold World.cell? at h
  split at h
  · next e =>
    refine ⟨(Array.getElem?_eq_some_iff.1 e).1, ?_⟩
    split at h
    · cases h
    · next hs => simpa using hs
  · cases h
theorem trod_read : ∀ (n : Nat) (fuel : Nat) (t : TypeId) (cs : List Value) (x : _root_.Go.DataW H × List MemPlace), readT P n t = true → _root_.Go.DataW.trod enc P w 0 sp held fuel t cs = some x →
    ∃ l, typedW P n t l ∧ l.length = cs.length ∧ cs.length = P.cellsOf t ∧ ∀ (j : Nat) c u, l[j]? = some c → cs[j]? = some u → RD (fun b => b < w.heap.size) w c u
  | 0, fuel, t, cs, x, hr, h => by cases hr
  | n + 1, fuel, t, cs, x, hr, h => by
    unfold readT at hr
    unfold typedW
    have one : ∀ (d : D) (v : Value), P.cellsOf t = 1 → cs = [v] → RD (fun b => b < w.heap.size) w d v → ([d] : List D).length = cs.length ∧ cs.length = P.cellsOf t ∧ ∀ (j : Nat) c u, [d][j]? = some c → cs[j]? = some u → RD (fun b => b < w.heap.size) w c u := fun d v hlen e hd => by
      refine ⟨by rw [e]; rfl, by rw [e, hlen]; rfl, fun j c u h1 h2 => ?_⟩
      rw [e] at h2
      cases j with
      | zero => simp at h1 h2; subst h1; subst h2; exact hd
      | succ j => simp at h1
    split at hr
    · next hu =>
      obtain ⟨b, hcs, hx⟩ := _root_.Go.DataW.trod_bool hu h
      try rw [hu]
      exact ⟨[.bool b], ⟨b, rfl⟩, one _ _ (by simpa using hr) hcs (.bool b)⟩
    · next k hu =>
      obtain ⟨z, hcs, hx, hw⟩ := _root_.Go.DataW.trod_int hu h
      try rw [hu]
      exact ⟨[.int k z], ⟨z, rfl, hw⟩, one _ _ (by simpa using hr) hcs (.int k z)⟩
    · next hu =>
      obtain ⟨s, hcs, hx, hw⟩ := _root_.Go.DataW.trod_string hu h
      try rw [hu]
      exact ⟨[.str s], ⟨s, rfl, hw⟩, one _ _ (by simpa using hr) hcs (.str s)⟩
    · next e hu =>
      simp only [Bool.and_eq_true, bne_iff_ne, ne_eq, beq_iff_eq] at hr
      try rw [hu]
      rcases _root_.Go.DataW.trod_slice hu h with ⟨hcs, hx⟩ | ⟨a, len, cap, elems, rest, m, _, hcs, hx, hb, hl, hm, hel, hat, hsp, hns⟩
      · exact ⟨[.sl (P.cellsOf e) []], ⟨[], rfl, by simp, by simp⟩, one _ _ hr.2 hcs (.nil _ _ _)⟩
      · -- each element's cells, and what they read as
        have each : ∀ i, i < len → ∃ (us : List Value) (l : List D), us.length = P.cellsOf e ∧ l.length = P.cellsOf e ∧ typedW P n e l ∧ (∀ j u, us[j]? = some u → w.cell? ((a.add (i * P.cellsOf e)).add j) = some u) ∧
            ∀ (j : Nat) c u, l[j]? = some c → us[j]? = some u → RD (fun b => b < w.heap.size) w c u := fun i hi => by
          have h1 := hat i hi
          rw [List.getElem?_eq_getElem (by omega)] at h1
          rw [Option.bind_eq_some_iff] at h1
          obtain ⟨us, h2, h3⟩ := h1
          obtain ⟨l, g1, g2, g3, g4⟩ := trod_read n m e us _ hr.1.1 h3
          refine ⟨us, l, g3, by omega, g1, fun j u hj => ?_, g4⟩
          have hjl := (List.getElem?_eq_some_iff.1 hj).1
          obtain ⟨k1, k2, k3⟩ := World.cells?_some h2
          have := k3 j (by omega)
          rw [this]
          exact hj
        have hch : ∃ f : Nat → List Value × List D, ∀ i, i < len → (f i).1.length = P.cellsOf e ∧ (f i).2.length = P.cellsOf e ∧ typedW P n e (f i).2 ∧ (∀ j u, (f i).1[j]? = some u → w.cell? ((a.add (i * P.cellsOf e)).add j) = some u) ∧
            ∀ (j : Nat) c u, (f i).2[j]? = some c → (f i).1[j]? = some u → RD (fun b => b < w.heap.size) w c u := by
          refine ⟨fun i => if hi : i < len then (⟨(each i hi).choose, (each i hi).choose_spec.choose⟩ : List Value × List D) else ([], []), fun i hi => ?_⟩
          simp only [hi, dif_pos]
          exact (each i hi).choose_spec.choose_spec
        obtain ⟨f, hf⟩ := hch
        refine ⟨[.sl (P.cellsOf e) ((List.range len).map fun i => (f i).2)], ⟨_, rfl, by simp; omega, fun el hmem => ?_⟩, one _ _ hr.2 hcs ?_⟩
        · obtain ⟨i, hi, rfl⟩ := List.mem_map.1 hmem
          exact (hf i (by simpa using hi)).2.2.1
        · by_cases h0 : len = 0
          · subst h0
            exact .nil _ _ _
          · obtain ⟨z1, z2, z3, z4, z5⟩ := hf 0 (by omega)
            have hz : ∃ u, (f 0).1[0]? = some u := ⟨_, List.getElem?_eq_getElem (by omega)⟩
            obtain ⟨u0, hu0⟩ := hz
            have hbl := cell_lt (z4 0 u0 hu0)
            rw [Nat.zero_mul, show ∀ x : Addr, x.add 0 = x from fun x => rfl, show ∀ x : Addr, x.add 0 = x from fun x => rfl] at hbl
            have ha : a = ⟨a.block, a.off, none⟩ := by
              obtain ⟨ab, ao, as⟩ := a
              have := hbl.2
              simp only at this
              rw [this]
            have hblk : a.block < w.heap.size := hbl.1
            have hpos : 0 < P.cellsOf e := by omega
            have key := RD.sl (F := fun b => b < w.heap.size) (w := w) (P.cellsOf e) ((List.range len).map fun i => (f i).2) a.block a.off cap (fun k => (f (k / P.cellsOf e)).1.getD (k % P.cellsOf e) Go.undef) hblk (by simp; omega)
              (fun el hmem => by obtain ⟨i, hi, rfl⟩ := List.mem_map.1 hmem; exact (hf i (by simpa using hi)).2.1)
              (fun i j el c hi hj => by
                simp only [List.getElem?_map, Option.map_eq_some_iff] at hi
                obtain ⟨i', hi', rfl⟩ := hi
                have hlt : i < len := by
                  have := (List.getElem?_eq_some_iff.1 hi').1
                  simpa using this
                have : i' = i := by
                  rw [List.getElem?_range hlt] at hi'
                  exact (Option.some.inj hi').symm
                subst this
                obtain ⟨y1, y2, y3, y4, y5⟩ := hf i' hlt
                have hjl : j < P.cellsOf e := by rw [← y2]; exact (List.getElem?_eq_some_iff.1 hj).1
                have e1 : (i' * P.cellsOf e + j) / P.cellsOf e = i' := by
                  rw [Nat.mul_comm, Nat.mul_add_div hpos, Nat.div_eq_of_lt hjl, Nat.add_zero]
                have e2 : (i' * P.cellsOf e + j) % P.cellsOf e = j := by
                  rw [Nat.mul_comm, Nat.mul_add_mod, Nat.mod_eq_of_lt hjl]
                have hu : (f i').1[j]? = some ((f i').1.getD j Go.undef) := by
                  rw [List.getD_eq_getElem?_getD, List.getElem?_eq_getElem (by omega)]
                  rfl
                have := y4 j _ hu
                rw [ha] at this
                rw [addr_add, addr_add] at this
                simp only [e1, e2]
                rw [← this, Nat.add_assoc])
              (fun i j el c hi hj => by
                simp only [List.getElem?_map, Option.map_eq_some_iff] at hi
                obtain ⟨i', hi', rfl⟩ := hi
                have hlt : i < len := by
                  have := (List.getElem?_eq_some_iff.1 hi').1
                  simpa using this
                have : i' = i := by
                  rw [List.getElem?_range hlt] at hi'
                  exact (Option.some.inj hi').symm
                subst this
                obtain ⟨y1, y2, y3, y4, y5⟩ := hf i' hlt
                have hjl : j < P.cellsOf e := by rw [← y2]; exact (List.getElem?_eq_some_iff.1 hj).1
                have e1 : (i' * P.cellsOf e + j) / P.cellsOf e = i' := by
                  rw [Nat.mul_comm, Nat.mul_add_div hpos, Nat.div_eq_of_lt hjl, Nat.add_zero]
                have e2 : (i' * P.cellsOf e + j) % P.cellsOf e = j := by
                  rw [Nat.mul_comm, Nat.mul_add_mod, Nat.mod_eq_of_lt hjl]
                simp only [e1, e2]
                refine y5 j c _ hj ?_
                rw [List.getD_eq_getElem?_getD, List.getElem?_eq_getElem (by omega)]
                rfl)
            rw [← ha] at key
            simpa using key
    · next fs hu =>
      simp only [Bool.and_eq_true, List.all_eq_true] at hr
      try rw [hu]
      obtain ⟨xs, m, _, hx, hl, hxl, hf⟩ := _root_.Go.DataW.trod_struct hu h
      have each : ∀ j, j < fs.size → ∃ l f, fs[j]? = some f ∧ typedW P n f.type l ∧ l.length = ((cs.drop f.offset).take (P.cellsOf f.type)).length ∧ ((cs.drop f.offset).take (P.cellsOf f.type)).length = P.cellsOf f.type ∧
          ∀ (i : Nat) c u, l[i]? = some c → ((cs.drop f.offset).take (P.cellsOf f.type))[i]? = some u → RD (fun b => b < w.heap.size) w c u := fun j hj => by
        obtain ⟨f, hfj⟩ : ∃ f, fs[j]? = some f := ⟨_, Array.getElem?_eq_getElem hj⟩
        have h1 := hf j f hfj
        rw [List.getElem?_eq_getElem (by omega)] at h1
        obtain ⟨l, g1, g2, g3, g4⟩ := trod_read n m f.type _ _ (hr.2 f (by simpa using Array.mem_of_getElem? hfj)) h1
        exact ⟨l, f, hfj, g1, g2, g3, g4⟩
      have hch : ∃ g : Nat → List D, ∀ j f, fs[j]? = some f → typedW P n f.type (g j) ∧ (g j).length = ((cs.drop f.offset).take (P.cellsOf f.type)).length ∧ ((cs.drop f.offset).take (P.cellsOf f.type)).length = P.cellsOf f.type ∧
          ∀ (i : Nat) c u, (g j)[i]? = some c → ((cs.drop f.offset).take (P.cellsOf f.type))[i]? = some u → RD (fun b => b < w.heap.size) w c u := by
        refine ⟨fun j => if hj : j < fs.size then (each j hj).choose else [], fun j f hj => ?_⟩
        have hlt : j < fs.size := (Array.getElem?_eq_some_iff.1 hj).1
        simp only [hlt, dif_pos]
        obtain ⟨f', h1, h2⟩ := (each j hlt).choose_spec
        rw [hj] at h1; cases h1
        exact h2
      obtain ⟨g, hg⟩ := hch
      have hget : ∀ (j : Nat) x, ((List.range fs.size).map g)[j]? = some x → x = g j := fun j x hx => by
        simp only [List.getElem?_map, Option.map_eq_some_iff] at hx
        obtain ⟨i', hi', rfl⟩ := hx
        have hlt : j < fs.size := by
          have := (List.getElem?_eq_some_iff.1 hi').1
          simpa using this
        rw [List.getElem?_range hlt] at hi'
        cases hi'
        rfl
      obtain ⟨k1, k2⟩ := tile_flat (P := P) (F := fun b => b < w.heap.size) (w := w) (fs := fs.toList) (o := 0) (cs := cs) (ls := (List.range fs.size).map g) (by rw [hl]; exact hr.1) (by simp) fun j f x hj hx => by
        rw [hget j x hx]
        exact (hg j f (by simpa using hj)).2
      refine ⟨((List.range fs.size).map g).flatten, ⟨_, rfl, by simp, fun j f x hj hx => ?_⟩, by simpa using k1, hl, fun j c u h1 h2 => k2 j c u h1 (by simpa using h2)⟩
      rw [hget j x hx]
      exact (hg j f hj).1
    · cases hr
def cell1 : List D → AV
  | [x] => .d x
  | _ => .undef
/-- Which value these cells are. -/
def argAV (P : Program) (t : TypeId) (l : List D) : AV :=
  match P.underlying t with
  | some (.struct _) => .agg (mapD l)
  | _ => cell1 l
theorem arg_read {n : Nat} {t : TypeId} {v : Value} {d : _root_.Go.DataW H} {ps : List MemPlace} (hr : readT P n t = true) (hv : Value.okWide P w .any 0 t v) (h : _root_.Go.DataW.Trod enc P w 0 sp held t v d ps) :
    ∃ l, typedW P n t l ∧ VR P (fun b => b < w.heap.size) w (argAV P t l) v := by
  obtain ⟨fuel, h⟩ := h
  obtain ⟨l, h1, h2, h3, h4⟩ := trod_read n fuel t _ _ hr h
  refine ⟨l, h1, ?_⟩
  cases n with
  | zero => cases hr
  | succ n =>
    unfold readT at hr
    unfold Value.okWide at hv
    unfold typedW at h1
    unfold argAV
    have one : ∀ d : D, (∀ cs, v ≠ .agg cs) → l = [d] → VR P (fun b => b < w.heap.size) w (cell1 l) v := fun d hv hl => by
      subst hl
      have e : v.cells = #[v] := by cases v <;> first | rfl | exact absurd rfl (hv _)
      rw [e] at h4
      exact .d _ _ (h4 0 d v rfl rfl)
    split at hr
    · next hu =>
      try rw [hu] at hv
      try rw [hu] at h1
      try rw [hu]
      obtain ⟨b, hl⟩ := h1
      exact one _ (fun cs e => by subst e; simp [Cell.okWide, Cell.ok, hu] at hv) hl
    · next k hu =>
      try rw [hu] at hv
      try rw [hu] at h1
      try rw [hu]
      obtain ⟨b, hl, _⟩ := h1
      exact one _ (fun cs e => by subst e; simp [Cell.okWide, Cell.ok, hu] at hv) hl
    · next hu =>
      try rw [hu] at hv
      try rw [hu] at h1
      try rw [hu]
      obtain ⟨b, hl, _⟩ := h1
      exact one _ (fun cs e => by subst e; simp [Cell.okWide, Cell.ok, hu] at hv) hl
    · next e hu =>
      try rw [hu] at hv
      try rw [hu] at h1
      try rw [hu]
      obtain ⟨b, hl, _⟩ := h1
      exact one _ (fun cs e => by subst e; simp [Cell.okWide, Cell.ok, hu] at hv) hl
    · next fs hu =>
      try rw [hu] at hv
      try rw [hu]
      obtain ⟨cs, rfl, hsz, _⟩ := hv
      obtain ⟨cs⟩ := cs
      dsimp only
      have : (Value.agg ⟨cs⟩).cells.toList = cs := rfl
      rw [this] at h2 h3 h4
      have hvr := VRL.mapD (P := P) (F := fun b => b < w.heap.size) (w := w) (el := l) (us := cs) h2 h4
      refine .agg _ cs hvr.1 hvr.2 fun u hu => ?_
      obtain ⟨j, hj⟩ := List.getElem?_of_mem hu
      have hlt := (List.getElem?_eq_some_iff.1 hj).1
      exact (h4 j _ u (List.getElem?_eq_getElem (by omega)) hj).one
    · cases hr
def TypedL (P : Program) (n : Nat) : List TypeId → List (List D) → Prop
  | [], [] => True
  | t :: ts, l :: ls => typedW P n t l ∧ TypedL P n ts ls
  | _, _ => False
def argsAV (P : Program) : List TypeId → List (List D) → List AV
  | t :: ts, l :: ls => argAV P t l :: argsAV P ts ls
  | _, _ => []
def paramB (P : Program) (n : Nat) (t : TypeId) : Bool := readT P n t && P.readableRec t && decide (t < P.types.size)
theorem args_read {n : Nat} (hl : laidOutB P = true) : ∀ {ts : List TypeId} {vs : List Value} {ds : List (_root_.Go.DataW H)} {ps : List MemPlace}, ts.all (paramB P n) = true → (∀ (j : Nat) t v, ts[j]? = some t → vs[j]? = some v → Value.okWide P w .any 0 t v) →
    _root_.Go.DataW.TrodAll enc P w 0 (fun _ => true) true ts vs ds ps →
    (∃ ls, TypedL P n ts ls ∧ VRL P (fun b => b < w.heap.size) w (argsAV P ts ls) vs) ∧ ∀ w', Below w.heap.size w w' → ∃ pa, _root_.Go.DataW.TrodAll enc P w' 0 (fun b => decide (b < w.heap.size)) true ts vs ds pa
  | [], vs, ds, ps, hp, hv, h => by
    obtain ⟨rfl, rfl, rfl⟩ := trodAll_nil h
    exact ⟨⟨[], trivial, .nil⟩, fun w' _ => ⟨[], rfl⟩⟩
  | t :: ts, vs, ds, ps, hp, hv, h => by
    obtain ⟨v0, vs0, d0, ds0, p0, q0, rfl, rfl, rfl, h0, r0⟩ := trodAll_cons h
    simp only [List.all_cons, Bool.and_eq_true] at hp
    obtain ⟨⟨ls, h1, h2⟩, h3⟩ := args_read hl hp.2 (fun j t v h1 h2 => hv (j + 1) t v (by simpa using h1) (by simpa using h2)) r0
    have hp1 := hp.1
    simp only [paramB, Bool.and_eq_true, decide_eq_true_eq] at hp1
    obtain ⟨l, g1, g2⟩ := arg_read hp1.1.1 (hv 0 t v0 rfl rfl) h0
    refine ⟨⟨l :: ls, ⟨g1, h1⟩, .cons g2 h2⟩, fun w' hb => ?_⟩
    obtain ⟨pa, h4⟩ := h3 w' hb
    obtain ⟨fuel, h0'⟩ := h0
    exact ⟨_, trodAll_cons_mk (Below.trod hl hp1.1.2 hp1.2 ⟨fuel, h0'⟩ hb fun x hx => _root_.Go.DataW.trod_lt _ _ _ _ h0' x hx) h4⟩
theorem Step.below {F F' : Nat → Prop} {H' : Heap} {w' : World} (h : Step F Heap.none w F' H' w') : Below w.heap.size w w' :=
  ⟨h.os, h.tape, h.output, h.size, fun k hk => h.keep k hk rfl⟩
/-- A law's row, from its function's contract. -/
theorem law_calls {fid : FuncId} {f : Func} {s : ChangeSpec} {args : Array Value} {ds gs : List (_root_.Go.DataW H)} {before : List MemPlace} {n : Nat} {tb : TypeId} (hvars : s.vars = []) (hres : f.resultTypes = #[tb]) (htb : P.underlying tb = some .bool)
    (hspec : ∀ ds : List (_root_.Go.DataW H), ds.length = f.params.size → s.fn H ds = { results := [.lit (.bool true)], args := ds }) (hl : laidOutB P = true) (hok : f.params.toList.all (paramB P n) = true)
    (hval : ∀ (j : Nat) t v, f.params[j]? = some t → args[j]? = some v → Value.okWide P w .any 0 t v)
    (hW : _root_.Go.DataW.Whole enc P f.params.toList s.vars false w args.toList ds gs before)
    (hlaw : ∀ ls, TypedL P n f.params.toList ls → CallW P fid (argsAV P f.params.toList ls) Heap.none fun r _ => r = .d (.bool true)) :
    Calls P fid args w fun e W' => ∃ v, e = .returned v ∧ s.post enc P f false true false false w args v W' := by
  have hW' := hW
  obtain ⟨p, q, hA, hV, rfl, hfz, hnd⟩ := hW
  rw [hvars] at hV
  obtain ⟨rfl, rfl⟩ := trodVars_none hV
  obtain ⟨⟨ls, h1, h2⟩, h3⟩ := args_read hl hok (fun j t v g1 g2 => hval j t v (by simpa using g1) (by simpa using g2)) hA
  have hlen : ds.length = f.params.size := by
    have := (_root_.Go.trodAll_length hA).2
    simpa using this
  refine (hlaw ls h1 _ w args.toList ⟨fun b x hb => (by cases hb), fun b x hb => (by cases hb), fun b hb => hb⟩ h2).mono fun e W' hh => ?_
  obtain ⟨r, H', F', v, rfl, hv, _, hst, rfl⟩ := hh
  cases hv; next hv =>
  cases hv
  obtain ⟨pa, h4⟩ := h3 W' hst.below
  have hs := hspec ds hlen
  refine ⟨_, rfl, ds, [], p ++ [], [], pa, [], hW', ?_, ?_, ?_, hst.below.frame _, fun h => by cases h⟩
  · rw [List.append_nil, hs, hres]
    exact trodAll_mk1 (shut_bool htb _)
  · rw [List.append_nil, hs]
    exact h4
  · rw [List.append_nil, hs, hvars]
    rfl
end
abbrev i64 (n : Int) : AV := .d (.int .i64 n)
abbrev u64 (n : Int) : AV := .d (.int .u64 n)
abbrev bv (b : Bool) : AV := .d (.bool b)
def Fit (n : Int) : Prop := -9223372036854775808 ≤ n ∧ n ≤ 9223372036854775807
instance (n : Int) : Decidable (Fit n) := by unfold Fit; exact inferInstance
theorem fit_wf {n : Int} (h : (Lit.int .i64 n).wf = true) : Fit n := by
  simp only [Lit.wf, Bool.and_eq_true, decide_eq_true_eq, IntKind.min, IntKind.max, IntKind.signed, IntKind.bits] at h
  unfold Fit
  constructor
  · have := h.1; simp at this; omega
  · have := h.2; simp at this; omega
theorem St_n {n : Nat} {t : TM} {H : Heap} : (St.mk n t H).n = n := (rfl)
theorem St_t {n : Nat} {t : TM} {H : Heap} : (St.mk n t H).t = t := (rfl)
theorem St_H {n : Nat} {t : TM} {H : Heap} : (St.mk n t H).H = H := (rfl)
theorem AF_n {n : Nat} {r : List ARes} {b : ACode} : (AFunc.mk n r b).n = n := (rfl)
theorem AF_r {n : Nat} {r : List ARes} {b : ACode} : (AFunc.mk n r b).results = r := (rfl)
theorem AF_b {n : Nat} {r : List ARes} {b : ACode} : (AFunc.mk n r b).body = b := (rfl)
theorem Fst_mk {α β : Type} {a : α} {b : β} : (Prod.mk a b).fst = a := (rfl)
theorem Snd_mk {α β : Type} {a : α} {b : β} : (Prod.mk a b).snd = b := (rfl)
theorem keepT_cons {i : Nat} {v : AV} {l : List (Nat × AV)} {n : Nat} : keepT ((i, v) :: l) n = bif i == n then v else keepT l n := rfl
theorem keepT_nil {n : Nat} : keepT [] n = .undef := rfl
def LoadK (g : Option Nat) (x : Option Blk) (off : Nat) (K : AV → Prop) : Prop := match x with
  | some (.box _ cells) => match g with
    | none => VC (off < lenAV cells) (K (nth cells off))
    | some n => VC (off + n ≤ lenAV cells) (K (.agg (seg cells off n)))
  | _ => False
theorem loadW_ptr {g : Option Nat} {b off : Nat} {H : Heap} {K : AV → Prop} : loadW g (.ptr b off) H K = LoadK g (H b) off K := rfl
theorem LoadK_1 {t : TypeId} {cells : List AV} {off : Nat} {K : AV → Prop} : LoadK none (some (.box t cells)) off K = VC (off < lenAV cells) (K (nth cells off)) := rfl
theorem LoadK_n {n : Nat} {t : TypeId} {cells : List AV} {off : Nat} {K : AV → Prop} : LoadK (some n) (some (.box t cells)) off K = VC (off + n ≤ lenAV cells) (K (.agg (seg cells off n))) := rfl
def bandI (j : IntKind) (a b : Int) : Int := j.wrap (BitVec.ofInt j.bits a &&& BitVec.ofInt j.bits b).toNat
def borI (j : IntKind) (a b : Int) : Int := j.wrap (BitVec.ofInt j.bits a ||| BitVec.ofInt j.bits b).toNat
def bxorI (j : IntKind) (a b : Int) : Int := j.wrap (BitVec.ofInt j.bits a ^^^ BitVec.ofInt j.bits b).toNat
def LoadPA (P : Program) (Q : Out → St → Prop) (g : Option Nat) (p : AV) (d : Option Nat) (l : List AO) (k : List Item) (s : St) : Prop := match p with
  | .ptr b off => LoadA P Q g (.ptr b off) d l k s
  | _ => False
section
variable {P : Program} {Q : Out → St → Prop} {k : List Item} {s : St} {d : Option Nat} {l : List AO}
theorem Bin_andI {j : IntKind} {a b : Int} : BinA P Q .and (.d (.int j a)) (.d (.int j b)) d l k s = RunL P Q l k (putS s d (.d (.int j (bandI j a b))) s.H) := Bin_and
theorem Bin_orI {j : IntKind} {a b : Int} : BinA P Q .or (.d (.int j a)) (.d (.int j b)) d l k s = RunL P Q l k (putS s d (.d (.int j (borI j a b))) s.H) := Bin_or
theorem Bin_xorI {j : IntKind} {a b : Int} : BinA P Q .xor (.d (.int j a)) (.d (.int j b)) d l k s = RunL P Q l k (putS s d (.d (.int j (bxorI j a b))) s.H) := Bin_xor
theorem VC_intro {p X : Prop} (h1 : p) (h2 : p → X) : VC p X := ⟨h1, h2 h1⟩
theorem CallA_pure {f : FuncId} {args : List AV} {r : AV} (h : DataW P f args r) (hk : RunL P Q l k (putS s d r s.H)) : CallA P Q f args d l k s :=
  CallW_data h (LendL.refl _) hk
theorem CallA_lend {f : FuncId} {args args' : List AV} {r : AV} (h : DataW P f args' r) (hl : LendL s.H args args') (hs : scalL r = true) (hk : RunL P Q l k (putS s d r s.H)) : CallA P Q f args d l k s :=
  CallW_lend h hl hs hk
theorem CallA_new {f : FuncId} {args args' : List AV} {r : AV} (h : NewW P f args' r) (hl : LendL s.H args args') (hk : RunL P Q l k (putS s d r s.H)) : CallA P Q f args d l k s :=
  CallW_new h hl hk
theorem CallA_w {f : FuncId} {args : List AV} {K : AV → Heap → Prop} (h : CallW P f args s.H K) (hk : ∀ r H', K r H' → RunL P Q l k (putS s d r H')) : CallA P Q f args d l k s :=
  CallW.mono h hk
theorem upd_upd {H : Heap} {b : Nat} {x y : Option Blk} : upd (upd H b x) b y = upd H b y := by
  funext k; simp only [upd_get]; split <;> rfl
def AllocR (x : Blk) (sz len : Nat) (d : Option Nat) (l : List AO) (k : List Item) (s : St) (P : Program) (Q : Out → St → Prop) : Prop := ∀ b, s.H b = none → RunL P Q l k (putS s d (.own b sz 0 len len) (upd s.H b (some x)))
def BSliceA (c : Option (List AV)) (e : TypeId) (sz len : Nat) (d : Option Nat) (l : List AO) (k : List Item) (s : St) (P : Program) (Q : Out → St → Prop) : Prop := match c with
  | some cs => frzL s.H cs fun ds H' => AllocR (.row e sz len (cutL sz len ds)) sz len d l k ⟨s.n, s.t, H'⟩ P Q
  | none => False
theorem putS_at {s : St} {H' : Heap} {d : Option Nat} {v : AV} {H : Heap} : putS ⟨s.n, s.t, H'⟩ d v H = putS s d v H := by cases d <;> rfl
theorem RunL_buildSlice {e : TypeId} {sz len : Nat} {z : List AV} {ps : List (Nat × Opd)} : RunL P Q (⟨d, none, .buildSlice e sz len z ps⟩ :: l) k s = BSliceA (buildC (repeatL z len) (evQ s.t sz ps)) e sz len d l k s P Q := by
  rw [RunL_op]
  simp only [opW, BSliceA, AllocR, putS_at]
  cases buildC (repeatL z len) (evQ s.t sz ps) <;> rfl
theorem BSliceA_some {cs : List AV} {e : TypeId} {sz len : Nat} : BSliceA (some cs) e sz len d l k s P Q = frzL s.H cs fun ds H' => AllocR (.row e sz len (cutL sz len ds)) sz len d l k ⟨s.n, s.t, H'⟩ P Q := rfl
def BSliceD (c : Option (List AV)) (e : TypeId) (sz len : Nat) (d : Option Nat) (l : List AO) (k : List Item) (s : St) (P : Program) (Q : Out → St → Prop) : Prop := match c with
  | some cs => match toDL cs with
    | some ds => AllocR (.row e sz len (cutL sz len ds)) sz len d l k s P Q
    | none => False
  | none => False
theorem RunL_buildSliceD {e : TypeId} {sz len : Nat} {z : List AV} {ps : List (Nat × Opd)} : RunL P Q (⟨d, none, .buildSliceD e sz len z ps⟩ :: l) k s = BSliceD (buildC (repeatL z len) (evQ s.t sz ps)) e sz len d l k s P Q := by
  rw [RunL_op]
  simp only [opW, BSliceD, AllocR]
  cases buildC (repeatL z len) (evQ s.t sz ps) with
  | none => rfl
  | some cs => dsimp only; cases toDL cs <;> rfl
theorem AllocR_intro {x : Blk} {sz len : Nat} (h : ∀ b, s.H b = none → RunL P Q l k (putS s d (.own b sz 0 len len) (upd s.H b (some x)))) : AllocR x sz len d l k s P Q := h
def IdxE (xs : List (List D)) (i : Nat) (g : Option Nat) (j : Nat) (d : Option Nat) (l : List AO) (k : List Item) (s : St) (P : Program) (Q : Out → St → Prop) : Prop := ∃ el, xs[i]? = some el ∧ (match g with
  | none => VC (j < el.length) (RunL P Q l k (putS s d (nth (mapD el) j) s.H))
  | some n => VC (j + n ≤ el.length) (RunL P Q l k (putS s d (.agg (seg (mapD el) j n)) s.H)))
def LoadE (g : Option Nat) (x : Option Blk) (sz i j : Nat) (d : Option Nat) (l : List AO) (k : List Item) (s : St) (P : Program) (Q : Out → St → Prop) : Prop := match x with
  | some (.row _ sz' _ xs) => VC (sz = sz') (IdxE xs i g j d l k s P Q)
  | _ => False
theorem LoadA_eptr {g : Option Nat} {b sz i j : Nat} : LoadA P Q g (.eptr b sz i j) d l k s = LoadE g (s.H b) sz i j d l k s P Q := by
  simp only [LoadA, loadW, LoadE, IdxE, Idx, VC]
  cases s.H b with
  | none => rfl
  | some x =>
    cases x with
    | box t cells => rfl
    | obj o ts us => rfl
    | row t sz' cap xs =>
      dsimp only
      refine propext (and_congr_right fun _ => ⟨fun ⟨_, el, h1, h2⟩ => ⟨el, by simpa using h1, by cases g <;> exact h2⟩, fun ⟨el, h1, h2⟩ => ⟨by omega, el, by simpa using h1, by cases g <;> exact h2⟩⟩)
theorem LoadE_row {g : Option Nat} {t : TypeId} {sz cap i j : Nat} {xs : List (List D)} : LoadE g (some (.row t sz cap xs)) sz i j d l k s P Q = IdxE xs i g j d l k s P Q := by simp [LoadE, VC]
theorem IdxE_1 {xs : List (List D)} {i j : Nat} (el : List D) (h : xs[i]? = some el) (hj : j < el.length) (hk : RunL P Q l k (putS s d (nth (mapD el) j) s.H)) : IdxE xs i none j d l k s P Q := ⟨el, h, hj, hk⟩
theorem ElemA_at {xs : List (List D)} {i : Int} (el : List D) (h0 : 0 ≤ i) (h : xs[i.toNat]? = some el) (hk : RunL P Q l k (putS s d (.dptr el 0) s.H)) : ElemA P Q xs i d l k s := ⟨h0, el, h, hk⟩
def AppendA (e : TypeId) (sz bytes : Nat) (z : List AV) (v x : AV) (d : Option Nat) (l : List AO) (k : List Item) (s : St) (P : Program) (Q : Out → St → Prop) : Prop := elemsW s.H x fun sz' ys => (ys = [] ∧ z.length = sz ∧ match v with
  | .nilsl n => RunL P Q l k (putS s d (.nilsl n) s.H)
  | .own b n off len cap => RunL P Q l k (putS s d (.own b n off len cap) s.H)
  | _ => False) ∨ VC (sz' = sz ∧ ys ≠ [] ∧ z.length = sz) (
  match v with
  | .nilsl _ => VC (ys.length * bytes ≤ 140737488355328 ∧ ys.length ≤ maxLen) (∀ b, s.H b = none → ∀ cap, RunL P Q l k (putS s d (.own b sz 0 ys.length cap) (upd s.H b (some (.row e sz cap ys)))))
  | .own b sz'' off len cap => match s.H b with
    | some (.row e' sz''' cap'' xs) => VC (e' = e ∧ sz'' = sz ∧ sz''' = sz ∧ off = 0 ∧ cap = cap'' ∧ len = xs.length ∧ (xs.length + ys.length) * bytes ≤ 140737488355328 ∧ xs.length + ys.length ≤ maxLen)
        (∀ b' cap', upd s.H b none b' = none → RunL P Q l k (putS s d (.own b' sz 0 (len + ys.length) cap') (upd (upd s.H b none) b' (some (.row e sz cap' (xs ++ ys))))))
    | _ => False
  | _ => False)
theorem RunL_append {e : TypeId} {sz bytes : Nat} {z : List AV} {v x : Opd} : RunL P Q (⟨d, none, .append e sz bytes z v x⟩ :: l) k s = AppendA e sz bytes z (ev s.t v) (ev s.t x) d l k s P Q := rfl
theorem AppendA_nil1 {e t : TypeId} {sz bytes n c len capc capx : Nat} {z : List AV} {ys : List (List D)} (hx : s.H c = some (.row t sz capc ys)) (hlen : len = ys.length) (hne : ys ≠ []) (hz : z.length = sz) (hb : ys.length * bytes ≤ 140737488355328 ∧ ys.length ≤ maxLen)
    (hk : ∀ b, s.H b = none → ∀ cap, RunL P Q l k (putS s d (.own b sz 0 ys.length cap) (upd s.H b (some (.row e sz cap ys))))) : AppendA e sz bytes z (.nilsl n) (.own c sz 0 len capx) d l k s P Q := by
  simp only [AppendA, elemsW, hx]
  exact ⟨⟨trivial, trivial, hlen⟩, .inr ⟨⟨trivial, hne, hz⟩, hb, hk⟩⟩
theorem AppendA_own1 {e t : TypeId} {sz bytes b c len cap lenb capc capx : Nat} {z : List AV} {xs ys : List (List D)} (hb : s.H b = some (.row e sz cap xs)) (hx : s.H c = some (.row t sz capc ys)) (hlb : lenb = xs.length) (hlen : len = ys.length) (hne : ys ≠ []) (hz : z.length = sz) (hbd : (xs.length + ys.length) * bytes ≤ 140737488355328 ∧ xs.length + ys.length ≤ maxLen)
    (hk : ∀ b' cap', upd s.H b none b' = none → RunL P Q l k (putS s d (.own b' sz 0 (lenb + ys.length) cap') (upd (upd s.H b none) b' (some (.row e sz cap' (xs ++ ys)))))) : AppendA e sz bytes z (.own b sz 0 lenb cap) (.own c sz 0 len capx) d l k s P Q := by
  simp only [AppendA, elemsW, hx, hb]
  exact ⟨⟨trivial, trivial, hlen⟩, .inr ⟨⟨trivial, hne, hz⟩, ⟨trivial, trivial, trivial, trivial, trivial, hlb, hbd⟩, hk⟩⟩
theorem upd_ne {H : Heap} {j b : Nat} {x : Option Blk} (h : ¬ j = b) : upd H j x b = H b := by rw [upd_get, if_neg h]
theorem upd_eq {H : Heap} {b : Nat} {x : Option Blk} : upd H b x b = x := by rw [upd_get, if_pos rfl]
theorem fresh_ne {H : Heap} {b k : Nat} {x : Blk} (hb : H k = none) (h : H b = some x) : ¬ k = b ∧ ¬ b = k := by
  refine ⟨fun e => ?_, fun e => ?_⟩
  · subst e; rw [hb] at h; cases h
  · subst e; rw [hb] at h; cases h
def SliceA (sz : Nat) (x : AV) (lo hi : Option (Option Int)) (d : Option Nat) (l : List AO) (k : List Item) (s : St) (P : Program) (Q : Out → St → Prop) : Prop := sliceW sz x lo hi fun v => RunL P Q l k (putS s d v s.H)
theorem RunL_slice {sz : Nat} {x : Opd} {lo hi : Option Opd} : RunL P Q (⟨d, none, .slice sz x lo hi⟩ :: l) k s = SliceA sz (ev s.t x) (intOpd (evO s.t lo)) (intOpd (evO s.t hi)) d l k s P Q := rfl
theorem SliceA_sl {sz : Nat} {xs : List (List D)} {lo hi : Option Int} : SliceA sz (.d (.sl sz xs)) (some lo) (some hi) d l k s P Q = VC (0 ≤ lo.getD 0 ∧ lo.getD 0 ≤ hi.getD xs.length ∧ hi.getD xs.length ≤ xs.length) (RunL P Q l k (putS s d (.d (.sl sz ((xs.take (hi.getD xs.length).toNat).drop (lo.getD 0).toNat))) s.H)) := by
  simp [SliceA, sliceW, VC]
def StoreE (n : Nat) (v : AV) (b sz i j : Nat) (d : Option Nat) (l : List AO) (k : List Item) (s : St) (P : Program) (Q : Out → St → Prop) : Prop := frzL s.H (cellsAV v) fun ds H' => match H' b with
  | some (.row t sz' cap xs) => VC (sz = sz') (∃ el, xs[i]? = some el ∧ VC (j + n ≤ el.length) (RunL P Q l k (putS s d .void (upd H' b (some (.row t sz cap (xs.set i (setSegD el j ds))))))))
  | _ => False
theorem StoreA_eptr {n b sz i j : Nat} {v : AV} : StoreA P Q n (.eptr b sz i j) v d l k s = VC (fits n v = true) (StoreE n v b sz i j d l k s P Q) := by
  simp only [StoreA, storeW, StoreE, Idx, VC]
  refine propext (and_congr_right fun _ => ?_)
  refine iff_of_eq (congrArg _ ?_)
  funext ds H'
  cases H' b with
  | none => rfl
  | some x =>
    cases x with
    | box t cells => rfl
    | obj o ts us => rfl
    | row t sz' cap xs =>
      dsimp only
      refine propext (and_congr_right fun _ => ⟨fun ⟨_, el, h1, h2⟩ => ⟨el, by simpa using h1, h2⟩, fun ⟨el, h1, h2⟩ => ⟨by omega, el, by simpa using h1, h2⟩⟩)
theorem StoreE_1 {x : D} {b sz i j cap : Nat} {t : TypeId} {xs : List (List D)} {el : List D} (hb : s.H b = some (.row t sz cap xs)) (h : xs[i]? = some el) (hj : j < el.length) (hk : RunL P Q l k (putS s d .void (upd s.H b (some (.row t sz cap (xs.set i (setSegD el j [x]))))))) : StoreE 1 (.d x) b sz i j d l k s P Q := by
  simp only [StoreE, cellsAV, frzL, frz, hb]
  exact ⟨trivial, el, h, hj, hk⟩
/-- A load from a box that lies apart. -/
theorem RunL_loadP {g : Option Nat} {i : Nat} : RunL P Q (⟨d, none, .loadP g i⟩ :: l) k s = LoadPA P Q g (s.t i) d l k s := by
  rw [RunL_op]
  simp only [opW, LoadPA]
  cases s.t i <;> rfl
theorem LoadPA_ptr {g : Option Nat} {b off : Nat} : LoadPA P Q g (.ptr b off) d l k s = LoadA P Q g (.ptr b off) d l k s := rfl
/-- A call that leaves some boxes as they are. -/
def CallSA (f : FuncId) (args : List AV) (keep : List Nat) (d : Option Nat) (l : List AO) (k : List Item) (s : St) (P : Program) (Q : Out → St → Prop) : Prop := CallW P f args s.H fun v H' => keepsL s.t s.H H' keep ∧ RunL P Q l k (putS s d v H')
theorem RunL_callS {f : FuncId} {args : List Opd} {keep : List Nat} : RunL P Q (⟨d, none, .callS f args keep⟩ :: l) k s = CallSA f (evL s.t args) keep d l k s P Q := rfl
/-- Zeros in a row. -/
def MakeA (e : TypeId) (sz bytes : Nat) (z : List AV) (x : AV) (d : Option Nat) (l : List AO) (k : List Item) (s : St) (P : Program) (Q : Out → St → Prop) : Prop := match x with
  | .d (.int _ n) => match toDL z with
    | some ds => VC (0 ≤ n ∧ n * bytes ≤ 281474976710656 ∧ n ≤ 9223372036854775807) (AllocR (.row e sz n.toNat (List.replicate n.toNat ds)) sz n.toNat d l k s P Q)
    | none => False
  | _ => False
theorem RunL_make {e : TypeId} {sz bytes : Nat} {z : List AV} {x : Opd} : RunL P Q (⟨d, none, .make e sz bytes z x⟩ :: l) k s = MakeA e sz bytes z (ev s.t x) d l k s P Q := rfl
theorem AllocA_intro {x : Blk} (h : ∀ b, s.H b = none → RunL P Q l k (putS s d (.ptr b 0) (upd s.H b (some x)))) : AllocA P Q x d l k s := h
/-- Only these blocks are told of. -/
def keepH : List (Nat × Blk) → Heap
  | [] => Heap.none
  | (b, x) :: l => upd (keepH l) b (some x)
theorem keepH_nil {k : Nat} : keepH [] k = .none := rfl
theorem keepH_cons {b k : Nat} {x : Blk} {l : List (Nat × Blk)} : keepH ((b, x) :: l) k = if k = b then some x else keepH l k := by
  simp only [keepH, upd_get]
  by_cases h : b = k
  · subst h; simp
  · have h' : ¬ k = b := fun e => h e.symm
    simp [h, h']
theorem AllH_keep {H : Heap} {l : List (Nat × Blk)} (h : AllH H l) (k : Nat) : keepH l k = none ∨ keepH l k = H k := by
  induction l with
  | nil => exact .inl rfl
  | cons p l ih =>
    obtain ⟨b, x⟩ := p
    rw [keepH_cons]
    by_cases e : k = b
    · subst e; rw [if_pos rfl]; exact .inr h.1.symm
    · rw [if_neg e]; exact ih h.2
/-- A loop: what is told of the temporaries and of the blocks at each round's beginning. -/
theorem LoopA_k {α : Type} (I : α → Prop) (n : Nat) (tl : α → List (Nat × AV)) (hl : α → List (Nat × Blk)) (μ : α → Nat) {b : ACode} (x0 : α) (h0 : I x0) (hn : n = s.n) (ha : AllAt s.t (tl x0)) (hb : AllH s.H (hl x0))
    (round : ∀ x, I x → RunC P (LoopQ I (fun x => ⟨n, keepT (tl x), keepH (hl x)⟩) μ x (RunO P Q k)) b [] ⟨n, keepT (tl x), keepH (hl x)⟩) : LoopA P Q b k s :=
  LoopA_rule I (fun x => ⟨n, keepT (tl x), keepH (hl x)⟩) μ x0 h0 (Abst_keep hn ha (AllH_keep hb)) round
theorem LoopQ_k {α : Type} {I : α → Prop} {n : Nat} {tl : α → List (Nat × AV)} {hl : α → List (Nat × Blk)} {μ : α → Nat} {x : α} {R : Out → St → Prop} {s' : St} (y : α) (h1 : I y) (h2 : μ y < μ x) (hn : n = s'.n) (ha : AllAt s'.t (tl y)) (hb : AllH s'.H (hl y)) : LoopQ I (fun x => ⟨n, keepT (tl x), keepH (hl x)⟩) μ x R .normal s' :=
  ⟨y, h1, h2, Abst_keep hn ha (AllH_keep hb)⟩
theorem putL_nil {n : Nat} {t : TM} {x : List AV} : putL n t [] x = t := by cases x <;> rfl
theorem putL_cons {n p : Nat} {t : TM} {ps : List Nat} {v : AV} {x : List AV} : putL n t (p :: ps) (v :: x) = putL n (if p < n then putT t p v else t) ps x := rfl
theorem LendV_eq {H : Heap} {x y : AV} (h : x = y) : LendV H x y := h ▸ .refl x
end
/-- A row of numbers. -/
def rowI (l : List Int) : List (List D) := l.map fun n => [.int .i64 n]
theorem rowI_len {l : List Int} : (rowI l).length = l.length := List.length_map ..
theorem rowI_at {l : List Int} {i : Nat} {n : Int} (h : l[i]? = some n) : (rowI l)[i]? = some [.int .i64 n] := by simp [rowI, h]
abbrev slI (l : List Int) : AV := .d (.sl 1 (rowI l))
def AllFit (l : List Int) : Prop := ∀ (i : Nat) (h : i < l.length), Fit l[i]
theorem i64_succ {i : Nat} (h : i < 9223372036854775807) : IntKind.i64.wrap ((i : Int) + 1) = ((i + 1 : Nat) : Int) := by rw [IntKind.wrap_i64]; omega
section
variable {P : Program} {n : Nat} {t : TypeId} {l : List D}
theorem typedL_cons {ts : List TypeId} {ls : List (List D)} (h : TypedL P n (t :: ts) ls) : ∃ l r, ls = l :: r ∧ typedW P n t l ∧ TypedL P n ts r := by
  cases ls with
  | nil => exact absurd h id
  | cons l r => exact ⟨l, r, rfl, h.1, h.2⟩
theorem typedL_nil {ls : List (List D)} (h : TypedL P n [] ls) : ls = [] := by
  cases ls with
  | nil => rfl
  | cons l r => exact absurd h id
theorem typed_bool (h : typedW P (n + 1) t l) (ht : P.underlying t = some .bool) : ∃ b, l = [.bool b] ∧ argAV P t l = bv b := by
  rw [typedW, ht] at h
  obtain ⟨b, rfl⟩ := h
  exact ⟨b, rfl, by simp [argAV, ht, cell1]⟩
theorem typed_int (h : typedW P (n + 1) t l) (ht : P.underlying t = some (.int .i64)) : ∃ z, l = [.int .i64 z] ∧ Fit z ∧ argAV P t l = i64 z := by
  rw [typedW, ht] at h
  obtain ⟨z, rfl, h⟩ := h
  exact ⟨z, rfl, fit_wf h, by simp [argAV, ht, cell1]⟩
theorem typed_slice {e : TypeId} (h : typedW P (n + 1) t l) (ht : P.underlying t = some (.slice e)) : ∃ xs, l = [.sl (P.cellsOf e) xs] ∧ xs.length ≤ maxLen ∧ (∀ el ∈ xs, typedW P n e el) ∧ argAV P t l = .d (.sl (P.cellsOf e) xs) := by
  rw [typedW, ht] at h
  obtain ⟨xs, rfl, h1, h2⟩ := h
  exact ⟨xs, rfl, h1, h2, by simp [argAV, ht, cell1]⟩
theorem typed_rowI {e : TypeId} {xs : List (List D)} (h : ∀ el ∈ xs, typedW P (n + 1) e el) (he : P.underlying e = some (.int .i64)) : ∃ zs, xs = rowI zs ∧ AllFit zs := by
  induction xs with
  | nil => exact ⟨[], rfl, fun i h => absurd h (Nat.not_lt_zero _)⟩
  | cons x xs ih =>
    obtain ⟨z, rfl, hz, _⟩ := typed_int (h x (List.mem_cons_self ..)) he
    obtain ⟨zs, rfl, h2⟩ := ih fun el h' => h el (List.mem_cons_of_mem _ h')
    refine ⟨z :: zs, rfl, fun i hi => ?_⟩
    cases i with
    | zero => exact hz
    | succ i => exact h2 i (by simpa using hi)
theorem typed_ints {e : TypeId} (h : typedW P (n + 2) t l) (ht : P.underlying t = some (.slice e)) (he : P.underlying e = some (.int .i64)) (hc : P.cellsOf e = 1) : ∃ zs, AllFit zs ∧ zs.length ≤ 9223372036854775807 ∧ argAV P t l = slI zs := by
  obtain ⟨xs, rfl, h1, h2, h3⟩ := typed_slice h ht
  obtain ⟨zs, rfl, h4⟩ := typed_rowI h2 he
  refine ⟨zs, h4, ?_, by rw [h3, hc]⟩
  rw [rowI_len] at h1
  exact h1
theorem typedL_of : ∀ {fs : List Field} {ls : List (List D)}, ls.length = fs.length → (∀ (j : Nat) f x, fs[j]? = some f → ls[j]? = some x → typedW P n f.type x) → TypedL P n (fs.map (·.type)) ls
  | [], [], _, _ => trivial
  | [], _ :: _, h, _ => by simp at h
  | _ :: _, [], h, _ => by simp at h
  | f :: fs, x :: ls, h, k => ⟨k 0 f x rfl rfl, typedL_of (by simpa using h) fun j f x h1 h2 => k (j + 1) f x (by simpa using h1) (by simpa using h2)⟩
theorem typed_struct {fs : Array Field} (h : typedW P (n + 1) t l) (ht : P.underlying t = some (.struct fs)) : ∃ ls, l = ls.flatten ∧ TypedL P n (fs.toList.map (·.type)) ls ∧ argAV P t l = .agg (mapD l) := by
  rw [typedW, ht] at h
  obtain ⟨ls, rfl, h1, h2⟩ := h
  exact ⟨ls, rfl, typedL_of (by simpa using h1) (fun j f x g1 g2 => h2 j f x (by simpa using g1) g2), by simp [argAV, ht]⟩
theorem lend_nil {H : Heap} : LendL H [] [] := LendL.refl _
theorem lend_cons {H : Heap} {x y : AV} {xs ys : List AV} (h : LendV H x y) (t : LendL H xs ys) : LendL H (x :: xs) (y :: ys) := by
  refine ⟨congrArg (· + 1) t.1, fun j u v h1 h2 => ?_⟩
  cases j with
  | zero => cases h1; cases h2; exact h
  | succ j => exact t.2 j u v h1 h2
theorem lend_own {H : Heap} {b sz cap cap' len : Nat} {e : TypeId} {xs : List (List D)} (h : H b = some (.row e sz cap' xs)) (hl : len = xs.length) : LendV H (.own b sz 0 len cap) (.d (.sl sz xs)) := by
  subst hl; exact .own b sz cap e cap' xs h
/-- A law's answer is true. -/
theorem DataW.law {f : FuncId} {args : List AV} (h : DataW P f args (bv true)) : CallW P f args Heap.none fun r _ => r = .d (.bool true) :=
  CallW.mono h fun r H' hr => by cases hr; rfl
end
/-- A slice of one's own that has grown from nil. -/
def rowV (z sz c cap : Nat) : List (List D) → AV
  | [] => .nilsl z
  | x :: xs => .own c sz 0 (x :: xs).length cap
def rowH (t : TypeId) (sz c cap : Nat) : List (List D) → List (Nat × Blk)
  | [] => []
  | x :: xs => [(c, .row t sz cap (x :: xs))]
def keys (l : List (Nat × Blk)) : List Nat := l.map (·.1)
theorem rowV_ne {z sz c cap : Nat} {xs : List (List D)} (h : xs ≠ []) : rowV z sz c cap xs = .own c sz 0 xs.length cap := by
  cases xs with
  | nil => exact absurd rfl h
  | cons x xs => rfl
theorem rowH_ne {t : TypeId} {sz c cap : Nat} {xs : List (List D)} (h : xs ≠ []) : rowH t sz c cap xs = [(c, .row t sz cap xs)] := by
  cases xs with
  | nil => exact absurd rfl h
  | cons x xs => rfl
theorem rowV_len {z sz c cap : Nat} {xs : List (List D)} : lenV (rowV z sz c cap xs) = some (.d (.int .i64 xs.length)) := by cases xs <;> rfl
theorem lenV_sl {sz : Nat} {xs : List (List D)} : lenV (.d (.sl sz xs)) = some (.d (.int .i64 xs.length)) := rfl
theorem lenV_nilsl {sz : Nat} : lenV (.nilsl sz) = some (.d (.int .i64 0)) := rfl
theorem lenV_own {b sz off len cap : Nat} : lenV (.own b sz off len cap) = some (.d (.int .i64 len)) := rfl
theorem rowV_fits {z sz c cap : Nat} {xs : List (List D)} : fits 1 (rowV z sz c cap xs) = true := by cases xs <;> rfl
theorem rowV_cells {z sz c cap : Nat} {xs : List (List D)} : cellsAV (rowV z sz c cap xs) = [rowV z sz c cap xs] := by cases xs <;> rfl
theorem fits_agg (n : Nat) (xs : List AV) : fits n (.agg xs) = (lenAV xs == n) := rfl
theorem cellsAV_agg (xs : List AV) : cellsAV (.agg xs) = xs := rfl
theorem fits_d (n : Nat) (x : D) : fits n (.d x) = (n == 1) := by simp [fits, okCell]
theorem cellsAV_d (x : D) : cellsAV (.d x) = [.d x] := rfl
theorem fits_nilp (n : Nat)  : fits n .nilp = (n == 1) := by simp [fits, okCell]
theorem cellsAV_nilp  : cellsAV .nilp = [.nilp] := rfl
theorem fits_nilsl (n : Nat) (sz : Nat) : fits n (.nilsl sz) = (n == 1) := by simp [fits, okCell]
theorem cellsAV_nilsl (sz : Nat) : cellsAV (.nilsl sz) = [.nilsl sz] := rfl
theorem fits_nilfn (n : Nat)  : fits n .nilfn = (n == 1) := by simp [fits, okCell]
theorem cellsAV_nilfn  : cellsAV .nilfn = [.nilfn] := rfl
theorem fits_ptr (n : Nat) (b o : Nat) : fits n (.ptr b o) = (n == 1) := by simp [fits, okCell]
theorem cellsAV_ptr (b o : Nat) : cellsAV (.ptr b o) = [.ptr b o] := rfl
theorem fits_eptr (n : Nat) (b sz i j : Nat) : fits n (.eptr b sz i j) = (n == 1) := by simp [fits, okCell]
theorem cellsAV_eptr (b sz i j : Nat) : cellsAV (.eptr b sz i j) = [.eptr b sz i j] := rfl
theorem fits_dptr (n : Nat) (el : List D) (o : Nat) : fits n (.dptr el o) = (n == 1) := by simp [fits, okCell]
theorem cellsAV_dptr (el : List D) (o : Nat) : cellsAV (.dptr el o) = [.dptr el o] := rfl
theorem fits_own (n : Nat) (b sz off len cap : Nat) : fits n (.own b sz off len cap) = (n == 1) := by simp [fits, okCell]
theorem cellsAV_own (b sz off len cap : Nat) : cellsAV (.own b sz off len cap) = [.own b sz off len cap] := rfl
theorem fits_fn (n : Nat) (f : FuncId) (caps : List AV) : fits n (.fn f caps) = (n == 1) := by simp [fits, okCell]
theorem cellsAV_fn (f : FuncId) (caps : List AV) : cellsAV (.fn f caps) = [.fn f caps] := rfl
theorem AllH_app {H : Heap} {xs ys : List (Nat × Blk)} : AllH H (xs ++ ys) ↔ AllH H xs ∧ AllH H ys := by
  induction xs with
  | nil => simp [AllH]
  | cons p xs ih => obtain ⟨b, x⟩ := p; simp only [List.cons_append, AllH, ih, and_assoc]
theorem keepH_all : ∀ {l : List (Nat × Blk)}, (keys l).Nodup → AllH (keepH l) l
  | [], _ => trivial
  | (b, x) :: l, h => by
    simp only [keys, List.map_cons, List.nodup_cons] at h
    refine ⟨by rw [keepH_cons, if_pos rfl], ?_⟩
    refine AllH_iff.2 fun p hp => ?_
    rw [keepH_cons, if_neg (fun e => h.1 (by rw [← e]; exact List.mem_map_of_mem hp))]
    exact AllH_iff.1 (keepH_all (l := l) h.2) p hp
/-- A block that is new. -/
theorem alloc_all {H : Heap} {b : Nat} {x : Blk} {l : List (Nat × Blk)} (hb : H b = none) (h : AllH H l) : AllH (upd H b (some x)) ((b, x) :: l) := ⟨upd_eq, AllH_upd hb h⟩
theorem fresh_keys {H : Heap} {b : Nat} {l : List (Nat × Blk)} (hb : H b = none) (h : AllH H l) : b ∉ keys l := fun hm => by
  obtain ⟨p, hp, e⟩ := List.mem_map.1 hm
  have := AllH_iff.1 h p hp
  rw [e, hb] at this; cases this
theorem alloc_keys {H : Heap} {b : Nat} {x : Blk} {l : List (Nat × Blk)} (hb : H b = none) (h : AllH H l) (hn : (keys l).Nodup) : (keys ((b, x) :: l)).Nodup := by
  simp only [keys, List.map_cons, List.nodup_cons]
  exact ⟨fresh_keys hb h, hn⟩
theorem drop_all {H : Heap} {b : Nat} {y : Option Blk} {l : List (Nat × Blk)} (h : AllH H l) (hn : b ∉ keys l) : AllH (upd H b y) l :=
  AllH_iff.2 fun p hp => by
    rw [upd_ne (fun e => hn (by rw [e]; exact List.mem_map_of_mem hp))]
    exact AllH_iff.1 h p hp
section
variable {P : Program} {Q : Out → St → Prop} {k : List Item} {s : St} {d : Option Nat} {l : List AO}
/-- One element more. -/
theorem AppendA_grow {e t : TypeId} {sz bytes z0 c cap bs capc capx : Nat} {z : List AV} {xs : List (List D)} {y : List D} (rest : List (Nat × Blk)) (hz : z.length = sz) (hall : AllH s.H (rowH e sz c cap xs ++ rest)) (hnd : (keys (rowH e sz c cap xs ++ rest)).Nodup)
    (hbs : s.H bs = some (.row t sz capc [y])) (hb : (xs.length + 1) * bytes ≤ 140737488355328) (hb2 : xs.length + 1 ≤ 9223372036854775807)
    (hk : ∀ H' c' cap', AllH H' (rowH e sz c' cap' (xs ++ [y]) ++ rest) → (keys (rowH e sz c' cap' (xs ++ [y]) ++ rest)).Nodup → RunL P Q l k (putS s d (.own c' sz 0 (xs.length + 1) cap') H')) :
    AppendA e sz bytes z (rowV z0 sz c cap xs) (.own bs sz 0 1 capx) d l k s P Q := by
  by_cases h0 : xs = []
  · subst h0
    refine AppendA_nil1 (ys := [y]) (t := t) (capc := capc) hbs rfl (by simp) hz ⟨by simpa using hb, by simp [maxLen]⟩ (fun b hb' cap' => ?_)
    have hr : AllH s.H rest := hall
    exact hk (upd s.H b (some (.row e sz cap' [y]))) b cap' (alloc_all hb' hr) (alloc_keys hb' hr hnd)
  · rw [rowV_ne h0]
    rw [rowH_ne h0] at hall hnd
    refine AppendA_own1 (xs := xs) (ys := [y]) (t := t) (capc := capc) hall.1 hbs rfl rfl (by simp) hz ⟨hb, hb2⟩ (fun b' cap' hb' => ?_)
    simp only [List.cons_append, List.nil_append, keys, List.map_cons, List.nodup_cons] at hnd
    have hr : AllH (upd s.H c none) rest := drop_all hall.2 hnd.1
    have hne : xs ++ [y] ≠ [] := by simp
    exact hk (upd (upd s.H c none) b' (some (.row e sz cap' (xs ++ [y])))) b' cap' (by rw [rowH_ne hne]; exact alloc_all hb' hr) (by rw [rowH_ne hne]; exact alloc_keys hb' hr hnd.2)
end
section
variable {P : Program}
def scalR (x : Option Blk) : Prop := ∃ t sz cap xs, x = some (.row t sz cap xs) ∧ ∀ el ∈ xs, ∀ d ∈ el, scalD d = true
theorem NewV.into {H H' : Heap} (hH : ∀ b, scalR (H b) → H' b = H b) {x y : AV} (h : NewV H x y) : NewV H' x y := by
  induction h with
  | scal x hs => exact .scal x hs
  | nilsl sz sz' => exact .nilsl sz sz'
  | own b sz cap t cap' xs h hs => exact .own b sz cap t cap' xs (by rw [hH b ⟨t, sz, cap', xs, h, hs⟩]; exact h) hs
  | agg xs ys hl _ ih => exact .agg xs ys hl ih
  | tup xs ys hl _ ih => exact .tup xs ys hl ih
variable {Q : Out → St → Prop} {k : List Item} {s : St} {d : Option Nat} {l : List AO}
end
end Go.Proofs.Ytndepejgafppmaa.Abs
