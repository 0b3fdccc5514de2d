/- A range over a function: its rule, out of what the function gives. No claim stands here. -/
import Derived.Test.YtlflfciebidddaaAbs13
namespace Go.Proofs.Ytlflfciebidddaa.Abs
open Go Go.RowKit

/-- Blocks hold this. -/
def AllH (H : Heap) : List (Nat × Blk) → Prop
  | [] => True
  | (b, x) :: l => H b = some x ∧ AllH H l
/-- A function that ranges over these, its captured values these, where the blocks hold what is said: it calls yield with each, one after the other, till yield says no. -/
def IterW (P : Program) (f : FuncId) (caps : List AV) (bl : List (Nat × Blk)) (xs : List (List AV)) : Prop :=
  ∀ (l : Nat) (H : Heap) (J : List (List AV) → Heap → Prop) (X : Heap → Prop), (∀ pre H, J pre H → AllH H bl) →
    (∀ pre H b x, J pre H → H b = none → J pre (upd H b (some x))) →
    (∀ pre x post H, xs = pre ++ x :: post → J pre H → YldK P l x H fun r H' => (r = .d (.bool true) ∧ J (pre ++ [x]) H') ∨ (r = .d (.bool false) ∧ X H')) →
    J [] H → CallW P f (.yld l :: caps) H fun _ H' => J xs H' ∨ X H'

/-- The temporaries of a round: yield's arguments in their places. -/
def putL (n : Nat) (t : TM) : List Nat → List AV → TM
  | p :: ps, v :: vs => putL n (if p < n then putT t p v else t) ps vs
  | _, _ => t
/-- Code that is left at its end alone. -/
def straightA : ACode → Bool
  | .skip | .ops _ | .dops _ => true
  | .seq a b => straightA a && straightA b
  | _ => false

section
variable {P : Program}
theorem AllH_upd {H : Heap} {l : Nat} {y : Option Blk} (hl : H l = none) : ∀ {bl : List (Nat × Blk)}, AllH H bl → AllH (upd H l y) bl
  | [], _ => trivial
  | (b, x) :: bl, h => by
    refine ⟨?_, AllH_upd hl h.2⟩
    have h1 := h.1
    rw [upd_get, if_neg (fun e => by rw [e] at hl; rw [hl] at h1; cases h1)]
    exact h1

theorem acW_straight : ∀ {a : ACode} {s : St} {Q Q' : Out → St → Prop}, straightA a = true → (∀ s', Q .normal s' = Q' .normal s') → acW P a s Q = acW P a s Q'
  | .skip, s, Q, Q', _, h => h s
  | .ops l, s, Q, Q', _, h => by simp only [acW, h]
  | .dops l, s, Q, Q', _, h => by simp only [acW, h]
  | .seq a b, s, Q, Q', hs, h => by
    simp only [straightA, Bool.and_eq_true] at hs
    simp only [acW]
    exact acW_straight hs.1 fun s' => acW_straight hs.2 h

theorem HRel.less {F : Nat → Prop} {H H0 : Heap} {w : World} (h : HRel P F H w) (hp : ∀ k, H0 k = none ∨ H0 k = H k) : HRel P F H0 w :=
  have hs : ∀ b x, H0 b = some x → H b = some x := fun b x hb => by
    rcases hp b with e | e
    · rw [e] at hb; cases hb
    · rw [← e]; exact hb
  ⟨fun b x hb => h.at_ b x (hs b x hb), fun b x hb => h.apart b x (hs b x hb), h.old⟩
theorem HRel.putObj {F : Nat → Prop} {H : Heap} {w : World} {l : Nat} (o : Obj) (h : HRel P F H w) (hl : H l = none) (hF : ¬ F l) : HRel P F H (w.putObj l o) :=
  ⟨fun b x hb => (h.at_ b x hb).mono (World.putObj_heap_other fun e => by rw [e, hl] at hb; cases hb) (fun _ h => h) (fun k hk => World.putObj_heap_other fun e => hF (e ▸ hk)),
   h.apart, fun b hb => by rw [World.putObj_size]; exact h.old b hb⟩
theorem HRel.put {F : Nat → Prop} {H : Heap} {w : World} {l : Nat} {o : Obj} {ts : List AV} {us : List Value} (h : HRel P F H w) (hl : H l = none) (hF : ¬ F l) (ho : w.heap[l]? = some o) (hv : VRL P F w ts us) : HRel P F (upd H l (some (.obj o ts us))) w :=
  ⟨fun b x hb => by
    rw [upd_get] at hb
    split at hb
    · next e => subst e; cases hb; exact ⟨ho, hv⟩
    · exact h.at_ b x hb,
   fun b x hb => by
    rw [upd_get] at hb
    split at hb
    · next e => subst e; exact hF
    · exact h.apart b x hb, h.old⟩
theorem HRel.grow {F : Nat → Prop} {H : Heap} {w : World} (o : Obj) (h : HRel P F H w) : HRel P F H (w.alloc o) :=
  ⟨fun b x hb => (h.at_ b x hb).mono (Below.heap_alloc w o b (h.at_ b x hb).lt) (fun _ h => h) (fun k hk => Below.heap_alloc w o k (h.old k hk)), h.apart, fun b hb => by have := h.old b hb; simp; omega⟩

theorem putL_sound {F : Nat → Prop} {w : World} : ∀ (ps : List Nat) (x : List AV) (vs : List Value) (t : TM) (tm : Array Value), VRL P F w x vs → (∀ i, VR P F w (t i) (tm.getD i undef)) →
    ((ps.zip vs).foldl (fun tmps (p, v) => tmps.setIfInBounds p v) tm).size = tm.size ∧ ∀ i, VR P F w (putL tm.size t ps x i) (((ps.zip vs).foldl (fun tmps (p, v) => tmps.setIfInBounds p v) tm).getD i undef)
  | [], x, vs, t, tm, _, ht => ⟨rfl, ht⟩
  | p :: ps, [], vs, t, tm, hv, ht => by
    obtain rfl := hv.unnil
    exact ⟨rfl, ht⟩
  | p :: ps, a :: x, vs, t, tm, hv, ht => by
    obtain ⟨v, vs, rfl, ha, hl⟩ := hv.uncons
    have := putL_sound ps x vs (if p < tm.size then putT t p a else t) (tm.setIfInBounds p v) hl (fun i => ?_)
    · simp only [Array.size_setIfInBounds] at this
      exact this
    · split
      · next hp =>
        rw [putT_get]
        by_cases e : p = i
        · subst e
          rw [show (tm.setIfInBounds p v).getD p undef = v by simp [Array.getD, hp]]
          simpa using ha
        · rw [show (p == i) = false by simpa using e]
          rw [show (tm.setIfInBounds p v).getD i undef = tm.getD i undef by rw [Array.getD_eq_getD_getElem?, Array.getD_eq_getD_getElem?, Array.getElem?_setIfInBounds_ne e]]
          exact ht i
      · next hp =>
        have e : tm.setIfInBounds p v = tm := by
          apply Array.ext'
          simp only [Array.toList_setIfInBounds]
          exact List.set_eq_of_length_le (by simp; omega)
        rw [e]
        exact ht i

theorem keepT_sound {F : Nat → Prop} {w : World} {tm : Array Value} : ∀ {tl : List (Nat × AV)}, VRL P F w (tl.map (·.2)) (tl.map fun p => tm.getD p.1 undef) → ∀ i, VR P F w (keepT tl i) (tm.getD i undef)
  | [], _, i => .undef _
  | (j, v) :: tl, h, i => by
    obtain ⟨u, us, e, h1, h2⟩ := h.uncons
    simp only [List.map_cons, List.cons.injEq] at e
    obtain ⟨rfl, rfl⟩ := e
    simp only [keepT, putT_get]
    by_cases e : j = i
    · subst e; simpa using h1
    · rw [show (j == i) = false by simpa using e]; exact keepT_sound h2 i
theorem allAt_sound {F : Nat → Prop} {w : World} {tm : Array Value} {t : TM} (ht : ∀ i, VR P F w (t i) (tm.getD i undef)) : ∀ {tl : List (Nat × AV)}, AllAt t tl → VRL P F w (tl.map (·.2)) (tl.map fun p => tm.getD p.1 undef)
  | [], _ => VRL.nil
  | (j, v) :: tl, h => VRL.cons (by rw [← h.1]; exact ht j) (allAt_sound ht h.2)

theorem arr_fold {α β : Type} (f : α → β → α) (l : List β) (a : α) : l.toArray.foldl f a = l.foldl f a := by simp

def loopRec (fn : FuncId) (tm : Array Value) (ps : Array Tmp) (a b : Code) (D : Nat) (st : LoopState) (pe : Option Code) : Loop := { state := st, pending := pe, fn, tmps := tm, params := ps, assign := a, body := b, defers := D }
def jumpOf : Out → Option Code
  | .normal => none
  | .exit i => some (.exit i)
  | .ret => some .ret

/-- One round: what the loop's body does, said of a call of yield. -/
theorem round_sound {l D : Nat} {fn : FuncId} {tm : Array Value} {ps : Array Tmp} {a b : Code} {asg body : ACode} (ha : codeC P a = some asg) (hb : codeC P b = some body) (fa : flatA asg = true) (fb : flatA body = true) (hs : straightA asg = true)
    {tl : List (Nat × AV)} {x : List AV} (hx : x.length = ps.size) {H H' : Heap} (hl : H l = none) (hless : ∀ k, H' k = none ∨ H' k = H k) {Q : Out → Heap → Prop}
    (h : acW P (.seq asg body) ⟨tm.size, putL tm.size (keepT tl) ps.toList x, H'⟩ fun o s => Q o s.H) :
    YldK P l x (upd H l (some (.obj (.loop (loopRec fn tm ps a b D .ready none)) (tl.map (·.2)) (tl.map fun p => tm.getD p.1 undef)))) fun r H' =>
      ∃ o H0, H0 l = none ∧ Q o H0 ∧ r = .d (.bool (jumpOf o).isNone) ∧
        H' = upd H0 l (some (.obj (.loop (loopRec fn tm ps a b D (if (jumpOf o).isNone then .ready else .done) (jumpOf o))) (tl.map (·.2)) (tl.map fun p => tm.getD p.1 undef))) := by
  intro F w vs hh hv
  obtain ⟨hrec, hts⟩ := hh.at_ l _ (by rw [upd_get, if_pos rfl])
  have hFl : ¬ F l := hh.apart l _ (by rw [upd_get, if_pos rfl])
  have hlt : l < w.heap.size := (Array.getElem?_eq_some_iff.1 hrec).1
  have hh0 : HRel P F H w := hh.less fun k => by
    rw [upd_get]
    split
    · next e => subst e; exact .inl hl
    · exact .inr rfl
  have hsz : vs.toArray.size = ps.size := by rw [← hx]; simpa using hv.1.symm
  refine ⟨fn, _, a, b, run_yield hrec hsz, roundIn_of_wpIn trivial ?_⟩
  have e1 : (((loopRec fn tm ps a b D .ready none).params.zip vs.toArray).foldl (fun tmps (t, a) => tmps.setIfInBounds t a) (loopRec fn tm ps a b D .ready none).tmps) = (ps.toList.zip vs).foldl (fun tmps (p, v) => tmps.setIfInBounds p v) tm := by
    simp only [loopRec]
    rw [← Array.foldl_toList, Array.toList_zip]
  rw [e1]
  obtain ⟨k1, k2⟩ := putL_sound ps.toList x vs (keepT tl) tm hv (keepT_sound hts)
  have hrel : Rel P 0 F ⟨tm.size, putL tm.size (keepT tl) ps.toList x, H⟩ { tmps := (ps.toList.zip vs).foldl (fun tmps (p, v) => tmps.setIfInBounds p v) tm, defers := [] } w :=
    ⟨hh0, ⟨Nat.zero_le _, [], rfl, List.nodup_nil, fun D h => by simp at h⟩, k1, k2⟩
  have hq : acW P asg ⟨tm.size, putL tm.size (keepT tl) ps.toList x, H'⟩ fun o s1 => o = .normal ∧ acW P body s1 fun o s => Q o s.H := by
    simp only [acW] at h
    refine (acW_straight hs ?_).mp h
    intro s'
    simp
  refine Code.wpIn_mono ?_ (AW.abst (s := ⟨tm.size, putL tm.size (keepT tl) ps.toList x, H⟩) (t := ⟨tm.size, putL tm.size (keepT tl) ps.toList x, H'⟩) ⟨rfl, fun _ => .inr rfl, hless⟩ (acW_sound (r := some l) ha (.inr fa) hq) 0 F _ w hrel)
  rintro e a1 w1 ⟨o, s1, F1, h1, h2, h3, rfl, h4⟩
  cases e <;> simp only [OutR] at h1
  have hs1l : s1.H l = none := by
    cases e : s1.H l with
    | none => rfl
    | some y =>
      rcases h3.dom l (by rw [e]; simp) with h | h
      · exact absurd hl h
      · omega
  have hF1l : ¬ F1 l := fun h => by
    rcases h3.new l h with h | h | h
    · exact hFl h
    · exact h hl
    · omega
  have hr1 : w1.heap[l]? = some (.loop (loopRec fn tm ps a b D .ready none)) := (h3.keep l hlt hl).trans hrec
  refine ⟨_, run_beginRound hr1 rfl, ?_⟩
  have hlt1 : l < w1.heap.size := (Array.getElem?_eq_some_iff.1 hr1).1
  have hrel1 : Rel P 0 F1 s1 a1 (w1.putObj l (.loop { loopRec fn tm ps a b D .ready none with state := .busy })) := by
    obtain ⟨g1, ⟨g0, ms, gd, gn, gm⟩, g3, g4⟩ := h2
    refine ⟨g1.putObj _ hs1l hF1l, ⟨by omega, ms, gd, gn, fun D' hD => ?_⟩, g3, fun t => (g4 t).mono (fun _ h => h) fun k hk => World.putObj_heap_other fun e => hF1l (e ▸ hk)⟩
    obtain ⟨m1, m2, m3, m4⟩ := gm D' hD
    refine ⟨m1, m2, m3, (World.putObj_heap_other fun e => ?_).trans m4⟩
    rw [e, hr1] at m4; cases m4
  refine Code.wpIn_mono ?_ (acW_sound (r := some l) hb (.inr fb) h4 0 F1 _ _ hrel1)
  rintro e a2 w3 ⟨o, s2, F2, j1, j2, j3, j4⟩
  have hs2l : s2.H l = none := by
    cases e : s2.H l with
    | none => rfl
    | some y =>
      rcases j3.dom l (by rw [e]; simp) with h | h
      · exact absurd hs1l h
      · simp at h; omega
  have hF2l : ¬ F2 l := fun h => by
    rcases j3.new l h with h | h | h
    · exact hF1l h
    · exact h hs1l
    · simp at h; omega
  have hr3 : w3.heap[l]? = some (.loop { loopRec fn tm ps a b D .ready none with state := .busy }) := (j3.keep l (by simpa using hlt1) hs1l).trans (World.putObj_heap_same hlt1)
  have hlt3 : l < w3.heap.size := (Array.getElem?_eq_some_iff.1 hr3).1
  have hkF : ∀ k, F k → ∀ o', (w3.putObj l o').heap[k]? = w.heap[k]? := fun k hk o' => by
    have n1 : k ≠ l := fun e => hFl (e ▸ hk)
    have n2 := h3.keepF hh0 k hk
    have n3 := j3.keepF hrel1.1 k (h3.mono k hk)
    rw [World.putObj_heap_other n1, n3, World.putObj_heap_other n1, n2]
  have fin : ∀ (jump : Option Code), jump = jumpOf o → ∃ v w', (Instr.endRound l jump).run P w3 = .ok v w' ∧ ∃ r H' F' v', Ending.returned v = .returned v' ∧ VR P F' w' r v' ∧ HRel P F' H' w' ∧
      Step F (upd H l (some (.obj (.loop (loopRec fn tm ps a b D .ready none)) (tl.map (·.2)) (tl.map fun p => tm.getD p.1 undef)))) w F' H' w' ∧
      ∃ o H0, H0 l = none ∧ Q o H0 ∧ r = .d (.bool (jumpOf o).isNone) ∧
        H' = upd H0 l (some (.obj (.loop (loopRec fn tm ps a b D (if (jumpOf o).isNone then .ready else .done) (jumpOf o))) (tl.map (·.2)) (tl.map fun p => tm.getD p.1 undef))) := by
    intro jump hj
    subst hj
    refine ⟨_, _, run_endRound _ hr3, _, _, F2, _, rfl, .d _ _ (.bool _), ?_, ?_, o, s2.H, hs2l, j4, rfl, rfl⟩
    · refine (j2.1.putObj _ hs2l hF2l).put hs2l hF2l (World.putObj_heap_same hlt3) ?_
      exact hts.mono (fun k hk => j3.mono k (h3.mono k hk)) fun k hk => hkF k hk _
    · refine ⟨j3.os.trans h3.os, j3.tape.trans h3.tape, j3.output.trans h3.output, ?_, fun k hk hn => ?_, fun k hk => ?_, fun k hk => j3.mono k (h3.mono k hk), fun k hk => ?_⟩
      · have := j3.size; have := h3.size; simp at *; omega
      · rw [upd_get] at hn
        split at hn
        · cases hn
        · next e =>
          have hkl : k ≠ l := fun e' => e e'.symm
          have d1 : s1.H k = none := by
            cases e : s1.H k with
            | none => rfl
            | some y =>
              rcases h3.dom k (by rw [e]; simp) with h | h
              · exact absurd hn h
              · omega
          rw [World.putObj_heap_other hkl, j3.keep k (by have := h3.size; simp; omega) d1, World.putObj_heap_other hkl, h3.keep k hk hn]
      · rw [upd_get] at hk ⊢
        split
        · exact .inl (by simp)
        · next e =>
          rw [if_neg e] at hk
          rcases j3.dom k hk with h | h
          · rcases h3.dom k h with h | h
            · exact .inl h
            · exact .inr h
          · exact .inr (by have := h3.size; simp at h; omega)
      · rw [upd_get]
        split
        · exact .inr (.inl (by simp))
        · rcases j3.new k hk with h | h | h
          · rcases h3.new k h with h | h | h
            · exact .inl h
            · exact .inr (.inl h)
            · exact .inr (.inr h)
          · rcases h3.dom k h with h | h
            · exact .inr (.inl h)
            · exact .inr (.inr h)
          · exact .inr (.inr (by have := h3.size; simp at h; omega))
  cases o <;> cases e <;> simp only [OutR] at j1
  · exact fin none rfl
  · subst j1; exact fin (some (.exit _)) rfl
  · exact fin (some .ret) rfl

theorem AllH_iff {H : Heap} : ∀ {bl : List (Nat × Blk)}, AllH H bl ↔ ∀ p ∈ bl, H p.1 = some p.2
  | [] => by simp [AllH]
  | (b, x) :: bl => by simp only [AllH, List.mem_cons, forall_eq_or_imp, AllH_iff]
theorem upd_swap {H : Heap} {i j : Nat} {x y : Option Blk} (h : i ≠ j) : upd (upd H i x) j y = upd (upd H j y) i x := by
  funext k
  simp only [upd_get]
  by_cases h1 : j = k
  · subst h1; simp [h]
  · simp [h1]
theorem RangeW_rule {α : Type} {g : Opd} {ps : List Nat} {asg body : ACode} {s : St} {Q : Out → St → Prop} {f : FuncId} {caps : List AV} {bl : List (Nat × Blk)} {xs : List (List AV)} (tl : List (Nat × AV)) (I : List (List AV) → α → Prop) (hp : α → Heap) (hl : α → List (Nat × Blk))
    (hit : IterW P f caps bl xs) (hg : ev s.t g = .fn f caps) (hs : straightA asg = true) (hx : ∀ x ∈ xs, x.length = ps.length) (ht : AllAt s.t tl) (hA : ∀ pre y, I pre y → ∀ p ∈ bl, p ∈ hl y) (hle : ∀ H y, AllH H (hl y) → ∀ k, hp y k = none ∨ hp y k = H k) (h0 : ∃ y, I [] y ∧ AllH s.H (hl y))
    (round : ∀ pre x post y, xs = pre ++ x :: post → I pre y → acW P (.seq asg body) ⟨s.n, putL s.n (keepT tl) ps x, hp y⟩ fun o s' => match o with | .normal => ∃ y', I (pre ++ [x]) y' ∧ AllH s'.H (hl y') | o => Q o ⟨s.n, s.t, s'.H⟩)
    (done : ∀ y, I xs y → Q .normal ⟨s.n, s.t, hp y⟩) : RangeW P g ps asg body s Q := by
  obtain ⟨J, hJ⟩ : ∃ J : List (List AV) → Heap → Prop, J = fun pre H => ∃ y, I pre y ∧ AllH H (hl y) := ⟨_, rfl⟩
  have hJA : ∀ pre H, J pre H → AllH H bl := fun pre H h => by
    subst hJ
    obtain ⟨y, h1, h2⟩ := h
    exact AllH_iff.2 fun p hp => AllH_iff.1 h2 p (hA pre y h1 p hp)
  have hJs : ∀ pre H b x, J pre H → H b = none → J pre (upd H b (some x)) := fun pre H b x h hb => by
    subst hJ
    obtain ⟨y, h1, h2⟩ := h
    exact ⟨y, h1, AllH_upd hb h2⟩
  have hJ0 : J [] s.H := by subst hJ; exact h0
  intro g' ps' a b hg' hps ha hb fa fb B F act w hr
  have hg2 := ev_sound hr.2.2.2 g'
  rw [hg', hg] at hg2
  generalize hgv : act.eval g' = gv at hg2
  cases hg2
  next cs hen hcl hcr =>
  obtain ⟨hh, hd, hn, hv⟩ := hr
  have hn' : s.n = act.tmps.size := hn.symm
  subst hps
  refine wpIn_rangeFunc ?_
  intro fn _
  have hl0 : s.H w.heap.size = none := hh.fresh (Nat.le_refl _)
  have hl1 : s.H (w.heap.size + 1) = none := hh.fresh (by omega)
  have hFD : ¬ F w.heap.size := fun h => by have := hh.old _ h; omega
  have hFl : ¬ F (w.heap.size + 1) := fun h => by have := hh.old _ h; omega
  obtain ⟨W1, hW1⟩ : ∃ W1, (w.alloc (.deferred (some []))).alloc (.loop (loopRec fn act.tmps ps' a b w.heap.size .ready none)) = W1 := ⟨_, rfl⟩
  have hsz : W1.heap.size = w.heap.size + 2 := by rw [← hW1]; simp
  have hL1 : W1.heap[w.heap.size + 1]? = some (.loop (loopRec fn act.tmps ps' a b w.heap.size .ready none)) := by
    rw [← hW1]; have := World.alloc_heap_new (w.alloc (.deferred (some []))) (.loop (loopRec fn act.tmps ps' a b w.heap.size .ready none)); rwa [World.size_alloc] at this
  have hK1 : W1.heap[w.heap.size]? = some (.deferred (some [])) := by
    rw [← hW1]; exact (Below.heap_alloc _ _ _ (by simp)).trans (World.alloc_heap_new w _)
  have hold : ∀ k, k < w.heap.size → W1.heap[k]? = w.heap[k]? := fun k hk => by
    rw [← hW1]; exact (Below.heap_alloc _ _ _ (by simp; omega)).trans (Below.heap_alloc _ _ _ hk)
  have hrest : W1.os = w.os ∧ W1.tape = w.tape ∧ W1.output = w.output := by rw [← hW1]; exact ⟨rfl, rfl, rfl⟩
  refine ⟨w.heap.size + 1, [coll w.heap.size], W1, { target := .fn (.func f) cs.toArray, args := #[.func (.yield (w.heap.size + 1)) #[] #[]] }, W1, f, #[.func (.yield (w.heap.size + 1)) #[] #[]] ++ cs.toArray, W1, ?_, ?_, fun _ _ => trivial, ?_, fun h => by simp [wideR] at h, ?_⟩
  · rw [← hW1]; exact run_enterLoop_outer _ _ _ _ _
  · simp only [resolve, hgv]
    simp [go_sem]
  · simp [invoke, go_sem, enters_run hen]
  · refine (callsIn_wide (n := 0 - 1)).2 ?_
    have hts : VRL P F W1 (tl.map (·.2)) (tl.map fun p => act.tmps.getD p.1 undef) := (allAt_sound hv ht).mono (fun _ h => h) fun k hk => hold k (hh.old k hk)
    have hh1 : HRel P F (upd s.H (w.heap.size + 1) (some (.obj (.loop (loopRec fn act.tmps ps' a b w.heap.size .ready none)) (tl.map (·.2)) (tl.map fun p => act.tmps.getD p.1 undef)))) W1 := by
      refine HRel.put ?_ hl1 hFl hL1 hts
      rw [← hW1]; exact (hh.grow _).grow _
    have hcall := hit (w.heap.size + 1) (upd s.H (w.heap.size + 1) (some (.obj (.loop (loopRec fn act.tmps ps' a b w.heap.size .ready none)) (tl.map (·.2)) (tl.map fun p => act.tmps.getD p.1 undef))))
      (fun pre H => ∃ H0, H0 (w.heap.size + 1) = none ∧ J pre H0 ∧ H = upd H0 (w.heap.size + 1) (some (.obj (.loop (loopRec fn act.tmps ps' a b w.heap.size .ready none)) (tl.map (·.2)) (tl.map fun p => act.tmps.getD p.1 undef))))
      (fun H => ∃ H0 o c, jumpOf o = some c ∧ H0 (w.heap.size + 1) = none ∧ Q o ⟨s.n, s.t, H0⟩ ∧ H = upd H0 (w.heap.size + 1) (some (.obj (.loop (loopRec fn act.tmps ps' a b w.heap.size .done (some c))) (tl.map (·.2)) (tl.map fun p => act.tmps.getD p.1 undef))))
      (fun pre H ⟨H0, g1, g2, g3⟩ => by subst g3; exact AllH_upd g1 (hJA pre H0 g2))
      (fun pre H b x ⟨H0, g1, g2, g3⟩ hb => by
        subst g3
        rw [upd_get] at hb
        split at hb
        · cases hb
        · next e => exact ⟨upd H0 b (some x), by rw [upd_get, if_neg (fun e' => e e'.symm)]; exact g1, hJs pre H0 b x g2 hb, upd_swap e⟩)
      (fun pre x post H hxs ⟨H0, g1, g2, g3⟩ => by
        subst g3
        obtain ⟨y, y1, y2⟩ : ∃ y, I pre y ∧ AllH H0 (hl y) := by subst hJ; exact g2
        have hrd := round pre x post y hxs y1
        rw [hn'] at hrd
        intro F' w' vs' hh' hv'
        obtain ⟨fn', tm', as', bd', r1, r2⟩ := round_sound (l := w.heap.size + 1) (D := w.heap.size) (fn := fn) ha hb fa fb hs (by rw [hx x (by rw [hxs]; simp)]; simp) g1 (hle H0 y y2) (Q := fun o H => match o with | .normal => J (pre ++ [x]) H | o => Q o ⟨act.tmps.size, s.t, H⟩) (by
            refine cast (congrArg _ ?_) hrd
            subst hJ; funext o s'; cases o <;> rfl) F' w' vs' hh' hv'
        refine ⟨fn', tm', as', bd', r1, r2.mono fun e w2 ⟨r, H', F2, v, q1, q2, q3, q4, o, H2, q5, q6, q7, q8⟩ => ⟨r, H', F2, v, q1, q2, q3, q4, ?_⟩⟩
        cases o with
        | normal => exact .inl ⟨q7, H2, q5, q6, q8⟩
        | exit i => exact .inr ⟨q7, H2, .exit i, _, rfl, q5, by rw [hn']; exact q6, q8⟩
        | ret => exact .inr ⟨q7, H2, .ret, _, rfl, q5, by rw [hn']; exact q6, q8⟩)
      ⟨s.H, hl1, hJ0, rfl⟩ F W1 (.func (.yield (w.heap.size + 1)) #[] #[] :: cs) hh1
      (VRL.cons (.yld _) (VRL.mono ⟨hcl, hcr⟩ (fun _ h => h) fun k hk => hold k (hh.old k hk)))
    have eargs : (Value.func (.yield (w.heap.size + 1)) #[] #[] :: cs).toArray = #[.func (.yield (w.heap.size + 1)) #[] #[]] ++ cs.toArray := by simp
    rw [eargs] at hcall
    refine hcall.mono ?_
    rintro e w2 ⟨r, H2, F2, v, rfl, q1, q2, q3, q4⟩
    have fin : ∀ (H0 : Heap) (st : LoopState) (pe : Option Code), st ≠ .busy → H0 (w.heap.size + 1) = none → H2 = upd H0 (w.heap.size + 1) (some (.obj (.loop (loopRec fn act.tmps ps' a b w.heap.size st pe)) (tl.map (·.2)) (tl.map fun p => act.tmps.getD p.1 undef))) →
        ∃ w4, (Instr.endLoop (w.heap.size + 1)).run P w2 = .ok pe w4 ∧ Rel P B F2 ⟨s.n, s.t, H0⟩ { act with defers := [coll w.heap.size] ++ act.defers } w4 ∧ Step F s.H w F2 H0 w4 := by
      intro H0 st pe hst g1 g2
      subst g2
      have hr2 : w2.heap[w.heap.size + 1]? = some (.loop (loopRec fn act.tmps ps' a b w.heap.size st pe)) := by
        have h := q2.at_ (w.heap.size + 1) _ (by rw [upd_get, if_pos rfl])
        exact h.1
      have hF2l : ¬ F2 (w.heap.size + 1) := q2.apart _ _ (by rw [upd_get, if_pos rfl])
      have hsz2 := q3.size
      have hD1 : (upd s.H (w.heap.size + 1) (some (.obj (.loop (loopRec fn act.tmps ps' a b w.heap.size .ready none)) (tl.map (·.2)) (tl.map fun p => act.tmps.getD p.1 undef)))) w.heap.size = none := by
        rw [upd_get, if_neg (by omega)]; exact hl0
      have hF2D : ¬ F2 w.heap.size := fun h => by
        rcases q3.new _ h with h | h | h
        · exact hFD h
        · exact h hD1
        · omega
      have hH0D : H0 w.heap.size = none := by
        cases e : H0 w.heap.size with
        | none => rfl
        | some y =>
          rcases q3.dom w.heap.size (by rw [upd_get, if_neg (by omega), e]; simp) with h | h
          · exact absurd hD1 h
          · omega
      have hstep : Step F s.H w F2 H0 (w2.putObj (w.heap.size + 1) (.loop { loopRec fn act.tmps ps' a b w.heap.size st pe with state := .exhausted })) := by
        refine ⟨q3.os.trans hrest.1, q3.tape.trans hrest.2.1, q3.output.trans hrest.2.2, by simp; omega, fun k hk hn => ?_, fun k hk => ?_, q3.mono, fun k hk => ?_⟩
        · rw [World.putObj_heap_other (by omega), q3.keep k (by omega) (by rw [upd_get, if_neg (by omega)]; exact hn), hold k hk]
        · by_cases e : w.heap.size + 1 = k
          · exact .inr (by omega)
          · rcases q3.dom k (by rw [upd_get, if_neg e]; exact hk) with h | h
            · rw [upd_get, if_neg e] at h; exact .inl h
            · exact .inr (by omega)
        · rcases q3.new k hk with h | h | h
          · exact .inl h
          · rw [upd_get] at h
            split at h
            · exact .inr (.inr (by omega))
            · exact .inr (.inl h)
          · exact .inr (.inr (by omega))
      have hhr : HRel P F2 H0 (w2.putObj (w.heap.size + 1) (.loop { loopRec fn act.tmps ps' a b w.heap.size st pe with state := .exhausted })) := by
        refine HRel.putObj _ (q2.less fun k => ?_) g1 hF2l
        rw [upd_get]
        split
        · next e => subst e; exact .inl g1
        · exact .inr rfl
      refine ⟨_, run_endLoop hr2 hst, ⟨hhr, ?_, hn, fun t => hstep.VR hh (hv t)⟩, hstep⟩
      obtain ⟨d0, ms, d1, d2, d3⟩ := hstep.defs hd
      refine ⟨d0, w.heap.size :: ms, by simp [d1], ?_, fun D hD => ?_⟩
      · rw [List.nodup_cons]
        refine ⟨fun hm => ?_, d2⟩
        obtain ⟨_, ms', d1', _, d3'⟩ := hd
        have : ms = ms' := by
          rw [d1] at d1'
          have hinj : Function.Injective coll := fun x y h => by simp only [coll, Deferred.mk.injEq, Target.collected.injEq] at h; exact h.1
          exact (List.map_inj_right hinj).1 d1'
        rw [this] at hm
        have := (Array.getElem?_eq_some_iff.1 (d3' _ hm).2.2.2).1
        omega
      · rcases List.mem_cons.1 hD with rfl | hD
        · refine ⟨hd.1, hH0D, hF2D, ?_⟩
          rw [World.putObj_heap_other (by omega), q3.keep _ (by omega) hD1, hK1]
        · exact d3 D hD
    rcases q4 with ⟨H0, g1, g2, g3⟩ | ⟨H0, o, c, g0, g1, g2, g3⟩
    · obtain ⟨w4, e1, e2, e3⟩ := fin H0 _ _ (by simp) g1 g3
      obtain ⟨y, y1, y2⟩ : ∃ y, I xs y ∧ AllH H0 (hl y) := by subst hJ; exact g2
      have y3 := hle H0 y y2
      refine ⟨_, w4, e1, .normal, ⟨s.n, s.t, hp y⟩, F2, trivial, e2.abst ⟨rfl, fun _ => .inr rfl, y3⟩, ⟨e3.os, e3.tape, e3.output, e3.size, e3.keep, fun k hk => e3.dom k ?_, e3.mono, e3.new⟩, done y y1⟩
      rcases y3 k with e | e
      · exact absurd e hk
      · rw [← e]; exact hk
    · obtain ⟨w4, e1, e2, e3⟩ := fin H0 _ _ (by simp) g1 g3
      refine ⟨_, w4, e1, ?_⟩
      cases o with
      | normal => cases g0
      | exit i => cases g0; exact wpIn_exit ⟨.exit i, _, F2, rfl, e2, e3, g2⟩
      | ret => cases g0; exact wpIn_ret ⟨.ret, _, F2, trivial, e2, e3, g2⟩

/-! with the continuation as data -/
def RangeQ {α : Type} (I : List (List AV) → α → Prop) (hl : α → List (Nat × Blk)) (pre : List (List AV)) (n : Nat) (t : TM) (R : Out → St → Prop) : Out → St → Prop
  | .normal, s' => ∃ y, I pre y ∧ AllH s'.H (hl y)
  | .exit i, s' => R (.exit i) ⟨n, t, s'.H⟩
  | .ret, s' => R .ret ⟨n, t, s'.H⟩
theorem RangeQ_exit {α : Type} {I : List (List AV) → α → Prop} {hl : α → List (Nat × Blk)} {pre : List (List AV)} {n : Nat} {t : TM} {s' : St} {R : Out → St → Prop} {i : Nat} : RangeQ I hl pre n t R (.exit i) s' = R (.exit i) ⟨n, t, s'.H⟩ := rfl
theorem RangeQ_ret {α : Type} {I : List (List AV) → α → Prop} {hl : α → List (Nat × Blk)} {pre : List (List AV)} {n : Nat} {t : TM} {s' : St} {R : Out → St → Prop} : RangeQ I hl pre n t R .ret s' = R .ret ⟨n, t, s'.H⟩ := rfl
theorem RangeQ_k {α : Type} {I : List (List AV) → α → Prop} {hl : α → List (Nat × Blk)} {pre : List (List AV)} {n : Nat} {t : TM} {s' : St} {R : Out → St → Prop} (y : α) (h1 : I pre y) (h2 : AllH s'.H (hl y)) : RangeQ I hl pre n t R .normal s' := ⟨y, h1, h2⟩
/-- **A range over a function**: what it gives; what is told of the temporaries in a round; what the blocks hold between two rounds. -/
theorem RangeA_rule {α : Type} {Q : Out → St → Prop} {k : List Item} {g : Opd} {ps : List Nat} {asg body : ACode} {s : St} {f : FuncId} {caps : List AV} {bl : List (Nat × Blk)} {xs : List (List AV)} (tl : List (Nat × AV)) (I : List (List AV) → α → Prop) (hp : α → Heap) (hl : α → List (Nat × Blk))
    (hit : IterW P f caps bl xs) (hg : ev s.t g = .fn f caps) (hs : straightA asg = true) (hx : ∀ x ∈ xs, x.length = ps.length) (ht : AllAt s.t tl) (hA : ∀ pre y, I pre y → ∀ p ∈ bl, p ∈ hl y) (hle : ∀ H y, AllH H (hl y) → ∀ k, hp y k = none ∨ hp y k = H k) (y0 : α) (h0 : I [] y0) (h1 : AllH s.H (hl y0))
    (round : ∀ pre x post y, xs = pre ++ x :: post → I pre y → RunC P (RangeQ I hl (pre ++ [x]) s.n s.t (RunO P Q k)) (.seq asg body) [] ⟨s.n, putL s.n (keepT tl) ps x, hp y⟩)
    (done : ∀ y, I xs y → RunO P Q k .normal ⟨s.n, s.t, hp y⟩) : RangeA P Q g ps asg body k s := by
  refine RangeW_rule tl I hp hl hit hg hs hx ht hA hle ⟨y0, h0, h1⟩ (fun pre x post y h1 h2 => ?_) done
  have h := RunC_eq (round pre x post y h1 h2)
  refine cast (congrArg (acW P _ _) ?_) h
  funext o s'; cases o <;> rfl
theorem YldA_w {Q : Out → St → Prop} {y : Nat} {args : List AV} {d : Option Nat} {l : List AO} {k : List Item} {s : St} {K : AV → Heap → Prop} (h : YldK P y args s.H K) (hk : ∀ r H', K r H' → RunL P Q l k (putS s d r H')) : YldA P Q y args d l k s := by
  intro F w vs hh hv
  obtain ⟨fn, tmps, asg, body, h1, h2⟩ := h F w vs hh hv
  exact ⟨fn, tmps, asg, body, h1, h2.mono fun e w' ⟨r, H', F', v, g1, g2, g3, g4, g5⟩ => ⟨r, H', F', v, g1, g2, g3, g4, hk _ _ g5⟩⟩
end
end Go.Proofs.Ytlflfciebidddaa.Abs
