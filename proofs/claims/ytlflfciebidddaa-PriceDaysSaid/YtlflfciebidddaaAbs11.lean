/- Whatever operation has a translation does what the abstract one says; a row of them; a code; a function. No claim stands here. -/
import Derived.Test.YtlflfciebidddaaAbs10
namespace Go.Proofs.Ytlflfciebidddaa.Abs
open Go Go.RowKit

theorem enters_run {P : Program} {f : FuncId} (h : enters P f = true) (args : Array Value) (w : World) : (callFunc f args).run P w = .ok (.enter f args) w := by
  unfold enters at h
  split at h
  · next fn hf =>
    simp only [Bool.and_eq_true, bne_iff_ne, ne_eq, Option.isSome_iff_ne_none] at h
    have h1 : fn.body.isNone = false := by cases hb : fn.body <;> simp_all
    simp only [callFunc, Sem.run_bind, run_program, Result.andThen_ok, hf, beq_iff_eq, h.2, if_false, h1, Bool.false_eq_true, Sem.run_pure]
  · cases h

section
variable {P : Program} {F : Nat → Prop} {w : World} {s : St} {a : Act} {o : Oper} {K : AV → Heap → Prop}

theorem OpOK.call {f : FuncId} {args : List AV} {vs : List Value} (hr : (execOp a.eval o).run P w = .ok (.enter f vs.toArray) w) (hh : HRel P F s.H w) (hv : VRL P F w args vs) (hk : CallW P f args s.H K) : OpOK P s F a w o K := by
  intro r next Q hn
  refine wpIn_run hr (by simp) ⟨fun h => by simp [wideR] at h, ?_⟩
  refine (callsIn_wide (n := 0 - 1)).2 ?_
  refine (hk F w vs hh hv).mono fun e w' h => ?_
  obtain ⟨r, H', F', v, rfl, h1, h2, h3, h4⟩ := h
  exact hn v r H' F' w' h1 h2 h3 h4

theorem OpOK.yld {l : Nat} {args : List AV} {vs : List Value} (hr : (execOp a.eval o).run P w = (Instr.yield l vs.toArray).run P w) (hh : HRel P F s.H w) (hv : VRL P F w args vs) (hk : YldK P l args s.H K) : OpOK P s F a w o K := by
  intro r next Q hn
  obtain ⟨fn, tmps, assign, body, h1, h2⟩ := hk F w vs hh hv
  rw [h1] at hr
  refine wpIn_run hr (by simp) ⟨fun h => by simp [wideR] at h, ?_⟩
  refine RoundIn.mono (F := wideR r) (n := 0 - 1) (show RoundIn (wideR r) (0 - 1) P l fn tmps assign body w _ from h2) fun e w' h => ?_
  obtain ⟨r, H', F', v, rfl, h1, h2, h3, h4⟩ := h
  exact hn v r H' F' w' h1 h2 h3 h4

theorem opW_sound {B : Nat} {op : AOp} (hc : opC P o.op = some op) (hr : Rel P B F s a w) (hk : opW P s.t s.H K op) : OpOK P s F a w o K := by
  obtain ⟨hh, hd, hsz, ht⟩ := hr
  cases ho : o.op <;> rw [ho] at hc <;> simp only [opC, reduceCtorEq] at hc
  case move x => cases hc; exact OpOK.same hh (by simp [execOp, ho]) (ev_sound ht x) hk
  case assign x => cases hc; exact OpOK.same hh (by simp [execOp, ho]) (ev_sound ht x) hk
  case pick c x y =>
    cases hc
    simp only [opW] at hk
    split at hk
    · next b e =>
      have hb := ev_sound (P := P) (F := F) (w := w) ht c
      rw [e] at hb
      cases hb
      next hb =>
      generalize hv : a.eval c = v at hb
      cases hb
      cases b
      · exact OpOK.same hh (by simp [execOp, ho, hv, asBool]) (ev_sound ht y) (hk.2 rfl)
      · exact OpOK.same hh (by simp [execOp, ho, hv, asBool]) (ev_sound ht x) (hk.1 rfl)
    · exact hk.elim
  case alloc e =>
    cases hz : zeroC P e with
    | none => rw [hz] at hc; cases hc
    | some z =>
      rw [hz] at hc
      cases hc
      obtain ⟨i, v, h1, h2, h3, h4, h5⟩ := zeroC_sound hz
      obtain ⟨F', H', w', g1, g2, g3, g4⟩ := new_sound (P := P) hh e (h5 F w).1 (h5 F w).2 hk
      refine OpOK.value (v := .pointer (some ⟨w.heap.size, 0, none⟩)) ?_ (.ptr _ 0) g2 g3 g4
      simp only [execOp, ho, Sem.run_bind, Instr.alloc, run_zeroValue h1 h2, Result.andThen_ok, newVar]
      have : newRow e v.cells = newRow e v.cells.toList.toArray := by simp
      rw [this, g1]
      simp
  case box e x =>
    cases hc
    obtain ⟨hf, hk⟩ := hk
    have hx := ev_sound (P := P) (F := F) (w := w) ht x
    obtain ⟨us, h1, h2, h3, h4⟩ := cells_sound hx hf
    obtain ⟨F', H', w', g1, g2, g3, g4⟩ := new_sound (P := P) hh e h3 h4 hk
    refine OpOK.value (v := .pointer (some ⟨w.heap.size, 0, none⟩)) ?_ (.ptr _ 0) g2 g3 g4
    simp only [execOp, ho, Sem.run_bind, Instr.box, newVar, h1, g1, Result.andThen_ok, Sem.run_pure]
  case load t p =>
    cases hg : aggOf P t with
    | none => rw [hg] at hc; cases hc
    | some g =>
      rw [hg] at hc
      cases hc
      obtain ⟨v, av, h1, h2, h3⟩ := load_sound (P := P) hh hg (ev_sound ht p) (K := fun v => K v s.H) hk
      exact OpOK.same hh (by simp [execOp, ho, h1]) h2 h3
  case store t p v =>
    cases hi : P.info? t with
    | none => rw [hi] at hc; cases hc
    | some i =>
      rw [hi] at hc
      cases hc
      obtain ⟨F', H', w', h1, h2, h3, h4⟩ := store_sound (P := P) hh hi (ev_sound ht p) (ev_sound ht v) hk
      exact OpOK.skip (by simp [execOp, ho, h1]) h2 h3 h4
  case panic x => cases hc; exact hk.elim
  case nilCheck x =>
    cases hc
    have hx := ev_sound (P := P) (F := F) (w := w) ht x
    simp only [opW] at hk
    generalize hv : a.eval x = v at hx
    generalize ev s.t (opdC P x) = xv at hx hk
    cases hx <;> try exact hk.elim
    case ptr b off => exact OpOK.same hh (by simp [execOp, ho, hv]) (.ptr b off) hk
    case eptr b sz i j => exact OpOK.same hh (by simp [execOp, ho, hv]) (.eptr b sz i j) hk
    case dptr el off b o us hF hl hc hr => exact OpOK.same hh (by simp [execOp, ho, hv]) (.dptr el off b o us hF hl hc hr) hk
    case fn f xs cs hf hl h => exact OpOK.same hh (by simp [execOp, ho, hv]) (.fn f xs cs hf hl h) hk
  case binOp bop t x y yt =>
    split at hc
    · next fs hfs =>
      split at hc
      · next ks hks =>
        split at hc
        · next hg =>
          simp only [Bool.and_eq_true, Bool.not_eq_true'] at hg
          have key : ∀ neg : Bool, bop = (if neg then .neq else .eql) → opW P s.t s.H K (.eqAgg neg ks (opdC P x) (opdC P y)) → OpOK P s F a w o K := by
            intro neg hop hk
            simp only [opW] at hk
            have hx := ev_sound (P := P) (F := F) (w := w) ht x
            have hy := ev_sound (P := P) (F := F) (w := w) ht y
            split at hk
            · next xs ys e1 e2 =>
              rw [e1] at hx
              rw [e2] at hy
              generalize hu : a.eval x = u at hx
              generalize hv : a.eval y = v at hy
              split at hk
              · next b he =>
                cases hx with | agg _ cs hl1 hh1 _ =>
                cases hy with | agg _ ds hl2 hh2 _ =>
                have h1 := eqAgg_sound (P := P) (F := F) (w := w) (neg := neg) hfs hks hg.1 hg.2 x y ⟨hl1, hh1⟩ ⟨hl2, hh2⟩ he
                rw [← hop] at h1
                refine OpOK.same hh ?_ (.d _ _ (.bool _)) hk
                simp only [execOp, ho, hu, hv]
                rw [Sem.run_bind, h1]
                rfl
              · exact hk.elim
            · exact hk.elim
          split at hc
          · cases hc; exact key false rfl hk
          · cases hc; exact key true rfl hk
          · cases hc
        · cases hc
      · cases hc
    · cases hc
      obtain ⟨r, av, h1, h2, h3⟩ := bin_sound (P := P) (op := bop) (t := t) x y (ev_sound ht x) (ev_sound ht y) (K := fun v => K v s.H) hk
      refine OpOK.same hh ?_ h2 h3
      simp only [execOp, ho]
      rw [Sem.run_bind, h1]
      rfl
    · cases hc
      obtain ⟨r, av, h1, h2, h3⟩ := bin_sound (P := P) (op := bop) (t := t) x y (ev_sound ht x) (ev_sound ht y) (K := fun v => K v s.H) hk
      refine OpOK.same hh ?_ h2 h3
      simp only [execOp, ho]
      rw [Sem.run_bind, h1]
      rfl
    · next hb =>
      have key : ∀ neg : Bool, bop = (if neg then .neq else .eql) → opW P s.t s.H K (.binb neg (opdC P x) (opdC P y)) → OpOK P s F a w o K := by
        intro neg hop hk
        simp only [opW] at hk
        have hx := ev_sound (P := P) (F := F) (w := w) ht x
        have hy := ev_sound (P := P) (F := F) (w := w) ht y
        split at hk
        · next p q e1 e2 =>
          rw [e1] at hx
          rw [e2] at hy
          generalize hu : a.eval x = u at hx
          generalize hv : a.eval y = v at hy
          cases hx; next hx =>
          cases hx
          cases hy; next hy =>
          cases hy
          have h1 := binb_sound (P := P) (w := w) (neg := neg) hb x y p q
          rw [← hop] at h1
          refine OpOK.same hh ?_ (.d _ _ (.bool _)) hk
          simp only [execOp, ho, hu, hv]
          rw [Sem.run_bind, h1]
          rfl
        · exact hk.elim
      split at hc
      · cases hc; exact key false rfl hk
      · cases hc; exact key true rfl hk
      · cases hc
    · cases hc
  case unOp uop t x =>
    cases hc
    have hx := ev_sound (P := P) (F := F) (w := w) ht x
    simp only [opW] at hk
    split at hk
    · next b e =>
      rw [e] at hx
      generalize hv : a.eval x = v at hx
      cases hx; next hx => cases hx; exact OpOK.same hh (by simp [execOp, ho, hv, Op.unary]) (.d _ _ (.bool _)) hk
    · next k n e =>
      rw [e] at hx
      generalize hv : a.eval x = v at hx
      cases hx; next hx => cases hx; exact OpOK.same hh (by simp [execOp, ho, hv, Op.unary, Op.intArith]) (.d _ _ (.int _ _)) hk
    · exact hk.elim
  case convert src dst x =>
    split at hc
    · next k1 k e1 e2 =>
      cases hc
      have hx := ev_sound (P := P) (F := F) (w := w) ht x
      simp only [opW] at hk
      split at hk
      · next k' n e =>
        rw [e] at hx
        generalize hv : a.eval x = v at hx
        cases hx; next hx => cases hx; exact OpOK.same hh (by simp [execOp, ho, hv, convert, run_underlying e1, run_underlying e2, Conv.intToInt]) (.d _ _ (.int _ _)) hk
      · exact hk.elim
    · cases hc
  case makeFunc fn first caps =>
    unfold mkfnC at hc
    split at hc
    · next f hfi =>
      split at hc
      · next hf =>
        cases hc
        have hl := evL_sound (P := P) (F := F) (w := w) ht caps.toList
        have := VR.fn (P := P) (F := F) (w := w) f _ _ hf hl.1 hl.2
        obtain rfl : first = #[] := by simpa using hfi
        refine OpOK.same hh ?_ this hk
        simp [execOp, ho, Instr.makeFunc]
        apply Array.ext'; simp
      · cases hc
    · cases hc
  case fieldAddr t x i =>
    split at hc
    · next fs hu =>
      split at hc
      · next f hf =>
        split at hc
        · next hs =>
          cases hc
          obtain ⟨j, hj⟩ : ∃ j, P.info? f.type = some j := by cases e : P.info? f.type <;> simp [e] at hs ⊢
          have hjs : j.size ≠ 0 := by simpa [hj] using hs
          have hx := ev_sound (P := P) (F := F) (w := w) ht x
          have key : ∀ y, faV f.offset (ev s.t (opdC P x)) = some y → K y s.H → OpOK P s F a w o K := fun y hy hk => by
            obtain ⟨v, h1, h2⟩ := faV_sound hu hf hj hjs hx hy
            exact OpOK.same hh (by simp [execOp, ho, h1]) h2 hk
          simp only [opW] at hk
          split at hk
          · next e => exact key _ (by rw [e]; rfl) hk
          · next e => exact key _ (by rw [e]; rfl) hk
          · next e => exact key _ (by rw [e]; rfl) hk
          · exact hk.elim
        · cases hc
      · cases hc
    · cases hc
  case field t x i =>
    split at hc
    · next fs hu =>
      split at hc
      · next f hf =>
        cases hg : aggOf P f.type with
        | none => rw [hg] at hc; cases hc
        | some g =>
          rw [hg] at hc
          cases hc
          have hx := ev_sound (P := P) (F := F) (w := w) ht x
          simp only [opW] at hk
          split at hk
          · next xs e =>
            rw [e] at hx
            generalize hv : a.eval x = v at hx
            cases hx
            next cs h2 hl h1 =>
            obtain ⟨v, av, g1, g2, g3⟩ := part_sound (P := P) (F := F) (w := w) hg ⟨hl, h1⟩ h2 (off := f.offset) (K := fun v => K v s.H) (by cases g <;> exact hk)
            exact OpOK.same hh (by simp [execOp, ho, hv, Instr.field, run_underlying hu, hf, asAgg, g1]) g2 g3
          · exact hk.elim
      · cases hc
    · cases hc
  case indexAddr t x i =>
    have hx := ev_sound (P := P) (F := F) (w := w) ht x
    have hi := ev_sound (P := P) (F := F) (w := w) ht i
    split at hc
    · next e hu =>
      split at hc
      · next j hj =>
        split at hc
        · next hs =>
          cases hc
          obtain ⟨r, av, h1, h2, h3⟩ := elemAddr_sound (P := P) (F := F) (w := w) hu hj hx hi (K := fun v => K v s.H) hk
          exact OpOK.same hh (by simp [execOp, ho, h1]) h2 h3
        · cases hc
      · cases hc
    · next n e hu =>
      split at hc
      · next j hj =>
        split at hc
        · next hs =>
          cases hc
          simp only [opW] at hk
          split at hk
          · next b off k m e1 e2 =>
            rw [e1] at hx
            rw [e2] at hi
            generalize hv : a.eval x = v at hx
            generalize hv2 : a.eval i = v2 at hi
            cases hx
            cases hi; next hi =>
            cases hi
            have h1 := arrAddr_sound (P := P) (w := w) (b := b) (o := off) (k := k) hu hj hk.1
            exact OpOK.same hh (by simp [execOp, ho, hv, hv2, h1]) (.ptr _ _) hk.2
          · exact hk.elim
        · cases hc
      · cases hc
    · cases hc
  case index t x i =>
    split at hc
    · next n e hu =>
      split at hc
      · next j g hj hg =>
        split at hc
        · next hs =>
          cases hc
          have hx := ev_sound (P := P) (F := F) (w := w) ht x
          have hi := ev_sound (P := P) (F := F) (w := w) ht i
          simp only [opW] at hk
          split at hk
          · next xs k m e1 e2 =>
            rw [e1] at hx
            rw [e2] at hi
            generalize hv : a.eval x = v at hx
            generalize hv2 : a.eval i = v2 at hi
            cases hi; next hi =>
            cases hi
            cases hx
            next cs h2 hl h1 =>
            obtain ⟨⟨hm1, hm2, hm3⟩, hk⟩ := hk
            have hb : m.toNat * j.size + j.size ≤ lenAV xs := by
              rw [← hm3]
              have : (m.toNat + 1) * j.size ≤ n * j.size := Nat.mul_le_mul_right _ (by omega)
              rw [Nat.add_mul, Nat.one_mul] at this
              exact this
            obtain ⟨v, av, g1, g2, g3⟩ := part_sound (P := P) (F := F) (w := w) hg ⟨hl, h1⟩ h2 (off := m.toNat * j.size) (K := fun v => K v s.H) (by
              cases g with
              | none =>
                obtain ⟨h3, hk⟩ := hk
                have e3 : m.toNat * j.size = m.toNat := by rw [h3, Nat.mul_one]
                rw [e3, h3] at hb
                simp only [e3]
                exact ⟨by omega, hk⟩
              | some c => obtain ⟨rfl, hk⟩ := hk; exact ⟨hb, hk⟩)
            exact OpOK.same hh (by simp [execOp, ho, hv, hv2, Instr.index, run_underlying hu, asIntOf, hm1, hm2, run_sizeOf hj, g1]) g2 g3
          · exact hk.elim
        · cases hc
      · cases hc
    · next hu =>
      cases hc
      have hx := ev_sound (P := P) (F := F) (w := w) ht x
      have hi := ev_sound (P := P) (F := F) (w := w) ht i
      simp only [opW] at hk
      split at hk
      · next b k m e1 e2 =>
        rw [e1] at hx
        rw [e2] at hi
        generalize hv : a.eval x = v at hx
        generalize hv2 : a.eval i = v2 at hi
        cases hi; rename_i hi; cases hi
        cases hx; rename_i hx; cases hx
        obtain ⟨hm, hk⟩ := hk
        have h1 := run_index_string (P := P) w t b k m hu
        rw [dif_pos hm] at h1
        have e3 : (((b[m.toNat]'(by omega)).toNat : Nat) : Int) = strAt b m.toNat := by
          have h2 : m.toNat < b.data.size := by have := hm.2; show m.toNat < b.size; omega
          simp only [strAt, Array.getElem?_eq_getElem h2, Option.getD_some]
          rfl
        rw [e3] at h1
        exact OpOK.same hh (by simp only [execOp, ho, hv, hv2]; rw [Sem.run_bind, h1]; rfl) (.d _ _ (.int _ _)) hk
      · exact hk.elim
    · cases hc
  case build t parts =>
    split at hc
    · next fs z hu hz =>
      split at hc
      · next ha =>
        cases hl : partsC P fs parts.toList with
        | none => rw [hl] at hc; cases hc
        | some l =>
          rw [hl] at hc
          cases hc
          simp only [opW] at hk
          split at hk
          · next cs hb =>
            obtain ⟨us, h1, h2⟩ := build_struct (P := P) (F := F) (w := w) ht hu hz ha hl hb
            exact OpOK.same hh (by simp only [execOp, ho]; rw [Sem.run_bind, h1]; rfl) h2 hk
          · exact hk.elim
      · cases hc
    · next n e z hu hz =>
      split at hc
      · next j hj =>
        cases hc
        simp only [opW] at hk
        split at hk
        · next cs hb =>
          have e1 : (parts.toList.map fun x => (x.1 * j.size, j.size, opdC P x.2)) = (parts.toList.map fun p => (p.1, opdC P p.2)).map fun p => (p.1 * j.size, j.size, p.2) := by simp
          rw [e1, evP_pair] at hb
          obtain ⟨us, h1, h2⟩ := build_array (P := P) (F := F) (w := w) ht hu hz hj hb
          exact OpOK.same hh (by simp only [execOp, ho]; rw [Sem.run_bind, h1]; rfl) h2 hk
        · exact hk.elim
      · cases hc
    · cases hc
  case buildSlice t len parts =>
    split at hc
    · next e hu =>
      split at hc
      · next j z hj hz =>
        split at hc
        · next hs =>
          cases hc
          obtain ⟨v, av, F', H', w', h1, h2, h3, h4, h5⟩ := buildSlice_sound (P := P) hh ht (len := len) (parts := parts) hu hz hj hs.1 hs.2 hk
          exact OpOK.value (by simp only [execOp, ho]; rw [Sem.run_bind, h1]; rfl) h2 h3 h4 h5
        · cases hc
      · cases hc
    · cases hc
  case makeSlice t l c =>
    cases l <;> (try cases hc)
    next l =>
    cases c <;> (try cases hc)
    next c =>
    simp only [opC] at hc
    split at hc
    · next e hu =>
      split at hc
      · next j z hj hz =>
        split at hc
        · next hs =>
          cases hc
          obtain ⟨h0, rfl⟩ := hs
          have hx := ht l
          simp only [opW, ev] at hk
          split at hk
          · next k n e1 =>
            rw [e1] at hx
            generalize hv : a.tmps.getD l undef = v at hx
            cases hx
            next hy =>
            cases hy
            split at hk
            · next ds hd =>
              obtain ⟨v, av, F', H', w', h1, h2, h3, h4, h5⟩ := make_sound (P := P) (k := k) hh hu hz hj h0 hd hk.1 hk.2
              exact OpOK.value (by simp only [execOp, ho, Act.eval, hv]; rw [Sem.run_bind, h1]; rfl) h2 h3 h4 h5
            · exact hk.elim
          · exact hk.elim
        · cases hc
      · cases hc
    · cases hc
  case extract x i =>
    cases hc
    have hx := ev_sound (P := P) (F := F) (w := w) ht x
    simp only [opW] at hk
    split at hk
    · next xs e =>
      rw [e] at hx
      generalize hv : a.eval x = v at hx
      cases hx
      next cs hl h1 =>
      obtain ⟨u, hu, h2⟩ := VRL.nth (P := P) (F := F) (w := w) ⟨hl, h1⟩ hk.1
      exact OpOK.same hh (by simp [execOp, ho, hv, Instr.extract, hu]) h2 hk.2
    · exact hk.elim
  case slice t x lo hi mx =>
    split at hc
    · next e hu =>
      split at hc
      · next j hj =>
        cases hc
        have hx := ev_sound (P := P) (F := F) (w := w) ht x
        have hopt : ∀ q : Option Operand, (evO s.t (q.map (opdC P)) = none ∧ q.map a.eval = none) ∨ ∃ p b, evO s.t (q.map (opdC P)) = some p ∧ q.map a.eval = some b ∧ VR P F w p b := fun q => by
          cases q with
          | none => exact .inl ⟨rfl, rfl⟩
          | some q => exact .inr ⟨_, _, rfl, rfl, ev_sound ht q⟩
        obtain ⟨r, av, h1, h2, h3⟩ := slice_sound (P := P) (F := F) (w := w) hu hj hx (hopt lo) (hopt hi) (K := fun v => K v s.H) hk
        exact OpOK.same hh (by simp only [execOp, ho, Option.map_none]; rw [Sem.run_bind, h1]; rfl) h2 h3
      · cases hc
    · cases hc
  case call c =>
    obtain ⟨callee, args, argTypes⟩ := c
    simp only [callC] at hc
    have hargs := evL_sound (P := P) (F := F) (w := w) ht args.toList
    split at hc
    · next b =>
      cases b <;> simp only [builtinC, reduceCtorEq] at hc
      case len =>
        split at hc
        · next x t ha hts =>
          obtain rfl : args = #[x] := by apply Array.ext'; simpa using ha
          obtain rfl : argTypes = #[t] := by apply Array.ext'; simpa using hts
          have hx := ev_sound (P := P) (F := F) (w := w) ht x
          split at hc
          · next e hu =>
            cases hc
            simp only [opW] at hk
            generalize hv : a.eval x = v at hx
            generalize ev s.t (opdC P x) = xv at hx hk
            have run : ∀ q n c, v = .slice q n c → (execOp a.eval o).run P w = .ok (.value (.int .i64 n)) w := by
              rintro q n c rfl
              simp [execOp, ho, resolve, invoke, builtin, Builtin.len_, hv, run_underlying hu, goInt]
            cases hx <;> try exact hk.elim
            case d y hy =>
              cases hy <;> try exact hk.elim
              case nil sz q cap => exact OpOK.same hh (run _ _ _ rfl) (.d _ _ (.int _ _)) hk
              case sl => exact OpOK.same hh (run _ _ _ rfl) (.d _ _ (.int _ _)) hk
            case nilsl => exact OpOK.same hh (run _ _ _ rfl) (.d _ _ (.int _ _)) hk
            case own => exact OpOK.same hh (run _ _ _ rfl) (.d _ _ (.int _ _)) hk
          · next hu =>
            cases hc
            simp only [opW] at hk
            split at hk
            · next st e =>
              rw [e] at hx
              generalize hv : a.eval x = v at hx
              cases hx; next hx =>
              cases hx
              exact OpOK.same hh (by simp [execOp, ho, resolve, invoke, builtin, Builtin.len_, hv, run_underlying hu, goInt]) (.d _ _ (.int _ _)) hk
            · exact hk.elim
          · cases hc
        · cases hc
      case append =>
        split at hc
        · next x y t u ha hts =>
          obtain rfl : args = #[x, y] := by apply Array.ext'; simpa using ha
          obtain rfl : argTypes = #[t, u] := by apply Array.ext'; simpa using hts
          split at hc
          · next e hu =>
            split at hc
            · next j z hj hz =>
              split at hc
              · next hs =>
                cases hc
                obtain ⟨hs1, hs2, rfl⟩ := hs
                obtain ⟨v, av, F', H', w', h1, h2, h3, h4, h5⟩ := append_sound (P := P) (ty := o.type) hh hu hj hz hs1 hs2 (ev_sound ht x) (ev_sound ht y) hk
                exact OpOK.value (by simp [execOp, ho, resolve, invoke, builtin, h1]) h2 h3 h4 h5
              · cases hc
            · cases hc
          · cases hc
        · cases hc
      case min =>
        split at hc
        · next x r ha =>
          cases hc
          simp only [opW] at hk
          split at hk
          · next k n e =>
            split at hk
            · next m hm =>
              have hx := ev_sound (P := P) (F := F) (w := w) ht x
              rw [e] at hx
              generalize hv : a.eval x = v at hx
              cases hx; next hx =>
              cases hx
              have hl := evL_sound (P := P) (F := F) (w := w) ht r
              have h1 := minmax_sound (P := P) (F := F) (w := w) false k _ _ n m hl hm
              refine OpOK.same hh ?_ (.d _ _ (.int _ _)) hk
              simp only [Bool.false_eq_true, if_false] at h1
              simp [execOp, ho, resolve, invoke, builtin, Builtin.min_, ha, hv, h1]
            · exact hk.elim
          · exact hk.elim
        · cases hc
      case max =>
        split at hc
        · next x r ha =>
          cases hc
          simp only [opW] at hk
          split at hk
          · next k n e =>
            split at hk
            · next m hm =>
              have hx := ev_sound (P := P) (F := F) (w := w) ht x
              rw [e] at hx
              generalize hv : a.eval x = v at hx
              cases hx; next hx =>
              cases hx
              have hl := evL_sound (P := P) (F := F) (w := w) ht r
              have h1 := minmax_sound (P := P) (F := F) (w := w) true k _ _ n m hl hm
              refine OpOK.same hh ?_ (.d _ _ (.int _ _)) hk
              simp only [if_true] at h1
              simp [execOp, ho, resolve, invoke, builtin, Builtin.max_, ha, hv, h1]
            · exact hk.elim
          · exact hk.elim
        · cases hc
    · next f =>
      split at hc
      · next hf =>
        cases hc
        refine OpOK.call (f := f) ?_ hh hargs hk
        have : (args.toList.map a.eval).toArray = args.map a.eval := by apply Array.ext'; simp
        rw [this]
        simp [execOp, ho, resolve, Act.eval, Deferred.ofValue, invoke, enters_run hf]
      · cases hc
    · next t =>
      cases hc
      simp only [opW, ev] at hk
      split at hk
      · next f caps e =>
        have hx := ht t
        rw [e] at hx
        generalize hv : a.tmps.getD t undef = v at hx
        cases hx
        next cs hf hl h1 =>
        refine OpOK.call (f := f) ?_ hh (hargs.append ⟨hl, h1⟩) hk
        have : (args.toList.map a.eval ++ cs).toArray = args.map a.eval ++ cs.toArray := by apply Array.ext'; simp
        rw [this]
        simp [execOp, ho, resolve, Act.eval, hv, Deferred.ofValue, invoke, enters_run hf]
      · next l e =>
        have hx := ht t
        rw [e] at hx
        generalize hv : a.tmps.getD t undef = v at hx
        cases hx
        refine OpOK.yld (l := l) ?_ hh hargs hk
        have : (args.toList.map a.eval).toArray = args.map a.eval := by apply Array.ext'; simp
        rw [this]
        simp [execOp, ho, resolve, Act.eval, hv, Deferred.ofValue, invoke]
      · exact hk.elim
    · cases hc
end
end Go.Proofs.Ytlflfciebidddaa.Abs
