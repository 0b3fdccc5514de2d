/- How a function's contract is proved, and used: calls entered, calls of functions that leave alone what there is, rows of one's own lent to them; loops under a relation. No claim stands here. -/
import Derived.Test.YtlflfciebidddaaAbs12
import Derived.Test.YtlflfciebidddaaAbsL
import Derived.RangeFuncLeaves
namespace Go.Proofs.Ytlflfciebidddaa.Abs
open Go Go.RowKit

section
variable {P : Program}

theorem argT_sound {F : Nat → Prop} {w : World} (n : Nat) : ∀ (args : List AV) (vs : List Value) (i : Nat), VRL P F w args vs →
    ∀ t, VR P F w (argT args i t) (if i ≤ t ∧ t < i + vs.length then vs.getD (t - i) undef else undef)
  | [], vs, i, hv, t => by
    obtain rfl := hv.unnil
    rw [if_neg (by simp)]
    exact .void
  | x :: l, vs, i, hv, t => by
    obtain ⟨v, vs, rfl, hx, hl⟩ := hv.uncons
    simp only [argT, putT_get]
    by_cases e : i = t
    · subst e
      simp only [beq_self_eq_true, cond_true]
      rw [if_pos (by simp)]
      simpa using hx
    · rw [show (i == t) = false by simpa using e]
      simp only [cond_false]
      have ih := argT_sound n l vs (i + 1) hl t
      by_cases h : i + 1 ≤ t ∧ t < i + 1 + vs.length
      · rw [if_pos h] at ih
        rw [if_pos (by simp; omega)]
        rw [show t - i = (t - (i + 1)) + 1 by omega]
        simpa using ih
      · rw [if_neg h] at ih
        rw [if_neg (by simp; omega)]
        exact ih

theorem resC_sound {F : Nat → Prop} {s : St} {a : Act} {w : World} (hr : HRel P F s.H w) (ht : ∀ t, VR P F w (s.t t) (a.tmps.getD t undef)) : ∀ {rs : List ResultVar} {ar : List ARes} {K : List AV → Prop}, resC P rs = some ar → resL s ar K →
    ∃ vs : List Value, ∃ avs, ((rs.mapM fun
      | .tmp t => pure (a.tmps.getD t undef)
      | .cell q t => do loadVar t (← asAddr (a.tmps.getD q undef)) : Sem (List Value)).run P w = .ok vs w) ∧ VRL P F w avs vs ∧ K avs
  | [], ar, K, hc, hk => by
    simp only [resC, Option.some.injEq] at hc
    subst hc
    exact ⟨[], [], by simp, VRL.nil, hk⟩
  | .tmp t :: rs, ar, K, hc, hk => by
    simp only [resC, Option.map_eq_some_iff] at hc
    obtain ⟨ar', h1, rfl⟩ := hc
    obtain ⟨vs, avs, e1, e2, e3⟩ := resC_sound hr ht h1 hk
    exact ⟨_ :: vs, _ :: avs, by simp only [List.mapM_cons, Sem.run_bind, Sem.run_pure, Result.andThen_ok, e1], VRL.cons (ht t) e2, e3⟩
  | .cell q t :: rs, ar, K, hc, hk => by
    simp only [resC] at hc
    split at hc
    · next g l hg hl =>
      cases hc
      obtain ⟨v, av, h1, h2, h3⟩ := load_sound hr hg (ht q) (K := fun v => resL s l fun vs => K (v :: vs)) hk
      obtain ⟨vs, avs, e1, e2, e3⟩ := resC_sound hr ht hl h3
      refine ⟨v :: vs, av :: avs, ?_, VRL.cons h2 e2, e3⟩
      have h4 : (do loadVar t (← asAddr (a.tmps.getD q undef)) : Sem Value).run P w = .ok v w := by
        cases hq : a.tmps.getD q undef with
        | pointer p => cases p with
          | none =>
            rw [hq] at h1
            simp [Instr.loadAt, Instr.sureAddr, stuck, Sem.run] at h1
          | some p =>
            rw [hq] at h1
            simpa [Instr.loadAt, Instr.sureAddr, asAddr] using h1
        | _ =>
          rw [hq] at h1
          simp [Instr.loadAt, Instr.sureAddr, stuck, Sem.run] at h1
      simp only [List.mapM_cons, Sem.run_bind, Result.andThen_ok, e1, Sem.run_pure] at h4 ⊢
      rw [h4]
      simp only [Result.andThen_ok, e1]
    · cases hc

theorem RunC_eq {Q : Out → St → Prop} {c : ACode} {s : St} (h : RunC P Q c [] s) : acW P c s Q := by
  unfold RunC at h
  have e : (fun o s' => RunO P Q [] o s') = Q := by funext o s'; exact RunO_nil
  rw [e] at h
  exact h

/-- The blocks of loops that are over, shut. -/
def shut : List Nat → World → World
  | [], w => w
  | D :: ms, w => shut ms (w.putObj D (.deferred none))
theorem shut_heap : ∀ {ms : List Nat} {w : World} {k : Nat}, k ∉ ms → (shut ms w).heap[k]? = w.heap[k]?
  | [], w, k, _ => rfl
  | D :: ms, w, k, h => by
    simp only [List.mem_cons, not_or] at h
    simp only [shut]
    rw [shut_heap h.2, World.putObj_heap_other h.1]
theorem shut_size : ∀ {ms : List Nat} {w : World}, (shut ms w).heap.size = w.heap.size
  | [], w => rfl
  | D :: ms, w => by simp only [shut]; rw [shut_size, World.putObj_size]
theorem shut_rest : ∀ {ms : List Nat} {w : World}, (shut ms w).os = w.os ∧ (shut ms w).tape = w.tape ∧ (shut ms w).output = w.output
  | [], w => ⟨rfl, rfl, rfl⟩
  | D :: ms, w => by simp only [shut]; exact shut_rest
theorem leaves_marks {fn : Func} {tmps : Array Value} {R : Ending → World → Prop} : ∀ (ms : List Nat) (w : World), ms.Nodup → (∀ D ∈ ms, w.heap[D]? = some (.deferred (some []))) →
    LeavesIn Fence.wide 0 P fn tmps R [] .returning (shut ms w) → LeavesInM Fence.wide 0 P fn tmps R (ms.map coll) .returning w
  | [], w, _, _, h => h
  | D :: ms, w, hn, hd, h => by
    rw [List.nodup_cons] at hn
    refine ⟨by simp, .inl ⟨D, _, rfl, run_takeDeferred (hd D (by simp)), leaves_marks ms _ hn.2 (fun k hk => ?_) h⟩⟩
    rw [World.putObj_heap_other (fun e => hn.1 (by rw [← e]; exact hk))]
    exact hd k (by simp [hk])

theorem CallW_intro {f : FuncId} {af : AFunc} {args : List AV} {H : Heap} {K : AV → Heap → Prop} (hc : funcC P f = some af) (hn : args.length ≤ af.n)
    (h : RunC P (finW af.results K) af.body [] ⟨af.n, argT args 0, H⟩) : CallW P f args H K := by
  have h := RunC_eq h
  unfold funcC at hc
  split at hc
  · next fn hf =>
    split at hc
    · next c hb =>
      split at hc
      · next ac rs hac hrs =>
        cases hc
        intro F w vs hh hv
        have hlen : args.length = vs.length := hv.1
        refine (callsIn_wide (n := 0)).1 (callsIn_of_wp_marks hf hb trivial ?_)
        have hrel : Rel P w.heap.size F ⟨fn.ntmps, argT args 0, H⟩ { tmps := vs.toArray ++ Array.replicate (fn.ntmps - vs.toArray.size) undef, defers := [] } w := by
          refine ⟨hh, ⟨Nat.le_refl _, [], rfl, List.nodup_nil, fun D h => by simp at h⟩, by simp only [Array.size_append, Array.size_replicate, List.size_toArray]; dsimp only at hn; omega, fun t => ?_⟩
          have := argT_sound fn.ntmps args vs 0 hv t
          have e : (vs.toArray ++ Array.replicate (fn.ntmps - vs.toArray.size) undef).getD t undef = if 0 ≤ t ∧ t < 0 + vs.length then vs.getD (t - 0) undef else undef := by
            rw [Array.getD_eq_getD_getElem?, Array.getElem?_append]
            by_cases ht : t < vs.length
            · rw [if_pos (by simpa using ht), if_pos (by omega)]; simp
            · rw [if_neg (by simpa using ht), if_neg (by omega), Array.getElem?_replicate]
              split <;> rfl
          rw [e]
          exact this
        refine Code.wpIn_mono (F := Fence.wide) ?_ (acW_sound (r := none) hac (.inl rfl) h w.heap.size F _ w hrel)
        rintro e a' w' ⟨o, s', F', h1, h2, h3, h4⟩
        have fin : resW s' rs (fun r => K r s'.H) → LeavesInM Fence.wide 0 P fn a'.tmps (fun e w' => ∃ r H' F' v, e = .returned v ∧ VR P F' w' r v ∧ HRel P F' H' w' ∧ Step F H w F' H' w' ∧ K r H') a'.defers .returning w' := by
          intro hk
          obtain ⟨g1, ⟨g0, ms, gd, gn, gm⟩, g3, g4⟩ := h2
          rw [gd]
          refine leaves_marks ms w' gn (fun D hD => (gm D hD).2.2.2) ?_
          show ∃ v, (results fn a'.tmps).run P (shut ms w') = .ok v (shut ms w') ∧ ∃ r H' F' v', Ending.returned v = .returned v' ∧ _
          have hoF : ∀ k, F' k → (shut ms w').heap[k]? = w'.heap[k]? := fun k hk => shut_heap fun hm => (gm k hm).2.2.1 hk
          have hh' : HRel P F' s'.H (shut ms w') := ⟨fun b x hb => (g1.at_ b x hb).mono (shut_heap fun hm => by rw [(gm b hm).2.1] at hb; cases hb) (fun _ h => h) hoF, g1.apart, fun b hb => by rw [shut_size]; exact g1.old b hb⟩
          have ht' : ∀ t, VR P F' (shut ms w') (s'.t t) (a'.tmps.getD t undef) := fun t => (g4 t).mono (fun _ h => h) hoF
          have h3 : Step F H w F' s'.H (shut ms w') := ⟨shut_rest.1.trans h3.os, shut_rest.2.1.trans h3.tape, shut_rest.2.2.trans h3.output, by rw [shut_size]; exact h3.size,
            fun k hk hn => (shut_heap fun hm => by have := (gm k hm).1; omega).trans (h3.keep k hk hn), h3.dom, h3.mono, h3.new⟩
          clear g4 g1 gm gn gd g0
          generalize shut ms w' = w' at *
          obtain ⟨us, avs, e1, e2, e3⟩ := resC_sound hh' ht' hrs hk
          have hres : (results fn a'.tmps).run P w' = .ok (if h : us.toArray.size = 1 then us.toArray[0] else .tuple us.toArray) w' := by
            have em := Array.toList_mapM (m := Sem) (xs := fn.results) (f := fun
              | .tmp t => pure (a'.tmps.getD t undef)
              | .cell q t => do loadVar t (← asAddr (a'.tmps.getD q undef)))
            rw [← em] at e1
            simp only [Sem.run_map] at e1
            unfold results
            rw [Sem.run_bind]
            generalize hx : (Sem.run P (Array.mapM _ fn.results) w') = rr at e1 ⊢
            cases rr with
            | halt x w2 => simp [Result.andThen] at e1
            | ok arr w2 =>
              simp only [Result.andThen_ok, Result.ok.injEq] at e1
              obtain ⟨e4, rfl⟩ := e1
              have e5 : arr = us.toArray := by apply Array.ext'; simpa using e4
              subst e5
              rfl
          refine ⟨_, hres, ?_⟩
          match avs, us, e2, e3 with
          | [], [], e2, e3 => exact ⟨_, s'.H, F', _, rfl, .tup [] [] rfl (fun j x v h _ => by simp at h), hh', h3, e3⟩
          | [x], [u], e2, e3 => exact ⟨_, s'.H, F', _, rfl, e2.2 0 _ _ rfl rfl, hh', h3, e3⟩
          | x :: y :: l, u :: v :: us, e2, e3 =>
            refine ⟨_, s'.H, F', _, rfl, ?_, hh', h3, e3⟩
            rw [dif_neg (by simp)]
            exact .tup _ _ e2.1 e2.2
          | [], _ :: _, e2, _ => have := e2.1; simp at this
          | _ :: _, [], e2, _ => have := e2.1; simp at this
          | [x], _ :: _ :: _, e2, _ => have := e2.1; simp at this
          | _ :: _ :: _, [u], e2, _ => have := e2.1; simp at this
        cases o <;> cases e <;> simp only [OutR] at h1
        · exact fin h4
        · exact h4.elim
        · exact fin h4
      · cases hc
    · cases hc
  · cases hc

theorem CallW.mono {f : FuncId} {args : List AV} {H : Heap} {K K' : AV → Heap → Prop} (h : CallW P f args H K) (hk : ∀ r H', K r H' → K' r H') : CallW P f args H K' :=
  fun F w vs hh hv => (h F w vs hh hv).mono fun _ _ ⟨r, H', F', v, h1, h2, h3, h4, h5⟩ => ⟨r, H', F', v, h1, h2, h3, h4, hk r H' h5⟩

/-! ### loops, with the continuation as data -/
def LoopQ {α : Type} (I : α → Prop) (mk : α → St) (μ : α → Nat) (x : α) (R : Out → St → Prop) : Out → St → Prop
  | .normal, s' => ∃ y, I y ∧ μ y < μ x ∧ Abst s' (mk y)
  | .exit i, s' => R (.exit i) s'
  | .ret, s' => R .ret s'
theorem LoopQ_normal {α : Type} {I : α → Prop} {mk : α → St} {μ : α → Nat} {x : α} {R : Out → St → Prop} {s' : St} : LoopQ I mk μ x R .normal s' = ∃ y, I y ∧ μ y < μ x ∧ Abst s' (mk y) := rfl
theorem LoopQ_exit {α : Type} {I : α → Prop} {mk : α → St} {μ : α → Nat} {x : α} {R : Out → St → Prop} {s' : St} {i : Nat} : LoopQ I mk μ x R (.exit i) s' = R (.exit i) s' := rfl
theorem LoopQ_ret {α : Type} {I : α → Prop} {mk : α → St} {μ : α → Nat} {x : α} {R : Out → St → Prop} {s' : St} : LoopQ I mk μ x R .ret s' = R .ret s' := rfl
theorem LoopA_rule {α : Type} (I : α → Prop) (mk : α → St) (μ : α → Nat) {Q : Out → St → Prop} {b : ACode} {k : List Item} {s : St} (x0 : α) (h0 : I x0) (ha : Abst s (mk x0))
    (round : ∀ x, I x → RunC P (LoopQ I mk μ x (RunO P Q k)) b [] (mk x)) : LoopA P Q b k s := by
  refine LoopW_rule I mk μ x0 h0 ha fun x hx => ?_
  have h := RunC_eq (round x hx)
  refine cast (congrArg (acW P b (mk x)) ?_) h
  funext o s'; cases o <;> rfl

/-- Only these temporaries are told of. -/
def keepT : List (Nat × AV) → TM
  | [] => fun _ => .undef
  | (i, v) :: l => putT (keepT l) i v
def AllAt (t : TM) : List (Nat × AV) → Prop
  | [] => True
  | (i, v) :: l => t i = v ∧ AllAt t l
theorem Abst_keep {s : St} {n : Nat} {l : List (Nat × AV)} {H : Heap} (hn : n = s.n) (h : AllAt s.t l) (hp : ∀ k, H k = none ∨ H k = s.H k) : Abst s ⟨n, keepT l, H⟩ := by
  refine ⟨hn, fun i => ?_, hp⟩
  show keepT l i = .undef ∨ keepT l i = s.t i
  induction l with
  | nil => exact .inl rfl
  | cons p l ih =>
    obtain ⟨j, v⟩ := p
    simp only [keepT, putT_get]
    by_cases e : j = i
    · subst e; simp only [beq_self_eq_true, cond_true]; exact .inr h.1.symm
    · rw [show (j == i) = false by simpa using e]; exact ih h.2
end
end Go.Proofs.Ytlflfciebidddaa.Abs
