/- How a function's contract is proved, and used: calls entered, calls of functions that leave alone what there is, rows of one's own lent to them; loops under a relation. No claim stands here. -/
import Derived.Test.YtgfimmaligcgjaaAbs12
import Derived.Test.YtgfimmaligcgjaaAbsL
namespace Go.Proofs.Ytgfimmaligcgjaa.Abs
open Go Go.RowKit

section
variable {P : Program}

theorem argT_sound {F : Nat → Prop} {w : World} (n : Nat) : ∀ (args : List AV) (vs : List Value) (i : Nat), VRL P F w args vs →
    ∀ t, VR P F w (argT args i t) (if i ≤ t ∧ t < i + vs.length then vs.getD (t - i) undef else undef)
  | [], vs, i, hv, t => by
    obtain rfl := hv.unnil
    rw [if_neg (by simp)]
    exact .void
  | x :: l, vs, i, hv, t => by
    obtain ⟨v, vs, rfl, hx, hl⟩ := hv.uncons
    simp only [argT, putT_get]
    by_cases e : i = t
    · subst e
      simp only [beq_self_eq_true, cond_true]
      rw [if_pos (by simp)]
      simpa using hx
    · rw [show (i == t) = false by simpa using e]
      simp only [cond_false]
      have ih := argT_sound n l vs (i + 1) hl t
      by_cases h : i + 1 ≤ t ∧ t < i + 1 + vs.length
      · rw [if_pos h] at ih
        rw [if_pos (by simp; omega)]
        rw [show t - i = (t - (i + 1)) + 1 by omega]
        simpa using ih
      · rw [if_neg h] at ih
        rw [if_neg (by simp; omega)]
        exact ih

theorem resC_sound {F : Nat → Prop} {s : St} {a : Act} {w : World} (hr : Rel P F s a w) : ∀ {rs : List ResultVar} {ar : List ARes} {K : List AV → Prop}, resC P rs = some ar → resL s ar K →
    ∃ vs : List Value, ∃ avs, ((rs.mapM fun
      | .tmp t => pure (a.tmps.getD t undef)
      | .cell q t => do loadVar t (← asAddr (a.tmps.getD q undef)) : Sem (List Value)).run P w = .ok vs w) ∧ VRL P F w avs vs ∧ K avs
  | [], ar, K, hc, hk => by
    simp only [resC, Option.some.injEq] at hc
    subst hc
    exact ⟨[], [], by simp, VRL.nil, hk⟩
  | .tmp t :: rs, ar, K, hc, hk => by
    simp only [resC, Option.map_eq_some_iff] at hc
    obtain ⟨ar', h1, rfl⟩ := hc
    obtain ⟨vs, avs, e1, e2, e3⟩ := resC_sound hr h1 hk
    exact ⟨_ :: vs, _ :: avs, by simp only [List.mapM_cons, Sem.run_bind, Sem.run_pure, Result.andThen_ok, e1], VRL.cons (hr.2.2.2 t) e2, e3⟩
  | .cell q t :: rs, ar, K, hc, hk => by
    simp only [resC] at hc
    split at hc
    · next g l hg hl =>
      cases hc
      obtain ⟨v, av, h1, h2, h3⟩ := load_sound hr.1 hg (hr.2.2.2 q) (K := fun v => resL s l fun vs => K (v :: vs)) hk
      obtain ⟨vs, avs, e1, e2, e3⟩ := resC_sound hr hl h3
      refine ⟨v :: vs, av :: avs, ?_, VRL.cons h2 e2, e3⟩
      have h4 : (do loadVar t (← asAddr (a.tmps.getD q undef)) : Sem Value).run P w = .ok v w := by
        cases hq : a.tmps.getD q undef with
        | pointer p => cases p with
          | none =>
            rw [hq] at h1
            simp [Instr.loadAt, Instr.sureAddr, stuck, Sem.run] at h1
          | some p =>
            rw [hq] at h1
            simpa [Instr.loadAt, Instr.sureAddr, asAddr] using h1
        | _ =>
          rw [hq] at h1
          simp [Instr.loadAt, Instr.sureAddr, stuck, Sem.run] at h1
      simp only [List.mapM_cons, Sem.run_bind, Result.andThen_ok, e1, Sem.run_pure] at h4 ⊢
      rw [h4]
      simp only [Result.andThen_ok, e1]
    · cases hc

theorem RunC_eq {Q : Out → St → Prop} {c : ACode} {s : St} (h : RunC P Q c [] s) : acW P c s Q := by
  unfold RunC at h
  have e : (fun o s' => RunO P Q [] o s') = Q := by funext o s'; exact RunO_nil
  rw [e] at h
  exact h

theorem CallW_intro {f : FuncId} {af : AFunc} {args : List AV} {H : Heap} {K : AV → Heap → Prop} (hc : funcC P f = some af) (hn : args.length ≤ af.n)
    (h : RunC P (finW af.results K) af.body [] ⟨af.n, argT args 0, H⟩) : CallW P f args H K := by
  have h := RunC_eq h
  unfold funcC at hc
  split at hc
  · next fn hf =>
    split at hc
    · next c hb =>
      split at hc
      · next ac rs hac hrs =>
        cases hc
        intro F w vs hh hv
        have hlen : args.length = vs.length := hv.1
        refine calls_of_wp hf hb ?_
        have hrel : Rel P F ⟨fn.ntmps, argT args 0, H⟩ { tmps := vs.toArray ++ Array.replicate (fn.ntmps - vs.toArray.size) undef, defers := [] } w := by
          refine ⟨hh, rfl, by simp only [Array.size_append, Array.size_replicate, List.size_toArray]; dsimp only at hn; omega, fun t => ?_⟩
          have := argT_sound fn.ntmps args vs 0 hv t
          have e : (vs.toArray ++ Array.replicate (fn.ntmps - vs.toArray.size) undef).getD t undef = if 0 ≤ t ∧ t < 0 + vs.length then vs.getD (t - 0) undef else undef := by
            rw [Array.getD_eq_getD_getElem?, Array.getElem?_append]
            by_cases ht : t < vs.length
            · rw [if_pos (by simpa using ht), if_pos (by omega)]; simp
            · rw [if_neg (by simpa using ht), if_neg (by omega), Array.getElem?_replicate]
              split <;> rfl
          rw [e]
          exact this
        refine Code.wp_mono ?_ (acW_sound hac h F _ w hrel)
        rintro e a' w' ⟨o, s', F', h1, h2, h3, h4⟩
        have fin : resW s' rs (fun r => K r s'.H) → a'.defers = [] ∧ ∃ v, (results fn a'.tmps).run P w' = .ok v w' ∧ ∃ r H' F' v', Ending.returned v = .returned v' ∧ VR P F' w' r v' ∧ HRel P F' H' w' ∧ Step F H w F' H' w' ∧ K r H' := by
          intro hk
          refine ⟨h2.2.1, ?_⟩
          obtain ⟨us, avs, e1, e2, e3⟩ := resC_sound h2 hrs hk
          have hres : (results fn a'.tmps).run P w' = .ok (if h : us.toArray.size = 1 then us.toArray[0] else .tuple us.toArray) w' := by
            have em := Array.toList_mapM (m := Sem) (xs := fn.results) (f := fun
              | .tmp t => pure (a'.tmps.getD t undef)
              | .cell q t => do loadVar t (← asAddr (a'.tmps.getD q undef)))
            rw [← em] at e1
            simp only [Sem.run_map] at e1
            unfold results
            rw [Sem.run_bind]
            generalize hx : (Sem.run P (Array.mapM _ fn.results) w') = rr at e1 ⊢
            cases rr with
            | halt x w2 => simp [Result.andThen] at e1
            | ok arr w2 =>
              simp only [Result.andThen_ok, Result.ok.injEq] at e1
              obtain ⟨e4, rfl⟩ := e1
              have e5 : arr = us.toArray := by apply Array.ext'; simpa using e4
              subst e5
              rfl
          refine ⟨_, hres, ?_⟩
          match avs, us, e2, e3 with
          | [], [], e2, e3 => exact ⟨_, s'.H, F', _, rfl, .tup [] [] rfl (fun j x v h _ => by simp at h), h2.1, h3, e3⟩
          | [x], [u], e2, e3 => exact ⟨_, s'.H, F', _, rfl, e2.2 0 _ _ rfl rfl, h2.1, h3, e3⟩
          | x :: y :: l, u :: v :: us, e2, e3 =>
            refine ⟨_, s'.H, F', _, rfl, ?_, h2.1, h3, e3⟩
            rw [dif_neg (by simp)]
            exact .tup _ _ e2.1 e2.2
          | [], _ :: _, e2, _ => have := e2.1; simp at this
          | _ :: _, [], e2, _ => have := e2.1; simp at this
          | [x], _ :: _ :: _, e2, _ => have := e2.1; simp at this
          | _ :: _ :: _, [u], e2, _ => have := e2.1; simp at this
        cases o <;> cases e <;> simp only [OutR] at h1
        · exact fin h4
        · exact h4.elim
        · exact fin h4
      · cases hc
    · cases hc
  · cases hc

theorem CallW.mono {f : FuncId} {args : List AV} {H : Heap} {K K' : AV → Heap → Prop} (h : CallW P f args H K) (hk : ∀ r H', K r H' → K' r H') : CallW P f args H K' :=
  fun F w vs hh hv => (h F w vs hh hv).mono fun _ _ ⟨r, H', F', v, h1, h2, h3, h4, h5⟩ => ⟨r, H', F', v, h1, h2, h3, h4, hk r H' h5⟩

/-! ### loops, with the continuation as data -/
def LoopQ {α : Type} (I : α → Prop) (mk : α → St) (μ : α → Nat) (x : α) (R : Out → St → Prop) : Out → St → Prop
  | .normal, s' => ∃ y, I y ∧ μ y < μ x ∧ Abst s' (mk y)
  | .exit i, s' => R (.exit i) s'
  | .ret, s' => R .ret s'
theorem LoopQ_normal {α : Type} {I : α → Prop} {mk : α → St} {μ : α → Nat} {x : α} {R : Out → St → Prop} {s' : St} : LoopQ I mk μ x R .normal s' = ∃ y, I y ∧ μ y < μ x ∧ Abst s' (mk y) := rfl
theorem LoopQ_exit {α : Type} {I : α → Prop} {mk : α → St} {μ : α → Nat} {x : α} {R : Out → St → Prop} {s' : St} {i : Nat} : LoopQ I mk μ x R (.exit i) s' = R (.exit i) s' := rfl
theorem LoopQ_ret {α : Type} {I : α → Prop} {mk : α → St} {μ : α → Nat} {x : α} {R : Out → St → Prop} {s' : St} : LoopQ I mk μ x R .ret s' = R .ret s' := rfl
theorem LoopA_rule {α : Type} (I : α → Prop) (mk : α → St) (μ : α → Nat) {Q : Out → St → Prop} {b : ACode} {k : List Item} {s : St} (x0 : α) (h0 : I x0) (ha : Abst s (mk x0))
    (round : ∀ x, I x → RunC P (LoopQ I mk μ x (RunO P Q k)) b [] (mk x)) : LoopA P Q b k s := by
  refine LoopW_rule I mk μ x0 h0 ha fun x hx => ?_
  have h := RunC_eq (round x hx)
  refine cast (congrArg (acW P b (mk x)) ?_) h
  funext o s'; cases o <;> rfl

/-- Only these temporaries are told of. -/
def keepT : List (Nat × AV) → TM
  | [] => fun _ => .undef
  | (i, v) :: l => putT (keepT l) i v
def AllAt (t : TM) : List (Nat × AV) → Prop
  | [] => True
  | (i, v) :: l => t i = v ∧ AllAt t l
theorem Abst_keep {s : St} {n : Nat} {l : List (Nat × AV)} {H : Heap} (hn : n = s.n) (h : AllAt s.t l) (hp : ∀ k, H k = none ∨ H k = s.H k) : Abst s ⟨n, keepT l, H⟩ := by
  refine ⟨hn, fun i => ?_, hp⟩
  show keepT l i = .undef ∨ keepT l i = s.t i
  induction l with
  | nil => exact .inl rfl
  | cons p l ih =>
    obtain ⟨j, v⟩ := p
    simp only [keepT, putT_get]
    by_cases e : j = i
    · subst e; simp only [beq_self_eq_true, cond_true]; exact .inr h.1.symm
    · rw [show (j == i) = false by simpa using e]; exact ih h.2
end
end Go.Proofs.Ytgfimmaligcgjaa.Abs
