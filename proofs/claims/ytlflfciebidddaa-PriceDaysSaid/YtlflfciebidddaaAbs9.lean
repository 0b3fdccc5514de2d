/- One operation of the model does what the abstract one says: the operations on numbers, texts, structs and slices. No claim stands here. -/
import Derived.Test.YtlflfciebidddaaAbs8
import Derived.Laws.StructEq
namespace Go.Proofs.Ytlflfciebidddaa.Abs
open Go Go.RowKit

section
variable {P : Program} {F : Nat → Prop} {H : Heap} {w : World}

theorem bin_sound {op : BinOp} {t : TypeId} (xo yo : Operand) {x y : AV} {u v : Value} (hx : VR P F w x u) (hy : VR P F w y v) {K : AV → Prop} (hk : binW op x y K) :
    ∃ r av, (do eqGuard op t xo yo u v; binOp op t u v : Sem Value).run P w = .ok r w ∧ VR P F w av r ∧ K av := by
  cases hx <;> try exact hk.elim
  next x hx =>
  cases hy <;> try (cases hx <;> exact hk.elim)
  next y hy =>
  cases hx <;> cases hy <;> try exact hk.elim
  case int.int k a k' b =>
    cases op <;> dsimp only [binW] at hk
    case add | sub | mul =>
      obtain ⟨rfl, hk⟩ := hk
      exact ⟨_, _, by simp [eqGuard, binOp, Op.intArith], .d _ _ (.int _ _), hk⟩
    case quo | rem =>
      obtain ⟨⟨rfl, h0⟩, hk⟩ := hk
      exact ⟨_, _, by simp [eqGuard, binOp, Op.intDiv, h0], .d _ _ (.int _ _), hk⟩
    case and | or | xor | andNot =>
      obtain ⟨rfl, hk⟩ := hk
      exact ⟨_, _, by simp [eqGuard, binOp, Op.intBits], .d _ _ (.int _ _), hk⟩
    case shl | shr =>
      obtain ⟨h0, hk⟩ := hk
      have h1 : ¬ b < 0 := by omega
      exact ⟨_, _, by simp [eqGuard, binOp, Op.shift, h1], .d _ _ (.int _ _), hk⟩
    all_goals
      obtain ⟨rfl, hk⟩ := hk
      refine ⟨_, _, by simp [eqGuard, binOp, Op.intCmp]; rfl, .d _ _ (.bool _), ?_⟩
      exact hk
  case str.str a b =>
    cases op <;> dsimp only [binW] at hk <;> try exact hk.elim
    all_goals exact ⟨_, _, by simp [eqGuard, binOp, Op.stringOp], .d _ _ (.bool _), hk⟩

theorem binb_sound {neg : Bool} {t : TypeId} (ht : P.underlying t = some .bool) (xo yo : Operand) (a b : Bool) :
    (do eqGuard (if neg then .neq else .eql) t xo yo (.bool a) (.bool b); binOp (if neg then .neq else .eql) t (.bool a) (.bool b) : Sem Value).run P w = .ok (.bool (if neg then !(a == b) else a == b)) w := by
  have hq : (Op.equal t (.bool a) (.bool b)).run P w = .ok (a == b) w := run_equalIn_bool' (P := P) w 9999 t a b ht
  cases neg <;> simp [eqGuard, binOp, hq]

theorem kindsC_agg0 {t : TypeId} {k : IntKind} (h : P.underlying t = some (.int k)) {i : TypeInfo} (hi : P.info? t = some i) : aggOf P t = some none := by simp [aggOf, h, hi]
theorem run_isAgg_scal {t : TypeId} (h : P.underlying t = some .bool ∨ P.underlying t = some .string ∨ ∃ k, P.underlying t = some (.int k)) : (isAgg t).run P w = .ok false w := by
  rcases h with h | h | ⟨k, h⟩ <;> simp [isAgg, run_underlying h]
theorem eqFields_sound {d : Nat} {cs ds : List Value} : ∀ (fs : List Field) (o : Nat) (ks : List Nat) (xs ys : List AV) (b : Bool), kindsC P o fs = some ks → VRL P F w xs (cs.drop o) → VRL P F w ys (ds.drop o) → eqKs ks xs ys = some b →
    (Op.eqFields (d + 1) cs.toArray ds.toArray fs).run P w = .ok b w
  | [], o, ks, xs, ys, b, hk, hx, hy, he => by
    cases hk
    cases xs <;> cases ys <;> simp [eqKs] at he
    subst he
    simp [Op.eqFields]
  | f :: fs, o, ks, xs, ys, b, hk, hx, hy, he => by
    unfold kindsC at hk
    split at hk
    · next ho =>
      obtain ⟨ho, hn⟩ := ho
      have key : ∀ (n : Nat) (ks' : List Nat), ks = n :: ks' → kindsC P (o + 1) fs = some ks' → (n = 0 ∧ (∃ k, P.underlying f.type = some (.int k)) ∨ n = 1 ∧ P.underlying f.type = some .bool ∨ n = 2 ∧ P.underlying f.type = some .string) →
          (Op.eqFields (d + 1) cs.toArray ds.toArray (f :: fs)).run P w = .ok b w := by
        rintro n ks' rfl hks hty
        cases xs with
        | nil => simp [eqKs] at he
        | cons x xs =>
          cases ys with
          | nil => simp [eqKs] at he
          | cons y ys =>
            obtain ⟨v, vs, ev, hv, hvs⟩ := hx.uncons
            obtain ⟨u, us, eu, hu, hus⟩ := hy.uncons
            have ec : cs[o]? = some v := by rw [← List.head?_drop, ev]; rfl
            have ed : ds[o]? = some u := by rw [← List.head?_drop, eu]; rfl
            have ec2 : cs.drop (o + 1) = vs := by rw [← List.drop_drop, ev]; rfl
            have ed2 : ds.drop (o + 1) = us := by rw [← List.drop_drop, eu]; rfl
            rw [← ec2] at hvs
            rw [← ed2] at hus
            simp only [eqKs] at he
            split at he
            · next p q e1 e2 =>
              cases he
              have ih := eqFields_sound (d := d) fs (o + 1) ks' xs ys q hks hvs hus e2
              have hp1 : (part f.type cs.toArray f.offset).run P w = .ok v w := by
                rw [ho]; simp [part, run_isAgg_scal (w := w) (t := f.type) (by rcases hty with h | h | h; exact .inr (.inr h.2); exact .inl h.2; exact .inr (.inl h.2)), ec]
              have hp2 : (part f.type ds.toArray f.offset).run P w = .ok u w := by
                rw [ho]; simp [part, run_isAgg_scal (w := w) (t := f.type) (by rcases hty with h | h | h; exact .inr (.inr h.2); exact .inl h.2; exact .inr (.inl h.2)), ed]
              have hq : (Op.equalIn (d + 1) f.type v u).run P w = .ok p w := by
                unfold eqK at e1
                split at e1
                · next k a k' b' =>
                  split at e1
                  · next hkk =>
                    subst hkk
                    cases e1
                    cases hv; rename_i hv; cases hv
                    cases hu; rename_i hu; cases hu
                    rcases hty with ⟨_, k2, h⟩ | h | h
                    · rw [run_equalIn_int w d f.type k k2 a b' h]; rfl
                    · exact absurd h.1 (by decide)
                    · exact absurd h.1 (by decide)
                  · cases e1
                · cases e1
                  cases hv; rename_i hv; cases hv
                  cases hu; rename_i hu; cases hu
                  rcases hty with h | h | h
                  · exact absurd h.1 (by decide)
                  · exact run_equalIn_bool' w d f.type _ _ h.2
                  · exact absurd h.1 (by decide)
                · cases e1
                  cases hv; rename_i hv; cases hv
                  cases hu; rename_i hu; cases hu
                  rcases hty with h | h | h
                  · exact absurd h.1 (by decide)
                  · exact absurd h.1 (by decide)
                  · exact run_equalIn_string w d f.type _ _ h.2
                · cases e1
              simp only [Op.eqFields]
              rw [if_pos hn]
              simp only [Sem.run_bind, hp1, hp2, hq, Result.andThen_ok, Sem.run_ite]
              cases p
              · simp
              · simpa using ih
            · cases he
      split at hk <;> first | (cases hk; next ks' h1 h2 => exact key _ _ rfl h2 (by first | exact .inl ⟨rfl, _, h1⟩ | exact .inr (.inl ⟨rfl, h1⟩) | exact .inr (.inr ⟨rfl, h1⟩))) | (cases hk)
    · cases hk
theorem eqAgg_sound {neg : Bool} {t : TypeId} {fs : Array Field} {ks : List Nat} (ht : P.underlying t = some (.struct fs)) (hk : kindsC P 0 fs.toList = some ks) (h1 : P.stoodInHeld t = false) (h2 : P.eqGuardType P.depth t = false) (xo yo : Operand) {xs ys : List AV} {cs ds : List Value} (hx : VRL P F w xs cs) (hy : VRL P F w ys ds) {b : Bool} (he : eqKs ks xs ys = some b) :
    (do eqGuard (if neg then .neq else .eql) t xo yo (.agg cs.toArray) (.agg ds.toArray); binOp (if neg then .neq else .eql) t (.agg cs.toArray) (.agg ds.toArray) : Sem Value).run P w = .ok (.bool (if neg then !b else b)) w := by
  have hf : P.fieldsOf t = fs := by simp [Program.fieldsOf, ht]
  have hq : (Op.equalIn 10000 t (.agg cs.toArray) (.agg ds.toArray)).run P w = .ok b w := by
    rw [run_equalIn_agg w 9999 t _ _ (by rw [hf]; exact ht) h1, hf]
    exact eqFields_sound (d := 9998) fs.toList 0 ks xs ys b hk hx hy he
  cases neg
  · simp only [Bool.false_eq_true, if_false, Sem.run_bind, run_eqGuard_agg w _ t xo yo _ _ h2, Result.andThen_ok, run_eql_struct, hq]
  · simp only [if_true, Sem.run_bind, run_eqGuard_agg w _ t xo yo _ _ h2, Result.andThen_ok, run_neq_struct, hq]

/-! ### places -/
theorem faV_sound {i : Nat} {t : TypeId} {fs : Array Field} {f : Field} (ht : P.underlying t = some (.struct fs)) (hf : fs[i]? = some f) {j : TypeInfo} (hj : P.info? f.type = some j) (h0 : j.size ≠ 0) {x y : AV} {u : Value} (hx : VR P F w x u) (h : faV f.offset x = some y) :
    ∃ v, (Instr.fieldAt t u i).run P w = .ok v w ∧ VR P F w y v := by
  cases hx <;> simp only [faV, reduceCtorEq, Option.some.injEq] at h <;> subst h
  case ptr b off =>
    exact ⟨_, by simp [Instr.fieldAt, run_underlying ht, hf, Instr.sureAddr, fieldPlace, run_sizeOf hj, h0, addr_add], .ptr _ _⟩
  case eptr b sz a c =>
    refine ⟨_, by simp [Instr.fieldAt, run_underlying ht, hf, Instr.sureAddr, fieldPlace, run_sizeOf hj, h0, addr_add]; rfl, ?_⟩
    rw [Nat.add_assoc]
    exact .eptr _ _ _ _
  case dptr el off b o us hF hl hc hr =>
    refine ⟨_, by simp [Instr.fieldAt, run_underlying ht, hf, Instr.sureAddr, fieldPlace, run_sizeOf hj, h0, addr_add]; rfl, ?_⟩
    rw [Nat.add_assoc]
    exact .dptr _ _ _ _ us hF hl hc hr

theorem part_sound {t : TypeId} {g : Option Nat} (hg : aggOf P t = some g) {xs : List AV} {cs : List Value} (hx : VRL P F w xs cs) (h1 : ∀ v ∈ cs, v.oneCell' = true) {off : Nat} {K : AV → Prop}
    (hk : match (generalizing := false) g with | none => VC (off < lenAV xs) (K (nth xs off)) | some n => VC (off + n ≤ lenAV xs) (K (.agg (seg xs off n)))) :
    ∃ v av, (part t cs.toArray off).run P w = .ok v w ∧ VR P F w av v ∧ K av := by
  cases g with
  | none =>
    obtain ⟨u, hu, hv⟩ := hx.nth hk.1
    exact ⟨u, _, by simp [part, run_isAgg_no hg, hu], hv, hk.2⟩
  | some n =>
    obtain ⟨d, e1, e2, i, e3, e4⟩ := aggOf_some hg
    have hs := hx.seg off n
    refine ⟨_, _, by simp only [part, Sem.run_bind, run_isAgg_yes hg, Result.andThen_ok, if_true, run_sizeOf e3, e4]; rfl, ?_, hk.2⟩
    have e : cs.toArray.extract off (off + n) = ((cs.drop off).take n).toArray := by
      apply Array.ext'
      simp [List.extract_eq_take_drop]
    rw [e]
    exact .agg _ _ hs.1 hs.2 (fun v hv => h1 v (List.mem_of_mem_drop (List.mem_of_mem_take hv)))

theorem elemAddr_sound {t e : TypeId} {j : TypeInfo} (ht : P.underlying t = some (.slice e)) (hj : P.info? e = some j) {x i : AV} {u v : Value} (hx : VR P F w x u) (hi : VR P F w i v) {K : AV → Prop}
    (hk : match (generalizing := false) x, i with
      | .d (.sl sz' xs), .d (.int _ n) => VC (j.size = sz') (Idx xs n fun el => K (.dptr el 0))
      | .own b sz' off len _, .d (.int _ n) => VC (j.size = sz' ∧ 0 ≤ n ∧ n < len) (K (.eptr b j.size (off + n.toNat) 0))
      | _, _ => False) :
    ∃ r av, (Instr.indexAt t u v).run P w = .ok r w ∧ VR P F w av r ∧ K av := by
  cases hx <;> try exact hk.elim
  case d y hy =>
    cases hi <;> (try (cases hy <;> exact hk.elim))
    next z hz =>
    cases hy <;> try exact hk.elim
    case nil sz a cap =>
      cases hz <;> try exact hk.elim
      obtain ⟨_, _, el, he, _⟩ := hk
      simp at he
    case sl sz xs b off cap f hF hcap hsz hc hr =>
      cases hz <;> try exact hk.elim
      next k n =>
      obtain ⟨rfl, h0, el, he, hk⟩ := hk
      have hlt := (List.getElem?_eq_some_iff.1 he).1
      have hin : 0 ≤ n ∧ n < (xs.length : Int) := ⟨h0, by omega⟩
      have hel := hsz el (List.mem_of_getElem? he)
      refine ⟨.pointer (some ⟨b, off + n.toNat * j.size, none⟩), _, ?_, ?_, hk⟩
      · simp [Instr.indexAt, run_underlying ht, asIntOf, hin, run_sizeOf hj, addr_add]
      · refine .dptr el 0 b (off + n.toNat * j.size) ((List.range j.size).map fun c => f (n.toNat * j.size + c)) hF (by simp [hel]) (fun c v hv => ?_) (fun c d v hd hv => ?_)
        · obtain ⟨hl2, rfl⟩ := List.getElem?_eq_some_iff.1 hv
          simp only [List.length_map, List.length_range] at hl2
          simp only [List.getElem_map, List.getElem_range]
          rw [Nat.add_assoc]
          exact hc _ _ el _ he (List.getElem?_eq_getElem (by omega))
        · obtain ⟨hl2, rfl⟩ := List.getElem?_eq_some_iff.1 hv
          simp only [List.getElem_map, List.getElem_range]
          exact hr _ _ el d he hd
  case own b sz off len cap hlc =>
    cases hi <;> try exact hk.elim
    next z hz =>
    cases hz <;> try exact hk.elim
    next k n =>
    obtain ⟨⟨rfl, hin⟩, hk⟩ := hk
    refine ⟨.pointer (some ⟨b, (off + n.toNat) * j.size + 0, none⟩), _, ?_, .eptr _ _ _ _, hk⟩
    simp [Instr.indexAt, run_underlying ht, asIntOf, hin, run_sizeOf hj, addr_add, Nat.add_mul]

theorem arrAddr_sound {t e : TypeId} {n : Nat} {j : TypeInfo} (ht : P.underlying t = some (.array n e)) (hj : P.info? e = some j) {b o : Nat} {k : IntKind} {m : Int} (hm : 0 ≤ m ∧ m < n) :
    (Instr.indexAt t (.pointer (some ⟨b, o, none⟩)) (.int k m)).run P w = .ok (.pointer (some ⟨b, o + m.toNat * j.size, none⟩)) w := by
  simp [Instr.indexAt, run_underlying ht, asIntOf, hm, run_sizeOf hj, addr_add, Instr.sureAddr]

def lowB (v : Option Value) (c : Nat) : Sem Nat := match v with | some v => Instr.sliceBound v c .sliceB | none => pure 0
def highB (v : Option Value) (len cap : Nat) : Sem Nat := match v with | some v => Instr.sliceBound v cap .sliceAcap | none => pure len
theorem run_slice {t e : TypeId} {j : TypeInfo} (ht : P.underlying t = some (.slice e)) (hj : P.info? e = some j) (a : Option Addr) (len cap : Nat) (lov hiv : Option Value) :
    (Instr.sliceAt t (.slice a len cap) lov hiv none).run P w = ((highB hiv len cap).run P w).andThen fun h w => ((lowB lov h).run P w).andThen fun l w => .ok (.slice (if cap = l then a else a.map (·.add (l * j.size))) (h - l) (cap - l)) w := by
  have hs := fun w => run_sizeOf (P := P) (w := w) hj
  cases lov <;> cases hiv <;> simp only [Instr.sliceAt, Instr.slice, Instr.sliceBounds, Sem.run_bind, run_underlying ht, Result.andThen_ok, Sem.run_pure, if_true, lowB, highB, Option.isSome_none, Bool.false_eq_true, if_false, hs]
  · generalize (Instr.sliceBound _ cap _).run P w = r
    cases r <;> simp [Result.andThen, hs]
  · generalize (Instr.sliceBound _ len _).run P w = r
    cases r <;> simp [Result.andThen, hs]
  · generalize (Instr.sliceBound _ cap _).run P w = r
    cases r with
    | halt x w2 => simp [Result.andThen]
    | ok h w2 =>
      simp only [Result.andThen_ok]
      generalize (Instr.sliceBound _ h _).run P w2 = r2
      cases r2 <;> simp [Result.andThen, hs]
theorem bound_run {lo : Option AV} {lov : Option Value} {lo' : Option Int} (hlo : (lo = none ∧ lov = none) ∨ ∃ a b, lo = some a ∧ lov = some b ∧ VR P F w a b) (el : intOpd lo = some lo') (c : Nat) (h1 : 0 ≤ lo'.getD 0) (h2 : lo'.getD 0 ≤ c) :
    (lowB lov c).run P w = .ok (lo'.getD 0).toNat w := by
  rcases hlo with ⟨rfl, rfl⟩ | ⟨a, b, rfl, rfl, hv⟩
  · simp only [intOpd, Option.some.injEq] at el; subst el
    simp [lowB]
  · cases hv <;> simp only [intOpd, reduceCtorEq] at el
    next z hz =>
    cases hz <;> simp only [intOpd, reduceCtorEq, Option.some.injEq] at el
    next k n =>
    subst el
    simp only [Option.getD_some] at h1 h2 ⊢
    simp [lowB, Instr.sliceBound, asIntOf, h1, h2]
theorem hbound_run {hi : Option AV} {hiv : Option Value} {hi' : Option Int} (hhi : (hi = none ∧ hiv = none) ∨ ∃ a b, hi = some a ∧ hiv = some b ∧ VR P F w a b) (el : intOpd hi = some hi') (len cap : Nat) (h1 : 0 ≤ hi'.getD len) (h2 : hi'.getD len ≤ cap) :
    (highB hiv len cap).run P w = .ok (hi'.getD len).toNat w := by
  rcases hhi with ⟨rfl, rfl⟩ | ⟨a, b, rfl, rfl, hv⟩
  · simp only [intOpd, Option.some.injEq] at el; subst el
    simp [highB]
  · cases hv <;> simp only [intOpd, reduceCtorEq] at el
    next z hz =>
    cases hz <;> simp only [intOpd, reduceCtorEq, Option.some.injEq] at el
    next k n =>
    subst el
    simp only [Option.getD_some] at h1 h2 ⊢
    simp [highB, Instr.sliceBound, asIntOf, h1, h2]
theorem slice_sound {t e : TypeId} {j : TypeInfo} (ht : P.underlying t = some (.slice e)) (hj : P.info? e = some j) {x : AV} {u : Value} (hx : VR P F w x u) {lo hi : Option AV} {lov hiv : Option Value}
    (hlo : (lo = none ∧ lov = none) ∨ ∃ a b, lo = some a ∧ lov = some b ∧ VR P F w a b) (hhi : (hi = none ∧ hiv = none) ∨ ∃ a b, hi = some a ∧ hiv = some b ∧ VR P F w a b) {K : AV → Prop}
    (hk : sliceW j.size x (intOpd lo) (intOpd hi) K) :
    ∃ r av, (Instr.sliceAt t u lov hiv none).run P w = .ok r w ∧ VR P F w av r ∧ K av := by
  unfold sliceW at hk
  split at hk
  · next lo' hi' el eh =>
    cases hx <;> try exact hk.elim
    next y hy =>
    cases hy <;> try exact hk.elim
    case nil sz a cap =>
      obtain ⟨⟨rfl, h0, h1, h2⟩, hk⟩ := hk
      simp only [List.length_nil, Int.natCast_zero] at h0 h1 h2 hk
      have e1 := hbound_run hhi eh 0 cap (by simp only [Int.natCast_zero]; omega) (by simp only [Int.natCast_zero]; omega)
      simp only [Int.natCast_zero] at e1
      have e0 : (hi'.getD 0).toNat = 0 := by omega
      have e2 := bound_run hlo el 0 h0 (by omega)
      have e3 : (lo'.getD 0).toNat = 0 := by omega
      rw [e0] at e1; rw [e3] at e2
      rw [run_slice ht hj, e1]
      simp only [Result.andThen_ok, e2, Nat.sub_self]
      refine ⟨_, _, rfl, .d _ _ (.nil j.size _ _), ?_⟩
      rw [e0, e3] at hk
      simpa using hk
    case sl sz xs b off cap f hF hcap hsz hc hr =>
      obtain ⟨⟨rfl, h0, h1, h2⟩, hk⟩ := hk
      have e1 := hbound_run (P := P) (w := w) hhi eh xs.length cap (by omega) (by omega)
      rw [run_slice ht hj, e1]
      simp only [Result.andThen_ok]
      have e2 := bound_run (P := P) (w := w) hlo el (hi'.getD xs.length).toNat h0 (by omega)
      rw [e2]
      simp only [Result.andThen_ok]
      generalize hH : (hi'.getD ↑xs.length).toNat = hn at *
      generalize hL : (lo'.getD 0).toNat = ln at *
      have b1 : ln ≤ hn := by omega
      have b2 : hn ≤ xs.length := by omega
      refine ⟨_, _, rfl, .d _ _ ?_, hk⟩
      have hlen : ((xs.take hn).drop ln).length = hn - ln := by simp; omega
      rcases Nat.eq_zero_or_pos (hn - ln) with hz | hz
      · rw [hz] at hlen ⊢
        rw [List.eq_nil_of_length_eq_zero hlen]
        exact .nil _ _ _
      · have hne : ¬ cap = ln := by omega
        rw [if_neg hne, ← hlen]
        have hget : ∀ (i : Nat) el, ((xs.take hn).drop ln)[i]? = some el → xs[ln + i]? = some el := fun i el h => by
          rw [List.getElem?_drop, List.getElem?_take] at h
          split at h
          · exact h
          · cases h
        have hmul : ∀ i c : Nat, (ln + i) * j.size + c = ln * j.size + (i * j.size + c) := fun i c => by rw [Nat.add_mul]; omega
        simp only [Option.map_some, addr_add]
        refine .sl j.size _ b (off + ln * j.size) (cap - ln) (fun k => f (ln * j.size + k)) hF (by rw [hlen]; omega) (fun el hel => hsz el (List.mem_of_mem_take (List.mem_of_mem_drop hel))) (fun i c el d g1 g2 => ?_) (fun i c el d g1 g2 => ?_)
        · have := hc _ _ el d (hget i el g1) g2
          rw [hmul] at this
          rw [← this]; congr 2; omega
        · have := hr _ _ el d (hget i el g1) g2
          rw [hmul] at this
          exact this
  · exact hk.elim
end
end Go.Proofs.Ytlflfciebidddaa.Abs
