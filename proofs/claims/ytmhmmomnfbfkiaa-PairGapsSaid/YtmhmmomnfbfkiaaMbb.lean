/- Part of the machine and the contracts of one law (joined by kmerge.py). No claim stands here. -/
import Derived.Below
import Derived.Carry
import Derived.ChangeCalls
import Derived.ChangeOld
import Derived.IntWalk
import Derived.KernelRfl
import Derived.Laws.Append
import Derived.Laws.AppendOwn
import Derived.Laws.Cells
import Derived.Laws.CopyRow
import Derived.Laws.Entries
import Derived.Laws.MakeOwn
import Derived.Laws.NewFold
import Derived.Laws.Rows
import Derived.Laws.StructEq
import Derived.OpenShut
import Derived.Orders
import Derived.OrdersIn
import Derived.ProofKit
import Derived.RangeFuncLeaves
import Derived.RangeFuncSeq
import Derived.SizedLaws
import Derived.TacticsIn
import Derived.WalkKit
import Derived.Test.YtmhmmomnfbfkiaaMba
set_option maxRecDepth 100000
set_option linter.unusedSimpArgs false
set_option linter.unusedVariables false
namespace Go.Proofs.Ytmhmmomnfbfkiaa.Abs
open Go Go.RowKit Go.ChangeShapes
section
variable {P:Program} {B:Nat} {r:Option Nat}
theorem Step.defs {F F':Nat→Prop} {H H':Heap} {w w':World} {ds:List Deferred} (st:Step F H w F' H' w') (h:PI B F H ds w):PI B F' H' ds w':=by
 obtain ⟨h0,ms,h1,h2,h3⟩:=h
 refine ⟨Nat.le_trans h0 st.size,ms,h1,h2,fun D hD=>?_⟩
 obtain ⟨g1,g2,g3,g4⟩:=h3 D hD
 have hlt:D<w.heap.size:=(Array.getElem?_eq_some_iff.1 g4).1
 refine ⟨g1,?_,fun hF=>?_,(st.keep D hlt g2).trans g4⟩
 ·cases e:H' D with
  | none=>rfl
  | some x=>rcases st.dom D (by rw [e]; simp) with h | h
            ·exact absurd g2 h
            ·omega
 ·rcases st.new D hF with h | h | h
  ·exact g3 h
  ·exact h g2
  ·omega
theorem Rel.put {F F':Nat→Prop} {s:St} {a:Act} {w w':World} {H':Heap} (hr:Rel P B F s a w) (st:Step F s.H w F' H' w') (hh:HRel P F' H' w') (dst:Option Nat) {av:AV} {v:Value} (hv:VR P F' w' av v) :
  Rel P B F' (AH s dst av H') (a.put dst v) w':=by
 obtain ⟨h1,h2,h3,h4⟩:=hr
 have h4':∀t,VR P F' w' (s.t t) (a.tmps.getD t undef):=fun t=>st.VR h1 (h4 t)
 have h2:=st.defs h2
 cases dst with
 | none=>exact ⟨hh,h2,h3,h4'⟩
 | some d =>
  simp only [AH]
  split
  ·next hd =>
   refine ⟨hh,h2,by simp [Act.put,h3],fun t=>?_⟩
   simp only [A7,Act.put]
   by_cases e:d=t
   ·subst e
    simp only [beq_self_eq_true,cond_true]
    rw [show (a.tmps.setIfInBounds d v).getD d undef=v by simp [Array.getD,h3,hd]]
    exact hv
   ·rw [show (d == t)=false by simpa using e]
    simp only [cond_false]
    rw [show (a.tmps.setIfInBounds d v).getD t undef=a.tmps.getD t undef by rw [Array.getD_eq_getD_getElem?,Array.getD_eq_getD_getElem?,Array.getElem?_setIfInBounds_ne e]]
    exact h4' t
  ·next hd =>
   have e:a.tmps.setIfInBounds d v=a.tmps:=by
    apply Array.ext'
    simp only [Array.toList_setIfInBounds]
    exact List.set_eq_of_length_le (by simp; omega)
   simp only [Act.put,e]
   exact ⟨hh,h2,h3,h4'⟩
theorem Step.put {F F' F'':Nat→Prop} {s:St} {w w' w'':World} {H' H'':Heap} {dst:Option Nat} {av:AV} (h:Step F s.H w F' H' w') (h2:Step F' (AH s dst av H').H w' F'' H'' w''):Step F s.H w F'' H'' w'' :=
 h.trans (by rw [F5] at h2; exact h2)
theorem TI {ops:Array Oper} {Q:Exit→Act→World→Prop} {o:Oper} {ao:AO} {F:Nat→Prop} {s:St} {a:Act} {w:World} {K:St→Prop} {K':Act→World→Prop} (hc:Mp P ops o=some ao) (hr:Rel P B F s a w) (hk:FC P ao s K)
  (hq:∀F' s' a' w',Rel P B F' s' a' w'→Step F s.H w F' s'.H w'→K s'→K' a' w'):if Region.wanted o (yielded ops a.tmps) then o.wpIn (Gu r) 0 P a w K' Q else (∀f,o.about P w a.eval=some f→(Gu r).fn f)∧K' (a.put o.dst undef) w:=by
 unfold Mp at hc
 split at hc
 ·next g op hg hop =>
  cases hc
  have run:Aa P s.t s.H (fun v H'=>K (AH s o.dst v H')) op→o.wpIn (Gu r) 0 P a w K' Q:=fun hk =>
   AK2 hop hr hk r _ _ fun v av H' F' w' h1 h2 h3 h4=>hq F' _ _ _ (hr.put h3 h2 o.dst h1) (by rw [F5]; exact h3) h4
  have skip:K (AH s o.dst .void s.H)→(∀f,o.about P w a.eval=some f→(Gu r).fn f)∧K' (a.put o.dst undef) w:=fun hk =>
   ⟨fun _ _=>trivial,hq F _ _ _ (hr.put (Step.refl _ _ _) hr.1 o.dst .void) (by rw [F5]; exact Step.refl _ _ _) hk⟩
  cases hgd:o.guard with
  | none =>
   rw [hgd] at hg
   simp only [QO,Option.some.injEq] at hg
   subst hg
   rw [if_pos (by simp [Region.wanted,hgd])]
   exact run hk
  | some jw =>
   obtain ⟨j,want⟩:=jw
   rw [hgd] at hg
   simp only [QO] at hg
   split at hg
   ·next d hd =>
    cases hg
    have ht:=hr.2.2.2 d
    simp only [FC,FN] at hk
    cases hsd:s.t d <;> rw [hsd] at hk <;> try exact hk.elim
    case d x =>
     cases x <;> try exact hk.elim
     next c =>
     rw [hsd] at ht
     generalize hv:a.tmps.getD d undef=v at ht
     cases ht; next ht =>
     cases ht
     have hy:yielded ops a.tmps j=some c:=by
      have hlt:d<a.tmps.size:=by
       rcases Nat.lt_or_ge d a.tmps.size with h | h
       ·exact h
       ·rw [Array.getD_eq_getD_getElem?,Array.getElem?_eq_none h] at hv; cases hv
      have h2:a.tmps[d]? = some (.bool c):=by
       rw [Array.getD_eq_getD_getElem?,Array.getElem?_eq_getElem hlt] at hv
       rw [Array.getElem?_eq_getElem hlt]
       simpa using hv
      simp [yielded,hd,h2]
     have hw:Region.wanted o (yielded ops a.tmps)=(c == want):=by simp [Region.wanted,hgd,hy]
     rw [hw]
     dsimp only at hk
     cases hcw:(c == want) with
     | true=>rw [hcw] at hk; rw [if_pos rfl]; exact run hk
     | false=>rw [hcw] at hk; rw [if_neg (by simp)]; exact skip hk
    case void =>
     rw [hsd] at ht
     generalize hv:a.tmps.getD d undef=v at ht
     cases ht
     have hy:yielded ops a.tmps j=none:=by
      unfold yielded
      rw [hd]
      simp only [Option.bind_some]
      rw [Array.getD_eq_getD_getElem?] at hv
      cases h3:a.tmps[d]? with
      | none=>rfl
      | some u =>
       rw [h3] at hv
       simp only [Option.getD_some] at hv
       subst hv
       rfl
     have hw:Region.wanted o (yielded ops a.tmps)=false:=by simp [Region.wanted,hgd,hy]
     rw [hw,if_neg (by simp)]
     exact skip hk
   ·cases hg
 ·cases hc
theorem UY {ops:Array Oper} {Q:Exit→Act→World→Prop}:∀{l:List Oper} {al:List AO} {F:Nat→Prop} {s:St} {a:Act} {w:World} {K:St→Prop},Jd P ops l=some al→Rel P B F s a w→IC P al s K →
  (∀F' s' a' w',Rel P B F' s' a' w'→Step F s.H w F' s'.H w'→K s'→Q .normal a' w')→wpListIn (Gu r) 0 P ops Q l a w
 | [],al,F,s,a,w,K,hc,hr,hk,hq=>by
  simp only [Jd,Option.some.injEq] at hc
  subst hc
  exact hq F s a w hr (Step.refl _ _ _) hk
 | o::l,al,F,s,a,w,K,hc,hr,hk,hq=>by
  simp only [Jd] at hc
  split at hc
  ·next ao al' ha hl =>
   cases hc
   rw [SX] at hk
   exact TI ha hr hk fun F' s' a' w' h1 h2 h3=>UY hl h1 h3 fun F'' s'' a'' w'' r1 r2 r3=>hq F'' s'' a'' w'' r1 (h2.trans r2) r3
  ·cases hc
theorem UW {H0 H:Heap} {K:List D→Heap→Prop}:∀{l:List AV} {ds:List D},FP l=some ds→K ds H→A5 H0 H l K
 | [],ds,h,hk=>by simp only [FP,Option.some.injEq] at h; subst h; exact hk
 | x::l,ds,h,hk=>by
  cases x <;> simp only [FP,reduceCtorEq] at h
  all_goals
   split at h
   ·next ds' e =>
    cases h
    exact UW (K:=fun xs H''=>K (_::xs) H'') e hk
   ·cases h
theorem AOt {H:Heap} {K:List D→Heap→Prop} {l:List AV} {ds:List D} (h:FP l=some ds) (hk:K ds H):Az H l K:=UW h hk
theorem AIw {t:TM} {H:Heap} {K:AV→Heap→Prop} {b b2:Bool} {news:List Nat} {lp:Bool} {kp sk:Option (List Nat)} {op:AOp} (hf:I1 H) (h:Aa P t H K (JH b b2 news lp kp sk op)):Aa P t H K op:=by
 cases op <;> try exact h
 case load g x =>
  simp only [JH] at h
  split at h
  ·simp only [Aa] at h ⊢
   split at h
   ·next el off e=>rw [e]; exact h
   ·exact h.elim
  ·split at h
   ·split at h
    ·next d =>
     simp only [Aa,ev] at h ⊢
     split at h
     ·next b off e=>rw [e]; exact h
     ·exact h.elim
    ·exact h
   ·split at h
    ·exact h
    ·exact h.2
 case store n p v =>
  cases p with
  | c x=>exact h
  | t d =>
   simp only [JH] at h
   split at h
   ·simp only [Aa,ev] at h ⊢
    split at h
    ·next b off e =>
     rw [e]
     exact h.2
    ·exact h.elim
   split at h
   ·simp only [Aa] at h ⊢
    simp only [ev]
    split at h
    ·next b off e =>
     rw [e]
     exact h
    ·exact h.elim
   ·exact h
 case buildSlice e sz len z ps =>
  simp only [JH,Aa] at h ⊢
  have h1:=h.1 hf
  have h2:=h.2
  split
  ·next cs e1 =>
   rw [e1] at h1 h2
   cases e2:FP cs with
   | none=>simp [Ip,e2] at h1
   | some ds=>exact AOt (K:=fun ds H'=>Hz H' (.row e sz len (Ao sz len ds)) fun b H''=>K (.own b sz 0 len len) H'') e2 (fun b hb=>h2 b hb _ (by simp [Ip,e2]))
  ·next e1=>rw [e1] at h1; simp [Ip] at h1
 case call f xs =>
  cases b
  ·simp only [JH,Bool.false_eq_true,if_false] at h
   split at h
   ·simp only [Aa] at h ⊢
    exact CallW.mono' h fun r H' h=>h.2
   ·exact PCallK.call h
  ·exact h
 case callv g xs =>
  cases b
  ·simp only [JH,Bool.false_eq_true,if_false] at h
   split at h
   ·simp only [Aa] at h ⊢
    split at h
    ·next e=>rw [e]; exact CallW.mono' h fun r H' h=>h.2
    ·exact h.elim
   ·simp only [Aa] at h ⊢
    split at h
    ·next e=>rw [e]; exact PCallK.call h
    ·exact h.elim
  ·exact h
theorem ANC {o:AO} {b b2:Bool} {news:List Nat} {lp:Bool} {kp sk:Option (List Nat)} {s:St} {K:St→Prop} (hf:I1 s.H) (h:FC P { o with op:=JH b b2 news lp kp sk o.op } s K):FC P o s K:=by
 have e:FN s.t { o with op:=JH b b2 news lp kp sk o.op }=FN s.t o:=rfl
 unfold FC at *
 rw [e] at h
 split
 ·next e=>rw [e] at h; exact AIw hf h
 ·next e=>rw [e] at h; exact h
 ·next e=>rw [e] at h; exact h
theorem Rel.free {F:Nat→Prop} {s:St} {a:Act} {w:World} (h:Rel P B F s a w):I1 s.H:=fun n=>by
 refine ⟨max n w.heap.size,by omega,?_⟩
 cases e:s.H (max n w.heap.size) with
 | none=>rfl
 | some x=>have:=(h.1.at_ _ x e).lt; omega
theorem Rel.drawn {F:Nat→Prop} {s:St} {a:Act} {w:World} (h:Rel P B F s a w) (n:Nat):Rel P B F s a { w with drawn:=n } :=
 ⟨⟨fun b x hb=>(h.1.at_ b x hb).mono rfl (fun _ h=>h) (fun _ _=>rfl),h.1.apart,h.1.old⟩,h.2.1,h.2.2.1,fun t=>(h.2.2.2 t).mono (fun _ h=>h) (fun _ _=>rfl)⟩
theorem Step.drawn (F:Nat→Prop) (H:Heap) (w:World) (n:Nat):Step F H w F H { w with drawn:=n } where
 os:=rfl
 tape:=rfl
 output:=rfl
 size:=Nat.le_refl _
 keep:=fun _ _ _=>rfl
 dom:=fun _ h=>.inl h
 mono:=fun _ h=>h
 new:=fun _ h=>.inl h
theorem Rp {ops:Array Oper}:∀{l:List Oper} {al:List AO},Jd P ops l=some al→al.length=l.length∧∀(i:Nat) o,l[i]? = some o→∃ao,al[i]? = some ao∧Mp P ops o=some ao
 | [],al,h=>by simp only [Jd,Option.some.injEq] at h; subst h; exact ⟨rfl,fun i o h=>by simp at h⟩
 | o::l,al,h=>by
  simp only [Jd] at h
  split at h
  ·next a l' h1 h2 =>
   cases h
   obtain ⟨g1,g2⟩:=Rp h2
   refine ⟨by simp [g1],fun i o' hi=>?_⟩
   cases i with
   | zero=>simp only [List.getElem?_cons_zero,Option.some.injEq] at hi; subst hi; exact ⟨a,by simp,h1⟩
   | succ i=>simpa using g2 i o' (by simpa using hi)
  ·cases h
structure Drawn (P:Program) (ops:Array Oper) (after clo:List (List Nat)) (aos:List AO):Prop where
 ops_:∀(i:Nat) o,ops[i]? = some o→∃ao bo b2 nw lp kp sk,Mp P ops o=some ao∧aos[i]? = some { ao with op:=JH bo b2 nw lp kp sk ao.op }∧after.getD i []=MQ o
 clo_:∀i,∀x∈clo.getD i [],∃k∈after.getD i [],k=x∨x∈clo.getD k []
 aft_:∀i,∀k∈after.getD i [],k<ops.size
theorem ATa {ops:Array Oper} {after clo:List (List Nat)} {aos:List AO} {Q:Exit→Act→World→Prop} {K:St→Prop} {F0:Nat→Prop} {H0:Heap} {w0:World} (hd:Drawn P ops after clo aos)
  (hq:∀F' s' a' w',Rel P B F' s' a' w'→Step F0 H0 w0 F' s'.H w'→K s'→Q .normal a' w') :
  ∀(n:Nat) (l:List Nat) (listed:Array Bool) (F:Nat→Prop) (s:St) (a:Act) (w:World),l.length=n→listed.size=ops.size→(∀j,j<ops.size→(listed.getD j false=false↔j∈l))→(∀j∈l,j<ops.size) →
   l.Pairwise (fun i j=>LV after clo aos i j=true)→(∀i∈l,i∉after.getD i [])→(∀k,k<ops.size→k∉l→∀x∈l,x∉clo.getD k []) →
   Rel P B F s a w→Step F0 H0 w0 F s.H w→Jj P aos l s K→wpAnyIn (Gu r) 0 P .any ops Q n listed a w:=by
 have rdy:∀(l:List Nat) (listed:Array Bool),listed.size=ops.size→(∀j,j<ops.size→(listed.getD j false=false↔j∈l))→(∀j∈l,j<ops.size) →
   ∀i,i∈Region.ready .any ops listed↔i∈l∧∀k∈after.getD i [],k∉l:=by
  intro l listed hs hl hlt i
  rw [mem_ready]
  have hgd:∀j,listed.getD j true=false↔j∈l:=fun j=>by
   by_cases hj:j<ops.size
   ·rw [←hl j hj]
    rw [Array.getD_eq_getD_getElem?,Array.getD_eq_getD_getElem?,Array.getElem?_eq_getElem (by omega)]
    simp
   ·refine ⟨fun h=>?_,fun h=>absurd (hlt j h) hj⟩
    rw [Array.getD_eq_getD_getElem?,Array.getElem?_eq_none (by omega)] at h
    cases h
  rw [hgd]
  refine and_congr_right fun hi=>?_
  obtain ⟨o,ho⟩:∃o,ops[i]? = some o:=⟨_,Array.getElem?_eq_getElem (hlt i hi)⟩
  obtain ⟨ao,bo,b2,nw,lp,kp,sk,h1,h2,h3⟩:=hd.ops_ i o ho
  refine ⟨fun ⟨o',ho',h⟩ k hk=>?_,fun h=>⟨o,ho,fun e he hb=>?_⟩⟩
  ·rw [ho] at ho'; cases ho'
   rw [h3] at hk
   simp only [MQ,List.mem_map,List.mem_filter] at hk
   obtain ⟨e,⟨he,hb⟩,rfl⟩:=hk
   intro hc
   have:=h e (by simpa using he) hb
   have h':=(hl e.on (hlt e.on hc)).2 hc
   rw [this] at h'; cases h'
  ·have hk:e.on∈after.getD i []:=by
    rw [h3]
    simp only [MQ,List.mem_map,List.mem_filter]
    exact ⟨e,⟨by simpa using he,hb⟩,rfl⟩
   cases hv:listed.getD e.on false with
   | true=>rfl
   | false=>exact absurd ((hl e.on (hd.aft_ i _ hk)).1 hv) (h _ hk)
 intro n
 induction n with
 | zero =>
  intro l listed F s a w hn hs hl hlt hp hi hc hr hst hk
  cases l with
  | cons x l=>simp at hn
  | nil =>
   refine ⟨?_,hq F s a w hr hst hk⟩
   rw [List.eq_nil_iff_forall_not_mem]
   intro i hi
   rw [rdy [] listed hs hl hlt i] at hi
   cases hi.1
 | succ n ih =>
  intro l listed F s a w hn hs hl hlt hp hi hc hr hst hk
  refine ⟨fun hnil=>?_,fun i hri=>?_⟩
  ·exfalso
   cases l with
   | nil=>simp at hn
   | cons x l =>
    have hx:x∈Region.ready .any ops listed:=by
     rw [rdy (x::l) listed hs hl hlt x]
     refine ⟨by simp,fun k hk hkl=>?_⟩
     rcases List.mem_cons.1 hkl with rfl | h
     ·exact hi k (by simp) hk
     ·have:=(List.pairwise_cons.1 hp).1 k h
      simp only [LV,Bool.and_eq_true,Bool.not_eq_true',List.contains_eq_mem,decide_eq_false_iff_not] at this
      exact this.1.1 hk
    rw [hnil] at hx; cases hx
  ·rw [rdy l listed hs hl hlt i] at hri
   obtain ⟨hil,hri⟩:=hri
   have hci:∀x∈l,x∉clo.getD i []:=fun x hx hxc=>by
    obtain ⟨k,hk,h | h⟩:=hd.clo_ i x hxc
    ·subst h; exact hri k hk hx
    ·exact hc k (hd.aft_ i k hk) (hri k hk) x hx h
   obtain ⟨o,h1,h2⟩:=UT hp hci hil hk
   have hilt:=hlt i hil
   obtain ⟨oo,hoo⟩:∃o,ops[i]? = some o:=⟨_,Array.getElem?_eq_getElem hilt⟩
   obtain ⟨ao,bo,b2,nw,lp,kp,sk,g1,g2,g3⟩:=hd.ops_ i oo hoo
   rw [g2] at h1; cases h1
   unfold wpOpIn
   rw [hoo]
   have hnd:l.Nodup:=hp.imp fun {x y} h=>by
    simp only [LV,Bool.and_eq_true,bne_iff_ne,ne_eq] at h
    exact h.1.2
   refine TI g1 hr (ANC hr.free h2) fun F' s' a' w' r1 r2 r3=>ih (l.erase i) _ F' s' a' w' (by rw [List.length_erase_of_mem hil]; omega) (by simp [hs]) (fun j hj=>?_) (fun j hj=>hlt j (List.mem_of_mem_erase hj))
    (hp.sublist List.erase_sublist) (fun j hj=>hi j (List.mem_of_mem_erase hj)) (fun k hk hkl x hx=>?_) r1 (hst.trans r2) r3
   ·rw [hnd.mem_erase_iff]
    by_cases e:i=j
    ·subst e
     simp [Array.getD_eq_getD_getElem?,hs,hilt]
    ·rw [getD_set_ne false e,hl j hj]
     exact ⟨fun h=>⟨fun e'=>e e'.symm,h⟩,fun h=>h.2⟩
   ·have hxl:=List.mem_of_mem_erase hx
    by_cases e:k=i
    ·subst e; exact hci x hxl
    ·exact hc k hk (fun hkl'=>hkl ((hnd.mem_erase_iff).2 ⟨e,hkl'⟩)) x hxl
theorem LJ {ld:Nat} {ops:Array Oper} {id:Nat} {ac:ACode} (hc:In P ld ops=some ac):∃l,ac = .dops l∧∀{s:St} {K:St→Prop},IC P l s K →
  ∀{B:Nat} {r:Option Nat} {F:Nat→Prop} {a:Act} {w:World} {Q:Exit→Act→World→Prop},Rel P B F s a w→(∀F' s' a' w',Rel P B F' s' a' w'→Step F s.H w F' s'.H w'→K s'→Q .normal a' w')→(Code.region id ops true).wpIn (Gu r) 0 P Q a w:=by
 unfold In at hc
 split at hc
 ·cases hc
 ·next aos0 h0 =>
  obtain ⟨hlen,hget⟩:=Rp h0
  simp only [Array.length_toList] at hlen
  extract_lets after clo heavy stores lds ordered apart open1 adrOf keeps lps news0 dsts outs news aos ord at hc
  split at hc
  ·next hchk =>
   simp only [Option.map_eq_some_iff] at hc
   obtain ⟨l,hl,rfl⟩:=hc
   refine ⟨l,rfl,?_⟩
   simp only [Bool.and_eq_true,beq_iff_eq,List.all_eq_true,decide_eq_true_eq,Bool.not_eq_true',List.contains_eq_mem,decide_eq_false_iff_not,List.mem_range] at hchk
   obtain ⟨⟨⟨⟨⟨⟨⟨hm,hol⟩,hco⟩,hpo⟩,hor⟩,hcov⟩,haf⟩,hcl⟩:=hchk
   have hal:aos.length=ops.size:=by simp only [aos,List.length_map,List.length_zipIdx,hlen]
   rw [hal] at hol hor hcov haf hcl
   have hafl:after.length=ops.size:=by simp [after]
   have hd:Drawn P ops after clo aos:=by
    refine ⟨fun i o hi=>?_,fun i x hx=>?_,fun i k hk=>?_⟩
    ·obtain ⟨ao,h1,h2⟩:=hget i o (by simpa using hi)
     refine ⟨ao,ordered i,lds i,news,lps i,keeps i,(if ld == 4&&!(ordered i) then keeps i else none),h2,?_,?_⟩
     ·simp [aos,h1]
     ·simp [after,hi]
    ·have hi:i<clo.length:=by
      rcases Nat.lt_or_ge i clo.length with h | h
      ·exact h
      ·simp [List.getElem?_eq_none h] at hx
     simp only [Th,List.all_eq_true,List.mem_range,List.any_eq_true,Bool.or_eq_true,beq_iff_eq,List.contains_eq_mem,decide_eq_true_eq] at hco
     exact hco i hi x hx
    ·have hi:i<after.length:=by
      rcases Nat.lt_or_ge i after.length with h | h
      ·exact h
      ·simp [List.getElem?_eq_none h] at hk
     rw [List.getD_eq_getElem?_getD,List.getElem?_eq_getElem hi] at hk
     exact haf _ (List.getElem_mem hi) k (by simpa using hk)
   intro s K hk B r F a w Q hr hq
   refine wpIn_region_any hm ?_
   refine ATa hd (F0:=F) (H0:=s.H) (w0:=w) hq ops.size ord _ F s a _ hol (by simp) (fun j hj=>?_) (fun j hj=>(hor j hj).1) (Uw hpo) (fun i hi=>(hor i hi).2) (fun k hk hkl=>absurd (hcov k hk) hkl) (hr.drawn _) (Step.drawn _ _ _ _) (Sj hl hk)
   simp [Array.getD_eq_getD_getElem?,hj,hcov j hj]
  ·cases hc
theorem JO {ops:Array Oper} {id:Nat} {ac:ACode} (hc:P7 P ops=some ac):∃l,ac = .dops l∧∀{s:St} {K:St→Prop},IC P l s K →
  ∀{B:Nat} {r:Option Nat} {F:Nat→Prop} {a:Act} {w:World} {Q:Exit→Act→World→Prop},Rel P B F s a w→(∀F' s' a' w',Rel P B F' s' a' w'→Step F s.H w F' s'.H w'→K s'→Q .normal a' w')→(Code.region id ops true).wpIn (Gu r) 0 P Q a w:=by
 unfold P7 at hc
 split at hc
 ·exact LJ hc
 split at hc
 ·next c h=>cases hc; exact LJ h
 ·split at hc
  ·next c h=>cases hc; exact LJ h
  ·split at hc
   ·next c h =>
    split at hc
    ·exact LJ hc
    ·cases hc; exact LJ h
   ·split at hc
    ·next c h=>cases hc; exact LJ h
    ·exact LJ hc
theorem AW.mono {c:Code} {s:St} {Q Q':Out→St→Prop} (h:AW P r c s Q) (hq:∀o s',Q o s'→Q' o s'):AW P r c s Q' :=
 fun B F a w hr=>Code.wpIn_mono (fun _ _ _ ⟨o,s',F',h1,h2,h3,h4⟩=>⟨o,s',F',h1,h2,h3,hq o s' h4⟩) (h B F a w hr)
theorem JZ {r:Option Nat}:∀{ac:ACode} {c:Code} {s:St} {Q:Out→St→Prop},GD P c=some ac→(r=none∨G4 ac=true)→GK P ac s Q→AW P r c s Q
 | .skip,c,s,Q,hc,hf,hk=>by
  cases c <;> simp only [GD,Option.map_eq_some_iff,reduceCtorEq,and_false,exists_false,Option.some.injEq] at hc
  case skip=>exact fun B F a w hr=>wpIn_skip ⟨.normal,s,F,trivial,hr,Step.refl _ _ _,hk⟩
  case region id ops draw =>
   split at hc
   ·obtain ⟨_,e,_⟩:=JO (id:=id) hc
    cases e
   ·simp at hc
  case seq x y=>split at hc <;> simp at hc
  case rangeFunc g ps x y=>split at hc <;> (try split at hc) <;> simp at hc
  case cond x y z=>split at hc <;> simp at hc
 | .ops l,c,s,Q,hc,hf,hk=>by
  cases c <;> simp only [GD,Option.map_eq_some_iff,reduceCtorEq,and_false,exists_false,Option.some.injEq] at hc
  case region id ops draw =>
   split at hc
   ·obtain ⟨_,e,_⟩:=JO (id:=id) hc
    cases e
   ·next hd =>
    simp only [Option.map_eq_some_iff,ACode.ops.injEq] at hc
    obtain ⟨al,h1,rfl⟩:=hc
    have:draw=false:=by simpa using hd
    subst this
    exact fun B F a w hr=>wpIn_region_list (UY h1 hr hk fun F' s' a' w' h2 h3 h4=>⟨.normal,s',F',trivial,h2,h3,h4⟩)
  case seq x y=>split at hc <;> simp at hc
  case rangeFunc g ps x y=>split at hc <;> (try split at hc) <;> simp at hc
  case cond x y z=>split at hc <;> simp at hc
 | .dops l,c,s,Q,hc,hf,hk=>by
  cases c <;> simp only [GD,Option.map_eq_some_iff,reduceCtorEq,and_false,exists_false,Option.some.injEq] at hc
  case region id ops draw =>
   split at hc
   ·next hd =>
    obtain ⟨l',e,h⟩:=JO (id:=id) hc
    cases e
    have:draw=true:=by simpa using hd
    subst this
    exact fun B F a w hr=>h hk hr fun F' s' a' w' h2 h3 h4=>⟨.normal,s',F',trivial,h2,h3,h4⟩
   ·simp at hc
  case seq x y=>split at hc <;> simp at hc
  case rangeFunc g ps x y=>split at hc <;> (try split at hc) <;> simp at hc
  case cond x y z=>split at hc <;> simp at hc
 | .seq x y,c,s,Q,hc,hf,hk=>by
  cases c <;> simp only [GD,Option.map_eq_some_iff,reduceCtorEq,and_false,exists_false,Option.some.injEq] at hc
  case region id ops draw =>
   split at hc
   ·obtain ⟨_,e,_⟩:=JO (id:=id) hc
    cases e
   ·simp at hc
  case rangeFunc g ps x y=>split at hc <;> (try split at hc) <;> simp at hc
  case seq cx cy =>
   split at hc
   ·next x' y' hx hy =>
    cases hc
    intro B F a w hr
    refine wpIn_seq (Code.wpIn_mono ?_ (JZ hx (hf.imp id fun h=>by simp only [G4,Bool.and_eq_true] at h; first | exact h.1 | exact h) hk B F a w hr))
    rintro e a1 w1 ⟨o,s1,F1,h1,h2,h3,h4⟩
    cases o <;> cases e <;> simp only [Kq] at h1
    ·exact Code.wpIn_mono (fun e a2 w2 ⟨o,s2,F2,g1,g2,g3,g4⟩=>⟨o,s2,F2,g1,g2,h3.trans g3,g4⟩) (JZ hy (hf.imp id fun h=>by simp only [G4,Bool.and_eq_true] at h; exact h.2) h4 B F1 a1 w1 h2)
    ·exact ⟨.exit _,s1,F1,h1,h2,h3,h4⟩
    ·exact ⟨.ret,s1,F1,trivial,h2,h3,h4⟩
   ·cases hc
  case cond x y z=>split at hc <;> simp at hc
 | .cond q x y,c,s,Q,hc,hf,hk=>by
  cases c <;> simp only [GD,Option.map_eq_some_iff,reduceCtorEq,and_false,exists_false,Option.some.injEq] at hc
  case region id ops draw =>
   split at hc
   ·obtain ⟨_,e,_⟩:=JO (id:=id) hc
    cases e
   ·simp at hc
  case seq x y=>split at hc <;> simp at hc
  case rangeFunc g ps x y=>split at hc <;> (try split at hc) <;> simp at hc
  case cond cq cx cy =>
   split at hc
   ·next x' y' hx hy =>
    cases hc
    intro B F a w hr
    simp only [GK] at hk
    split at hk
    ·next b e =>
     have hv:=Er hr.2.2.2 cq
     rw [e] at hv
     generalize hu:a.eval cq=u at hv
     cases hv; next hv =>
     cases hv
     cases b
     ·exact wpIn_cond_false hu (JZ hy (hf.imp id fun h=>by simp only [G4,Bool.and_eq_true] at h; exact h.2) (hk.2 rfl) B F a w hr)
     ·exact wpIn_cond_true hu (JZ hx (hf.imp id fun h=>by simp only [G4,Bool.and_eq_true] at h; exact h.1) (hk.1 rfl) B F a w hr)
    ·exact hk.elim
   ·cases hc
 | .block id x,c,s,Q,hc,hf,hk=>by
  cases c <;> simp only [GD,Option.map_eq_some_iff,reduceCtorEq,and_false,exists_false,Option.some.injEq,ACode.block.injEq] at hc
  case region id ops draw =>
   split at hc
   ·obtain ⟨_,e,_⟩:=JO (id:=id) hc
    cases e
   ·simp at hc
  case seq x y=>split at hc <;> simp at hc
  case rangeFunc g ps x y=>split at hc <;> (try split at hc) <;> simp at hc
  case cond x y z=>split at hc <;> simp at hc
  case block id' cx =>
   obtain ⟨x',hx,rfl,rfl⟩:=hc
   intro B F a w hr
   refine wpIn_block (Code.wpIn_mono ?_ (JZ hx (hf.imp id fun h=>by simp only [G4,Bool.and_eq_true] at h; first | exact h.1 | exact h) hk B F a w hr))
   rintro e a1 w1 ⟨o,s1,F1,h1,h2,h3,h4⟩
   cases o <;> cases e <;> simp only [Kq] at h1
   ·exact ⟨.normal,s1,F1,trivial,h2,h3,h4⟩
   ·subst h1
    simp only [Exit.inBlock]
    dsimp only at h4
    split
    ·next hi=>rw [if_pos hi] at h4; exact ⟨.normal,s1,F1,trivial,h2,h3,h4⟩
    ·next hi=>rw [if_neg hi] at h4; exact ⟨.exit _,s1,F1,rfl,h2,h3,h4⟩
   ·exact ⟨.ret,s1,F1,trivial,h2,h3,h4⟩
 | .loop x,c,s,Q,hc,hf,hk=>by
  cases c <;> simp only [GD,Option.map_eq_some_iff,reduceCtorEq,and_false,exists_false,Option.some.injEq,ACode.loop.injEq] at hc
  case region id ops draw =>
   split at hc
   ·obtain ⟨_,e,_⟩:=JO (id:=id) hc
    cases e
   ·simp at hc
  case seq x y=>split at hc <;> simp at hc
  case rangeFunc g ps x y=>split at hc <;> (try split at hc) <;> simp at hc
  case cond x y z=>split at hc <;> simp at hc
  case loop cx =>
   obtain ⟨x',hx,rfl⟩:=hc
   exact hk r cx hx (hf.imp id fun h=>by simpa only [G4] using h)
 | .rangef g ps x y,c,s,Q,hc,hf,hk=>by
  cases c <;> simp only [GD,Option.map_eq_some_iff,reduceCtorEq,and_false,exists_false,Option.some.injEq] at hc
  case region id ops draw =>
   split at hc
   ·obtain ⟨_,e,_⟩:=JO (id:=id) hc
    cases e
   ·simp at hc
  case seq x y=>split at hc <;> simp at hc
  case cond x y z=>split at hc <;> simp at hc
  case rangeFunc g' ps' a b =>
   rcases hf with rfl | hf
   ·split at hc
    ·next x' y' hx hy =>
     split at hc
     ·next hfl =>
      simp only [Option.some.injEq,ACode.rangef.injEq] at hc
      obtain ⟨h1,h2,h3,h4⟩:=hc
      subst h3 h4
      simp only [Bool.and_eq_true] at hfl
      exact hk g' ps' a b h1 h2 hx hy hfl.1 hfl.2
     ·cases hc
    ·cases hc
   ·simp [G4] at hf
 | .exit id,c,s,Q,hc,hf,hk=>by
  cases c <;> simp only [GD,Option.map_eq_some_iff,reduceCtorEq,and_false,exists_false,Option.some.injEq,ACode.exit.injEq] at hc
  case region id ops draw =>
   split at hc
   ·obtain ⟨_,e,_⟩:=JO (id:=id) hc
    cases e
   ·simp at hc
  case seq x y=>split at hc <;> simp at hc
  case rangeFunc g ps x y=>split at hc <;> (try split at hc) <;> simp at hc
  case cond x y z=>split at hc <;> simp at hc
  case exit id'=>subst hc; exact fun B F a w hr=>wpIn_exit ⟨.exit _,s,F,rfl,hr,Step.refl _ _ _,hk⟩
 | .ret,c,s,Q,hc,hf,hk=>by
  cases c <;> simp only [GD,Option.map_eq_some_iff,reduceCtorEq,and_false,exists_false,Option.some.injEq] at hc
  case region id ops draw =>
   split at hc
   ·obtain ⟨_,e,_⟩:=JO (id:=id) hc
    cases e
   ·simp at hc
  case seq x y=>split at hc <;> simp at hc
  case rangeFunc g ps x y=>split at hc <;> (try split at hc) <;> simp at hc
  case cond x y z=>split at hc <;> simp at hc
  case ret=>exact fun B F a w hr=>wpIn_ret ⟨.ret,s,F,trivial,hr,Step.refl _ _ _,hk⟩
structure Abst (s t:St):Prop where
 n:t.n=s.n
 tm:∀i,t.t i = .undef∨t.t i=s.t i
 hp:∀k,t.H k=none∨t.H k=s.H k
theorem Abst.refl (s:St):Abst s s:=⟨rfl,fun _=>.inr rfl,fun _=>.inr rfl⟩
theorem Rel.abst {F:Nat→Prop} {s t:St} {a:Act} {w:World} (hr:Rel P B F s a w) (h:Abst s t):Rel P B F t a w:=by
 obtain ⟨h1,h2,h3,h4⟩:=hr
 refine ⟨⟨fun b x hb=>?_,fun b x hb=>?_,h1.old⟩,?_,by rw [h.n]; exact h3,fun i=>?_⟩
 ·rcases h.hp b with e | e <;> rw [e] at hb
  ·cases hb
  ·exact h1.at_ b x hb
 ·rcases h.hp b with e | e <;> rw [e] at hb
  ·cases hb
  ·exact h1.apart b x hb
 ·obtain ⟨h0,ms,g1,g2,g3⟩:=h2
  refine ⟨h0,ms,g1,g2,fun D hD=>?_⟩
  obtain ⟨k1,k2,k3,k4⟩:=g3 D hD
  exact ⟨k1,by rcases h.hp D with e | e <;> rw [e]; exact k2,k3,k4⟩
 ·rcases h.tm i with e | e <;> rw [e]
  ·exact .undef _
  ·exact h4 i
theorem Step.less {F F':Nat→Prop} {H H0 H':Heap} {w w':World} (st:Step F H0 w F' H' w') (h:∀k,H0 k=none∨H0 k=H k):Step F H w F' H' w' where
 os:=st.os
 tape:=st.tape
 output:=st.output
 size:=st.size
 keep:=fun k hk hn=>st.keep k hk (by rcases h k with e | e <;> simp_all)
 dom:=fun k hk=>by
  rcases st.dom k hk with e | e
  ·exact .inl (by rcases h k with e2 | e2 <;> simp_all)
  ·exact .inr e
 mono:=st.mono
 new:=fun k hk=>by
  rcases st.new k hk with e | e | e
  ·exact .inl e
  ·exact .inr (.inl (by rcases h k with e2 | e2 <;> simp_all))
  ·exact .inr (.inr e)
theorem AW.abst {c:Code} {s t:St} {Q:Out→St→Prop} (h:Abst s t) (hk:AW P r c t Q):AW P r c s Q :=
 fun B F a w hr=>Code.wpIn_mono (fun _ _ _ ⟨o,s',F',h1,h2,h3,h4⟩=>⟨o,s',F',h1,h2,h3.less h.hp,h4⟩) (hk B F a w (hr.abst h))
theorem AIz {c:Code} {Q:Exit→Act→World→Prop} (I:Nat→Act→World→Prop)
  (round:∀n a w,I n a w→c.wpIn (Gu r) 0 P (Exit.then (fun a' w'=>∃m,m<n∧I m a' w') Q) a w):∀(n:Nat) (a:Act) (w:World),I n a w→(Code.loop c).wpIn (Gu r) 0 P Q a w:=by
 intro n a w h0 b k cs hro hb hr
 have key:∀n a w,I n a w→∃e a' w',Q e a' w'∧ArrivesIn (Machine.fenced P (Gu r)) P (lone (b.atR a (.code c::.inLoop c::k)) cs w) b k cs e a' w':=by
  intro n
  induction n using Nat.strongRecOn with
  | _ n ih =>
   intro a w hI
   obtain ⟨e,a1,w1,hq,harr⟩:=round n a w hI b (.inLoop c::k) cs hro hb hr
   cases e with
   | normal =>
    obtain ⟨m,hm,hI1⟩:=hq
    obtain ⟨e2,a2,w2,hq2,harr2⟩:=ih m hm a1 w1 hI1
    exact ⟨e2,a2,w2,hq2,.of_steps (StepsIn.trans harr (.one (fenced_calm hb hr rfl) stepR_inLoop)) harr2⟩
   | exit id=>exact ⟨_,a1,w1,hq,.pass (x:=.inLoop c) rfl (fun _ _=>.inl (by simp)) harr⟩
   | goto l=>exact ⟨_,a1,w1,hq,.pass (x:=.inLoop c) rfl (fun _ _=>.inl (by simp)) harr⟩
   | ret=>exact ⟨_,a1,w1,hq,.pass (x:=.inLoop c) rfl (fun _ _=>.inl (by simp)) harr⟩
   | panic ch=>exact ⟨_,a1,w1,hq,.pass (x:=.inLoop c) rfl (fun _ _=>.inl (by simp)) harr⟩
   | outgrown=>exact ⟨_,a1,w1,hq,.pass (x:=.inLoop c) rfl (fun _ _=>.inl (by simp)) harr⟩
 obtain ⟨e,a',w',hq,harr⟩:=key n a w h0
 exact ⟨e,a',w',hq,.of_steps (.one (fenced_calm hb hr rfl) stepR_loop) harr⟩
theorem AIa {α:Type} (I : α→Prop) (mk : α→St) (μ : α→Nat) {b:ACode} {s:St} {Q:Out→St→Prop} (x0 : α) (h0:I x0) (ha:Abst s (mk x0))
  (round:∀x,I x→GK P b (mk x) fun o s'=>match o with | .normal=>∃y,I y∧μ y < μ x∧Abst s' (mk y) | o=>Q o s'):P3 P b s Q:=by
 intro r c hc hf
 refine AW.abst ha ?_
 intro B F a w hr
 refine AIz (fun n a' w'=>∃x F',I x∧μ x=n∧Rel P B F' (mk x) a' w'∧Step F (mk x0).H w F' (mk x).H w') ?_ (μ x0) a w ⟨x0,F,h0,rfl,hr,Step.refl _ _ _⟩
 rintro n a1 w1 ⟨x,F1,hI,rfl,hr1,hs1⟩
 refine Code.wpIn_mono ?_ (JZ hc hf (round x hI) B F1 a1 w1 hr1)
 rintro e a2 w2 ⟨o,s2,F2,g1,g2,g3,g4⟩
 cases o <;> cases e <;> simp only [Kq] at g1
 ·obtain ⟨y,hy,hm,hab⟩:=g4
  refine ⟨μ y,hm,y,F2,hy,rfl,g2.abst hab,hs1.trans ⟨g3.os,g3.tape,g3.output,g3.size,g3.keep,fun k hk=>g3.dom k ?_,g3.mono,g3.new⟩⟩
  rcases hab.hp k with e | e
  ·exact absurd e hk
  ·rw [←e]; exact hk
 ·exact ⟨.exit _,s2,F2,g1,g2,hs1.trans g3,g4⟩
 ·exact ⟨.ret,s2,F2,trivial,g2,hs1.trans g3,g4⟩
end
section
variable {P:Program}
theorem UN {F:Nat→Prop} {w:World} (n:Nat):∀(args:List AV) (vs:List Value) (i:Nat),VRL P F w args vs →
  ∀t,VR P F w (BC args i t) (if i≤t∧t<i+vs.length then vs.getD (t-i) undef else undef)
 | [],vs,i,hv,t=>by
  obtain rfl:=hv.unnil
  rw [if_neg (by simp)]
  exact .void
 | x::l,vs,i,hv,t=>by
  obtain ⟨v,vs,rfl,hx,hl⟩:=hv.uncons
  simp only [BC,A7]
  by_cases e:i=t
  ·subst e
   simp only [beq_self_eq_true,cond_true]
   rw [if_pos (by simp)]
   simpa using hx
  ·rw [show (i == t)=false by simpa using e]
   simp only [cond_false]
   have ih:=UN n l vs (i+1) hl t
   by_cases h:i+1≤t∧t<i+1+vs.length
   ·rw [if_pos h] at ih
    rw [if_pos (by simp; omega)]
    rw [show t-i=(t-(i+1))+1 by omega]
    simpa using ih
   ·rw [if_neg h] at ih
    rw [if_neg (by simp; omega)]
    exact ih
theorem Ok {F:Nat→Prop} {s:St} {a:Act} {w:World} (hr:HRel P F s.H w) (ht:∀t,VR P F w (s.t t) (a.tmps.getD t undef)):∀{rs:List ResultVar} {ar:List ARes} {K:List AV→Prop},LT P rs=some ar→BE s ar K →
  ∃vs:List Value,∃avs,((rs.mapM fun
   | .tmp t=>pure (a.tmps.getD t undef)
   | .cell q t=>do loadVar t (←asAddr (a.tmps.getD q undef)):Sem (List Value)).run P w = .ok vs w)∧VRL P F w avs vs∧K avs
 | [],ar,K,hc,hk=>by
  simp only [LT,Option.some.injEq] at hc
  subst hc
  exact ⟨[],[],by simp,VRL.nil,hk⟩
 | .tmp t::rs,ar,K,hc,hk=>by
  simp only [LT,Option.map_eq_some_iff] at hc
  obtain ⟨ar',h1,rfl⟩:=hc
  obtain ⟨vs,avs,e1,e2,e3⟩:=Ok hr ht h1 hk
  exact ⟨_::vs,_::avs,by simp only [List.mapM_cons,Sem.run_bind,Sem.run_pure,Result.andThen_ok,e1],VRL.cons (ht t) e2,e3⟩
 | .cell q t::rs,ar,K,hc,hk=>by
  simp only [LT] at hc
  split at hc
  ·next g l hg hl =>
   cases hc
   obtain ⟨v,av,h1,h2,h3⟩:=Up hr hg (ht q) (K:=fun v=>BE s l fun vs=>K (v::vs)) hk
   obtain ⟨vs,avs,e1,e2,e3⟩:=Ok hr ht hl h3
   refine ⟨v::vs,av::avs,?_,VRL.cons h2 e2,e3⟩
   have h4:(do loadVar t (←asAddr (a.tmps.getD q undef)):Sem Value).run P w = .ok v w:=by
    cases hq:a.tmps.getD q undef with
    | pointer p=>cases p with
     | none =>
      rw [hq] at h1
      simp [Instr.loadAt,Instr.sureAddr,stuck,Sem.run] at h1
     | some p =>
      rw [hq] at h1
      simpa [Instr.loadAt,Instr.sureAddr,asAddr] using h1
    | _ =>
     rw [hq] at h1
     simp [Instr.loadAt,Instr.sureAddr,stuck,Sem.run] at h1
   simp only [List.mapM_cons,Sem.run_bind,Result.andThen_ok,e1,Sem.run_pure] at h4 ⊢
   rw [h4]
   simp only [Result.andThen_ok,e1]
  ·cases hc
theorem PA {Q:Out→St→Prop} {c:ACode} {s:St} (h:Fs P Q c [] s):GK P c s Q:=by
 unfold Fs at h
 have e:(fun o s'=>FU P Q [] o s')=Q:=by funext o s'; exact BM
 rw [e] at h
 exact h
def HI:List Nat→World→World
 | [],w=>w
 | D::ms,w=>HI ms (w.putObj D (.deferred none))
theorem Ny:∀{ms:List Nat} {w:World} {k:Nat},k∉ms→(HI ms w).heap[k]? = w.heap[k]?
 | [],w,k,_=>rfl
 | D::ms,w,k,h=>by
  simp only [List.mem_cons,not_or] at h
  simp only [HI]
  rw [Ny h.2,World.putObj_heap_other h.1]
theorem Po:∀{ms:List Nat} {w:World},(HI ms w).heap.size=w.heap.size
 | [],w=>rfl
 | D::ms,w=>by simp only [HI]; rw [Po,World.putObj_size]
theorem Nr:∀{ms:List Nat} {w:World},(HI ms w).os=w.os∧(HI ms w).tape=w.tape∧(HI ms w).output=w.output
 | [],w=>⟨rfl,rfl,rfl⟩
 | D::ms,w=>by simp only [HI]; exact Nr
theorem Ru {fn:Func} {tmps:Array Value} {R:Ending→World→Prop}:∀(ms:List Nat) (w:World),ms.Nodup→(∀D∈ms,w.heap[D]? = some (.deferred (some []))) →
  LeavesIn Fence.wide 0 P fn tmps R [] .returning (HI ms w)→LeavesInM Fence.wide 0 P fn tmps R (ms.map L5) .returning w
 | [],w,_,_,h=>h
 | D::ms,w,hn,hd,h=>by
  rw [List.nodup_cons] at hn
  refine ⟨by simp,.inl ⟨D,_,rfl,run_takeDeferred (hd D (by simp)),Ru ms _ hn.2 (fun k hk=>?_) h⟩⟩
  rw [World.putObj_heap_other (fun e=>hn.1 (by rw [←e]; exact hk))]
  exact hd k (by simp [hk])
theorem Aj {f:FuncId} {af:AFunc} {args:List AV} {H:Heap} {K:AV→Heap→Prop} (hc:Ar P f=some af) (hn:args.length≤af.n)
  (h:Fs P (BO af.results K) af.body [] ⟨af.n,BC args 0,H⟩):CallW P f args H K:=by
 have h:=PA h
 unfold Ar at hc
 split at hc
 ·next fn hf =>
  split at hc
  ·next c hb =>
   split at hc
   ·next ac rs hac hrs =>
    cases hc
    intro F w vs hh hv
    have hlen:args.length=vs.length:=hv.1
    refine (callsIn_wide (n:=0)).1 (callsIn_of_wp_marks hf hb trivial ?_)
    have hrel:Rel P w.heap.size F ⟨fn.ntmps,BC args 0,H⟩ { tmps:=vs.toArray++Array.replicate (fn.ntmps-vs.toArray.size) undef,defers:=[] } w:=by
     refine ⟨hh,⟨Nat.le_refl _,[],rfl,List.nodup_nil,fun D h=>by simp at h⟩,by simp only [Array.size_append,Array.size_replicate,List.size_toArray]; dsimp only at hn; omega,fun t=>?_⟩
     have:=UN fn.ntmps args vs 0 hv t
     have e:(vs.toArray++Array.replicate (fn.ntmps-vs.toArray.size) undef).getD t undef=if 0≤t∧t<0+vs.length then vs.getD (t-0) undef else undef:=by
      rw [Array.getD_eq_getD_getElem?,Array.getElem?_append]
      by_cases ht:t<vs.length
      ·rw [if_pos (by simpa using ht),if_pos (by omega)]; simp
      ·rw [if_neg (by simpa using ht),if_neg (by omega),Array.getElem?_replicate]
       split <;> rfl
     rw [e]
     exact this
    refine Code.wpIn_mono (F:=Fence.wide) ?_ (JZ (r:=none) hac (.inl rfl) h w.heap.size F _ w hrel)
    rintro e a' w' ⟨o,s',F',h1,h2,h3,h4⟩
    have fin:BH s' rs (fun r=>K r s'.H)→LeavesInM Fence.wide 0 P fn a'.tmps (fun e w'=>∃r H' F' v,e = .returned v∧VR P F' w' r v∧HRel P F' H' w'∧Step F H w F' H' w'∧K r H') a'.defers .returning w':=by
     intro hk
     obtain ⟨g1,⟨g0,ms,gd,gn,gm⟩,g3,g4⟩:=h2
     rw [gd]
     refine Ru ms w' gn (fun D hD=>(gm D hD).2.2.2) ?_
     show ∃v,(results fn a'.tmps).run P (HI ms w') = .ok v (HI ms w')∧∃r H' F' v',Ending.returned v = .returned v'∧_
     have hoF:∀k,F' k→(HI ms w').heap[k]? = w'.heap[k]?:=fun k hk=>Ny fun hm=>(gm k hm).2.2.1 hk
     have hh':HRel P F' s'.H (HI ms w'):=⟨fun b x hb=>(g1.at_ b x hb).mono (Ny fun hm=>by rw [(gm b hm).2.1] at hb; cases hb) (fun _ h=>h) hoF,g1.apart,fun b hb=>by rw [Po]; exact g1.old b hb⟩
     have ht':∀t,VR P F' (HI ms w') (s'.t t) (a'.tmps.getD t undef):=fun t=>(g4 t).mono (fun _ h=>h) hoF
     have h3:Step F H w F' s'.H (HI ms w'):=⟨Nr.1.trans h3.os,Nr.2.1.trans h3.tape,Nr.2.2.trans h3.output,by rw [Po]; exact h3.size,
      fun k hk hn=>(Ny fun hm=>by have:=(gm k hm).1; omega).trans (h3.keep k hk hn),h3.dom,h3.mono,h3.new⟩
     clear g4 g1 gm gn gd g0
     generalize HI ms w'=w' at *
     obtain ⟨us,avs,e1,e2,e3⟩:=Ok hh' ht' hrs hk
     have hres:(results fn a'.tmps).run P w' = .ok (if h:us.toArray.size=1 then us.toArray[0] else .tuple us.toArray) w':=by
      have em:=Array.toList_mapM (m:=Sem) (xs:=fn.results) (f:=fun
       | .tmp t=>pure (a'.tmps.getD t undef)
       | .cell q t=>do loadVar t (←asAddr (a'.tmps.getD q undef)))
      rw [←em] at e1
      simp only [Sem.run_map] at e1
      unfold results
      rw [Sem.run_bind]
      generalize hx:(Sem.run P (Array.mapM _ fn.results) w')=rr at e1 ⊢
      cases rr with
      | halt x w2=>simp [Result.andThen] at e1
      | ok arr w2 =>
       simp only [Result.andThen_ok,Result.ok.injEq] at e1
       obtain ⟨e4,rfl⟩:=e1
       have e5:arr=us.toArray:=by apply Array.ext'; simpa using e4
       subst e5
       rfl
     refine ⟨_,hres,?_⟩
     match avs,us,e2,e3 with
     | [],[],e2,e3=>exact ⟨_,s'.H,F',_,rfl,.tup [] [] rfl (fun j x v h _=>by simp at h),hh',h3,e3⟩
     | [x],[u],e2,e3=>exact ⟨_,s'.H,F',_,rfl,e2.2 0 _ _ rfl rfl,hh',h3,e3⟩
     | x::y::l,u::v::us,e2,e3 =>
      refine ⟨_,s'.H,F',_,rfl,?_,hh',h3,e3⟩
      rw [dif_neg (by simp)]
      exact .tup _ _ e2.1 e2.2
     | [],_::_,e2,_=>have:=e2.1; simp at this
     | _::_,[],e2,_=>have:=e2.1; simp at this
     | [x],_::_::_,e2,_=>have:=e2.1; simp at this
     | _::_::_,[u],e2,_=>have:=e2.1; simp at this
    cases o <;> cases e <;> simp only [Kq] at h1
    ·exact fin h4
    ·exact h4.elim
    ·exact fin h4
   ·cases hc
  ·cases hc
 ·cases hc
theorem CallW.mono {f:FuncId} {args:List AV} {H:Heap} {K K':AV→Heap→Prop} (h:CallW P f args H K) (hk:∀r H',K r H'→K' r H'):CallW P f args H K' :=
 fun F w vs hh hv=>(h F w vs hh hv).mono fun _ _ ⟨r,H',F',v,h1,h2,h3,h4,h5⟩=>⟨r,H',F',v,h1,h2,h3,h4,hk r H' h5⟩
def JP {α:Type} (I : α→Prop) (mk : α→St) (μ : α→Nat) (x : α) (R:Out→St→Prop):Out→St→Prop
 | .normal,s'=>∃y,I y∧μ y < μ x∧Abst s' (mk y)
 | .exit i,s'=>R (.exit i) s'
 | .ret,s'=>R .ret s'
theorem EM {α:Type} {I : α→Prop} {mk : α→St} {μ : α→Nat} {x : α} {R:Out→St→Prop} {s':St} {i:Nat}:JP I mk μ x R (.exit i) s'=R (.exit i) s':=rfl
theorem D1 {α:Type} {I : α→Prop} {mk : α→St} {μ : α→Nat} {x : α} {R:Out→St→Prop} {s':St}:JP I mk μ x R .ret s'=R .ret s':=rfl
theorem Qp {α:Type} (I : α→Prop) (mk : α→St) (μ : α→Nat) {Q:Out→St→Prop} {b:ACode} {k:List Item} {s:St} (x0 : α) (h0:I x0) (ha:Abst s (mk x0))
  (round:∀x,I x→Fs P (JP I mk μ x (FU P Q k)) b [] (mk x)):MP P Q b k s:=by
 refine AIa I mk μ x0 h0 ha fun x hx=>?_
 have h:=PA (round x hx)
 refine cast (congrArg (GK P b (mk x)) ?_) h
 funext o s'; cases o <;> rfl
def Fq:List (Nat×AV)→TM
 | []=>fun _=>.undef
 | (i,v)::l=>KN (Fq l) i v
def AJ (t:TM):List (Nat×AV)→Prop
 | []=>True
 | (i,v)::l=>t i=v∧AJ t l
theorem Ng {s:St} {n:Nat} {l:List (Nat×AV)} {H:Heap} (hn:n=s.n) (h:AJ s.t l) (hp:∀k,H k=none∨H k=s.H k):Abst s ⟨n,Fq l,H⟩:=by
 refine ⟨hn,fun i=>?_,hp⟩
 show Fq l i = .undef∨Fq l i=s.t i
 induction l with
 | nil=>exact .inl rfl
 | cons p l ih =>
  obtain ⟨j,v⟩:=p
  simp only [Fq,A7]
  by_cases e:j=i
  ·subst e; simp only [beq_self_eq_true,cond_true]; exact .inr h.1.symm
  ·rw [show (j == i)=false by simpa using e]; exact ih h.2
end
def AZ (H:Heap):List (Nat×Blk)→Prop
 | []=>True
 | (b,x)::l=>H b=some x∧AZ H l
def L6 (P:Program) (f:FuncId) (caps:List AV) (bl:List (Nat×Blk)) (xs:List (List AV)):Prop :=
 ∀(l:Nat) (H:Heap) (J:List (List AV)→Heap→Prop) (X:Heap→Prop),(∀pre H,J pre H→AZ H bl) →
  (∀pre H b x,J pre H→H b=none→J pre (upd H b (some x))) →
  (∀pre x post H,xs=pre++x::post→J pre H→L1 P l x H fun r H'=>(r = .d (.bool true)∧J (pre++[x]) H')∨(r = .d (.bool false)∧X H')) →
  J [] H→CallW P f (.yld l::caps) H fun _ H'=>J xs H'∨X H'
def IQ (n:Nat) (t:TM):List Nat→List AV→TM
 | p::ps,v::vs=>IQ n (if p<n then KN t p v else t) ps vs
 | _,_=>t
def KO:ACode→Bool
 | .skip | .ops _ | .dops _=>true
 | .seq a b=>KO a&&KO b
 | _=>false
section
variable {P:Program}
theorem Ap {H:Heap} {l:Nat} {y:Option Blk} (hl:H l=none):∀{bl:List (Nat×Blk)},AZ H bl→AZ (upd H l y) bl
 | [],_=>trivial
 | (b,x)::bl,h=>by
  refine ⟨?_,Ap hl h.2⟩
  have h1:=h.1
  rw [AQ,if_neg (fun e=>by rw [e] at hl; rw [hl] at h1; cases h1)]
  exact h1
theorem PR:∀{a:ACode} {s:St} {Q Q':Out→St→Prop},KO a=true→(∀s',Q .normal s'=Q' .normal s')→GK P a s Q=GK P a s Q'
 | .skip,s,Q,Q',_,h=>h s
 | .ops l,s,Q,Q',_,h=>by simp only [GK,h]
 | .dops l,s,Q,Q',_,h=>by simp only [GK,h]
 | .seq a b,s,Q,Q',hs,h=>by
  simp only [KO,Bool.and_eq_true] at hs
  simp only [GK]
  exact PR hs.1 fun s'=>PR hs.2 h
theorem HRel.less {F:Nat→Prop} {H H0:Heap} {w:World} (h:HRel P F H w) (hp:∀k,H0 k=none∨H0 k=H k):HRel P F H0 w :=
 have hs:∀b x,H0 b=some x→H b=some x:=fun b x hb=>by
  rcases hp b with e | e
  ·rw [e] at hb; cases hb
  ·rw [←e]; exact hb
 ⟨fun b x hb=>h.at_ b x (hs b x hb),fun b x hb=>h.apart b x (hs b x hb),h.old⟩
theorem HRel.putObj {F:Nat→Prop} {H:Heap} {w:World} {l:Nat} (o:Obj) (h:HRel P F H w) (hl:H l=none) (hF:¬F l):HRel P F H (w.putObj l o) :=
 ⟨fun b x hb=>(h.at_ b x hb).mono (World.putObj_heap_other fun e=>by rw [e,hl] at hb; cases hb) (fun _ h=>h) (fun k hk=>World.putObj_heap_other fun e=>hF (e▸hk)),
  h.apart,fun b hb=>by rw [World.putObj_size]; exact h.old b hb⟩
theorem HRel.put {F:Nat→Prop} {H:Heap} {w:World} {l:Nat} {o:Obj} {ts:List AV} {us:List Value} (h:HRel P F H w) (hl:H l=none) (hF:¬F l) (ho:w.heap[l]? = some o) (hv:VRL P F w ts us):HRel P F (upd H l (some (.obj o ts us))) w :=
 ⟨fun b x hb=>by
  rw [AQ] at hb
  split at hb
  ·next e=>subst e; cases hb; exact ⟨ho,hv⟩
  ·exact h.at_ b x hb,
  fun b x hb=>by
   rw [AQ] at hb
   split at hb
   ·next e=>subst e; exact hF
   ·exact h.apart b x hb,h.old⟩
theorem HRel.grow {F:Nat→Prop} {H:Heap} {w:World} (o:Obj) (h:HRel P F H w):HRel P F H (w.alloc o) :=
 ⟨fun b x hb=>(h.at_ b x hb).mono (Below.heap_alloc w o b (h.at_ b x hb).lt) (fun _ h=>h) (fun k hk=>Below.heap_alloc w o k (h.old k hk)),h.apart,fun b hb=>by have:=h.old b hb; simp; omega⟩
theorem TQ {F:Nat→Prop} {w:World}:∀(ps:List Nat) (x:List AV) (vs:List Value) (t:TM) (tm:Array Value),VRL P F w x vs→(∀i,VR P F w (t i) (tm.getD i undef)) →
  ((ps.zip vs).foldl (fun tmps (p,v)=>tmps.setIfInBounds p v) tm).size=tm.size∧∀i,VR P F w (IQ tm.size t ps x i) (((ps.zip vs).foldl (fun tmps (p,v)=>tmps.setIfInBounds p v) tm).getD i undef)
 | [],x,vs,t,tm,_,ht=>⟨rfl,ht⟩
 | p::ps,[],vs,t,tm,hv,ht=>by
  obtain rfl:=hv.unnil
  exact ⟨rfl,ht⟩
 | p::ps,a::x,vs,t,tm,hv,ht=>by
  obtain ⟨v,vs,rfl,ha,hl⟩:=hv.uncons
  have:=TQ ps x vs (if p<tm.size then KN t p a else t) (tm.setIfInBounds p v) hl (fun i=>?_)
  ·simp only [Array.size_setIfInBounds] at this
   exact this
  ·split
   ·next hp =>
    rw [A7]
    by_cases e:p=i
    ·subst e
     rw [show (tm.setIfInBounds p v).getD p undef=v by simp [Array.getD,hp]]
     simpa using ha
    ·rw [show (p == i)=false by simpa using e]
     rw [show (tm.setIfInBounds p v).getD i undef=tm.getD i undef by rw [Array.getD_eq_getD_getElem?,Array.getD_eq_getD_getElem?,Array.getElem?_setIfInBounds_ne e]]
     exact ht i
   ·next hp =>
    have e:tm.setIfInBounds p v=tm:=by
     apply Array.ext'
     simp only [Array.toList_setIfInBounds]
     exact List.set_eq_of_length_le (by simp; omega)
    rw [e]
    exact ht i
theorem Se {F:Nat→Prop} {w:World} {tm:Array Value}:∀{tl:List (Nat×AV)},VRL P F w (tl.map (·.2)) (tl.map fun p=>tm.getD p.1 undef)→∀i,VR P F w (Fq tl i) (tm.getD i undef)
 | [],_,i=>.undef _
 | (j,v)::tl,h,i=>by
  obtain ⟨u,us,e,h1,h2⟩:=h.uncons
  simp only [List.map_cons,List.cons.injEq] at e
  obtain ⟨rfl,rfl⟩:=e
  simp only [Fq,A7]
  by_cases e:j=i
  ·subst e; simpa using h1
  ·rw [show (j == i)=false by simpa using e]; exact Se h2 i
theorem R2 {F:Nat→Prop} {w:World} {tm:Array Value} {t:TM} (ht:∀i,VR P F w (t i) (tm.getD i undef)):∀{tl:List (Nat×AV)},AJ t tl→VRL P F w (tl.map (·.2)) (tl.map fun p=>tm.getD p.1 undef)
 | [],_=>VRL.nil
 | (j,v)::tl,h=>VRL.cons (by rw [←h.1]; exact ht j) (R2 ht h.2)
def Gd (fn:FuncId) (tm:Array Value) (ps:Array Tmp) (a b:Code) (D:Nat) (st:LoopState) (pe:Option Code):Loop:={ state:=st,pending:=pe,fn,tmps:=tm,params:=ps,assign:=a,body:=b,defers:=D }
def KG:Out→Option Code
 | .normal=>none
 | .exit i=>some (.exit i)
 | .ret=>some .ret
theorem AFl {l D:Nat} {fn:FuncId} {tm:Array Value} {ps:Array Tmp} {a b:Code} {asg body:ACode} (ha:GD P a=some asg) (hb:GD P b=some body) (fa:G4 asg=true) (fb:G4 body=true) (hs:KO asg=true)
  {tl:List (Nat×AV)} {x:List AV} (hx:x.length=ps.size) {H H':Heap} (hl:H l=none) (hless:∀k,H' k=none∨H' k=H k) {Q:Out→Heap→Prop}
  (h:GK P (.seq asg body) ⟨tm.size,IQ tm.size (Fq tl) ps.toList x,H'⟩ fun o s=>Q o s.H) :
  L1 P l x (upd H l (some (.obj (.loop (Gd fn tm ps a b D .ready none)) (tl.map (·.2)) (tl.map fun p=>tm.getD p.1 undef)))) fun r H' =>
   ∃o H0,H0 l=none∧Q o H0∧r = .d (.bool (KG o).isNone) ∧
    H'=upd H0 l (some (.obj (.loop (Gd fn tm ps a b D (if (KG o).isNone then .ready else .done) (KG o))) (tl.map (·.2)) (tl.map fun p=>tm.getD p.1 undef))):=by
 intro F w vs hh hv
 obtain ⟨hrec,hts⟩:=hh.at_ l _ (by rw [AQ,if_pos rfl])
 have hFl:¬F l:=hh.apart l _ (by rw [AQ,if_pos rfl])
 have hlt:l<w.heap.size:=(Array.getElem?_eq_some_iff.1 hrec).1
 have hh0:HRel P F H w:=hh.less fun k=>by
  rw [AQ]
  split
  ·next e=>subst e; exact .inl hl
  ·exact .inr rfl
 have hsz:vs.toArray.size=ps.size:=by rw [←hx]; simpa using hv.1.symm
 refine ⟨fn,_,a,b,run_yield hrec hsz,roundIn_of_wpIn trivial ?_⟩
 have e1:(((Gd fn tm ps a b D .ready none).params.zip vs.toArray).foldl (fun tmps (t,a)=>tmps.setIfInBounds t a) (Gd fn tm ps a b D .ready none).tmps)=(ps.toList.zip vs).foldl (fun tmps (p,v)=>tmps.setIfInBounds p v) tm:=by
  simp only [Gd]
  rw [←Array.foldl_toList,Array.toList_zip]
 rw [e1]
 obtain ⟨k1,k2⟩:=TQ ps.toList x vs (Fq tl) tm hv (Se hts)
 have hrel:Rel P 0 F ⟨tm.size,IQ tm.size (Fq tl) ps.toList x,H⟩ { tmps:=(ps.toList.zip vs).foldl (fun tmps (p,v)=>tmps.setIfInBounds p v) tm,defers:=[] } w :=
  ⟨hh0,⟨Nat.zero_le _,[],rfl,List.nodup_nil,fun D h=>by simp at h⟩,k1,k2⟩
 have hq:GK P asg ⟨tm.size,IQ tm.size (Fq tl) ps.toList x,H'⟩ fun o s1=>o = .normal∧GK P body s1 fun o s=>Q o s.H:=by
  simp only [GK] at h
  refine (PR hs ?_).mp h
  intro s'
  simp
 refine Code.wpIn_mono ?_ (AW.abst (s:=⟨tm.size,IQ tm.size (Fq tl) ps.toList x,H⟩) (t:=⟨tm.size,IQ tm.size (Fq tl) ps.toList x,H'⟩) ⟨rfl,fun _=>.inr rfl,hless⟩ (JZ (r:=some l) ha (.inr fa) hq) 0 F _ w hrel)
 rintro e a1 w1 ⟨o,s1,F1,h1,h2,h3,rfl,h4⟩
 cases e <;> simp only [Kq] at h1
 have hs1l:s1.H l=none:=by
  cases e:s1.H l with
  | none=>rfl
  | some y =>
   rcases h3.dom l (by rw [e]; simp) with h | h
   ·exact absurd hl h
   ·omega
 have hF1l:¬F1 l:=fun h=>by
  rcases h3.new l h with h | h | h
  ·exact hFl h
  ·exact h hl
  ·omega
 have hr1:w1.heap[l]? = some (.loop (Gd fn tm ps a b D .ready none)):=(h3.keep l hlt hl).trans hrec
 refine ⟨_,run_beginRound hr1 rfl,?_⟩
 have hlt1:l<w1.heap.size:=(Array.getElem?_eq_some_iff.1 hr1).1
 have hrel1:Rel P 0 F1 s1 a1 (w1.putObj l (.loop { Gd fn tm ps a b D .ready none with state:=.busy })):=by
  obtain ⟨g1,⟨g0,ms,gd,gn,gm⟩,g3,g4⟩:=h2
  refine ⟨g1.putObj _ hs1l hF1l,⟨by omega,ms,gd,gn,fun D' hD=>?_⟩,g3,fun t=>(g4 t).mono (fun _ h=>h) fun k hk=>World.putObj_heap_other fun e=>hF1l (e▸hk)⟩
  obtain ⟨m1,m2,m3,m4⟩:=gm D' hD
  refine ⟨m1,m2,m3,(World.putObj_heap_other fun e=>?_).trans m4⟩
  rw [e,hr1] at m4; cases m4
 refine Code.wpIn_mono ?_ (JZ (r:=some l) hb (.inr fb) h4 0 F1 _ _ hrel1)
 rintro e a2 w3 ⟨o,s2,F2,j1,j2,j3,j4⟩
 have hs2l:s2.H l=none:=by
  cases e:s2.H l with
  | none=>rfl
  | some y =>
   rcases j3.dom l (by rw [e]; simp) with h | h
   ·exact absurd hs1l h
   ·simp at h; omega
 have hF2l:¬F2 l:=fun h=>by
  rcases j3.new l h with h | h | h
  ·exact hF1l h
  ·exact h hs1l
  ·simp at h; omega
 have hr3:w3.heap[l]? = some (.loop { Gd fn tm ps a b D .ready none with state:=.busy }):=(j3.keep l (by simpa using hlt1) hs1l).trans (World.putObj_heap_same hlt1)
 have hlt3:l<w3.heap.size:=(Array.getElem?_eq_some_iff.1 hr3).1
 have hkF:∀k,F k→∀o',(w3.putObj l o').heap[k]? = w.heap[k]?:=fun k hk o'=>by
  have n1:k≠l:=fun e=>hFl (e▸hk)
  have n2:=h3.keepF hh0 k hk
  have n3:=j3.keepF hrel1.1 k (h3.mono k hk)
  rw [World.putObj_heap_other n1,n3,World.putObj_heap_other n1,n2]
 have fin:∀(jump:Option Code),jump=KG o→∃v w',(Instr.endRound l jump).run P w3 = .ok v w'∧∃r H' F' v',Ending.returned v = .returned v'∧VR P F' w' r v'∧HRel P F' H' w' ∧
   Step F (upd H l (some (.obj (.loop (Gd fn tm ps a b D .ready none)) (tl.map (·.2)) (tl.map fun p=>tm.getD p.1 undef)))) w F' H' w' ∧
   ∃o H0,H0 l=none∧Q o H0∧r = .d (.bool (KG o).isNone) ∧
    H'=upd H0 l (some (.obj (.loop (Gd fn tm ps a b D (if (KG o).isNone then .ready else .done) (KG o))) (tl.map (·.2)) (tl.map fun p=>tm.getD p.1 undef))):=by
  intro jump hj
  subst hj
  refine ⟨_,_,run_endRound _ hr3,_,_,F2,_,rfl,.d _ _ (.bool _),?_,?_,o,s2.H,hs2l,j4,rfl,rfl⟩
  ·refine (j2.1.putObj _ hs2l hF2l).put hs2l hF2l (World.putObj_heap_same hlt3) ?_
   exact hts.mono (fun k hk=>j3.mono k (h3.mono k hk)) fun k hk=>hkF k hk _
  ·refine ⟨j3.os.trans h3.os,j3.tape.trans h3.tape,j3.output.trans h3.output,?_,fun k hk hn=>?_,fun k hk=>?_,fun k hk=>j3.mono k (h3.mono k hk),fun k hk=>?_⟩
   ·have:=j3.size; have:=h3.size; simp at *; omega
   ·rw [AQ] at hn
    split at hn
    ·cases hn
    ·next e =>
     have hkl:k≠l:=fun e'=>e e'.symm
     have d1:s1.H k=none:=by
      cases e:s1.H k with
      | none=>rfl
      | some y =>
       rcases h3.dom k (by rw [e]; simp) with h | h
       ·exact absurd hn h
       ·omega
     rw [World.putObj_heap_other hkl,j3.keep k (by have:=h3.size; simp; omega) d1,World.putObj_heap_other hkl,h3.keep k hk hn]
   ·rw [AQ] at hk ⊢
    split
    ·exact .inl (by simp)
    ·next e =>
     rw [if_neg e] at hk
     rcases j3.dom k hk with h | h
     ·rcases h3.dom k h with h | h
      ·exact .inl h
      ·exact .inr h
     ·exact .inr (by have:=h3.size; simp at h; omega)
   ·rw [AQ]
    split
    ·exact .inr (.inl (by simp))
    ·rcases j3.new k hk with h | h | h
     ·rcases h3.new k h with h | h | h
      ·exact .inl h
      ·exact .inr (.inl h)
      ·exact .inr (.inr h)
     ·rcases h3.dom k h with h | h
      ·exact .inr (.inl h)
      ·exact .inr (.inr h)
     ·exact .inr (.inr (by have:=h3.size; simp at h; omega))
 cases o <;> cases e <;> simp only [Kq] at j1
 ·exact fin none rfl
 ·subst j1; exact fin (some (.exit _)) rfl
 ·exact fin (some .ret) rfl
theorem GU {H:Heap}:∀{bl:List (Nat×Blk)},AZ H bl↔∀p∈bl,H p.1=some p.2
 | []=>by simp [AZ]
 | (b,x)::bl=>by simp only [AZ,List.mem_cons,forall_eq_or_imp,GU]
theorem Wl {H:Heap} {i j:Nat} {x y:Option Blk} (h:i≠j):upd (upd H i x) j y=upd (upd H j y) i x:=by
 funext k
 simp only [AQ]
 by_cases h1:j=k
 ·subst h1; simp [h]
 ·simp [h1]
theorem AUA {α:Type} {g:Opd} {ps:List Nat} {asg body:ACode} {s:St} {Q:Out→St→Prop} {f:FuncId} {caps:List AV} {bl:List (Nat×Blk)} {xs:List (List AV)} (tl:List (Nat×AV)) (I:List (List AV)→α→Prop) (hp : α→Heap) (hl : α→List (Nat×Blk))
  (hit:L6 P f caps bl xs) (hg:ev s.t g = .fn f caps) (hs:KO asg=true) (hx:∀x∈xs,x.length=ps.length) (ht:AJ s.t tl) (hA:∀pre y,I pre y→∀p∈bl,p∈hl y) (hle:∀H y,AZ H (hl y)→∀k,hp y k=none∨hp y k=H k) (h0:∃y,I [] y∧AZ s.H (hl y))
  (round:∀pre x post y,xs=pre++x::post→I pre y→GK P (.seq asg body) ⟨s.n,IQ s.n (Fq tl) ps x,hp y⟩ fun o s'=>match o with | .normal=>∃y',I (pre++[x]) y'∧AZ s'.H (hl y') | o=>Q o ⟨s.n,s.t,s'.H⟩)
  (done:∀y,I xs y→Q .normal ⟨s.n,s.t,hp y⟩):Pb P g ps asg body s Q:=by
 obtain ⟨J,hJ⟩:∃J:List (List AV)→Heap→Prop,J=fun pre H=>∃y,I pre y∧AZ H (hl y):=⟨_,rfl⟩
 have hJA:∀pre H,J pre H→AZ H bl:=fun pre H h=>by
  subst hJ
  obtain ⟨y,h1,h2⟩:=h
  exact GU.2 fun p hp=>GU.1 h2 p (hA pre y h1 p hp)
 have hJs:∀pre H b x,J pre H→H b=none→J pre (upd H b (some x)):=fun pre H b x h hb=>by
  subst hJ
  obtain ⟨y,h1,h2⟩:=h
  exact ⟨y,h1,Ap hb h2⟩
 have hJ0:J [] s.H:=by subst hJ; exact h0
 intro g' ps' a b hg' hps ha hb fa fb B F act w hr
 have hg2:=Er hr.2.2.2 g'
 rw [hg',hg] at hg2
 generalize hgv:act.eval g'=gv at hg2
 cases hg2
 next cs hen hcl hcr =>
 obtain ⟨hh,hd,hn,hv⟩:=hr
 have hn':s.n=act.tmps.size:=hn.symm
 subst hps
 refine wpIn_rangeFunc ?_
 intro fn _
 have hl0:s.H w.heap.size=none:=hh.fresh (Nat.le_refl _)
 have hl1:s.H (w.heap.size+1)=none:=hh.fresh (by omega)
 have hFD:¬F w.heap.size:=fun h=>by have:=hh.old _ h; omega
 have hFl:¬F (w.heap.size+1):=fun h=>by have:=hh.old _ h; omega
 obtain ⟨W1,hW1⟩:∃W1,(w.alloc (.deferred (some []))).alloc (.loop (Gd fn act.tmps ps' a b w.heap.size .ready none))=W1:=⟨_,rfl⟩
 have hsz:W1.heap.size=w.heap.size+2:=by rw [←hW1]; simp
 have hL1:W1.heap[w.heap.size+1]? = some (.loop (Gd fn act.tmps ps' a b w.heap.size .ready none)):=by
  rw [←hW1]; have:=World.alloc_heap_new (w.alloc (.deferred (some []))) (.loop (Gd fn act.tmps ps' a b w.heap.size .ready none)); rwa [World.size_alloc] at this
 have hK1:W1.heap[w.heap.size]? = some (.deferred (some [])):=by
  rw [←hW1]; exact (Below.heap_alloc _ _ _ (by simp)).trans (World.alloc_heap_new w _)
 have hold:∀k,k<w.heap.size→W1.heap[k]? = w.heap[k]?:=fun k hk=>by
  rw [←hW1]; exact (Below.heap_alloc _ _ _ (by simp; omega)).trans (Below.heap_alloc _ _ _ hk)
 have hrest:W1.os=w.os∧W1.tape=w.tape∧W1.output=w.output:=by rw [←hW1]; exact ⟨rfl,rfl,rfl⟩
 refine ⟨w.heap.size+1,[L5 w.heap.size],W1,{ target:=.fn (.func f) cs.toArray,args:=#[.func (.yield (w.heap.size+1)) #[] #[]] },W1,f,#[.func (.yield (w.heap.size+1)) #[] #[]]++cs.toArray,W1,?_,?_,fun _ _=>trivial,?_,fun h=>by simp [Gu] at h,?_⟩
 ·rw [←hW1]; exact run_enterLoop_outer _ _ _ _ _
 ·simp only [resolve,hgv]
  simp [go_sem]
 ·simp [invoke,go_sem,O8 hen]
 ·refine (callsIn_wide (n:=0-1)).2 ?_
  have hts:VRL P F W1 (tl.map (·.2)) (tl.map fun p=>act.tmps.getD p.1 undef):=(R2 hv ht).mono (fun _ h=>h) fun k hk=>hold k (hh.old k hk)
  have hh1:HRel P F (upd s.H (w.heap.size+1) (some (.obj (.loop (Gd fn act.tmps ps' a b w.heap.size .ready none)) (tl.map (·.2)) (tl.map fun p=>act.tmps.getD p.1 undef)))) W1:=by
   refine HRel.put ?_ hl1 hFl hL1 hts
   rw [←hW1]; exact (hh.grow _).grow _
  have hcall:=hit (w.heap.size+1) (upd s.H (w.heap.size+1) (some (.obj (.loop (Gd fn act.tmps ps' a b w.heap.size .ready none)) (tl.map (·.2)) (tl.map fun p=>act.tmps.getD p.1 undef))))
   (fun pre H=>∃H0,H0 (w.heap.size+1)=none∧J pre H0∧H=upd H0 (w.heap.size+1) (some (.obj (.loop (Gd fn act.tmps ps' a b w.heap.size .ready none)) (tl.map (·.2)) (tl.map fun p=>act.tmps.getD p.1 undef))))
   (fun H=>∃H0 o c,KG o=some c∧H0 (w.heap.size+1)=none∧Q o ⟨s.n,s.t,H0⟩∧H=upd H0 (w.heap.size+1) (some (.obj (.loop (Gd fn act.tmps ps' a b w.heap.size .done (some c))) (tl.map (·.2)) (tl.map fun p=>act.tmps.getD p.1 undef))))
   (fun pre H ⟨H0,g1,g2,g3⟩=>by subst g3; exact Ap g1 (hJA pre H0 g2))
   (fun pre H b x ⟨H0,g1,g2,g3⟩ hb=>by
    subst g3
    rw [AQ] at hb
    split at hb
    ·cases hb
    ·next e=>exact ⟨upd H0 b (some x),by rw [AQ,if_neg (fun e'=>e e'.symm)]; exact g1,hJs pre H0 b x g2 hb,Wl e⟩)
   (fun pre x post H hxs ⟨H0,g1,g2,g3⟩=>by
    subst g3
    obtain ⟨y,y1,y2⟩:∃y,I pre y∧AZ H0 (hl y):=by subst hJ; exact g2
    have hrd:=round pre x post y hxs y1
    rw [hn'] at hrd
    intro F' w' vs' hh' hv'
    obtain ⟨fn',tm',as',bd',r1,r2⟩:=AFl (l:=w.heap.size+1) (D:=w.heap.size) (fn:=fn) ha hb fa fb hs (by rw [hx x (by rw [hxs]; simp)]; simp) g1 (hle H0 y y2) (Q:=fun o H=>match o with | .normal=>J (pre++[x]) H | o=>Q o ⟨act.tmps.size,s.t,H⟩) (by
      refine cast (congrArg _ ?_) hrd
      subst hJ; funext o s'; cases o <;> rfl) F' w' vs' hh' hv'
    refine ⟨fn',tm',as',bd',r1,r2.mono fun e w2 ⟨r,H',F2,v,q1,q2,q3,q4,o,H2,q5,q6,q7,q8⟩=>⟨r,H',F2,v,q1,q2,q3,q4,?_⟩⟩
    cases o with
    | normal=>exact .inl ⟨q7,H2,q5,q6,q8⟩
    | exit i=>exact .inr ⟨q7,H2,.exit i,_,rfl,q5,by rw [hn']; exact q6,q8⟩
    | ret=>exact .inr ⟨q7,H2,.ret,_,rfl,q5,by rw [hn']; exact q6,q8⟩)
   ⟨s.H,hl1,hJ0,rfl⟩ F W1 (.func (.yield (w.heap.size+1)) #[] #[]::cs) hh1
   (VRL.cons (.yld _) (VRL.mono ⟨hcl,hcr⟩ (fun _ h=>h) fun k hk=>hold k (hh.old k hk)))
  have eargs:(Value.func (.yield (w.heap.size+1)) #[] #[]::cs).toArray = #[.func (.yield (w.heap.size+1)) #[] #[]]++cs.toArray:=by simp
  rw [eargs] at hcall
  refine hcall.mono ?_
  rintro e w2 ⟨r,H2,F2,v,rfl,q1,q2,q3,q4⟩
  have fin:∀(H0:Heap) (st:LoopState) (pe:Option Code),st≠.busy→H0 (w.heap.size+1)=none→H2=upd H0 (w.heap.size+1) (some (.obj (.loop (Gd fn act.tmps ps' a b w.heap.size st pe)) (tl.map (·.2)) (tl.map fun p=>act.tmps.getD p.1 undef))) →
    ∃w4,(Instr.endLoop (w.heap.size+1)).run P w2 = .ok pe w4∧Rel P B F2 ⟨s.n,s.t,H0⟩ { act with defers:=[L5 w.heap.size]++act.defers } w4∧Step F s.H w F2 H0 w4:=by
   intro H0 st pe hst g1 g2
   subst g2
   have hr2:w2.heap[w.heap.size+1]? = some (.loop (Gd fn act.tmps ps' a b w.heap.size st pe)):=by
    have h:=q2.at_ (w.heap.size+1) _ (by rw [AQ,if_pos rfl])
    exact h.1
   have hF2l:¬F2 (w.heap.size+1):=q2.apart _ _ (by rw [AQ,if_pos rfl])
   have hsz2:=q3.size
   have hD1:(upd s.H (w.heap.size+1) (some (.obj (.loop (Gd fn act.tmps ps' a b w.heap.size .ready none)) (tl.map (·.2)) (tl.map fun p=>act.tmps.getD p.1 undef)))) w.heap.size=none:=by
    rw [AQ,if_neg (by omega)]; exact hl0
   have hF2D:¬F2 w.heap.size:=fun h=>by
    rcases q3.new _ h with h | h | h
    ·exact hFD h
    ·exact h hD1
    ·omega
   have hH0D:H0 w.heap.size=none:=by
    cases e:H0 w.heap.size with
    | none=>rfl
    | some y =>
     rcases q3.dom w.heap.size (by rw [AQ,if_neg (by omega),e]; simp) with h | h
     ·exact absurd hD1 h
     ·omega
   have hstep:Step F s.H w F2 H0 (w2.putObj (w.heap.size+1) (.loop { Gd fn act.tmps ps' a b w.heap.size st pe with state:=.exhausted })):=by
    refine ⟨q3.os.trans hrest.1,q3.tape.trans hrest.2.1,q3.output.trans hrest.2.2,by simp; omega,fun k hk hn=>?_,fun k hk=>?_,q3.mono,fun k hk=>?_⟩
    ·rw [World.putObj_heap_other (by omega),q3.keep k (by omega) (by rw [AQ,if_neg (by omega)]; exact hn),hold k hk]
    ·by_cases e:w.heap.size+1=k
     ·exact .inr (by omega)
     ·rcases q3.dom k (by rw [AQ,if_neg e]; exact hk) with h | h
      ·rw [AQ,if_neg e] at h; exact .inl h
      ·exact .inr (by omega)
    ·rcases q3.new k hk with h | h | h
     ·exact .inl h
     ·rw [AQ] at h
      split at h
      ·exact .inr (.inr (by omega))
      ·exact .inr (.inl h)
     ·exact .inr (.inr (by omega))
   have hhr:HRel P F2 H0 (w2.putObj (w.heap.size+1) (.loop { Gd fn act.tmps ps' a b w.heap.size st pe with state:=.exhausted })):=by
    refine HRel.putObj _ (q2.less fun k=>?_) g1 hF2l
    rw [AQ]
    split
    ·next e=>subst e; exact .inl g1
    ·exact .inr rfl
   refine ⟨_,run_endLoop hr2 hst,⟨hhr,?_,hn,fun t=>hstep.VR hh (hv t)⟩,hstep⟩
   obtain ⟨d0,ms,d1,d2,d3⟩:=hstep.defs hd
   refine ⟨d0,w.heap.size::ms,by simp [d1],?_,fun D hD=>?_⟩
   ·rw [List.nodup_cons]
    refine ⟨fun hm=>?_,d2⟩
    obtain ⟨_,ms',d1',_,d3'⟩:=hd
    have:ms=ms':=by
     rw [d1] at d1'
     have hinj:Function.Injective L5:=fun x y h=>by simp only [L5,Deferred.mk.injEq,Target.collected.injEq] at h; exact h.1
     exact (List.map_inj_right hinj).1 d1'
    rw [this] at hm
    have:=(Array.getElem?_eq_some_iff.1 (d3' _ hm).2.2.2).1
    omega
   ·rcases List.mem_cons.1 hD with rfl | hD
    ·refine ⟨hd.1,hH0D,hF2D,?_⟩
     rw [World.putObj_heap_other (by omega),q3.keep _ (by omega) hD1,hK1]
    ·exact d3 D hD
  rcases q4 with ⟨H0,g1,g2,g3⟩ | ⟨H0,o,c,g0,g1,g2,g3⟩
  ·obtain ⟨w4,e1,e2,e3⟩:=fin H0 _ _ (by simp) g1 g3
   obtain ⟨y,y1,y2⟩:∃y,I xs y∧AZ H0 (hl y):=by subst hJ; exact g2
   have y3:=hle H0 y y2
   refine ⟨_,w4,e1,.normal,⟨s.n,s.t,hp y⟩,F2,trivial,e2.abst ⟨rfl,fun _=>.inr rfl,y3⟩,⟨e3.os,e3.tape,e3.output,e3.size,e3.keep,fun k hk=>e3.dom k ?_,e3.mono,e3.new⟩,done y y1⟩
   rcases y3 k with e | e
   ·exact absurd e hk
   ·rw [←e]; exact hk
  ·obtain ⟨w4,e1,e2,e3⟩:=fin H0 _ _ (by simp) g1 g3
   refine ⟨_,w4,e1,?_⟩
   cases o with
   | normal=>cases g0
   | exit i=>cases g0; exact wpIn_exit ⟨.exit i,_,F2,rfl,e2,e3,g2⟩
   | ret=>cases g0; exact wpIn_ret ⟨.ret,_,F2,trivial,e2,e3,g2⟩
def Ms {α:Type} (I:List (List AV)→α→Prop) (hl : α→List (Nat×Blk)) (pre:List (List AV)) (n:Nat) (t:TM) (R:Out→St→Prop):Out→St→Prop
 | .normal,s'=>∃y,I pre y∧AZ s'.H (hl y)
 | .exit i,s'=>R (.exit i) ⟨n,t,s'.H⟩
 | .ret,s'=>R .ret ⟨n,t,s'.H⟩
theorem DG {α:Type} {I:List (List AV)→α→Prop} {hl : α→List (Nat×Blk)} {pre:List (List AV)} {n:Nat} {t:TM} {s':St} {R:Out→St→Prop} {i:Nat}:Ms I hl pre n t R (.exit i) s'=R (.exit i) ⟨n,t,s'.H⟩:=rfl
theorem DP {α:Type} {I:List (List AV)→α→Prop} {hl : α→List (Nat×Blk)} {pre:List (List AV)} {n:Nat} {t:TM} {s':St} {R:Out→St→Prop}:Ms I hl pre n t R .ret s'=R .ret ⟨n,t,s'.H⟩:=rfl
theorem AFI {α:Type} {I:List (List AV)→α→Prop} {hl : α→List (Nat×Blk)} {pre:List (List AV)} {n:Nat} {t:TM} {s':St} {R:Out→St→Prop} (y : α) (h1:I pre y) (h2:AZ s'.H (hl y)):Ms I hl pre n t R .normal s':=⟨y,h1,h2⟩
theorem AA2 {α:Type} {Q:Out→St→Prop} {k:List Item} {g:Opd} {ps:List Nat} {asg body:ACode} {s:St} {f:FuncId} {caps:List AV} {bl:List (Nat×Blk)} {xs:List (List AV)} (tl:List (Nat×AV)) (I:List (List AV)→α→Prop) (hp : α→Heap) (hl : α→List (Nat×Blk))
  (hit:L6 P f caps bl xs) (hg:ev s.t g = .fn f caps) (hs:KO asg=true) (hx:∀x∈xs,x.length=ps.length) (ht:AJ s.t tl) (hA:∀pre y,I pre y→∀p∈bl,p∈hl y) (hle:∀H y,AZ H (hl y)→∀k,hp y k=none∨hp y k=H k) (y0 : α) (h0:I [] y0) (h1:AZ s.H (hl y0))
  (round:∀pre x post y,xs=pre++x::post→I pre y→Fs P (Ms I hl (pre++[x]) s.n s.t (FU P Q k)) (.seq asg body) [] ⟨s.n,IQ s.n (Fq tl) ps x,hp y⟩)
  (done:∀y,I xs y→FU P Q k .normal ⟨s.n,s.t,hp y⟩):PT P Q g ps asg body k s:=by
 refine AUA tl I hp hl hit hg hs hx ht hA hle ⟨y0,h0,h1⟩ (fun pre x post y h1 h2=>?_) done
 have h:=PA (round pre x post y h1 h2)
 refine cast (congrArg (GK P _ _) ?_) h
 funext o s'; cases o <;> rfl
theorem APf {Q:Out→St→Prop} {y:Nat} {args:List AV} {d:Option Nat} {l:List AO} {k:List Item} {s:St} {K:AV→Heap→Prop} (h:L1 P y args s.H K) (hk:∀r H',K r H'→AS P Q l k (AH s d r H')):PB P Q y args d l k s:=by
 intro F w vs hh hv
 obtain ⟨fn,tmps,asg,body,h1,h2⟩:=h F w vs hh hv
 exact ⟨fn,tmps,asg,body,h1,h2.mono fun e w' ⟨r,H',F',v,g1,g2,g3,g4,g5⟩=>⟨r,H',F',v,g1,g2,g3,g4,hk _ _ g5⟩⟩
end
def FM (P:Program):Nat→TypeId→List D→Prop
 | 0,_,_=>False
 | n+1,t,l=>match P.underlying t with
  | some .bool=>∃b,l=[.bool b]
  | some (.int k)=>∃z,l=[.int k z]∧(Lit.int k z).wf=true
  | some .string=>∃s,l=[.str s]∧s.size≤maxLen
  | some (.slice e)=>∃xs,l=[.sl (P.cellsOf e) xs]∧xs.length≤maxLen∧∀el∈xs,FM P n e el
  | some (.struct fs)=>∃ls:List (List D),l=ls.flatten∧ls.length=fs.size∧∀(j:Nat) f x,fs[j]? = some f→ls[j]? = some x→FM P n f.type x
  | _=>False
def Mf (P:Program):Nat→List Field→Nat→Bool
 | o,[],e=>o == e
 | o,f::r,e=>f.offset == o&&Mf P (o+P.cellsOf f.type) r e
def LM (P:Program):Nat→TypeId→Bool
 | 0,_=>false
 | n+1,t=>match P.underlying t with
  | some .bool | some (.int _) | some .string=>P.cellsOf t == 1
  | some (.slice e)=>LM P n e&&P.cellsOf e != 0&&P.cellsOf t == 1
  | some (.struct fs)=>Mf P 0 fs.toList (P.cellsOf t)&&fs.toList.all fun f=>LM P n f.type
  | _=>false
section
variable {P:Program} {H:Type} {enc:TypeId×Value→H} {w:World} {sp:Nat→Bool} {held:Bool}
theorem R0 {F:Nat→Prop}:∀{fs:List Field} {o:Nat} {cs:List Value} {ls:List (List D)},Mf P o fs cs.length=true→ls.length=fs.length →
  (∀(j:Nat) f x,fs[j]? = some f→ls[j]? = some x→x.length=((cs.drop f.offset).take (P.cellsOf f.type)).length∧((cs.drop f.offset).take (P.cellsOf f.type)).length=P.cellsOf f.type ∧
   ∀(i:Nat) c u,x[i]? = some c→((cs.drop f.offset).take (P.cellsOf f.type))[i]? = some u→RD F w c u) →
  ls.flatten.length=(cs.drop o).length∧∀(i:Nat) c u,ls.flatten[i]? = some c→(cs.drop o)[i]? = some u→RD F w c u
 | [],o,cs,ls,ht,hl,h=>by
  simp only [Mf,beq_iff_eq] at ht
  cases ls with
  | nil=>exact ⟨by simp [ht],fun i c u h=>by simp at h⟩
  | cons x r=>simp at hl
 | f::fs,o,cs,ls,ht,hl,h=>by
  simp only [Mf,Bool.and_eq_true,beq_iff_eq] at ht
  cases ls with
  | nil=>simp at hl
  | cons x r =>
   obtain ⟨h1,h2⟩:=R0 (F:=F) (ls:=r) ht.2 (by simpa using hl) fun j f' x' hf hx=>h (j+1) f' x' (by simpa using hf) (by simpa using hx)
   obtain ⟨g1,g2,g3⟩:=h 0 f x rfl rfl
   rw [ht.1] at g1 g2 g3
   rw [g2] at g1
   have hlt:o+P.cellsOf f.type≤cs.length∨P.cellsOf f.type=0:=by
    simp only [List.length_take,List.length_drop] at g2
    omega
   simp only [List.length_drop] at h1
   refine ⟨?_,fun i c u hc hu=>?_⟩
   ·simp only [List.flatten_cons,List.length_append,List.length_drop,g1,h1]
    omega
   ·simp only [List.flatten_cons] at hc
    by_cases hi:i<x.length
    ·rw [List.getElem?_append_left hi] at hc
     refine g3 i c u hc ?_
     rw [List.getElem?_take_of_lt (by omega)]
     exact hu
    ·rw [List.getElem?_append_right (by omega)] at hc
     refine h2 (i-x.length) c u hc ?_
     rw [List.getElem?_drop] at hu ⊢
     rw [←hu]
     congr 1
     omega
theorem AMw {a:Addr} {v:Value} (h:w.cell? a=some v):a.block<w.heap.size∧a.spot=none:=by
 unfold World.cell? at h
 split at h
 ·next e =>
  refine ⟨(Array.getElem?_eq_some_iff.1 e).1,?_⟩
  split at h
  ·cases h
  ·next hs=>simpa using hs
 ·cases h
theorem P0:∀(n:Nat) (fuel:Nat) (t:TypeId) (cs:List Value) (x:_root_.Go.DataW H×List MemPlace),LM P n t=true→_root_.Go.DataW.trod enc P w 0 sp held fuel t cs=some x →
  ∃l,FM P n t l∧l.length=cs.length∧cs.length=P.cellsOf t∧∀(j:Nat) c u,l[j]? = some c→cs[j]? = some u→RD (fun b=>b<w.heap.size) w c u
 | 0,fuel,t,cs,x,hr,h=>by cases hr
 | n+1,fuel,t,cs,x,hr,h=>by
  unfold LM at hr
  unfold FM
  have one:∀(d:D) (v:Value),P.cellsOf t=1→cs=[v]→RD (fun b=>b<w.heap.size) w d v→([d]:List D).length=cs.length∧cs.length=P.cellsOf t∧∀(j:Nat) c u,[d][j]? = some c→cs[j]? = some u→RD (fun b=>b<w.heap.size) w c u:=fun d v hlen e hd=>by
   refine ⟨by rw [e]; rfl,by rw [e,hlen]; rfl,fun j c u h1 h2=>?_⟩
   rw [e] at h2
   cases j with
   | zero=>simp at h1 h2; subst h1; subst h2; exact hd
   | succ j=>simp at h1
  split at hr
  ·next hu =>
   obtain ⟨b,hcs,hx⟩:=_root_.Go.DataW.trod_bool hu h
   try rw [hu]
   exact ⟨[.bool b],⟨b,rfl⟩,one _ _ (by simpa using hr) hcs (.bool b)⟩
  ·next k hu =>
   obtain ⟨z,hcs,hx,hw⟩:=_root_.Go.DataW.trod_int hu h
   try rw [hu]
   exact ⟨[.int k z],⟨z,rfl,hw⟩,one _ _ (by simpa using hr) hcs (.int k z)⟩
  ·next hu =>
   obtain ⟨s,hcs,hx,hw⟩:=_root_.Go.DataW.trod_string hu h
   try rw [hu]
   exact ⟨[.str s],⟨s,rfl,hw⟩,one _ _ (by simpa using hr) hcs (.str s)⟩
  ·next e hu =>
   simp only [Bool.and_eq_true,bne_iff_ne,ne_eq,beq_iff_eq] at hr
   try rw [hu]
   rcases _root_.Go.DataW.trod_slice hu h with ⟨hcs,hx⟩ | ⟨a,len,cap,elems,rest,m,_,hcs,hx,hb,hl,hm,hel,hat,hsp,hns⟩
   ·exact ⟨[.sl (P.cellsOf e) []],⟨[],rfl,by simp,by simp⟩,one _ _ hr.2 hcs (.nil _ _ _)⟩
   ·-- each element's cells,and what they read as
    have each:∀i,i<len→∃(us:List Value) (l:List D),us.length=P.cellsOf e∧l.length=P.cellsOf e∧FM P n e l∧(∀j u,us[j]? = some u→w.cell? ((a.add (i*P.cellsOf e)).add j)=some u) ∧
      ∀(j:Nat) c u,l[j]? = some c→us[j]? = some u→RD (fun b=>b<w.heap.size) w c u:=fun i hi=>by
     have h1:=hat i hi
     rw [List.getElem?_eq_getElem (by omega)] at h1
     rw [Option.bind_eq_some_iff] at h1
     obtain ⟨us,h2,h3⟩:=h1
     obtain ⟨l,g1,g2,g3,g4⟩:=P0 n m e us _ hr.1.1 h3
     refine ⟨us,l,g3,by omega,g1,fun j u hj=>?_,g4⟩
     have hjl:=(List.getElem?_eq_some_iff.1 hj).1
     obtain ⟨k1,k2,k3⟩:=World.cells?_some h2
     have:=k3 j (by omega)
     rw [this]
     exact hj
    have hch:∃f:Nat→List Value×List D,∀i,i<len→(f i).1.length=P.cellsOf e∧(f i).2.length=P.cellsOf e∧FM P n e (f i).2∧(∀j u,(f i).1[j]? = some u→w.cell? ((a.add (i*P.cellsOf e)).add j)=some u) ∧
      ∀(j:Nat) c u,(f i).2[j]? = some c→(f i).1[j]? = some u→RD (fun b=>b<w.heap.size) w c u:=by
     refine ⟨fun i=>if hi:i<len then (⟨(each i hi).choose,(each i hi).choose_spec.choose⟩:List Value×List D) else ([],[]),fun i hi=>?_⟩
     simp only [hi,dif_pos]
     exact (each i hi).choose_spec.choose_spec
    obtain ⟨f,hf⟩:=hch
    refine ⟨[.sl (P.cellsOf e) ((List.range len).map fun i=>(f i).2)],⟨_,rfl,by simp; omega,fun el hmem=>?_⟩,one _ _ hr.2 hcs ?_⟩
    ·obtain ⟨i,hi,rfl⟩:=List.mem_map.1 hmem
     exact (hf i (by simpa using hi)).2.2.1
    ·by_cases h0:len=0
     ·subst h0
      exact .nil _ _ _
     ·obtain ⟨z1,z2,z3,z4,z5⟩:=hf 0 (by omega)
      have hz:∃u,(f 0).1[0]? = some u:=⟨_,List.getElem?_eq_getElem (by omega)⟩
      obtain ⟨u0,hu0⟩:=hz
      have hbl:=AMw (z4 0 u0 hu0)
      rw [Nat.zero_mul,show ∀x:Addr,x.add 0=x from fun x=>rfl,show ∀x:Addr,x.add 0=x from fun x=>rfl] at hbl
      have ha:a=⟨a.block,a.off,none⟩:=by
       obtain ⟨ab,ao,as⟩:=a
       have:=hbl.2
       simp only at this
       rw [this]
      have hblk:a.block<w.heap.size:=hbl.1
      have hpos:0<P.cellsOf e:=by omega
      have key:=RD.sl (F:=fun b=>b<w.heap.size) (w:=w) (P.cellsOf e) ((List.range len).map fun i=>(f i).2) a.block a.off cap (fun k=>(f (k / P.cellsOf e)).1.getD (k % P.cellsOf e) Go.undef) hblk (by simp; omega)
       (fun el hmem=>by obtain ⟨i,hi,rfl⟩:=List.mem_map.1 hmem; exact (hf i (by simpa using hi)).2.1)
       (fun i j el c hi hj=>by
        simp only [List.getElem?_map,Option.map_eq_some_iff] at hi
        obtain ⟨i',hi',rfl⟩:=hi
        have hlt:i<len:=by
         have:=(List.getElem?_eq_some_iff.1 hi').1
         simpa using this
        have:i'=i:=by
         rw [List.getElem?_range hlt] at hi'
         exact (Option.some.inj hi').symm
        subst this
        obtain ⟨y1,y2,y3,y4,y5⟩:=hf i' hlt
        have hjl:j<P.cellsOf e:=by rw [←y2]; exact (List.getElem?_eq_some_iff.1 hj).1
        have e1:(i'*P.cellsOf e+j) / P.cellsOf e=i':=by
         rw [Nat.mul_comm,Nat.mul_add_div hpos,Nat.div_eq_of_lt hjl,Nat.add_zero]
        have e2:(i'*P.cellsOf e+j) % P.cellsOf e=j:=by
         rw [Nat.mul_comm,Nat.mul_add_mod,Nat.mod_eq_of_lt hjl]
        have hu:(f i').1[j]? = some ((f i').1.getD j Go.undef):=by
         rw [List.getD_eq_getElem?_getD,List.getElem?_eq_getElem (by omega)]
         rfl
        have:=y4 j _ hu
        rw [ha] at this
        rw [HN,HN] at this
        simp only [e1,e2]
        rw [←this,Nat.add_assoc])
       (fun i j el c hi hj=>by
        simp only [List.getElem?_map,Option.map_eq_some_iff] at hi
        obtain ⟨i',hi',rfl⟩:=hi
        have hlt:i<len:=by
         have:=(List.getElem?_eq_some_iff.1 hi').1
         simpa using this
        have:i'=i:=by
         rw [List.getElem?_range hlt] at hi'
         exact (Option.some.inj hi').symm
        subst this
        obtain ⟨y1,y2,y3,y4,y5⟩:=hf i' hlt
        have hjl:j<P.cellsOf e:=by rw [←y2]; exact (List.getElem?_eq_some_iff.1 hj).1
        have e1:(i'*P.cellsOf e+j) / P.cellsOf e=i':=by
         rw [Nat.mul_comm,Nat.mul_add_div hpos,Nat.div_eq_of_lt hjl,Nat.add_zero]
        have e2:(i'*P.cellsOf e+j) % P.cellsOf e=j:=by
         rw [Nat.mul_comm,Nat.mul_add_mod,Nat.mod_eq_of_lt hjl]
        simp only [e1,e2]
        refine y5 j c _ hj ?_
        rw [List.getD_eq_getElem?_getD,List.getElem?_eq_getElem (by omega)]
        rfl)
      rw [←ha] at key
      simpa using key
  ·next fs hu =>
   simp only [Bool.and_eq_true,List.all_eq_true] at hr
   try rw [hu]
   obtain ⟨xs,m,_,hx,hl,hxl,hf⟩:=_root_.Go.DataW.trod_struct hu h
   have each:∀j,j<fs.size→∃l f,fs[j]? = some f∧FM P n f.type l∧l.length=((cs.drop f.offset).take (P.cellsOf f.type)).length∧((cs.drop f.offset).take (P.cellsOf f.type)).length=P.cellsOf f.type ∧
     ∀(i:Nat) c u,l[i]? = some c→((cs.drop f.offset).take (P.cellsOf f.type))[i]? = some u→RD (fun b=>b<w.heap.size) w c u:=fun j hj=>by
    obtain ⟨f,hfj⟩:∃f,fs[j]? = some f:=⟨_,Array.getElem?_eq_getElem hj⟩
    have h1:=hf j f hfj
    rw [List.getElem?_eq_getElem (by omega)] at h1
    obtain ⟨l,g1,g2,g3,g4⟩:=P0 n m f.type _ _ (hr.2 f (by simpa using Array.mem_of_getElem? hfj)) h1
    exact ⟨l,f,hfj,g1,g2,g3,g4⟩
   have hch:∃g:Nat→List D,∀j f,fs[j]? = some f→FM P n f.type (g j)∧(g j).length=((cs.drop f.offset).take (P.cellsOf f.type)).length∧((cs.drop f.offset).take (P.cellsOf f.type)).length=P.cellsOf f.type ∧
     ∀(i:Nat) c u,(g j)[i]? = some c→((cs.drop f.offset).take (P.cellsOf f.type))[i]? = some u→RD (fun b=>b<w.heap.size) w c u:=by
    refine ⟨fun j=>if hj:j<fs.size then (each j hj).choose else [],fun j f hj=>?_⟩
    have hlt:j<fs.size:=(Array.getElem?_eq_some_iff.1 hj).1
    simp only [hlt,dif_pos]
    obtain ⟨f',h1,h2⟩:=(each j hlt).choose_spec
    rw [hj] at h1; cases h1
    exact h2
   obtain ⟨g,hg⟩:=hch
   have hget:∀(j:Nat) x,((List.range fs.size).map g)[j]? = some x→x=g j:=fun j x hx=>by
    simp only [List.getElem?_map,Option.map_eq_some_iff] at hx
    obtain ⟨i',hi',rfl⟩:=hx
    have hlt:j<fs.size:=by
     have:=(List.getElem?_eq_some_iff.1 hi').1
     simpa using this
    rw [List.getElem?_range hlt] at hi'
    cases hi'
    rfl
   obtain ⟨k1,k2⟩:=R0 (P:=P) (F:=fun b=>b<w.heap.size) (w:=w) (fs:=fs.toList) (o:=0) (cs:=cs) (ls:=(List.range fs.size).map g) (by rw [hl]; exact hr.1) (by simp) fun j f x hj hx=>by
    rw [hget j x hx]
    exact (hg j f (by simpa using hj)).2
   refine ⟨((List.range fs.size).map g).flatten,⟨_,rfl,by simp,fun j f x hj hx=>?_⟩,by simpa using k1,hl,fun j c u h1 h2=>k2 j c u h1 (by simpa using h2)⟩
   rw [hget j x hx]
   exact (hg j f hj).1
  ·cases hr
def MT:List D→AV
 | [x]=>.d x
 | _=>.undef
def Hx (P:Program) (t:TypeId) (l:List D):AV :=
 match P.underlying t with
 | some (.struct _)=>.agg (mapD l)
 | _=>MT l
theorem AGi {n:Nat} {t:TypeId} {v:Value} {d:_root_.Go.DataW H} {ps:List MemPlace} (hr:LM P n t=true) (hv:Value.okWide P w .any 0 t v) (h:_root_.Go.DataW.Trod enc P w 0 sp held t v d ps) :
  ∃l,FM P n t l∧VR P (fun b=>b<w.heap.size) w (Hx P t l) v:=by
 obtain ⟨fuel,h⟩:=h
 obtain ⟨l,h1,h2,h3,h4⟩:=P0 n fuel t _ _ hr h
 refine ⟨l,h1,?_⟩
 cases n with
 | zero=>cases hr
 | succ n =>
  unfold LM at hr
  unfold Value.okWide at hv
  unfold FM at h1
  unfold Hx
  have one:∀d:D,(∀cs,v≠.agg cs)→l=[d]→VR P (fun b=>b<w.heap.size) w (MT l) v:=fun d hv hl=>by
   subst hl
   have e:v.cells = #[v]:=by cases v <;> first | rfl | exact absurd rfl (hv _)
   rw [e] at h4
   exact .d _ _ (h4 0 d v rfl rfl)
  split at hr
  ·next hu =>
   try rw [hu] at hv
   try rw [hu] at h1
   try rw [hu]
   obtain ⟨b,hl⟩:=h1
   exact one _ (fun cs e=>by subst e; simp [Cell.okWide,Cell.ok,hu] at hv) hl
  ·next k hu =>
   try rw [hu] at hv
   try rw [hu] at h1
   try rw [hu]
   obtain ⟨b,hl,_⟩:=h1
   exact one _ (fun cs e=>by subst e; simp [Cell.okWide,Cell.ok,hu] at hv) hl
  ·next hu =>
   try rw [hu] at hv
   try rw [hu] at h1
   try rw [hu]
   obtain ⟨b,hl,_⟩:=h1
   exact one _ (fun cs e=>by subst e; simp [Cell.okWide,Cell.ok,hu] at hv) hl
  ·next e hu =>
   try rw [hu] at hv
   try rw [hu] at h1
   try rw [hu]
   obtain ⟨b,hl,_⟩:=h1
   exact one _ (fun cs e=>by subst e; simp [Cell.okWide,Cell.ok,hu] at hv) hl
  ·next fs hu =>
   try rw [hu] at hv
   try rw [hu]
   obtain ⟨cs,rfl,hsz,_⟩:=hv
   obtain ⟨cs⟩:=cs
   dsimp only
   have:(Value.agg ⟨cs⟩).cells.toList=cs:=rfl
   rw [this] at h2 h3 h4
   have hvr:=VRL.mapD (P:=P) (F:=fun b=>b<w.heap.size) (w:=w) (el:=l) (us:=cs) h2 h4
   refine .agg _ cs hvr.1 hvr.2 fun u hu=>?_
   obtain ⟨j,hj⟩:=List.getElem?_of_mem hu
   have hlt:=(List.getElem?_eq_some_iff.1 hj).1
   exact (h4 j _ u (List.getElem?_eq_getElem (by omega)) hj).one
  ·cases hr
def TypedL (P:Program) (n:Nat):List TypeId→List (List D)→Prop
 | [],[]=>True
 | t::ts,l::ls=>FM P n t l∧TypedL P n ts ls
 | _,_=>False
def argsAV (P:Program):List TypeId→List (List D)→List AV
 | t::ts,l::ls=>Hx P t l::argsAV P ts ls
 | _,_=>[]
def PH (P:Program) (n:Nat) (t:TypeId):Bool:=LM P n t&&P.readableRec t&&decide (t<P.types.size)
theorem Ud {n:Nat} (hl:laidOutB P=true):∀{ts:List TypeId} {vs:List Value} {ds:List (_root_.Go.DataW H)} {ps:List MemPlace},ts.all (PH P n)=true→(∀(j:Nat) t v,ts[j]? = some t→vs[j]? = some v→Value.okWide P w .any 0 t v) →
  _root_.Go.DataW.TrodAll enc P w 0 (fun _=>true) true ts vs ds ps →
  (∃ls,TypedL P n ts ls∧VRL P (fun b=>b<w.heap.size) w (argsAV P ts ls) vs)∧∀w',Below w.heap.size w w'→∃pa,_root_.Go.DataW.TrodAll enc P w' 0 (fun b=>decide (b<w.heap.size)) true ts vs ds pa
 | [],vs,ds,ps,hp,hv,h=>by
  obtain ⟨rfl,rfl,rfl⟩:=trodAll_nil h
  exact ⟨⟨[],trivial,.nil⟩,fun w' _=>⟨[],rfl⟩⟩
 | t::ts,vs,ds,ps,hp,hv,h=>by
  obtain ⟨v0,vs0,d0,ds0,p0,q0,rfl,rfl,rfl,h0,r0⟩:=trodAll_cons h
  simp only [List.all_cons,Bool.and_eq_true] at hp
  obtain ⟨⟨ls,h1,h2⟩,h3⟩:=Ud hl hp.2 (fun j t v h1 h2=>hv (j+1) t v (by simpa using h1) (by simpa using h2)) r0
  have hp1:=hp.1
  simp only [PH,Bool.and_eq_true,decide_eq_true_eq] at hp1
  obtain ⟨l,g1,g2⟩:=AGi hp1.1.1 (hv 0 t v0 rfl rfl) h0
  refine ⟨⟨l::ls,⟨g1,h1⟩,.cons g2 h2⟩,fun w' hb=>?_⟩
  obtain ⟨pa,h4⟩:=h3 w' hb
  obtain ⟨fuel,h0'⟩:=h0
  exact ⟨_,trodAll_cons_mk (Below.trod hl hp1.1.2 hp1.2 ⟨fuel,h0'⟩ hb fun x hx=>_root_.Go.DataW.trod_lt _ _ _ _ h0' x hx) h4⟩
theorem Step.below {F F':Nat→Prop} {H':Heap} {w':World} (h:Step F Heap.none w F' H' w'):Below w.heap.size w w' :=
 ⟨h.os,h.tape,h.output,h.size,fun k hk=>h.keep k hk rfl⟩
theorem law_calls {fid:FuncId} {f:Func} {s:ChangeSpec} {args:Array Value} {ds gs:List (_root_.Go.DataW H)} {before:List MemPlace} {n:Nat} {tb:TypeId} (hvars:s.vars=[]) (hres:f.resultTypes = #[tb]) (htb:P.underlying tb=some .bool)
  (hspec:∀ds:List (_root_.Go.DataW H),ds.length=f.params.size→s.fn H ds={ results:=[.lit (.bool true)],args:=ds }) (hl:laidOutB P=true) (hok:f.params.toList.all (PH P n)=true)
  (hval:∀(j:Nat) t v,f.params[j]? = some t→args[j]? = some v→Value.okWide P w .any 0 t v)
  (hW:_root_.Go.DataW.Whole enc P f.params.toList s.vars false w args.toList ds gs before)
  (hlaw:∀ls,TypedL P n f.params.toList ls→CallW P fid (argsAV P f.params.toList ls) Heap.none fun r _=>r = .d (.bool true)) :
  Calls P fid args w fun e W'=>∃v,e = .returned v∧s.post enc P f false true false false w args v W':=by
 have hW':=hW
 obtain ⟨p,q,hA,hV,rfl,hfz,hnd⟩:=hW
 rw [hvars] at hV
 obtain ⟨rfl,rfl⟩:=trodVars_none hV
 obtain ⟨⟨ls,h1,h2⟩,h3⟩:=Ud hl hok (fun j t v g1 g2=>hval j t v (by simpa using g1) (by simpa using g2)) hA
 have hlen:ds.length=f.params.size:=by
  have:=(_root_.Go.trodAll_length hA).2
  simpa using this
 refine (hlaw ls h1 _ w args.toList ⟨fun b x hb=>(by cases hb),fun b x hb=>(by cases hb),fun b hb=>hb⟩ h2).mono fun e W' hh=>?_
 obtain ⟨r,H',F',v,rfl,hv,_,hst,rfl⟩:=hh
 cases hv; next hv =>
 cases hv
 obtain ⟨pa,h4⟩:=h3 W' hst.below
 have hs:=hspec ds hlen
 refine ⟨_,rfl,ds,[],p++[],[],pa,[],hW',?_,?_,?_,hst.below.frame _,fun h=>by cases h⟩
 ·rw [List.append_nil,hs,hres]
  exact trodAll_mk1 (shut_bool htb _)
 ·rw [List.append_nil,hs]
  exact h4
 ·rw [List.append_nil,hs,hvars]
  rfl
end
abbrev i64 (n:Int):AV:=.d (.int .i64 n)
abbrev u64 (n:Int):AV:=.d (.int .u64 n)
abbrev bv (b:Bool):AV:=.d (.bool b)
def Fit (n:Int):Prop:=-9223372036854775808≤n∧n≤9223372036854775807
instance (n:Int):Decidable (Fit n):=by unfold Fit; exact inferInstance
theorem AQZ {n:Int} (h:(Lit.int .i64 n).wf=true):Fit n:=by
 simp only [Lit.wf,Bool.and_eq_true,decide_eq_true_eq,IntKind.min,IntKind.max,IntKind.signed,IntKind.bits] at h
 unfold Fit
 constructor
 ·have:=h.1; simp at this; omega
 ·have:=h.2; simp at this; omega
theorem ACE {n:Int} (h:Fit n):IntKind.i64.wrap n=n:=by rw [IntKind.wrap_i64]; unfold Fit at h; omega
theorem Nm {n:Int} (h:0≤n∧n≤18446744073709551615):IntKind.u64.wrap n=n:=by rw [IntKind.wrap_u64]; omega
theorem Cs {n:Nat} {t:TM} {H:Heap}:(St.mk n t H).n=n:=(rfl)
theorem C9 {n:Nat} {t:TM} {H:Heap}:(St.mk n t H).t=t:=(rfl)
theorem Bb {n:Nat} {t:TM} {H:Heap}:(St.mk n t H).H=H:=(rfl)
theorem Bd {n:Nat} {r:List ARes} {b:ACode}:(AFunc.mk n r b).n=n:=(rfl)
theorem Dh {n:Nat} {r:List ARes} {b:ACode}:(AFunc.mk n r b).results=r:=(rfl)
theorem DC {n:Nat} {r:List ARes} {b:ACode}:(AFunc.mk n r b).body=b:=(rfl)
theorem Al {α β:Type} {a : α} {b : β}:(Prod.mk a b).fst=a:=(rfl)
theorem Ax {α β:Type} {a : α} {b : β}:(Prod.mk a b).snd=b:=(rfl)
theorem Cx {i:Nat} {v:AV} {l:List (Nat×AV)} {n:Nat}:Fq ((i,v)::l) n=bif i == n then v else Fq l n:=rfl
theorem DZ {n:Nat}:Fq [] n = .undef:=rfl
def Pr (g:Option Nat) (x:Option Blk) (off:Nat) (K:AV→Prop):Prop:=match x with
 | some (.box _ cells)=>match g with
  | none=>VC (off<Ae cells) (K (nth cells off))
  | some n=>VC (off+n≤Ae cells) (K (.agg (seg cells off n)))
 | _=>False
theorem CT {g:Option Nat} {b off:Nat} {H:Heap} {K:AV→Prop}:Fx g (.ptr b off) H K=Pr g (H b) off K:=rfl
theorem Ds {t:TypeId} {cells:List AV} {off:Nat} {K:AV→Prop}:Pr none (some (.box t cells)) off K=VC (off<Ae cells) (K (nth cells off)):=rfl
theorem CZ {n:Nat} {t:TypeId} {cells:List AV} {off:Nat} {K:AV→Prop}:Pr (some n) (some (.box t cells)) off K=VC (off+n≤Ae cells) (K (.agg (seg cells off n))):=rfl
def AQ3 (j:IntKind) (a b:Int):Int:=j.wrap (BitVec.ofInt j.bits a &&& BitVec.ofInt j.bits b).toNat
def MC (j:IntKind) (a b:Int):Int:=j.wrap (BitVec.ofInt j.bits a ||| BitVec.ofInt j.bits b).toNat
def AA7 (j:IntKind) (a b:Int):Int:=j.wrap (BitVec.ofInt j.bits a ^^^ BitVec.ofInt j.bits b).toNat
def P1 (P:Program) (Q:Out→St→Prop) (g:Option Nat) (p:AV) (d:Option Nat) (l:List AO) (k:List Item) (s:St):Prop:=match p with
 | .ptr b off=>Ib P Q g (.ptr b off) d l k s
 | _=>False
section
variable {P:Program} {Q:Out→St→Prop} {k:List Item} {s:St} {d:Option Nat} {l:List AO}
theorem Cu {j:IntKind} {a b:Int}:FE P Q .and (.d (.int j a)) (.d (.int j b)) d l k s=AS P Q l k (AH s d (.d (.int j (AQ3 j a b))) s.H):=ABh
theorem Cm {j:IntKind} {a b:Int}:FE P Q .or (.d (.int j a)) (.d (.int j b)) d l k s=AS P Q l k (AH s d (.d (.int j (MC j a b))) s.H):=ATN
theorem DS {j:IntKind} {a b:Int}:FE P Q .xor (.d (.int j a)) (.d (.int j b)) d l k s=AS P Q l k (AH s d (.d (.int j (AA7 j a b))) s.H):=AAu
theorem FG {c w:Bool} {op:AOp} (h1:c=true→IG P Q (.d (.bool c)) w d op l k s) (h2:c=false→IG P Q (.d (.bool c)) w d op l k s):IG P Q (.d (.bool c)) w d op l k s:=by
 cases hc:c
 ·exact hc▸h2 hc
 ·exact hc▸h1 hc
theorem FI {c:Bool} {a b:ACode} (h1:c=true→J2 P Q (.d (.bool c)) a b k s) (h2:c=false→J2 P Q (.d (.bool c)) a b k s):J2 P Q (.d (.bool c)) a b k s:=by
 cases hc:c
 ·exact hc▸h2 hc
 ·exact hc▸h1 hc
theorem FJ {c:Bool} {x y:AV} (h1:c=true→KC P Q (.d (.bool c)) x y d l k s) (h2:c=false→KC P Q (.d (.bool c)) x y d l k s):KC P Q (.d (.bool c)) x y d l k s:=by
 cases hc:c
 ·exact hc▸h2 hc
 ·exact hc▸h1 hc
theorem Ak {p X:Prop} (h1:p) (h2:p→X):VC p X:=⟨h1,h2 h1⟩
theorem AL {f:FuncId} {args:List AV} {r:AV} (h:DataW P f args r) (hk:AS P Q l k (AH s d r s.H)):KX P Q f args d l k s :=
 QC h (LendL.refl _) hk
theorem QS {f:FuncId} {args args':List AV} {r:AV} (h:DataW P f args' r) (hl:LendL s.H args args') (hs:KH r=true) (hk:AS P Q l k (AH s d r s.H)):KX P Q f args d l k s :=
 TA h hl hs hk
theorem Eu {f:FuncId} {args:List AV} {r:AV} (h:DataW P f args r) (hk:AS P Q l k (AH s d r s.H)):M5 P Q f args d l k s :=
 ⟨args,r,LendL.refl _,.inr (.inl (LendL.refl _)),h,hk⟩
theorem MN {f:FuncId} {args args':List AV} {r:AV} (h:NewW P f args' r) (hl:LendL s.H args args') (hk:AS P Q l k (AH s d r s.H)):KX P Q f args d l k s :=
 Un h hl hk
theorem Fm {f:FuncId} {args:List AV} {K:AV→Heap→Prop} (h:CallW P f args s.H K) (hk:∀r H',K r H'→AS P Q l k (AH s d r H')):KX P Q f args d l k s :=
 CallW.mono h hk
theorem Cp {H:Heap} {b:Nat} {x y:Option Blk}:upd (upd H b x) b y=upd H b y:=by
 funext k; simp only [AQ]; split <;> rfl
def LK (x:Blk) (sz len:Nat) (d:Option Nat) (l:List AO) (k:List Item) (s:St) (P:Program) (Q:Out→St→Prop):Prop:=∀b,s.H b=none→AS P Q l k (AH s d (.own b sz 0 len len) (upd s.H b (some x)))
def QB (c:Option (List AV)) (e:TypeId) (sz len:Nat) (d:Option Nat) (l:List AO) (k:List Item) (s:St) (P:Program) (Q:Out→St→Prop):Prop:=match c with
 | some cs=>Az s.H cs fun ds H'=>LK (.row e sz len (Ao sz len ds)) sz len d l k ⟨s.n,s.t,H'⟩ P Q
 | none=>False
theorem ASx {s:St} {H':Heap} {d:Option Nat} {v:AV} {H:Heap}:AH ⟨s.n,s.t,H'⟩ d v H=AH s d v H:=by cases d <;> rfl
theorem DT {e:TypeId} {sz len:Nat} {z:List AV} {ps:List (Nat×Opd)}:AS P Q (⟨d,none,.buildSlice e sz len z ps⟩::l) k s=QB (As (Au z len) (Aq s.t sz ps)) e sz len d l k s P Q:=by
 rw [G5]
 simp only [Aa,QB,LK,ASx]
 cases As (Au z len) (Aq s.t sz ps) <;> rfl
theorem CW {cs:List AV} {e:TypeId} {sz len:Nat}:QB (some cs) e sz len d l k s P Q=Az s.H cs fun ds H'=>LK (.row e sz len (Ao sz len ds)) sz len d l k ⟨s.n,s.t,H'⟩ P Q:=rfl
def NS (c:Option (List AV)) (e:TypeId) (sz len:Nat) (d:Option Nat) (l:List AO) (k:List Item) (s:St) (P:Program) (Q:Out→St→Prop):Prop:=(I1 s.H→(Ip sz len c).isSome=true) ∧
    ∀b,s.H b=none→∀xs,Ip sz len c=some xs→AS P Q l k (AH s d (.own b sz 0 len len) (upd s.H b (some (.row e sz len xs))))
theorem CS {e:TypeId} {sz len:Nat} {z:List AV} {ps:List (Nat×Opd)}:AS P Q (⟨d,none,.buildSliceD e sz len z ps⟩::l) k s=NS (As (Au z len) (Aq s.t sz ps)) e sz len d l k s P Q:=rfl
theorem AQa {cs:List AV} {e:TypeId} {sz len:Nat} {ds:List D} (h:FP cs=some ds):NS (some cs) e sz len d l k s P Q=LK (.row e sz len (Ao sz len ds)) sz len d l k s P Q:=by
 have e:Ip sz len (some cs)=some (Ao sz len ds):=by simp only [Ip,h]
 unfold NS LK
 rw [e]
 exact propext ⟨fun h b hb=>h.2 b hb _ rfl,fun h=>⟨fun _=>rfl,fun b hb xs hx=>by cases hx; exact h b hb⟩⟩
theorem EO {x:Blk} {sz len:Nat} (h:∀b,s.H b=none→AS P Q l k (AH s d (.own b sz 0 len len) (upd s.H b (some x)))):LK x sz len d l k s P Q:=h
def Mg (xs:List (List D)) (i:Nat) (g:Option Nat) (j:Nat) (d:Option Nat) (l:List AO) (k:List Item) (s:St) (P:Program) (Q:Out→St→Prop):Prop:=∃el,xs[i]? = some el∧(match g with
 | none=>VC (j<el.length) (AS P Q l k (AH s d (nth (mapD el) j) s.H))
 | some n=>VC (j+n≤el.length) (AS P Q l k (AH s d (.agg (seg (mapD el) j n)) s.H)))
def NR (g:Option Nat) (x:Option Blk) (sz i j:Nat) (d:Option Nat) (l:List AO) (k:List Item) (s:St) (P:Program) (Q:Out→St→Prop):Prop:=match x with
 | some (.row _ sz' _ xs)=>VC (sz=sz') (Mg xs i g j d l k s P Q)
 | _=>False
theorem Dx {g:Option Nat} {b sz i j:Nat}:Ib P Q g (.eptr b sz i j) d l k s=NR g (s.H b) sz i j d l k s P Q:=by
 simp only [Ib,Fx,NR,Mg,LD,VC]
 cases s.H b with
 | none=>rfl
 | some x =>
  cases x with
  | box t cells=>rfl
  | obj o ts us=>rfl
  | row t sz' cap xs =>
   dsimp only
   refine propext (and_congr_right fun _=>⟨fun ⟨_,el,h1,h2⟩=>⟨el,by simpa using h1,by cases g <;> exact h2⟩,fun ⟨el,h1,h2⟩=>⟨by omega,el,by simpa using h1,by cases g <;> exact h2⟩⟩)
theorem CD {g:Option Nat} {t:TypeId} {sz cap i j:Nat} {xs:List (List D)}:NR g (some (.row t sz cap xs)) sz i j d l k s P Q=Mg xs i g j d l k s P Q:=by simp [NR,VC]
theorem Ed {xs:List (List D)} {i j:Nat} (el:List D) (h:xs[i]? = some el) (hj:j<el.length) (hk:AS P Q l k (AH s d (nth (mapD el) j) s.H)):Mg xs i none j d l k s P Q:=⟨el,h,hj,hk⟩
theorem En {xs:List (List D)} {i j n:Nat} (el:List D) (h:xs[i]? = some el) (hj:j+n≤el.length) (hk:AS P Q l k (AH s d (.agg (seg (mapD el) j n)) s.H)):Mg xs i (some n) j d l k s P Q:=⟨el,h,hj,hk⟩
theorem Ag {xs:List (List D)} {i:Int} (el:List D) (h0:0≤i) (h:xs[i.toNat]? = some el) (hk:AS P Q l k (AH s d (.dptr el 0) s.H)):Pm P Q xs i d l k s:=⟨h0,el,h,hk⟩
def Gk (e:TypeId) (sz bytes:Nat) (z:List AV) (v x:AV) (d:Option Nat) (l:List AO) (k:List Item) (s:St) (P:Program) (Q:Out→St→Prop):Prop:=GN s.H x fun sz' ys=>(ys=[]∧z.length=sz∧match v with
 | .nilsl n=>AS P Q l k (AH s d (.nilsl n) s.H)
 | .own b n off len cap=>AS P Q l k (AH s d (.own b n off len cap) s.H)
 | _=>False)∨VC (sz'=sz∧ys≠[]∧z.length=sz) (
 match v with
 | .nilsl _=>VC (ys.length*bytes≤140737488355328∧ys.length≤maxLen) (∀b,s.H b=none→∀cap,AS P Q l k (AH s d (.own b sz 0 ys.length cap) (upd s.H b (some (.row e sz cap ys)))))
 | .own b sz'' off len cap=>match s.H b with
  | some (.row e' sz''' cap'' xs)=>VC (e'=e∧sz''=sz∧sz'''=sz∧off=0∧cap=cap''∧len=xs.length∧(xs.length+ys.length)*bytes≤140737488355328∧xs.length+ys.length≤maxLen)
    (∀b' cap',upd s.H b none b'=none→AS P Q l k (AH s d (.own b' sz 0 (len+ys.length) cap') (upd (upd s.H b none) b' (some (.row e sz cap' (xs++ys))))))
  | _=>False
 | .part b sz'' off len cap=>match s.H b with
  | some (.row e' sz''' cap'' xs)=>VC (e'=e∧sz''=sz∧sz'''=sz∧off=0∧(cap=0→len=0)∧cap<len+ys.length∧len≤xs.length∧(len+ys.length)*bytes≤140737488355328∧len+ys.length≤maxLen)
    (∀b' cap',upd s.H b none b'=none→AS P Q l k (AH s d (.own b' sz 0 (len+ys.length) cap') (upd (upd s.H b none) b' (some (.row e sz cap' (xs.take len++ys))))))
  | _=>False
 | _=>False)
theorem Br {e:TypeId} {sz bytes:Nat} {z:List AV} {v x:Opd}:AS P Q (⟨d,none,.append e sz bytes z v x⟩::l) k s=Gk e sz bytes z (ev s.t v) (ev s.t x) d l k s P Q:=rfl
theorem Oh {e t:TypeId} {sz bytes n c len capc capx:Nat} {z:List AV} {ys:List (List D)} (hx:s.H c=some (.row t sz capc ys)) (hlen:len=ys.length) (hne:ys≠[]) (hz:z.length=sz) (hb:ys.length*bytes≤140737488355328∧ys.length≤maxLen)
  (hk:∀b,s.H b=none→∀cap,AS P Q l k (AH s d (.own b sz 0 ys.length cap) (upd s.H b (some (.row e sz cap ys))))):Gk e sz bytes z (.nilsl n) (.own c sz 0 len capx) d l k s P Q:=by
 simp only [Gk,GN,hx]
 exact ⟨⟨trivial,trivial,hlen⟩,.inr ⟨⟨trivial,hne,hz⟩,hb,hk⟩⟩
theorem Li {e t:TypeId} {sz bytes b c len cap lenb capc capx:Nat} {z:List AV} {xs ys:List (List D)} (hb:s.H b=some (.row e sz cap xs)) (hx:s.H c=some (.row t sz capc ys)) (hlb:lenb=xs.length) (hlen:len=ys.length) (hne:ys≠[]) (hz:z.length=sz) (hbd:(xs.length+ys.length)*bytes≤140737488355328∧xs.length+ys.length≤maxLen)
  (hk:∀b' cap',upd s.H b none b'=none→AS P Q l k (AH s d (.own b' sz 0 (lenb+ys.length) cap') (upd (upd s.H b none) b' (some (.row e sz cap' (xs++ys)))))):Gk e sz bytes z (.own b sz 0 lenb cap) (.own c sz 0 len capx) d l k s P Q:=by
 simp only [Gk,GN,hx,hb]
 exact ⟨⟨trivial,trivial,hlen⟩,.inr ⟨⟨trivial,hne,hz⟩,⟨trivial,trivial,trivial,trivial,trivial,hlb,hbd⟩,hk⟩⟩
theorem ASj {e:TypeId} {sz sz' bytes b n off len cap:Nat} {z:List AV} (hz:z.length=sz) (hk:AS P Q l k (AH s d (.own b n off len cap) s.H)):Gk e sz bytes z (.own b n off len cap) (.d (.sl sz' [])) d l k s P Q:=by
 simp only [Gk,GN]
 exact .inl ⟨trivial,hz,hk⟩
theorem AQE {e:TypeId} {sz bytes b len cap lenb:Nat} {z:List AV} {xs ys:List (List D)} (hb:s.H b=some (.row e sz cap xs)) (hlb:lenb=xs.length) (hne:ys≠[]) (hz:z.length=sz) (hbd:(xs.length+ys.length)*bytes≤140737488355328∧xs.length+ys.length≤maxLen)
  (hk:∀b' cap',upd s.H b none b'=none→AS P Q l k (AH s d (.own b' sz 0 (lenb+ys.length) cap') (upd (upd s.H b none) b' (some (.row e sz cap' (xs++ys)))))):Gk e sz bytes z (.own b sz 0 lenb cap) (.d (.sl sz ys)) d l k s P Q:=by
 simp only [Gk,GN,hb]
 exact .inr ⟨⟨trivial,hne,hz⟩,⟨trivial,trivial,trivial,trivial,trivial,hlb,hbd⟩,hk⟩
theorem ACw {e:TypeId} {sz bytes b cap capb lenb:Nat} {z:List AV} {xs ys:List (List D)} {x:AV} (hx:∀K,GN s.H x K=K sz ys) (hb:s.H b=some (.row e sz capb xs)) (hle:lenb≤xs.length) (hc0:cap=0→lenb=0) (hne:ys≠[]) (hcap:cap<lenb+ys.length) (hz:z.length=sz) (hbd:(lenb+ys.length)*bytes≤140737488355328∧lenb+ys.length≤maxLen)
  (hk:∀b' cap',upd s.H b none b'=none→AS P Q l k (AH s d (.own b' sz 0 (lenb+ys.length) cap') (upd (upd s.H b none) b' (some (.row e sz cap' (xs.take lenb++ys)))))):Gk e sz bytes z (.part b sz 0 lenb cap) x d l k s P Q:=by
 unfold Gk
 rw [hx]
 simp only [hb]
 exact .inr ⟨⟨trivial,hne,hz⟩,⟨trivial,trivial,trivial,trivial,hc0,hcap,hle,hbd⟩,hk⟩
theorem Yn {H:Heap} {b sz cap cap' len:Nat} {t:TypeId} {xs:List (List D)} (h:H b=some (.row t sz cap' xs)) (hl:len=xs.length) (K:Nat→List (List D)→Prop):GN H (.own b sz 0 len cap) K=K sz xs:=by
 simp [GN,h,hl,VC]
theorem Vk {H:Heap} {b sz off len cap cap':Nat} {t:TypeId} {xs:List (List D)} (h:H b=some (.row t sz cap' xs)) (hl:off+len≤xs.length) (K:Nat→List (List D)→Prop):GN H (.part b sz off len cap) K=K sz ((xs.drop off).take len):=by
 simp [GN,h,hl,VC]
theorem Tm {e:TypeId} {sz bytes b cap lenb:Nat} {z:List AV} {xs ys:List (List D)} {x:AV} (hx:∀K,GN s.H x K=K sz ys) (hb:s.H b=some (.row e sz cap xs)) (hlb:lenb=xs.length) (hz:z.length=sz) (hbd:(xs.length+ys.length)*bytes≤140737488355328∧xs.length+ys.length≤maxLen)
  (h0:ys=[]→AS P Q l k (AH s d (.own b sz 0 lenb cap) s.H))
  (hk:ys≠[]→∀b' cap',upd s.H b none b'=none→AS P Q l k (AH s d (.own b' sz 0 (lenb+ys.length) cap') (upd (upd s.H b none) b' (some (.row e sz cap' (xs++ys)))))):Gk e sz bytes z (.own b sz 0 lenb cap) x d l k s P Q:=by
 unfold Gk
 rw [hx]
 simp only [hb]
 by_cases hne:ys=[]
 ·exact .inl ⟨hne,hz,h0 hne⟩
 ·exact .inr ⟨⟨trivial,hne,hz⟩,⟨trivial,trivial,trivial,trivial,trivial,hlb,hbd⟩,hk hne⟩
theorem WD {e:TypeId} {sz bytes n:Nat} {z:List AV} {ys:List (List D)} {x:AV} (hx:∀K,GN s.H x K=K sz ys) (hz:z.length=sz) (hbd:ys.length*bytes≤140737488355328∧ys.length≤maxLen)
  (h0:ys=[]→AS P Q l k (AH s d (.nilsl n) s.H))
  (hk:ys≠[]→∀b,s.H b=none→∀cap,AS P Q l k (AH s d (.own b sz 0 ys.length cap) (upd s.H b (some (.row e sz cap ys))))):Gk e sz bytes z (.nilsl n) x d l k s P Q:=by
 unfold Gk
 rw [hx]
 by_cases hne:ys=[]
 ·exact .inl ⟨hne,hz,h0 hne⟩
 ·exact .inr ⟨⟨(by trivial),hne,hz⟩,hbd,hk hne⟩
theorem AF {H:Heap} {j b:Nat} {x:Option Blk} (h:¬j=b):upd H j x b=H b:=by rw [AQ,if_neg h]
theorem AN {H:Heap} {b:Nat} {x:Option Blk}:upd H b x b=x:=by rw [AQ,if_pos rfl]
theorem AK {H:Heap} {b k:Nat} {x:Blk} (hb:H k=none) (h:H b=some x):¬k=b∧¬b=k:=by
 refine ⟨fun e=>?_,fun e=>?_⟩
 ·subst e; rw [hb] at h; cases h
 ·subst e; rw [hb] at h; cases h
theorem Kv {cs:List AV} {e:TypeId} {sz len:Nat} {ds:List D} (h:FP cs=some ds) (hk:∀b,s.H b=none→AS P Q l k (AH s d (.own b sz 0 len len) (upd s.H b (some (.row e sz len (Ao sz len ds)))))):NS (some cs) e sz len d l k s P Q:=by
 rw [AQa h]; exact hk
def KW (sz:Nat) (x:AV) (lo hi:Option (Option Int)) (d:Option Nat) (l:List AO) (k:List Item) (s:St) (P:Program) (Q:Out→St→Prop):Prop:=Jl sz x lo hi fun v=>AS P Q l k (AH s d v s.H)
theorem EE {sz:Nat} {x:Opd} {lo hi:Option Opd}:AS P Q (⟨d,none,.slice sz x lo hi⟩::l) k s=KW sz (ev s.t x) (E4 (Ai s.t lo)) (E4 (Ai s.t hi)) d l k s P Q:=rfl
theorem BN {sz:Nat} {xs:List (List D)} {lo hi:Option Int}:KW sz (.d (.sl sz xs)) (some lo) (some hi) d l k s P Q=VC (0≤lo.getD 0∧lo.getD 0≤hi.getD xs.length∧hi.getD xs.length≤xs.length) (AS P Q l k (AH s d (.d (.sl sz ((xs.take (hi.getD xs.length).toNat).drop (lo.getD 0).toNat))) s.H)):=by
 simp [KW,Jl,VC]
theorem Bh {sz n:Nat} {lo hi:Option Int}:KW sz (.nilsl n) (some lo) (some hi) d l k s P Q=VC (lo.getD 0=0∧hi.getD 0=0) (AS P Q l k (AH s d (.nilsl n) s.H)):=rfl
theorem Cy {sz b off len cap:Nat} {lo hi:Option Int}:KW sz (.own b sz off len cap) (some lo) (some hi) d l k s P Q=VC (0≤lo.getD 0∧lo.getD 0≤hi.getD len∧hi.getD len≤cap) (AS P Q l k (AH s d (.part b sz (off+(lo.getD 0).toNat) ((hi.getD len).toNat-(lo.getD 0).toNat) (cap-(lo.getD 0).toNat)) s.H)):=by
 simp [KW,Jl,VC]
theorem Dd {sz b off len cap:Nat} {lo hi:Option Int}:KW sz (.part b sz off len cap) (some lo) (some hi) d l k s P Q=VC (0≤lo.getD 0∧lo.getD 0≤hi.getD len∧hi.getD len≤cap) (AS P Q l k (AH s d (.part b sz (off+(lo.getD 0).toNat) ((hi.getD len).toNat-(lo.getD 0).toNat) (cap-(lo.getD 0).toNat)) s.H)):=by
 simp [KW,Jl,VC]
def Ml (sz:Nat) (x:AV) (lo hi mx:Option (Option Int)) (d:Option Nat) (l:List AO) (k:List Item) (s:St) (P:Program) (Q:Out→St→Prop):Prop:=LS sz x lo hi mx fun v=>AS P Q l k (AH s d v s.H)
theorem D8 {sz:Nat} {x:Opd} {lo hi mx:Option Opd}:AS P Q (⟨d,none,.slice3 sz x lo hi mx⟩::l) k s=Ml sz (ev s.t x) (E4 (Ai s.t lo)) (E4 (Ai s.t hi)) (E4 (Ai s.t mx)) d l k s P Q:=by rw [G5]; simp only [Aa,Ml]
theorem BT {sz n:Nat} {lo:Option Int} {hi mx:Int}:Ml sz (.nilsl n) (some lo) (some (some hi)) (some (some mx)) d l k s P Q=VC (lo.getD 0=0∧hi=0∧mx=0) (AS P Q l k (AH s d (.nilsl n) s.H)):=rfl
theorem DN {sz b off len cap:Nat} {lo:Option Int} {hi mx:Int}:Ml sz (.own b sz off len cap) (some lo) (some (some hi)) (some (some mx)) d l k s P Q=VC (0≤lo.getD 0∧lo.getD 0≤hi∧hi≤mx∧mx≤cap) (AS P Q l k (AH s d (.part b sz (off+(lo.getD 0).toNat) (hi.toNat-(lo.getD 0).toNat) (mx.toNat-(lo.getD 0).toNat)) s.H)):=by
 simp [Ml,LS,VC]
def MY:AV→Option AV
 | .nilsl _=>some (.d (.int .i64 0))
 | .own _ _ _ _ cap=>some (.d (.int .i64 cap))
 | .part _ _ _ _ cap=>some (.d (.int .i64 cap))
 | _=>none
theorem Dc {x:Opd}:AS P Q (⟨d,none,.cap x⟩::l) k s=Hg P Q (MY (ev s.t x)) d l k s:=by
 rw [G5]
 simp only [Aa,Hg,MY]
 cases ev s.t x <;> rfl
def Ns (sz:Nat) (z:List AV) (x:AV) (d:Option Nat) (l:List AO) (k:List Item) (s:St) (P:Program) (Q:Out→St→Prop):Prop:=Lw sz z x s.H fun H'=>AS P Q l k (AH s d (.tup []) H')
theorem C5 {sz:Nat} {z:List AV} {x:Opd}:AS P Q (⟨d,none,.clear sz z x⟩::l) k s=Ns sz z (ev s.t x) d l k s P Q:=by rw [G5]; simp only [Aa,Ns]
theorem AEv {sz b off len cap c:Nat} {e:TypeId} {z:List AV} {ds:List D} {xs:List (List D)} (hb:s.H b=some (.row e sz c xs)) (hz:FP z=some ds) (h0:0<len) (hin:off+len≤xs.length) (hc:cap≠0)
  (hk:AS P Q l k (AH s d (.tup []) (upd s.H b (some (.row e sz c (xs.take off++List.replicate len ds++xs.drop (off+len))))))):Ns sz z (.part b sz off len cap) d l k s P Q:=by
 simp only [Ns,Lw,hz,hb]
 exact ⟨⟨by trivial,by trivial,h0,hin,hc⟩,hk⟩
def OD (e:TypeId) (sz bytes:Nat) (z:List AV) (v n:AV) (d:Option Nat) (l:List AO) (k:List Item) (s:St) (P:Program) (Q:Out→St→Prop):Prop:=Ls e sz bytes z v n s.H fun v H'=>AS P Q l k (AH s d v H')
theorem CN {e:TypeId} {sz bytes:Nat} {z:List AV} {v n:Opd}:AS P Q (⟨d,none,.appendN e sz bytes z v n⟩::l) k s=OD e sz bytes z (ev s.t v) (ev s.t n) d l k s P Q:=by rw [G5]; simp only [Aa,OD]
theorem AAf {e:TypeId} {sz bytes q:Nat} {z:List AV} {ds:List D} {j:IntKind} {m:Int} (hz:FP z=some ds) (h0:0<m) (hb:m*bytes≤140737488355328) (hm:m≤maxLen)
  (hk:∀b,s.H b=none→∀cap,m.toNat≤cap→AS P Q l k (AH s d (.own b sz 0 m.toNat cap) (upd s.H b (some (.row e sz cap (List.replicate m.toNat ds)))))):OD e sz bytes z (.nilsl q) (.d (.int j m)) d l k s P Q:=by
 simp only [OD,Ls,hz]
 exact ⟨⟨h0,hb,hm⟩,fun b hb cap hc=>hk b hb cap hc⟩
def Lb (n:Nat) (v:AV) (b sz i j:Nat) (d:Option Nat) (l:List AO) (k:List Item) (s:St) (P:Program) (Q:Out→St→Prop):Prop:=Az s.H (Fa v) fun ds H'=>match H' b with
 | some (.row t sz' cap xs)=>VC (sz=sz') (∃el,xs[i]? = some el∧VC (j+n≤el.length) (AS P Q l k (AH s d .void (upd H' b (some (.row t sz cap (xs.set i (Fr el j ds))))))))
 | _=>False
theorem CA {n b sz i j:Nat} {v:AV}:Nn P Q n (.eptr b sz i j) v d l k s=VC (Ez n v=true) (Lb n v b sz i j d l k s P Q):=by
 simp only [Nn,Ko,Lb,LD,VC]
 refine propext (and_congr_right fun _=>?_)
 refine iff_of_eq (congrArg _ ?_)
 funext ds H'
 cases H' b with
 | none=>rfl
 | some x =>
  cases x with
  | box t cells=>rfl
  | obj o ts us=>rfl
  | row t sz' cap xs =>
   dsimp only
   refine propext (and_congr_right fun _=>⟨fun ⟨_,el,h1,h2⟩=>⟨el,by simpa using h1,h2⟩,fun ⟨el,h1,h2⟩=>⟨by omega,el,by simpa using h1,h2⟩⟩)
theorem IK {x:D} {b sz i j cap:Nat} {t:TypeId} {xs:List (List D)} {el:List D} (hb:s.H b=some (.row t sz cap xs)) (h:xs[i]? = some el) (hj:j<el.length) (hk:AS P Q l k (AH s d .void (upd s.H b (some (.row t sz cap (xs.set i (Fr el j [x]))))))):Lb 1 (.d x) b sz i j d l k s P Q:=by
 simp only [Lb,Fa,Az,A5,BA,hb]
 exact ⟨trivial,el,h,hj,hk⟩
def ACH (P:Program) (Q:Out→St→Prop) (n:Nat) (p v:AV) (keep:List Nat) (d:Option Nat) (l:List AO) (k:List Item) (s:St):Prop:=match p with
 | .ptr b off=>VC (A0 s.t (.ptr b off) keep) (VC (Ez n v=true) (match s.H b with
  | some (.box e cells)=>VC (off+n≤Ae cells) (AS P Q l k (AH s d .void (upd s.H b (some (.box e (setSeg cells off (Fa v)))))))
  | _=>False))
 | _=>False
theorem Cz {n:Nat} {p v:Opd} {keep:List Nat}:AS P Q (⟨d,none,.storeK n p v keep⟩::l) k s=ACH P Q n (ev s.t p) (ev s.t v) keep d l k s:=rfl
def Nc (P:Program) (Q:Out→St→Prop) (neg:Bool) (v:AV) (d:Option Nat) (l:List AO) (k:List Item) (s:St):Prop:=match v with
 | .nilsl _=>AS P Q l k (AH s d (.d (.bool (!neg))) s.H)
 | .own _ _ _ _ _=>AS P Q l k (AH s d (.d (.bool neg)) s.H)
 | .part _ _ _ _ _=>AS P Q l k (AH s d (.d (.bool neg)) s.H)
 | .d (.sl _ xs)=>AS P Q l k (AH s d (.d (.bool neg)) s.H)∧(xs=[]→AS P Q l k (AH s d (.d (.bool (!neg))) s.H))
 | _=>False
theorem Ct {neg:Bool} {x:Opd}:AS P Q (⟨d,none,.isNil neg x⟩::l) k s=Nc P Q neg (ev s.t x) d l k s:=rfl
theorem Dw {neg:Bool} {sz:Nat}:Nc P Q neg (.nilsl sz) d l k s=AS P Q l k (AH s d (.d (.bool (!neg))) s.H):=rfl
theorem Dz {neg:Bool} {b sz off len cap:Nat}:Nc P Q neg (.own b sz off len cap) d l k s=AS P Q l k (AH s d (.d (.bool neg)) s.H):=rfl
theorem C0 {neg:Bool} {b sz off len cap:Nat}:Nc P Q neg (.part b sz off len cap) d l k s=AS P Q l k (AH s d (.d (.bool neg)) s.H):=rfl
theorem CV {g:Option Nat} {i:Nat}:AS P Q (⟨d,none,.loadP g i⟩::l) k s=P1 P Q g (s.t i) d l k s:=by
 rw [G5]
 simp only [Aa,P1]
 cases s.t i <;> rfl
theorem Dk {g:Option Nat} {b off:Nat}:P1 P Q g (.ptr b off) d l k s=Ib P Q g (.ptr b off) d l k s:=rfl
def MR (f:FuncId) (args:List AV) (keep:List Nat) (d:Option Nat) (l:List AO) (k:List Item) (s:St) (P:Program) (Q:Out→St→Prop):Prop:=CallW P f args s.H fun v H'=>JM s.t s.H H' keep∧AS P Q l k (AH s d v H')
theorem EB {f:FuncId} {args:List Opd} {keep:List Nat}:AS P Q (⟨d,none,.callS f args keep⟩::l) k s=MR f (Ah s.t args) keep d l k s P Q:=rfl
def PY (g:AV) (args:List AV) (keep:List Nat) (d:Option Nat) (l:List AO) (k:List Item) (s:St) (P:Program) (Q:Out→St→Prop):Prop:=match g with
 | .fn f caps=>MR f (args++caps) keep d l k s P Q
 | _=>False
theorem Cv {g:Opd} {args:List Opd} {keep:List Nat}:AS P Q (⟨d,none,.callvS g args keep⟩::l) k s=PY (ev s.t g) (Ah s.t args) keep d l k s P Q:=by
 simp only [G5,Aa,PY,MR]
 cases ev s.t g <;> rfl
theorem BP {f:FuncId} {caps args:List AV} {keep:List Nat}:PY (.fn f caps) args keep d l k s P Q=MR f (args++caps) keep d l k s P Q:=rfl
theorem RB {f:FuncId} {args:List AV} {keep:List Nat} {K:AV→Heap→Prop} (h:CallW P f args s.H K) (hk:∀r H',K r H'→JM s.t s.H H' keep∧AS P Q l k (AH s d r H')):MR f args keep d l k s P Q :=
 CallW.mono h hk
def Pz (e:TypeId) (sz bytes:Nat) (z:List AV) (x:AV) (d:Option Nat) (l:List AO) (k:List Item) (s:St) (P:Program) (Q:Out→St→Prop):Prop:=match x with
 | .d (.int _ n)=>match FP z with
  | some ds=>VC (0≤n∧n*bytes≤281474976710656∧n≤9223372036854775807) (LK (.row e sz n.toNat (List.replicate n.toNat ds)) sz n.toNat d l k s P Q)
  | none=>False
 | _=>False
theorem DB {e:TypeId} {sz bytes:Nat} {z:List AV} {x:Opd}:AS P Q (⟨d,none,.make e sz bytes z x⟩::l) k s=Pz e sz bytes z (ev s.t x) d l k s P Q:=rfl
theorem Sg {e:TypeId} {sz bytes:Nat} {x:D} {j:IntKind} {n:Nat} (hb:(n:Int)*bytes≤281474976710656) (hn:(n:Int)≤9223372036854775807) (hk:∀b,s.H b=none→AS P Q l k (AH s d (.own b sz 0 n n) (upd s.H b (some (.row e sz n (List.replicate n [x])))))):Pz e sz bytes [.d x] (.d (.int j n)) d l k s P Q:=by
 simp only [Pz,FP,Int.toNat_natCast]
 exact ⟨⟨by omega,hb,hn⟩,hk⟩
theorem AI {x:Blk} (h:∀b,s.H b=none→AS P Q l k (AH s d (.ptr b 0) (upd s.H b (some x)))):OZ P Q x d l k s:=h
theorem E8 {H:Heap} {b k:Nat} {x:Blk}:upd H b (some x) k=none↔¬b=k∧¬k=b∧H k=none:=by
 rw [AQ]
 by_cases h:b=k
 ·simp [h]
 ·exact ⟨fun e=>⟨h,fun e'=>h e'.symm,by simpa [h] using e⟩,fun e=>by simpa [h] using e.2.2⟩
theorem Heap.none_get (k:Nat):Heap.none k = .none:=rfl
theorem APd {α:Type} {I : α→Prop} {mk : α→St} {μ : α→Nat} {x : α} {R:Out→St→Prop} {s':St} (y : α) (h1:I y) (h2 : μ y < μ x) (h3:Abst s' (mk y)):JP I mk μ x R .normal s':=⟨y,h1,h2,h3⟩
def Ac:List (Nat×Blk)→Heap
 | []=>Heap.none
 | (b,x)::l=>upd (Ac l) b (some x)
theorem Af {k:Nat}:Ac [] k = .none:=rfl
theorem Av {b k:Nat} {x:Blk} {l:List (Nat×Blk)}:Ac ((b,x)::l) k=if k=b then some x else Ac l k:=by
 simp only [Ac,AQ]
 by_cases h:b=k
 ·subst h; simp
 ·have h':¬k=b:=fun e=>h e.symm
  simp [h,h']
theorem FK {b k:Nat} {x:Blk} {l:List (Nat×Blk)}:Ac ((b,x)::l) k=none↔¬b=k∧¬k=b∧Ac l k=none:=E8
theorem J1 {H:Heap} {l:List (Nat×Blk)} (h:AZ H l) (k:Nat):Ac l k=none∨Ac l k=H k:=by
 induction l with
 | nil=>exact .inl rfl
 | cons p l ih =>
  obtain ⟨b,x⟩:=p
  rw [Av]
  by_cases e:k=b
  ·subst e; rw [if_pos rfl]; exact .inr h.1.symm
  ·rw [if_neg e]; exact ih h.2
theorem EN {α:Type} (I : α→Prop) (n:Nat) (tl : α→List (Nat×AV)) (hl : α→List (Nat×Blk)) (μ : α→Nat) {b:ACode} (x0 : α) (h0:I x0) (hn:n=s.n) (ha:AJ s.t (tl x0)) (hb:AZ s.H (hl x0))
  (round:∀x,I x→Fs P (JP I (fun x=>⟨n,Fq (tl x),Ac (hl x)⟩) μ x (FU P Q k)) b [] ⟨n,Fq (tl x),Ac (hl x)⟩):MP P Q b k s :=
 Qp I (fun x=>⟨n,Fq (tl x),Ac (hl x)⟩) μ x0 h0 (Ng hn ha (J1 hb)) round
theorem AY {α:Type} {I : α→Prop} {n:Nat} {tl : α→List (Nat×AV)} {hl : α→List (Nat×Blk)} {μ : α→Nat} {x : α} {R:Out→St→Prop} {s':St} (y : α) (h1:I y) (h2 : μ y < μ x) (hn:n=s'.n) (ha:AJ s'.t (tl y)) (hb:AZ s'.H (hl y)):JP I (fun x=>⟨n,Fq (tl x),Ac (hl x)⟩) μ x R .normal s' :=
 ⟨y,h1,h2,Ng hn ha (J1 hb)⟩
theorem CY {n:Nat} {t:TM} {x:List AV}:IQ n t [] x=t:=by cases x <;> rfl
theorem C1 {n p:Nat} {t:TM} {ps:List Nat} {v:AV} {x:List AV}:IQ n t (p::ps) (v::x)=IQ n (if p<n then KN t p v else t) ps x:=rfl
theorem ASz {α:Type} {g:Opd} {ps:List Nat} {asg body:ACode} {f:FuncId} {caps:List AV} {bl:List (Nat×Blk)} {xs:List (List AV)} (tl:List (Nat×AV)) (I:List (List AV)→α→Prop) (hl : α→List (Nat×Blk)) (y0 : α)
  (hit:L6 P f caps bl xs) (hg:ev s.t g = .fn f caps) (hs:KO asg=true) (hx:∀x∈xs,x.length=ps.length) (ht:AJ s.t tl) (hA:∀pre y,I pre y→∀p∈bl,p∈hl y) (h0:I [] y0) (h1:AZ s.H (hl y0))
  (round:∀pre x post y,xs=pre++x::post→I pre y→Fs P (Ms I hl (pre++[x]) s.n s.t (FU P Q k)) (.seq asg body) [] ⟨s.n,IQ s.n (Fq tl) ps x,Ac (hl y)⟩)
  (done:∀y,I xs y→FU P Q k .normal ⟨s.n,s.t,Ac (hl y)⟩):PT P Q g ps asg body k s :=
 AA2 tl I (fun y=>Ac (hl y)) hl hit hg hs hx ht hA (fun _ _ h=>J1 h) y0 h0 h1 round done
theorem AM {H:Heap} {x y:AV} (h:x=y):LendV H x y:=h▸.refl x
end
def Ad (l:List Int):List (List D):=l.map fun n=>[.int .i64 n]
theorem Ei {l:List Int}:(Ad l).length=l.length:=List.length_map ..
theorem Kp {l:List Int} {i:Nat} {n:Int} (h:l[i]? = some n):(Ad l)[i]? = some [.int .i64 n]:=by simp [Ad,h]
theorem Lo {l:List Int} {i:Nat} (h:i<l.length):(Ad l)[((i:Int)).toNat]? = some [.int .i64 l[i]]:=by
 rw [Int.toNat_natCast]; exact Kp (List.getElem?_eq_getElem h)
abbrev Fu (l:List Int):AV:=.d (.sl 1 (Ad l))
def Jb (l:List Int):Prop:=∀(i:Nat) (h:i<l.length),Fit l[i]
theorem AU {i:Nat} (h:i<9223372036854775807):IntKind.i64.wrap ((i:Int)+1)=((i+1:Nat):Int):=by rw [IntKind.wrap_i64]; omega
section
variable {P:Program} {n:Nat} {t:TypeId} {l:List D}
theorem typedL_cons {ts:List TypeId} {ls:List (List D)} (h:TypedL P n (t::ts) ls):∃l r,ls=l::r∧FM P n t l∧TypedL P n ts r:=by
 cases ls with
 | nil=>exact absurd h id
 | cons l r=>exact ⟨l,r,rfl,h.1,h.2⟩
theorem typedL_nil {ls:List (List D)} (h:TypedL P n [] ls):ls=[]:=by
 cases ls with
 | nil=>rfl
 | cons l r=>exact absurd h id
theorem typed_bool (h:FM P (n+1) t l) (ht:P.underlying t=some .bool):∃b,l=[.bool b]∧Hx P t l=bv b:=by
 rw [FM,ht] at h
 obtain ⟨b,rfl⟩:=h
 exact ⟨b,rfl,by simp [Hx,ht,MT]⟩
theorem typed_int (h:FM P (n+1) t l) (ht:P.underlying t=some (.int .i64)):∃z,l=[.int .i64 z]∧Fit z∧Hx P t l=i64 z:=by
 rw [FM,ht] at h
 obtain ⟨z,rfl,h⟩:=h
 exact ⟨z,rfl,AQZ h,by simp [Hx,ht,MT]⟩
theorem Tz {e:TypeId} (h:FM P (n+1) t l) (ht:P.underlying t=some (.slice e)):∃xs,l=[.sl (P.cellsOf e) xs]∧xs.length≤maxLen∧(∀el∈xs,FM P n e el)∧Hx P t l = .d (.sl (P.cellsOf e) xs):=by
 rw [FM,ht] at h
 obtain ⟨xs,rfl,h1,h2⟩:=h
 exact ⟨xs,rfl,h1,h2,by simp [Hx,ht,MT]⟩
theorem Y4 {e:TypeId} {xs:List (List D)} (h:∀el∈xs,FM P (n+1) e el) (he:P.underlying e=some (.int .i64)):∃zs,xs=Ad zs∧Jb zs:=by
 induction xs with
 | nil=>exact ⟨[],rfl,fun i h=>absurd h (Nat.not_lt_zero _)⟩
 | cons x xs ih =>
  obtain ⟨z,rfl,hz,_⟩:=typed_int (h x (List.mem_cons_self ..)) he
  obtain ⟨zs,rfl,h2⟩:=ih fun el h'=>h el (List.mem_cons_of_mem _ h')
  refine ⟨z::zs,rfl,fun i hi=>?_⟩
  cases i with
  | zero=>exact hz
  | succ i=>exact h2 i (by simpa using hi)
theorem typed_ints {e:TypeId} (h:FM P (n+2) t l) (ht:P.underlying t=some (.slice e)) (he:P.underlying e=some (.int .i64)) (hc:P.cellsOf e=1):∃zs,Jb zs∧zs.length≤9223372036854775807∧Hx P t l=Fu zs:=by
 obtain ⟨xs,rfl,h1,h2,h3⟩:=Tz h ht
 obtain ⟨zs,rfl,h4⟩:=Y4 h2 he
 refine ⟨zs,h4,?_,by rw [h3,hc]⟩
 rw [Ei] at h1
 exact h1
theorem T0:∀{fs:List Field} {ls:List (List D)},ls.length=fs.length→(∀(j:Nat) f x,fs[j]? = some f→ls[j]? = some x→FM P n f.type x)→TypedL P n (fs.map (·.type)) ls
 | [],[],_,_=>trivial
 | [],_::_,h,_=>by simp at h
 | _::_,[],h,_=>by simp at h
 | f::fs,x::ls,h,k=>⟨k 0 f x rfl rfl,T0 (by simpa using h) fun j f x h1 h2=>k (j+1) f x (by simpa using h1) (by simpa using h2)⟩
theorem Ld {fs:Array Field} (h:FM P (n+1) t l) (ht:P.underlying t=some (.struct fs)):∃ls,l=ls.flatten∧TypedL P n (fs.toList.map (·.type)) ls∧Hx P t l = .agg (mapD l):=by
 rw [FM,ht] at h
 obtain ⟨ls,rfl,h1,h2⟩:=h
 exact ⟨ls,rfl,T0 (by simpa using h1) (fun j f x g1 g2=>h2 j f x (by simpa using g1) g2),by simp [Hx,ht]⟩
theorem Hl {H:Heap}:LendL H [] []:=LendL.refl _
theorem GA {H:Heap} {x y:AV} {xs ys:List AV} (h:LendV H x y) (t:LendL H xs ys):LendL H (x::xs) (y::ys):=by
 refine ⟨congrArg (· + 1) t.1,fun j u v h1 h2=>?_⟩
 cases j with
 | zero=>cases h1; cases h2; exact h
 | succ j=>exact t.2 j u v h1 h2
theorem KR {H:Heap} {b sz cap cap' len:Nat} {e:TypeId} {xs:List (List D)} (h:H b=some (.row e sz cap' xs)) (hl:len=xs.length):LendV H (.own b sz 0 len cap) (.d (.sl sz xs)):=by
 subst hl; exact .own b sz cap e cap' xs h
theorem DataW.law {f:FuncId} {args:List AV} (h:DataW P f args (bv true)):CallW P f args Heap.none fun r _=>r = .d (.bool true) :=
 CallW.mono h fun r H' hr=>by cases hr; rfl
end
def EU (z sz c cap:Nat):List (List D)→AV
 | []=>.nilsl z
 | x::xs=>.own c sz 0 (x::xs).length cap
def BD (t:TypeId) (sz c cap:Nat):List (List D)→List (Nat×Blk)
 | []=>[]
 | x::xs=>[(c,.row t sz cap (x::xs))]
def AP (l:List (Nat×Blk)):List Nat:=l.map (·.1)
theorem Eg {z sz c cap:Nat} {xs:List (List D)} (h:xs≠[]):EU z sz c cap xs = .own c sz 0 xs.length cap:=by
 cases xs with
 | nil=>exact absurd rfl h
 | cons x xs=>rfl
theorem FA {t:TypeId} {sz c cap:Nat} {xs:List (List D)} (h:xs≠[]):BD t sz c cap xs=[(c,.row t sz cap xs)]:=by
 cases xs with
 | nil=>exact absurd rfl h
 | cons x xs=>rfl
theorem JX {z sz c cap:Nat}:EU z sz c cap [] = .nilsl z:=rfl
theorem J9 {t:TypeId} {sz c cap:Nat}:BD t sz c cap []=[]:=rfl
theorem A9 {z sz c cap:Nat} {xs:List (List D)}:Ju (EU z sz c cap xs)=some (.d (.int .i64 xs.length)):=by cases xs <;> rfl
theorem Bo {sz:Nat} {xs:List (List D)}:Ju (.d (.sl sz xs))=some (.d (.int .i64 xs.length)):=rfl
theorem Dj {sz:Nat}:Ju (.nilsl sz)=some (.d (.int .i64 0)):=rfl
theorem By {b sz off len cap:Nat}:Ju (.own b sz off len cap)=some (.d (.int .i64 len)):=rfl
theorem EG {sz:Nat}:MY (.nilsl sz)=some (.d (.int .i64 0)):=rfl
theorem Cw {b sz off len cap:Nat}:MY (.own b sz off len cap)=some (.d (.int .i64 cap)):=rfl
theorem Di {b sz off len cap:Nat}:MY (.part b sz off len cap)=some (.d (.int .i64 cap)):=rfl
theorem D5 {b sz off len cap:Nat}:Ju (.part b sz off len cap)=some (.d (.int .i64 len)):=rfl
theorem Dq {z sz c cap:Nat} {xs:List (List D)}:Ez 1 (EU z sz c cap xs)=true:=by cases xs <;> rfl
theorem C4 {z sz c cap:Nat} {xs:List (List D)}:Fa (EU z sz c cap xs)=[EU z sz c cap xs]:=by cases xs <;> rfl
theorem Bu (n:Nat) (xs:List AV):Ez n (.agg xs)=(Ae xs == n):=rfl
theorem Bf (xs:List AV):Fa (.agg xs)=xs:=rfl
theorem CC (n:Nat) (x:D):Ez n (.d x)=(n == 1):=by simp [Ez,IH]
theorem Bp (x:D):Fa (.d x)=[.d x]:=rfl
theorem CX (n:Nat)  : Ez n .nilp=(n == 1):=by simp [Ez,IH]
theorem Dn  : Fa .nilp=[.nilp]:=rfl
theorem Ci (n:Nat) (sz:Nat):Ez n (.nilsl sz)=(n == 1):=by simp [Ez,IH]
theorem Bw (sz:Nat):Fa (.nilsl sz)=[.nilsl sz]:=rfl
theorem Do (n:Nat)  : Ez n .nilfn=(n == 1):=by simp [Ez,IH]
theorem Dv  : Fa .nilfn=[.nilfn]:=rfl
theorem BU (n:Nat) (b o:Nat):Ez n (.ptr b o)=(n == 1):=by simp [Ez,IH]
theorem DX (b o:Nat):Fa (.ptr b o)=[.ptr b o]:=rfl
theorem B7 (n:Nat) (b sz i j:Nat):Ez n (.eptr b sz i j)=(n == 1):=by simp [Ez,IH]
theorem Cc (b sz i j:Nat):Fa (.eptr b sz i j)=[.eptr b sz i j]:=rfl
theorem Ch (n:Nat) (el:List D) (o:Nat):Ez n (.dptr el o)=(n == 1):=by simp [Ez,IH]
theorem BZ (el:List D) (o:Nat):Fa (.dptr el o)=[.dptr el o]:=rfl
theorem B0 (n:Nat) (b sz off len cap:Nat):Ez n (.own b sz off len cap)=(n == 1):=by simp [Ez,IH]
theorem B9 (b sz off len cap:Nat):Fa (.own b sz off len cap)=[.own b sz off len cap]:=rfl
theorem Dt (n:Nat) (f:FuncId) (caps:List AV):Ez n (.fn f caps)=(n == 1):=by simp [Ez,IH]
theorem D9 (f:FuncId) (caps:List AV):Fa (.fn f caps)=[.fn f caps]:=rfl
theorem Id {H:Heap} {t:TypeId} {z sz c cap:Nat} {xs:List (List D)} (h:AZ H (BD t sz c cap xs)):LendV H (EU z sz c cap xs) (.d (.sl sz xs)):=by
 cases xs with
 | nil=>exact .nilsl _ _
 | cons x xs=>exact .own c sz cap t cap (x::xs) h.1
theorem KL {H:Heap} {t:TypeId} {z sz c cap:Nat} {xs:List (List D)} (h:AZ H (BD t sz c cap xs)) (hs:∀el∈xs,∀d∈el,Hi d=true):NewV H (EU z sz c cap xs) (.d (.sl sz xs)):=by
 cases xs with
 | nil=>exact .nilsl _ _
 | cons x xs=>exact .own c sz cap t cap (x::xs) h.1 hs
theorem EQ {H:Heap} {xs ys:List (Nat×Blk)}:AZ H (xs++ys)↔AZ H xs∧AZ H ys:=by
 induction xs with
 | nil=>simp [AZ]
 | cons p xs ih=>obtain ⟨b,x⟩:=p; simp only [List.cons_append,AZ,ih,and_assoc]
theorem Vv {H:Heap} {xs ys:List (Nat×Blk)} (h:AZ H xs) (hs:∀p∈ys,p∈xs):AZ H ys:=GU.2 fun p hp=>GU.1 h p (hs p hp)
theorem EV:∀{l:List (Nat×Blk)},(AP l).Nodup→AZ (Ac l) l
 | [],_=>trivial
 | (b,x)::l,h=>by
  simp only [AP,List.map_cons,List.nodup_cons] at h
  refine ⟨by rw [Av,if_pos rfl],?_⟩
  refine GU.2 fun p hp=>?_
  rw [Av,if_neg (fun e=>h.1 (by rw [←e]; exact List.mem_map_of_mem hp))]
  exact GU.1 (EV (l:=l) h.2) p hp
theorem HU {H:Heap} {b:Nat} {x:Blk} {l:List (Nat×Blk)} (hb:H b=none) (h:AZ H l):AZ (upd H b (some x)) ((b,x)::l):=⟨AN,Ap hb h⟩
theorem Ln {H:Heap} {b:Nat} {l:List (Nat×Blk)} (hb:H b=none) (h:AZ H l):b∉AP l:=fun hm=>by
 obtain ⟨p,hp,e⟩:=List.mem_map.1 hm
 have:=GU.1 h p hp
 rw [e,hb] at this; cases this
theorem HT {H:Heap} {b:Nat} {x:Blk} {l:List (Nat×Blk)} (hb:H b=none) (h:AZ H l) (hn:(AP l).Nodup):(AP ((b,x)::l)).Nodup:=by
 simp only [AP,List.map_cons,List.nodup_cons]
 exact ⟨Ln hb h,hn⟩
theorem UM {H:Heap} {b:Nat} {x x':Blk} {l:List (Nat×Blk)} (h:AZ H ((b,x)::l)) (hn:(AP ((b,x)::l)).Nodup):AZ (upd H b (some x')) ((b,x')::l):=by
 simp only [AP,List.map_cons,List.nodup_cons] at hn
 refine ⟨AN,GU.2 fun p hp=>?_⟩
 rw [AF (fun e=>hn.1 (by rw [e]; exact List.mem_map_of_mem hp))]
 exact GU.1 h.2 p hp
theorem Fk {H:Heap} {b:Nat} {y:Option Blk} {l:List (Nat×Blk)} (h:AZ H l) (hn:b∉AP l):AZ (upd H b y) l :=
 GU.2 fun p hp=>by
  rw [AF (fun e=>hn (by rw [e]; exact List.mem_map_of_mem hp))]
  exact GU.1 h p hp
section
variable {P:Program} {Q:Out→St→Prop} {k:List Item} {s:St} {d:Option Nat} {l:List AO}
theorem FX {e t:TypeId} {sz bytes z0 c cap bs capc capx:Nat} {z:List AV} {xs:List (List D)} {y:List D} (rest:List (Nat×Blk)) (hz:z.length=sz) (hall:AZ s.H (BD e sz c cap xs++rest)) (hnd:(AP (BD e sz c cap xs++rest)).Nodup)
  (hbs:s.H bs=some (.row t sz capc [y])) (hb:(xs.length+1)*bytes≤140737488355328) (hb2:xs.length+1≤9223372036854775807)
  (hk:∀H' c' cap',AZ H' (BD e sz c' cap' (xs++[y])++rest)→(AP (BD e sz c' cap' (xs++[y])++rest)).Nodup→AS P Q l k (AH s d (.own c' sz 0 (xs.length+1) cap') H')) :
  Gk e sz bytes z (EU z0 sz c cap xs) (.own bs sz 0 1 capx) d l k s P Q:=by
 by_cases h0:xs=[]
 ·subst h0
  refine Oh (ys:=[y]) (t:=t) (capc:=capc) hbs rfl (by simp) hz ⟨by simpa using hb,by simp [maxLen]⟩ (fun b hb' cap'=>?_)
  have hr:AZ s.H rest:=hall
  exact hk (upd s.H b (some (.row e sz cap' [y]))) b cap' (HU hb' hr) (HT hb' hr hnd)
 ·rw [Eg h0]
  rw [FA h0] at hall hnd
  refine Li (xs:=xs) (ys:=[y]) (t:=t) (capc:=capc) hall.1 hbs rfl rfl (by simp) hz ⟨hb,hb2⟩ (fun b' cap' hb'=>?_)
  simp only [List.cons_append,List.nil_append,AP,List.map_cons,List.nodup_cons] at hnd
  have hr:AZ (upd s.H c none) rest:=Fk hall.2 hnd.1
  have hne:xs++[y]≠[]:=by simp
  exact hk (upd (upd s.H c none) b' (some (.row e sz cap' (xs++[y])))) b' cap' (by rw [FA hne]; exact HU hb' hr) (by rw [FA hne]; exact HT hb' hr hnd.2)
theorem ARL {α β:Type} {f : α→β} {l:List α} {pre post:List β} {x : β} (h:l.map f=pre++x::post):∃hl:pre.length<l.length,x=f l[pre.length]∧pre=(l.take pre.length).map f:=by
 have hlen:=congrArg List.length h
 simp only [List.length_map,List.length_append,List.length_cons] at hlen
 have hl:pre.length<l.length:=by omega
 refine ⟨hl,?_,?_⟩
 ·have:=congrArg (fun m=>m[pre.length]?) h
  simp only [List.getElem?_map,List.getElem?_eq_getElem hl,Option.map_some,List.getElem?_append_right (Nat.le_refl _),Nat.sub_self,List.getElem?_cons_zero,Option.some.injEq] at this
  exact this.symm
 ·have:=congrArg (List.take pre.length) h
  rw [←List.map_take,List.take_left' rfl] at this
  exact this.symm
end
section
variable {P:Program}
theorem AMk {f:FuncId} {args args':List AV} {r:AV} {H Hr Hk:Heap} {K:AV→Heap→Prop} (h:DataW P f args' r) (g1:∀k,Hr k=none∨Hr k=H k) (g2:∀k,Hk k=none∨Hk k=H k∧Hr k=none) (hl:LendL Hr args args') (hk:K r Hk):CallW P f args H K:=by
 intro F w vs hh hv
 have g1k:∀b x,Hr b=some x→H b=some x:=fun b x hb=>by
  rcases g1 b with e | e
  ·rw [e] at hb; cases hb
  ·rw [←e]; exact hb
 have g2k:∀k x,Hk k=some x→H k=some x∧Hr k=none:=fun k x hx=>by
  rcases g2 k with e | ⟨e,e'⟩
  ·rw [e] at hx; cases hx
  ·exact ⟨by rw [←e]; exact hx,e'⟩
 have hrel:HRel P F Hr w:=⟨fun b x hb=>hh.at_ b x (g1k b x hb),fun b x hb=>hh.apart b x (g1k b x hb),hh.old⟩
 have hrow:∀k,Hy Hr k→∃x,H k=some x:=fun k ⟨t,sz,cap,xs,e⟩=>⟨_,g1k k _ e⟩
 have hold:∀k,F k∨Hy Hr k→k<w.heap.size:=by
  rintro k (hk | hk)
  ·exact hh.old k hk
  ·obtain ⟨x,hx⟩:=hrow k hk
   exact (hh.at_ k x hx).lt
 refine (h.run (F:=fun k=>F k∨Hy Hr k) hold (hl.sound hrel hv)).mono fun e w' hr=>?_
 obtain ⟨F',v,rfl,h1,h2,h3⟩:=hr
 have hkeep:∀k,k<w.heap.size→w'.heap[k]? = w.heap[k]?:=fun k hk=>h3.keep k hk rfl
 refine ⟨r,Hk,F',v,rfl,h1,⟨fun b x hb=>?_,fun b x hb hf=>?_,h2⟩,⟨h3.os,h3.tape,h3.output,h3.size,fun k hk _=>hkeep k hk,fun k hk=>?_,fun k hk=>h3.mono k (.inl hk),fun k hk=>?_⟩,hk⟩
 ·have hb':=(g2k b x hb).1
  exact (hh.at_ b x hb').mono (hkeep b (hh.at_ b x hb').lt) (fun k hk=>h3.mono k (.inl hk)) (fun k hk=>hkeep k (hh.old k hk))
 ·obtain ⟨hb1,hb2⟩:=g2k b x hb
  rcases h3.new b hf with (e | ⟨t,sz,cap,xs,e⟩) | e | e
  ·exact hh.apart b x hb1 e
  ·rw [hb2] at e; cases e
  ·exact e rfl
  ·have:=(hh.at_ b x hb1).lt
   omega
 ·refine .inl fun e=>?_
  cases hx:Hk k with
  | none=>exact hk hx
  | some x=>rw [(g2k k x hx).1] at e; cases e
 ·rcases h3.new k hk with (e | e) | e | e
  ·exact .inl e
  ·obtain ⟨x,hx⟩:=hrow k e
   exact .inr (.inl (by rw [hx]; simp))
  ·exact absurd rfl e
  ·exact .inr (.inr e)
theorem NewV.free {F G:Nat→Prop} {w:World} {H:Heap} {x y:AV} (h:NewV H x y):∀{v:Value},VR P F w x v→VR P G w x v:=by
 induction h with
 | scal x hs=>exact fun hv=>QL hv hs
 | nilsl sz sz'=>intro v hv; cases hv; (first | exact .nilsl _)
 | own b sz cap t cap' xs h hs=>intro v hv; cases hv; exact .own _ _ _ _ _ (by assumption)
 | agg xs ys hl _ ih =>
  intro v hv
  cases hv
  next cs h3 h1 h2 =>
  exact .agg _ _ h1 (fun j x v g1 g2=>by
   have hj:j<ys.length:=by rw [←hl]; exact (List.getElem?_eq_some_iff.1 g1).1
   exact ih j x _ g1 (List.getElem?_eq_getElem hj) (h2 j x v g1 g2)) (by assumption)
 | tup xs ys hl _ ih =>
  intro v hv
  cases hv
  next cs h1 h2 =>
  exact .tup _ _ h1 (fun j x v g1 g2=>by
   have hj:j<ys.length:=by rw [←hl]; exact (List.getElem?_eq_some_iff.1 g1).1
   exact ih j x _ g1 (List.getElem?_eq_getElem hj) (h2 j x v g1 g2))
def AKW (x:Option Blk):Prop:=∃t sz cap xs,x=some (.row t sz cap xs)∧∀el∈xs,∀d∈el,Hi d=true
theorem NewV.into {H H':Heap} (hH:∀b,AKW (H b)→H' b=H b) {x y:AV} (h:NewV H x y):NewV H' x y:=by
 induction h with
 | scal x hs=>exact .scal x hs
 | nilsl sz sz'=>exact .nilsl sz sz'
 | own b sz cap t cap' xs h hs=>exact .own b sz cap t cap' xs (by rw [hH b ⟨t,sz,cap',xs,h,hs⟩]; exact h) hs
 | agg xs ys hl _ ih=>exact .agg xs ys hl ih
 | tup xs ys hl _ ih=>exact .tup xs ys hl ih
variable {Q:Out→St→Prop} {k:List Item} {s:St} {d:Option Nat} {l:List AO}
theorem AHp {f:FuncId} {args args':List AV} {r:AV} {Hr Hk:Heap} (h:DataW P f args' r) (hl:LendL Hr args args') (g1:∀k,Hr k=none∨Hr k=s.H k) (g2:∀k,Hk k=none∨Hk k=s.H k∧Hr k=none) (hk:AS P Q l k (AH s d r Hk)):KX P Q f args d l k s :=
 AMk h g1 g2 hl hk
end
end Go.Proofs.Ytmhmmomnfbfkiaa.Abs
