/- Part of the machine and the contracts of one law (joined by kmerge.py). No claim stands here. -/
import Derived.Below
import Derived.Carry
import Derived.ChangeCalls
import Derived.ChangeOld
import Derived.IntWalk
import Derived.KernelRfl
import Derived.Laws.Append
import Derived.Laws.AppendOwn
import Derived.Laws.BytesArg
import Derived.Laws.Cells
import Derived.Laws.CopyRow
import Derived.Laws.Entries
import Derived.Laws.MakeOwn
import Derived.Laws.NewFold
import Derived.Laws.Rows
import Derived.Laws.StructEq
import Derived.OpenShut
import Derived.Orders
import Derived.OrdersIn
import Derived.ProofKit
import Derived.RangeFuncLeaves
import Derived.RangeFuncSeq
import Derived.SizedLaws
import Derived.TacticsIn
import Derived.WalkKit
import Derived.Test.YtndepejgafppmaaMda
set_option maxRecDepth 100000
set_option linter.unusedSimpArgs false
set_option linter.unusedVariables false
namespace Go.Proofs.Ytndepejgafppmaa.Abs
open Go Go.RowKit Go.ChangeShapes
def EV (t:TM) (o:AO):Option Bool :=
 match o.guard with
 | none=>some true
 | some (g,want)=>match t g with
  | .d (.bool c)=>some (c == want)
  | .void=>some false
  | _=>none
def EQ (P:Program) (o:AO) (s:St) (K:St→Prop):Prop :=
 match EV s.t o with
 | some true=>AJ P s.t s.H (fun v H'=>K (AD s o.dst v H')) o.op
 | some false=>K (AD s o.dst .void s.H)
 | none=>False
section
variable {P:Program}
theorem KK {o:AO} {l:List AO} {s:St} {K:St→Prop}:FO P (o::l) s K↔EQ P o s fun s'=>FO P l s' K:=by
 simp only [FO,EQ,EV]
 cases o.guard with
 | none=>exact Iff.rfl
 | some gw =>
  obtain ⟨g,want⟩:=gw
  dsimp only
  cases hg:s.t g <;> try exact Iff.rfl
  next x =>
  cases x <;> try exact Iff.rfl
  next c =>
  dsimp only
  cases hc:(c == want) with
  | true=>simp [E9]
  | false=>simp [E9]
theorem HL {o:AO} {s:St} {K K':St→Prop} (hk:∀s',K s'→K' s') (h:EQ P o s K):EQ P o s K':=by
 unfold EQ at *
 split at h
 ·exact HT (fun v H' h=>hk _ h) h
 ·exact hk _ h
 ·exact h
theorem Eg {s:St} {d:Option Nat} {v:AV} {H:Heap}:(AD s d v H).H=H:=by unfold AD; split <;> (try split) <;> rfl
theorem FD {s:St} {d:Option Nat} {v:AV} {H:Heap} {i:Nat} (h:d≠some i):(AD s d v H).t i=s.t i:=by
 unfold AD
 split
 ·next e =>
  split
  ·show Gy s.t e v i=s.t i
   rw [Ao,show (e == i)=false by simp; rintro rfl; exact h rfl]
   rfl
  ·rfl
 ·rfl
theorem Mf {s:St} {i:Nat} {v:AV} {H:Heap}:(AD s (some i) v H).t i=v∨(AD s (some i) v H).t i=s.t i:=by
 unfold AD
 dsimp only
 split
 ·left; simp [Ao]
 ·exact .inr rfl
theorem HE {s:St} {d e:Option Nat} {u v:AV} {H1 H2 H3:Heap} (h:∀i,d=some i→e≠some i):AD (AD s d v H1) e u H2=AD (AD s e u H3) d v H2:=by
 cases d with
 | none =>
  cases e with
  | none=>rfl
  | some j=>by_cases hj:j<s.n <;> simp only [AD,hj,if_true,if_false]
 | some i =>
  cases e with
  | none=>by_cases hi:i<s.n <;> simp only [AD,hi,if_true,if_false]
  | some j =>
   have hij:i≠j:=fun e=>h i rfl (by rw [e])
   simp only [AD]
   by_cases hi:i<s.n <;> by_cases hj:j<s.n <;> simp only [hi,hj,if_true,if_false]
   congr 1
   funext k
   simp only [Ao]
   by_cases h1:i=k
   ·subst h1
    rw [show (j == i)=false by simpa using fun e=>hij e.symm]
    simp
   ·rw [show (i == k)=false by simpa using h1]
    simp
theorem GS {t u:TM} {o:AO} (h:∀i∈Fw o,t i=u i):EV t o=EV u o:=by
 unfold EV
 split
 ·rfl
 ·next g want e =>
  rw [h g (by simp [Fw,e])]
theorem Ga {o:AO} {i:Nat} (h:i∈(FB o.op).flatMap GI):i∈Fw o:=by
 simp only [Fw,List.mem_append]; exact .inl h
structure SwapOk (a b:AO):Prop where
 ab:∀d,a.dst=some d→d∉Fw b∧d∉Fi b.op∧b.dst≠some d
 ba:∀d,b.dst=some d→d∉Fw a∧(d∉Fi a.op∨∃e z,b.op = .alloc e z)
 cls:EK a.op=0∨(EK a.op=1∧EK b.op≤2)∨(EK a.op=2∧(b.guard=none∨b.guard=a.guard)∧(∀e sz len z ps,a.op≠.buildSliceD e sz len z ps)∧∃e z,b.op = .alloc e z) ∨
  (∃g p l n d v,a.op = .loadS g p l∧b.op = .storeS n d v∧d∈l)∨(((∃f xs,a.op = .pcall f xs)∨∃f xs,a.op = .pcallv f xs)∧∃n d v,b.op = .storeS n d v) ∨
  (∃g d f xs l,a.op = .loadP g d∧b.op = .callS f xs l∧d∈l)∨(∃g d e sz bytes z s x,a.op = .loadP g d∧b.op = .append e sz bytes z s x) ∨
  (∃e sz bytes z s x,a.op = .append e sz bytes z s x∧GZ b.op∧b.guard=none) ∨
  (GZ a.op∧GZ b.op∧(b.guard=none∨b.guard=a.guard)) ∨
  (∃g d n p v l,a.op = .loadP g d∧b.op = .storeK n p v l∧d∈l) ∨
  (∃g d f xs l,a.op = .loadP g d∧b.op = .callvS f xs l∧d∈l) ∨
  (∃g p e sz bytes z x,a.op = .load g p∧b.op = .make e sz bytes z x) ∨
  (∃g p f xs,a.op = .load g p∧b.op = .ncall f xs) ∨
  (∃g d n p v,a.op = .loadP g d∧b.op = .storeR n p v)
theorem OU {a b:AO} (h:Iw a b=true):SwapOk a b:=by
 unfold Iw at h
 simp only [Bool.and_eq_true] at h
 obtain ⟨⟨h1,h2⟩,h3⟩:=h
 refine ⟨fun d hd=>?_,fun d hd=>?_,?_⟩
 ·rw [hd] at h1
  simp only [Bool.and_eq_true,Bool.not_eq_true',List.contains_eq_mem,decide_eq_false_iff_not,bne_iff_ne,ne_eq] at h1
  exact ⟨h1.1.1,h1.1.2,h1.2⟩
 ·rw [hd] at h2
  simp only [Bool.and_eq_true,Bool.not_eq_true',List.contains_eq_mem,decide_eq_false_iff_not,Bool.or_eq_true] at h2
  refine ⟨h2.1,h2.2.imp id fun h=>?_⟩
  split at h
  ·next e=>exact ⟨_,_,e⟩
  ·cases h
 ·simp only [Bool.or_eq_true,beq_iff_eq,Bool.and_eq_true,decide_eq_true_eq] at h3
  rcases h3 with ((h | h) | h) | h
  ·exact .inl h
  ·exact .inr (.inl h)
  ·have hc:=h.1.1
   have hg:=h.1.2
   have h:=h.2
   split at h
   ·next eb =>
    by_cases hab:∃e sz len z ps,a.op = .buildSliceD e sz len z ps
    ·exact .inr (.inr (.inr (.inr (.inr (.inr (.inr (.inr (.inl ⟨.inr hab,.inl ⟨_,_,eb⟩,hg⟩))))))))
    ·exact .inr (.inr (.inl ⟨hc,hg,fun e sz len z ps k=>hab ⟨e,sz,len,z,ps,k⟩,_,_,eb⟩))
   ·next ea eb=>exact .inr (.inr (.inr (.inr (.inr (.inr (.inr (.inr (.inl ⟨.inl ⟨_,_,ea⟩,.inr ⟨_,_,_,_,_,eb⟩,hg⟩))))))))
   ·next ea eb=>exact .inr (.inr (.inr (.inr (.inr (.inr (.inr (.inr (.inl ⟨.inr ⟨_,_,_,_,_,ea⟩,.inr ⟨_,_,_,_,_,eb⟩,hg⟩))))))))
   ·cases h
  ·split at h
   ·next g p l n d v e1 e2=>exact .inr (.inr (.inr (.inl ⟨g,p,l,n,d,v,e1,e2,by simpa using h⟩)))
   ·next g d f xs l e1 e2=>exact .inr (.inr (.inr (.inr (.inr (.inl ⟨g,d,f,xs,l,e1,e2,by simpa using h⟩)))))
   ·next g d f xs l e1 e2=>exact .inr (.inr (.inr (.inr (.inr (.inr (.inr (.inr (.inr (.inr (.inl ⟨g,d,f,xs,l,e1,e2,by simpa using h⟩))))))))))
   ·next e1 e2=>exact .inr (.inr (.inr (.inr (.inr (.inr (.inl ⟨_,_,_,_,_,_,_,_,e1,e2⟩))))))
   ·next e1 e2=>exact .inr (.inr (.inr (.inr (.inr (.inr (.inr (.inr (.inr (.inr (.inr (.inl ⟨_,_,_,_,_,_,_,e1,e2⟩)))))))))))
   ·next e1 e2=>exact .inr (.inr (.inr (.inr (.inr (.inr (.inr (.inr (.inr (.inr (.inr (.inr (.inl ⟨_,_,_,_,e1,e2⟩))))))))))))
   ·next e1 e2=>exact .inr (.inr (.inr (.inr (.inr (.inr (.inr (.inr (.inr (.inr (.inr (.inr (.inr ⟨_,_,_,_,_,e1,e2⟩))))))))))))
   ·next g d n p v l e1 e2=>exact .inr (.inr (.inr (.inr (.inr (.inr (.inr (.inr (.inr (.inl ⟨g,d,n,p,v,l,e1,e2,by simpa using h⟩)))))))))
   ·next e1 e2=>exact .inr (.inr (.inr (.inr (.inr (.inr (.inr (.inl ⟨_,_,_,_,_,_,e1,.inl ⟨_,_,e2⟩,by simpa using h⟩)))))))
   ·next e1 e2=>exact .inr (.inr (.inr (.inr (.inr (.inr (.inr (.inl ⟨_,_,_,_,_,_,e1,.inr ⟨_,_,_,_,_,e2⟩,by simpa using h⟩)))))))
   ·next e1 e2=>exact .inr (.inr (.inr (.inr (.inl ⟨.inl ⟨_,_,e1⟩,_,_,_,e2⟩))))
   ·next e1 e2=>exact .inr (.inr (.inr (.inr (.inl ⟨.inr ⟨_,_,e1⟩,_,_,_,e2⟩))))
   ·cases h
theorem Lp {b:AO} {s:St} {da:Option Nat} {v:AV} {K:St→Prop} (h1:∀d,da=some d→d∉Fw b∧d∉Fi b.op∧b.dst≠some d) (h:EQ P b (AD s da v s.H) K) :
  EQ P b s fun s2=>K (AD s2 da v s2.H):=by
 have hne:∀i,i∈Fw b∨i∈Fi b.op→(AD s da v s.H).t i=s.t i:=fun i hi=>FD (fun e=>by
  have:=h1 i e
  rcases hi with hi | hi
  ·exact this.1 hi
  ·exact this.2.1 hi)
 unfold EQ at *
 rw [GS (u:=s.t) (fun i hi=>hne i (.inl hi))] at h
 split
 ·next e =>
  rw [e] at h
  dsimp only at h
  rw [It (u:=s.t) (fun i hi=>hne i (.inl (Ga hi))) (fun d hd=>hne d (.inr hd)),Eg] at h
  refine HT (fun u H' h=>?_) h
  rw [HE (H3:=H') (fun i e=>(h1 i e).2.2)] at h
  show K (AD (AD s b.dst u H') da v (AD s b.dst u H').H)
  rw [Eg]
  exact h
 ·next e =>
  rw [e] at h
  dsimp only at h
  rw [Eg,HE (H3:=s.H) (fun i e=>(h1 i e).2.2)] at h
  show K (AD (AD s b.dst .void s.H) da v (AD s b.dst .void s.H).H)
  rw [Eg]
  exact h
 ·next e=>rw [e] at h; exact h
theorem Nw {a b:AO} (hs:SwapOk a b) (ha:EK a.op≤1) {s:St} {K:St→Prop} (h:EQ P b s K) :
  EQ P b s fun s2=>(EV s2.t a=EV s.t a∧Re a.op s.t s.H s2.t s2.H)∧K s2:=by
 have hne:∀v H',∀i∈Fw a,(AD s b.dst v H').t i=s.t i:=fun v H' i hi=>FD (fun e=>(hs.ba i e).1 hi)
 have hg:∀v H',EV (AD s b.dst v H').t a=EV s.t a:=fun v H'=>GS (hne v H')
 have ho:∀v H',∀i∈(FB a.op).flatMap GI,(AD s b.dst v H').t i=s.t i:=fun v H' i hi=>hne v H' i (Ga hi)
 have hnw:∀v H',(∀e z,b.op = .alloc e z→∃nb,v = .ptr nb 0∧s.H nb=none)→∀d∈Fi a.op,(AD s b.dst v H').t d=s.t d∨(∃bb off,(AD s b.dst v H').t d = .ptr bb off∧s.H bb=none)∨(AD s b.dst v H').t d = .void:=fun v H' hv d hd=>by
  by_cases e:b.dst=some d
  ·rcases (hs.ba d e).2 with h | ⟨e1,z,h⟩
   ·exact absurd hd h
   ·obtain ⟨nb,rfl,hn⟩:=hv e1 z h
    rw [e]
    rcases Mf (s:=s) (i:=d) (v:=.ptr nb 0) (H:=H') with h | h
    ·exact .inr (.inl ⟨nb,0,h,hn⟩)
    ·exact .inl h
  ·exact .inl (FD e)
 -- the heap's part, for a heap that has grown
 have grown:∀v H',(∀e z,b.op = .alloc e z→∃nb,v = .ptr nb 0∧s.H nb=none)→(∀k x,s.H k=some x→H' k=some x)→Re a.op s.t s.H (AD s b.dst v H').t H':=fun v H' hv hH=>by
  refine ⟨ho v H',?_⟩
  cases hop:a.op <;> simp only [] <;> rw [hop] at hnw
  ·exact hH
  ·exact ⟨fun d hd=>hnw v H' hv d hd,fun k x e=>.inl (hH k x e)⟩
  ·exact fun k off _ e cells h=>hH _ _ h
  ·exact fun k t sz cap xs e=>hH _ _ e
  ·exact fun k t sz cap xs e=>hH _ _ e
 have zero:∀v H',EK a.op=0→Re a.op s.t s.H (AD s b.dst v H').t H':=fun v H' h0=>by
  refine ⟨ho v H',?_⟩
  cases hop:a.op <;> rw [hop] at h0 <;> simp only [] <;> simp [EK] at h0
 unfold EQ at *
 split at h
 ·next e =>
  by_cases h0:EK a.op=0
  ·exact HT (fun v H' h=>⟨⟨hg v H',by rw [Eg]; exact zero v H' h0⟩,h⟩) h
  ·by_cases hb:EK b.op≤1
   ·obtain ⟨v,h1,h2⟩:=KX hb h
    refine h2 s.t s.H _ ⟨fun _ _=>rfl,?_⟩ ⟨⟨hg v s.H,by rw [Eg]; exact grown v s.H (fun e z hbe=>by rw [hbe] at hb; simp [EK] at hb) (fun _ _ h=>h)⟩,h1⟩
    cases b.op <;> simp only [] <;> first | trivial | exact fun _ _ h=>h | exact fun _ _ _ _ _ h=>h | exact ⟨fun _ _=>.inl trivial,fun _ _ h=>.inl h⟩ | exact fun _ _ _ _ _ h=>h
   ·by_cases hb2:EK b.op=2
    ·refine HT (fun v H' h=>?_) (Qd hb2 h)
     obtain ⟨⟨nb,x,hn,hH,hv⟩,h1⟩:=h
     subst hH
     refine ⟨⟨hg _ _,?_⟩,h1⟩
     rw [Eg]
     refine grown _ _ (fun e z hbe=>⟨nb,hv ⟨e,z,hbe⟩,hn⟩) (fun k y hk=>?_)
     rw [AL,if_neg (by rintro rfl; rw [hn] at hk; cases hk)]
     exact hk
    ·rcases hs.cls with h4 | h4 | h4 | h4 | h4 | h4 | h4 | h4 | h4 | h4 | h4 | h4 | h4 | h4
     ·exact absurd h4 h0
     ·omega
     ·omega
     ·obtain ⟨g,p,l,n,d,v,e1,e2,hd⟩:=h4
      rw [e2] at h ⊢
      simp only [AJ] at h ⊢
      split at h
      ·next bb off et =>
       refine ⟨h.1,?_⟩
       have h:=h.2
       split at h
       ·next et' cells eH =>
        refine ⟨h.1,⟨hg _ _,?_⟩,h.2⟩
        rw [Eg]
        refine ⟨ho _ _,?_⟩
        rw [e1]
        refine ⟨fun d' hd'=>hnw _ _ (fun e z hbe=>by rw [e2] at hbe; cases hbe) d' (by rw [e1]; exact hd'),fun k x hk=>?_⟩
        rw [AL]
        by_cases hkb:bb=k
        ·subst hkb; exact .inr ⟨d,hd,off,et⟩
        ·rw [if_neg hkb]; exact .inl hk
       ·exact h.elim
      ·exact h.elim
     ·obtain ⟨hp,n,d,v,e2⟩:=h4
      rw [e2] at h ⊢
      simp only [AJ] at h ⊢
      split at h
      ·next bb off et =>
       refine ⟨h.1,?_⟩
       have h:=h.2
       split at h
       ·next et' cells eH =>
        refine ⟨h.1,⟨hg _ _,?_⟩,h.2⟩
        rw [Eg]
        refine ⟨ho _ _,?_⟩
        have key:∀k t sz cap xs,s.H k=some (.row t sz cap xs)→AG s.H bb (some (.box et' (setSeg cells off (EO (ev s.t v))))) k=some (.row t sz cap xs):=fun k t sz cap xs hk=>by
         rw [AL,if_neg (by rintro rfl; rw [hk] at eH; cases eH)]; exact hk
        rcases hp with ⟨f,xs,e1⟩ | ⟨f,xs,e1⟩ <;> rw [e1] <;> exact key
       ·exact h.elim
      ·exact h.elim
     ·obtain ⟨g,d,f,xs,l,e1,e2,hd⟩:=h4
      rw [e2] at h ⊢
      simp only [AJ] at h ⊢
      refine CallW.mono' h fun r H' h=>⟨h.1,⟨hg _ _,?_⟩,h.2⟩
      rw [Eg]
      refine ⟨ho _ _,?_⟩
      rw [e1]
      exact h.1 d hd
     ·obtain ⟨g,d,e,sz,bytes,z,sx,x,e1,e2⟩:=h4
      rw [e2] at h ⊢
      simp only [AJ] at h ⊢
      have key:∀(v:AV) (H':Heap),(∀k e cells,s.H k=some (.box e cells)→H' k=some (.box e cells))→Re a.op s.t s.H (AD s b.dst v H').t H':=fun v H' hk=>by
       refine ⟨ho _ _,?_⟩
       rw [e1]
       exact fun k off _ e cells=>hk k e cells
      refine JX (fun n ys h=>?_) h
      rcases h with ⟨g0,g1,h⟩ | h
      ·refine .inl ⟨g0,g1,?_⟩
       split at h
       ·exact ⟨⟨hg _ _,by rw [Eg]; exact key _ _ fun _ _ _ h=>h⟩,h⟩
       ·exact ⟨⟨hg _ _,by rw [Eg]; exact key _ _ fun _ _ _ h=>h⟩,h⟩
       ·exact h
      ·refine .inr ⟨h.1,?_⟩
       have h:=h.2
       split at h
       ·refine ⟨h.1,fun b' hb cap=>⟨⟨hg _ _,?_⟩,h.2 b' hb cap⟩⟩
        rw [Eg]
        refine key _ _ fun k e' cells hk=>?_
        rw [AL,if_neg (by rintro rfl; rw [hb] at hk; cases hk)]
        exact hk
       ·next bb n' off len cap es =>
        split at h
        ·next eH =>
         refine ⟨h.1,fun b' cap' hb=>⟨⟨hg _ _,?_⟩,h.2 b' cap' hb⟩⟩
         rw [Eg]
         refine key _ _ fun k e' cells hk=>?_
         have hkb:¬bb=k:=by rintro rfl; rw [hk] at eH; cases eH
         have hkb':¬b'=k:=by
          rintro rfl
          rw [AL,if_neg hkb,hk] at hb
          cases hb
         rw [AL,if_neg hkb',AL,if_neg hkb]
         exact hk
        ·exact h.elim
       ·next bb n' off len cap es =>
        split at h
        ·next eH =>
         refine ⟨h.1,fun b' cap' hb=>⟨⟨hg _ _,?_⟩,h.2 b' cap' hb⟩⟩
         rw [Eg]
         refine key _ _ fun k e' cells hk=>?_
         have hkb:¬bb=k:=by rintro rfl; rw [hk] at eH; cases eH
         have hkb':¬b'=k:=by
          rintro rfl
          rw [AL,if_neg hkb,hk] at hb
          cases hb
         rw [AL,if_neg hkb',AL,if_neg hkb]
         exact hk
        ·exact h.elim
       ·exact h.elim
     ·obtain ⟨e,sz,bytes,z,sx,x,e1,e2,_⟩:=h4
      rw [e1] at ha; simp [EK] at ha
     ·obtain ⟨⟨_,_,e1⟩ | ⟨_,_,_,_,_,e1⟩,_⟩:=h4 <;> rw [e1] at ha <;> simp [EK] at ha
     ·obtain ⟨g,d,n,p,v,l,e1,e2,hd⟩:=h4
      rw [e2] at h ⊢
      simp only [AJ] at h ⊢
      split at h
      ·next bb off et =>
       refine ⟨h.1,h.2.1,?_⟩
       have hno:=JM.1 h.1
       have h:=h.2.2
       split at h
       ·next et' cells eH =>
        refine ⟨h.1,⟨hg _ _,?_⟩,h.2⟩
        rw [Eg]
        refine ⟨ho _ _,?_⟩
        rw [e1]
        intro k off' htk e' cells' hk
        rw [AL,if_neg (fun e=>hno d hd k off' bb htk rfl e.symm)]
        exact hk
       ·exact h.elim
      ·exact h.elim
     ·obtain ⟨g,d,f,xs,l,e1,e2,hd⟩:=h4
      rw [e2] at h ⊢
      simp only [AJ] at h ⊢
      split at h
      ·refine CallW.mono' h fun r H' h=>⟨h.1,⟨hg _ _,?_⟩,h.2⟩
       rw [Eg]
       refine ⟨ho _ _,?_⟩
       rw [e1]
       exact h.1 d hd
      ·exact h.elim
     ·obtain ⟨g,p,e,sz,bytes,z,x,e1,e2⟩:=h4
      rw [e2] at h ⊢
      simp only [AJ] at h ⊢
      split at h
      ·split at h
       ·refine ⟨h.1,fun nb hn=>⟨⟨hg _ _,?_⟩,h.2 nb hn⟩⟩
        rw [Eg]
        refine ⟨ho _ _,?_⟩
        rw [e1]
        intro k y hk
        rw [AL,if_neg (by rintro rfl; rw [hn] at hk; cases hk)]
        exact hk
       ·exact h.elim
      ·exact h.elim
     ·obtain ⟨g,p,f,xs,e1,e2⟩:=h4
      rw [e2] at h ⊢
      simp only [AJ] at h ⊢
      obtain ⟨args',e,sz,ys,g1,g2,g3,g4⟩:=h
      refine ⟨args',e,sz,ys,g1,g2,fun e0 n=>⟨⟨hg _ _,?_⟩,g3 e0 n⟩,fun nb cap hn=>⟨⟨hg _ _,?_⟩,g4 nb cap hn⟩⟩
      ·rw [Eg]
       refine ⟨ho _ _,?_⟩
       rw [e1]
       exact fun k y hk=>hk
      ·rw [Eg]
       refine ⟨ho _ _,?_⟩
       rw [e1]
       intro k y hk
       rw [AL,if_neg (by rintro rfl; rw [hn] at hk; cases hk)]
       exact hk
     ·obtain ⟨g,d,n,p,v,e1,e2⟩:=h4
      rw [e2] at h ⊢
      simp only [AJ] at h ⊢
      split at h
      ·split at h
       ·next eH =>
        obtain ⟨h1,h2,el,h3,h4,h5⟩:=h
        refine ⟨h1,h2,el,h3,h4,⟨hg _ _,?_⟩,h5⟩
        rw [Eg]
        refine ⟨ho _ _,?_⟩
        rw [e1]
        intro k off htk e' cells hk
        rw [AL,if_neg (by rintro rfl; rw [hk] at eH; cases eH)]
        exact hk
       ·exact h.elim
      ·exact h.elim
 ·next e =>
  refine ⟨⟨hg _ _,?_⟩,h⟩
  rw [Eg]
  refine ⟨ho _ _,?_⟩
  have hv:∀d∈Fi a.op,(AD s b.dst .void s.H).t d=s.t d∨(∃bb off,(AD s b.dst .void s.H).t d = .ptr bb off∧s.H bb=none)∨(AD s b.dst .void s.H).t d = .void:=fun d hd=>by
   by_cases e:b.dst=some d
   ·rw [e]
    rcases Mf (s:=s) (i:=d) (v:=.void) (H:=s.H) with h | h
    ·exact .inr (.inr h)
    ·exact .inl h
   ·exact .inl (FD e)
  cases hop:a.op <;> simp only [] <;> rw [hop] at hv
  ·exact fun _ _ h=>h
  ·exact ⟨fun d hd=>hv d hd,fun _ _ h=>.inl h⟩
  ·exact fun _ _ _ _ _ h=>h
  ·exact fun _ _ _ _ _ h=>h
  ·exact fun _ _ _ _ _ h=>h
 ·exact h
theorem VU {b:AO} {s:St} {K:St→Prop} (h:EQ P b s K):EQ P b s fun s2=>(∀i,b.dst≠some i→s2.t i=s.t i)∧K s2:=by
 unfold EQ at *
 split
 ·next e=>rw [e] at h; exact HT (fun v H' h=>⟨fun i hi=>FD hi,h⟩) h
 ·next e=>rw [e] at h; exact ⟨fun i hi=>FD hi,h⟩
 ·next e=>rw [e] at h; exact h
theorem QX {a b:AO} (hs:SwapOk a b) {s:St} {K:St→Prop} (h:EQ P b s K):EQ P b s fun s2=>EV s2.t a=EV s.t a∧K s2 :=
 HL (fun s2 h=>⟨GS fun i hi=>h.1 i fun e=>(hs.ba i e).1 hi,h.2⟩) (VU h)
theorem Ol {t:TM} {H:Heap} {K:AV→Heap→Prop} {e:TypeId} {z:List AV}:AJ P t H K (.alloc e z)=∀b,H b=none→K (.ptr b 0) (AG H b (some (.box e z))):=rfl
theorem HW {H:Heap} {i j:Nat} {x y:Option Blk} (h:i≠j):AG (AG H i x) j y=AG (AG H j y) i x:=by
 funext k
 simp only [AL]
 by_cases h1:i=k
 ·subst h1; rw [if_neg (fun e=>h e.symm),if_pos rfl]; simp
 ·by_cases h2:j=k
  ·subst h2; rw [if_pos rfl,if_neg h1]; simp
  ·simp [h1,h2]
theorem RC {t:TM} {H:Heap} {K K2:AV→Heap→Prop} {e:TypeId} {xb:Blk} {sz bytes nb:Nat} {z:List AV} {sx x:Opd} (hn:H nb=none) (hk:∀v H',K v H'→H' nb=none→K2 v (AG H' nb (some xb))) (h:AJ P t H K (.append e sz bytes z sx x)):AJ P t (AG H nb (some xb)) K2 (.append e sz bytes z sx x):=by
 simp only [AJ] at h ⊢
 have main:∀n ys,((ys=[]∧z.length=sz∧match ev t sx with
   | .nilsl n=>K (.nilsl n) H
   | .own b n off len cap=>K (.own b n off len cap) H
   | _=>False)∨VC (n=sz∧ys≠[]∧z.length=sz) (
   match ev t sx with
   | .nilsl _=>VC (ys.length*bytes≤140737488355328∧ys.length≤maxLen) (FL H (.row e sz 0 []) fun b _=>∀cap,K (.own b sz 0 ys.length cap) (AG H b (some (.row e sz cap ys))))
   | .own b sz'' off len cap=>match H b with
    | some (.row e' sz''' cap'' xs)=>VC (e'=e∧sz''=sz∧sz'''=sz∧off=0∧cap=cap''∧len=xs.length∧(xs.length+ys.length)*bytes≤140737488355328∧xs.length+ys.length≤maxLen)
      (F8 H b fun b' cap'=>K (.own b' sz 0 (len+ys.length) cap') (AG (AG H b none) b' (some (.row e sz cap' (xs++ys)))))
    | _=>False
   | .part b sz'' off len cap=>match H b with
    | some (.row e' sz''' cap'' xs)=>VC (e'=e∧sz''=sz∧sz'''=sz∧off=0∧(cap=0→len=0)∧cap<len+ys.length∧len≤xs.length∧(len+ys.length)*bytes≤140737488355328∧len+ys.length≤maxLen)
      (F8 H b fun b' cap'=>K (.own b' sz 0 (len+ys.length) cap') (AG (AG H b none) b' (some (.row e sz cap' (xs.take len++ys)))))
    | _=>False
   | _=>False))→((ys=[]∧z.length=sz∧match ev t sx with
   | .nilsl n=>K2 (.nilsl n) (AG H nb (some xb))
   | .own b n off len cap=>K2 (.own b n off len cap) (AG H nb (some xb))
   | _=>False)∨VC (n=sz∧ys≠[]∧z.length=sz) (
   match ev t sx with
   | .nilsl _=>VC (ys.length*bytes≤140737488355328∧ys.length≤maxLen) (FL (AG H nb (some xb)) (.row e sz 0 []) fun b _=>∀cap,K2 (.own b sz 0 ys.length cap) (AG (AG H nb (some xb)) b (some (.row e sz cap ys))))
   | .own b sz'' off len cap=>match (AG H nb (some xb)) b with
    | some (.row e' sz''' cap'' xs)=>VC (e'=e∧sz''=sz∧sz'''=sz∧off=0∧cap=cap''∧len=xs.length∧(xs.length+ys.length)*bytes≤140737488355328∧xs.length+ys.length≤maxLen)
      (F8 (AG H nb (some xb)) b fun b' cap'=>K2 (.own b' sz 0 (len+ys.length) cap') (AG (AG (AG H nb (some xb)) b none) b' (some (.row e sz cap' (xs++ys)))))
    | _=>False
   | .part b sz'' off len cap=>match (AG H nb (some xb)) b with
    | some (.row e' sz''' cap'' xs)=>VC (e'=e∧sz''=sz∧sz'''=sz∧off=0∧(cap=0→len=0)∧cap<len+ys.length∧len≤xs.length∧(len+ys.length)*bytes≤140737488355328∧len+ys.length≤maxLen)
      (F8 (AG H nb (some xb)) b fun b' cap'=>K2 (.own b' sz 0 (len+ys.length) cap') (AG (AG (AG H nb (some xb)) b none) b' (some (.row e sz cap' (xs.take len++ys)))))
    | _=>False
   | _=>False)):=by
  intro n ys h
  rcases h with ⟨g0,g1,h⟩ | h
  ·refine .inl ⟨g0,g1,?_⟩
   split at h
   ·exact hk _ _ h hn
   ·exact hk _ _ h hn
   ·exact h
  ·refine .inr ⟨h.1,?_⟩
   have h:=h.2
   split at h
   ·refine ⟨h.1,fun b hb cap=>?_⟩
    have hne:¬nb=b:=by
     rintro rfl
     rw [AL,if_pos rfl] at hb; cases hb
    rw [AL,if_neg hne] at hb
    have:=hk _ _ (h.2 b hb cap) (by rw [AL,if_neg (fun k=>hne k.symm)]; exact hn)
    rwa [HW (fun k=>hne k.symm)] at this
   ·next b n' off len cap es =>
    have hne:¬nb=b:=by
     rintro rfl
     rw [hn] at h; exact h
    have hu:AG H nb (some xb) b=H b:=by rw [AL,if_neg hne]
    rw [hu]
    split at h
    ·refine ⟨h.1,fun b' cap' hb=>?_⟩
     have hne':¬nb=b':=by
      rintro rfl
      rw [AL,if_neg (fun k=>hne k.symm),AL,if_pos rfl] at hb
      cases hb
     have hb2:AG H b none b'=none:=by
      rw [AL] at hb ⊢
      split at hb
      ·next k=>rw [if_pos k]
      ·next k=>rw [if_neg k]; rw [AL,if_neg hne'] at hb; exact hb
     have:=hk _ _ (h.2 b' cap' hb2) (by rw [AL,if_neg (fun k=>hne' k.symm),AL,if_neg (fun k=>hne k.symm)]; exact hn)
     rw [HW (fun k=>hne' k.symm)] at this
     have e2:AG (AG H b none) nb (some xb)=AG (AG H nb (some xb)) b none:=by
      funext k
      simp only [AL]
      by_cases k1:nb=k
      ·subst k1; rw [if_pos rfl,if_neg (fun k=>hne k.symm),if_pos rfl]
      ·rw [if_neg k1,if_neg k1]
     rwa [e2] at this
    ·exact h.elim
   ·next b n' off len cap es =>
    have hne:¬nb=b:=by
     rintro rfl
     rw [hn] at h; exact h
    have hu:AG H nb (some xb) b=H b:=by rw [AL,if_neg hne]
    rw [hu]
    split at h
    ·refine ⟨h.1,fun b' cap' hb=>?_⟩
     have hne':¬nb=b':=by
      rintro rfl
      rw [AL,if_neg (fun k=>hne k.symm),AL,if_pos rfl] at hb
      cases hb
     have hb2:AG H b none b'=none:=by
      rw [AL] at hb ⊢
      split at hb
      ·next k=>rw [if_pos k]
      ·next k=>rw [if_neg k]; rw [AL,if_neg hne'] at hb; exact hb
     have:=hk _ _ (h.2 b' cap' hb2) (by rw [AL,if_neg (fun k=>hne' k.symm),AL,if_neg (fun k=>hne k.symm)]; exact hn)
     rw [HW (fun k=>hne' k.symm)] at this
     have e2:AG (AG H b none) nb (some xb)=AG (AG H nb (some xb)) b none:=by
      funext k
      simp only [AL]
      by_cases k1:nb=k
      ·subst k1; rw [if_pos rfl,if_neg (fun k=>hne k.symm),if_pos rfl]
      ·rw [if_neg k1,if_neg k1]
     rwa [e2] at this
    ·exact h.elim
   ·exact h.elim
 unfold Er at h ⊢
 split at h
 ·exact main _ _ h
 ·exact main _ _ h
 ·next b n' off len cap es =>
  have hne:¬nb=b:=by
   rintro rfl
   rw [hn] at h; exact h
  rw [show AG H nb (some xb) b=H b by rw [AL,if_neg hne]]
  split at h
  ·exact ⟨h.1,main _ _ h.2⟩
  ·exact h.elim
 ·next b n' off len cap es =>
  have hne:¬nb=b:=by
   rintro rfl
   rw [hn] at h; exact h
  rw [show AG H nb (some xb) b=H b by rw [AL,if_neg hne]]
  split at h
  ·exact ⟨h.1,main _ _ h.2⟩
  ·exact h.elim
 ·exact h.elim
theorem VQ {a b:AO} (hs:SwapOk a b) {s:St} {K:St→Prop} (h:EQ P a s fun s1=>EQ P b s1 K):EQ P b s fun s2=>EQ P a s2 K:=by
 cases hg:EV s.t a with
 | none=>simp only [EQ,hg] at h
 | some g =>
  cases g with
  | false =>
   have h':EQ P b (AD s a.dst .void s.H) K:=by simpa only [EQ,hg] using h
   refine HL (fun s2 h2=>?_) (QX hs (Lp hs.ab h'))
   simp only [EQ,h2.1,hg]
   exact h2.2
  | true =>
   have h':AJ P s.t s.H (fun v H'=>EQ P b (AD s a.dst v H') K) a.op:=by simpa only [EQ,hg] using h
   by_cases ha:EK a.op≤1
   ·obtain ⟨v,h1,h2⟩:=KX ha h'
    refine HL (fun s2 h3=>?_) (Nw hs ha (Lp hs.ab h1))
    obtain ⟨⟨h4,h5⟩,h6⟩:=h3
    simp only [EQ,h4,hg]
    exact h2 s2.t s2.H _ h5 h6
   ·by_cases hap:∃e sz bytes z sx x,a.op = .append e sz bytes z sx x∧GZ b.op∧b.guard=none
    ·obtain ⟨e,sz,bytes,z,sx,x,e1,e2,e3⟩:=hap
     have hgb:∀u,EV u b=some true:=fun u=>by simp [EV,e3]
     have hga:∀v H',EV (AD s b.dst v H').t a=some true:=fun v H'=>by rw [←hg]; exact GS fun i hi=>FD fun e=>(hs.ba i e).1 hi
     have hoa:∀v H' H2 K2,AJ P (AD s b.dst v H').t H2 K2 a.op=AJ P s.t H2 K2 a.op:=fun v H' H2 K2=>It (fun i hi=>FD fun e=>(hs.ba i e).1 (Ga hi)) (fun d hd=>by
      rw [e1] at hd; simp [Fi] at hd)
     have hob:∀v H',Fm (AD s a.dst v H').t b.op=Fm s.t b.op:=fun v H'=>JT fun i hi=>FD fun e=>(hs.ab i e).1 (Ga hi)
     simp only [EQ,hgb,hga,JE e2,Eg,hoa,hob] at h' ⊢
     rw [e1] at h' ⊢
     refine ⟨fun hf=>?_,fun nb hn f hf=>RC hn (fun v H' h1 h2=>?_) h'⟩
     ·obtain ⟨v,H',h1,h2⟩:=Vb hf h'
      exact h1.1 h2
     ·have:=h1.2 nb h2 f hf
      rw [HE (H3:=AG s.H nb (some (f nb).2)) (fun i e=>(hs.ab i e).2.2)] at this
      exact this
    by_cases hnn:GZ a.op∧GZ b.op∧(b.guard=none∨b.guard=a.guard)
    ·obtain ⟨na,nb',hgd⟩:=hnn
     have hgo:EV s.t b=some true:=by
      rcases hgd with e | e
      ·simp [EV,e]
      ·rw [show EV s.t b=EV s.t a by simp only [EV,e],hg]
     have hgb:∀v H',EV (AD s a.dst v H').t b=some true:=fun v H'=>by rw [←hgo]; exact GS fun i hi=>FD fun e=>(hs.ab i e).1 hi
     have hga:∀v H',EV (AD s b.dst v H').t a=some true:=fun v H'=>by rw [←hg]; exact GS fun i hi=>FD fun e=>(hs.ba i e).1 hi
     have hoa:∀v H',Fm (AD s b.dst v H').t a.op=Fm s.t a.op:=fun v H'=>JT fun i hi=>FD fun e=>(hs.ba i e).1 (Ga hi)
     have hob:∀v H',Fm (AD s a.dst v H').t b.op=Fm s.t b.op:=fun v H'=>JT fun i hi=>FD fun e=>(hs.ab i e).1 (Ga hi)
     simp only [EQ,hgb,hga,hgo,JE na,JE nb',Eg,hoa,hob] at h' ⊢
     refine ⟨fun hf=>?_,fun kb hkb fb hfb=>⟨fun hf=>h'.1 (Gi.1 hf),fun ka hka fa hfa=>?_⟩⟩
     ·obtain ⟨k,_,hk⟩:=hf 0
      obtain ⟨fa,hfa⟩:=Option.isSome_iff_exists.1 (h'.1 hf)
      exact (h'.2 k hk fa hfa).1 (Gi.2 hf)
     ·rw [AL] at hka
      split at hka
      ·cases hka
      ·next hne =>
       have:=(h'.2 ka hka fa hfa).2 kb (by rw [AL,if_neg (fun e=>hne e.symm)]; exact hkb) fb hfb
       rw [HW (fun e=>hne e.symm),HE (H3:=AG s.H kb (some (fb kb).2)) (fun i e=>(hs.ab i e).2.2)] at this
       exact this
    have h2:EK a.op=2∧(b.guard=none∨b.guard=a.guard)∧(∀e sz len z ps,a.op≠.buildSliceD e sz len z ps)∧∃e z,b.op = .alloc e z:=by
     rcases hs.cls with h4 | h4 | h4 | h4 | h4 | h4 | h4 | h4 | h4 | h4 | h4 | h4 | h4 | h4
     ·omega
     ·omega
     ·exact h4
     ·obtain ⟨g,p,l,n,d,v,e1,e2,hd⟩:=h4; rw [e1] at ha; simp [EK] at ha
     ·obtain ⟨⟨f,xs,e1⟩ | ⟨f,xs,e1⟩,_⟩:=h4 <;> rw [e1] at ha <;> simp [EK] at ha
     ·obtain ⟨g,d,f,xs,l,e1,e2,hd⟩:=h4; rw [e1] at ha; simp [EK] at ha
     ·obtain ⟨g,d,e,sz,bytes,z,sx,x,e1,e2⟩:=h4; rw [e1] at ha; simp [EK] at ha
     ·exact absurd h4 hap
     ·exact absurd h4 hnn
     ·obtain ⟨g,d,n,p,v,l,e1,e2,hd⟩:=h4; rw [e1] at ha; simp [EK] at ha
     ·obtain ⟨g,d,f,xs,l,e1,e2,hd⟩:=h4; rw [e1] at ha; simp [EK] at ha
     ·obtain ⟨g,p,e,sz,bytes,z,x,e1,e2⟩:=h4; rw [e1] at ha; simp [EK] at ha
     ·obtain ⟨g,p,f,xs,e1,e2⟩:=h4; rw [e1] at ha; simp [EK] at ha
     ·obtain ⟨g,d,n,p,v,e1,e2⟩:=h4; rw [e1] at ha; simp [EK] at ha
    obtain ⟨h2,hgd,hnd,e,z,hb⟩:=h2
    obtain ⟨x,mk,g1,g2,g3⟩:=SF h2 hnd h'
    have hgb:∀v H',EV (AD s a.dst v H').t b=EV s.t b:=fun v H'=>GS fun i hi=>FD fun e=>(hs.ab i e).1 hi
    have hga:∀v H',EV (AD s b.dst v H').t a=EV s.t a:=fun v H'=>GS fun i hi=>FD fun e=>(hs.ba i e).1 hi
    have hoa:∀v H' H2 K2,AJ P (AD s b.dst v H').t H2 K2 a.op=AJ P s.t H2 K2 a.op:=fun v H' H2 K2=>It (fun i hi=>FD fun e=>(hs.ba i e).1 (Ga hi)) (fun d hd=>by
     cases hop:a.op <;> rw [hop] at h2 hd <;> simp [EK,Fi] at h2 hd)
    unfold EQ at g1 ⊢
    simp only [hgb,hga,hg,hoa] at g1 ⊢
    cases hgo:EV s.t b with
    | none =>
     exfalso
     rcases hgd with e | e
     ·simp [EV,e] at hgo
     ·rw [show EV s.t b=EV s.t a by simp only [EV,e],hg] at hgo
      cases hgo
    | some g =>
     rw [hgo] at g1
     cases g with
     | false =>
      simp only [Eg] at g1 ⊢
      refine g2 s.H _ fun nb hn=>?_
      have:=g1 nb hn
      rw [HE (H3:=s.H) (fun i e=>(hs.ab i e).2.2)] at this
      exact this
     | true =>
      rw [hb] at g1 ⊢
      simp only [Ol,Eg] at g1 ⊢
      refine fun nb hn=>g2 _ _ fun na hna=>?_
      rw [AL] at hna
      split at hna
      ·cases hna
      ·next hne =>
       have:=g1 na hna nb (by rw [AL,if_neg (fun e=>hne e.symm)]; exact hn)
       rw [HW (fun e=>hne e.symm),HE (H3:=AG s.H nb (some (.box e z))) (fun i e=>(hs.ab i e).2.2)] at this
       exact this
def GL (P:Program) (aos:List AO):List Nat→St→(St→Prop)→Prop
 | [],s,K=>K s
 | i::r,s,K=>match aos[i]? with
  | some o=>EQ P o s fun s'=>GL P aos r s' K
  | none=>False
theorem Kt {aos:List AO}:∀{l:List Nat} {os:List AO} {s:St} {K:St→Prop},Hj aos l=some os→FO P os s K→GL P aos l s K
 | [],os,s,K,hl,h=>by simp only [Hj,Option.some.injEq] at hl; subst hl; exact h
 | i::r,os,s,K,hl,h=>by
  simp only [Hj] at hl
  split at hl
  ·next a l h1 h2 =>
   cases hl
   rw [KK] at h
   simp only [GL,h1]
   exact HL (fun s' h=>Kt h2 h) h
  ·cases hl
theorem Le {after clo:List (List Nat)} {aos:List AO}:∀{l:List Nat},IT after clo aos l=true→l.Pairwise fun i j=>Gl after clo aos i j=true
 | [],_=>.nil
 | i::r,h=>by
  simp only [IT,Bool.and_eq_true,List.all_eq_true] at h
  exact .cons h.1 (Le h.2)
theorem LG {after clo:List (List Nat)} {aos:List AO} {i:Nat} {K:St→Prop}:∀{l:List Nat} {s:St},l.Pairwise (fun i j=>Gl after clo aos i j=true)→(∀x∈l,x∉clo.getD i [])→i∈l→GL P aos l s K →
  ∃o,aos[i]? = some o∧EQ P o s fun s'=>GL P aos (l.erase i) s' K
 | [],s,_,_,hi,_=>by cases hi
 | a::r,s,hp,hc,hi,h=>by
  simp only [GL] at h
  cases ha:aos[a]? with
  | none=>rw [ha] at h; exact h.elim
  | some oa =>
   rw [ha] at h
   dsimp only at h
   by_cases e:a=i
   ·subst e
    refine ⟨oa,ha,?_⟩
    rw [List.erase_cons_head]
    exact h
   ·have hir:i∈r:=by
     rcases List.mem_cons.1 hi with h | h
     ·exact absurd h.symm e
     ·exact h
    have hpa:=List.pairwise_cons.1 hp
    have hpi:=hpa.1 i hir
    simp only [Gl,Bool.and_eq_true,Bool.or_eq_true] at hpi
    have hsw:=hpi.2
    have hsw:(match aos[a]?,aos[i]? with | some a,some b=>Iw a b | _,_=>false)=true:=by
     rcases hsw with h | h
     ·exact absurd (by simpa using h) (hc a (by simp))
     ·exact h
    rw [ha] at hsw
    cases hio:aos[i]? with
    | none=>rw [hio] at hsw; cases hsw
    | some oi =>
     rw [hio] at hsw
     refine ⟨oi,rfl,?_⟩
     have key:EQ P oa s fun s1=>EQ P oi s1 fun s'=>GL P aos (r.erase i) s' K:=HL (fun s1 h1=>by
      obtain ⟨o,h2,h3⟩:=LG hpa.2 (fun x hx=>hc x (by simp [hx])) hir h1
      rw [hio] at h2; cases h2
      exact h3) h
     refine HL (fun s' h'=>?_) (VQ (OU hsw) key)
     rw [List.erase_cons_tail (by simpa using e)]
     simp only [GL,ha]
     exact h'
end
section
variable {P:Program} {B:Nat} {r:Option Nat}
theorem Step.defs {F F':Nat→Prop} {H H':Heap} {w w':World} {ds:List Deferred} (st:Step F H w F' H' w') (h:DefOK B F H ds w):DefOK B F' H' ds w':=by
 obtain ⟨h0,ms,h1,h2,h3⟩:=h
 refine ⟨Nat.le_trans h0 st.size,ms,h1,h2,fun D hD=>?_⟩
 obtain ⟨g1,g2,g3,g4⟩:=h3 D hD
 have hlt:D<w.heap.size:=(Array.getElem?_eq_some_iff.1 g4).1
 refine ⟨g1,?_,fun hF=>?_,(st.keep D hlt g2).trans g4⟩
 ·cases e:H' D with
  | none=>rfl
  | some x=>rcases st.dom D (by rw [e]; simp) with h | h
            ·exact absurd g2 h
            ·omega
 ·rcases st.new D hF with h | h | h
  ·exact g3 h
  ·exact h g2
  ·omega
theorem Rel.put {F F':Nat→Prop} {s:St} {a:Act} {w w':World} {H':Heap} (hr:Rel P B F s a w) (st:Step F s.H w F' H' w') (hh:HRel P F' H' w') (dst:Option Nat) {av:AV} {v:Value} (hv:VR P F' w' av v) :
  Rel P B F' (AD s dst av H') (a.put dst v) w':=by
 obtain ⟨h1,h2,h3,h4⟩:=hr
 have h4':∀t,VR P F' w' (s.t t) (a.tmps.getD t undef):=fun t=>st.VR h1 (h4 t)
 have h2:=st.defs h2
 cases dst with
 | none=>exact ⟨hh,h2,h3,h4'⟩
 | some d =>
  simp only [AD]
  split
  ·next hd =>
   refine ⟨hh,h2,by simp [Act.put,h3],fun t=>?_⟩
   simp only [Ao,Act.put]
   by_cases e:d=t
   ·subst e
    simp only [beq_self_eq_true,cond_true]
    rw [show (a.tmps.setIfInBounds d v).getD d undef=v by simp [Array.getD,h3,hd]]
    exact hv
   ·rw [show (d == t)=false by simpa using e]
    simp only [cond_false]
    rw [show (a.tmps.setIfInBounds d v).getD t undef=a.tmps.getD t undef by rw [Array.getD_eq_getD_getElem?,Array.getD_eq_getD_getElem?,Array.getElem?_setIfInBounds_ne e]]
    exact h4' t
  ·next hd =>
   have e:a.tmps.setIfInBounds d v=a.tmps:=by
    apply Array.ext'
    simp only [Array.toList_setIfInBounds]
    exact List.set_eq_of_length_le (by simp; omega)
   simp only [Act.put,e]
   exact ⟨hh,h2,h3,h4'⟩
theorem Step.put {F F' F'':Nat→Prop} {s:St} {w w' w'':World} {H' H'':Heap} {dst:Option Nat} {av:AV} (h:Step F s.H w F' H' w') (h2:Step F' (AD s dst av H').H w' F'' H'' w''):Step F s.H w F'' H'' w'' :=
 h.trans (by rw [Eg] at h2; exact h2)
theorem Lh {ops:Array Oper} {Q:Exit→Act→World→Prop} {o:Oper} {ao:AO} {F:Nat→Prop} {s:St} {a:Act} {w:World} {K:St→Prop} {K':Act→World→Prop} (hc:H8 P ops o=some ao) (hr:Rel P B F s a w) (hk:EQ P ao s K)
  (hq:∀F' s' a' w',Rel P B F' s' a' w'→Step F s.H w F' s'.H w'→K s'→K' a' w'):if Region.wanted o (yielded ops a.tmps) then o.wpIn (Ey r) 0 P a w K' Q else (∀f,o.about P w a.eval=some f→(Ey r).fn f)∧K' (a.put o.dst undef) w:=by
 unfold H8 at hc
 split at hc
 ·next g op hg hop =>
  cases hc
  have run:AJ P s.t s.H (fun v H'=>K (AD s o.dst v H')) op→o.wpIn (Ey r) 0 P a w K' Q:=fun hk =>
   Od hop hr hk r _ _ fun v av H' F' w' h1 h2 h3 h4=>hq F' _ _ _ (hr.put h3 h2 o.dst h1) (by rw [Eg]; exact h3) h4
  have skip:K (AD s o.dst .void s.H)→(∀f,o.about P w a.eval=some f→(Ey r).fn f)∧K' (a.put o.dst undef) w:=fun hk =>
   ⟨fun _ _=>trivial,hq F _ _ _ (hr.put (Step.refl _ _ _) hr.1 o.dst .void) (by rw [Eg]; exact Step.refl _ _ _) hk⟩
  cases hgd:o.guard with
  | none =>
   rw [hgd] at hg
   simp only [JJ,Option.some.injEq] at hg
   subst hg
   rw [if_pos (by simp [Region.wanted,hgd])]
   exact run hk
  | some jw =>
   obtain ⟨j,want⟩:=jw
   rw [hgd] at hg
   simp only [JJ] at hg
   split at hg
   ·next d hd =>
    cases hg
    have ht:=hr.2.2.2 d
    simp only [EQ,EV] at hk
    cases hsd:s.t d <;> rw [hsd] at hk <;> try exact hk.elim
    case d x =>
     cases x <;> try exact hk.elim
     next c =>
     rw [hsd] at ht
     generalize hv:a.tmps.getD d undef=v at ht
     cases ht; next ht =>
     cases ht
     have hy:yielded ops a.tmps j=some c:=by
      have hlt:d<a.tmps.size:=by
       rcases Nat.lt_or_ge d a.tmps.size with h | h
       ·exact h
       ·rw [Array.getD_eq_getD_getElem?,Array.getElem?_eq_none h] at hv; cases hv
      have h2:a.tmps[d]? = some (.bool c):=by
       rw [Array.getD_eq_getD_getElem?,Array.getElem?_eq_getElem hlt] at hv
       rw [Array.getElem?_eq_getElem hlt]
       simpa using hv
      simp [yielded,hd,h2]
     have hw:Region.wanted o (yielded ops a.tmps)=(c == want):=by simp [Region.wanted,hgd,hy]
     rw [hw]
     dsimp only at hk
     cases hcw:(c == want) with
     | true=>rw [hcw] at hk; rw [if_pos rfl]; exact run hk
     | false=>rw [hcw] at hk; rw [if_neg (by simp)]; exact skip hk
    case void =>
     rw [hsd] at ht
     generalize hv:a.tmps.getD d undef=v at ht
     cases ht
     have hy:yielded ops a.tmps j=none:=by
      unfold yielded
      rw [hd]
      simp only [Option.bind_some]
      rw [Array.getD_eq_getD_getElem?] at hv
      cases h3:a.tmps[d]? with
      | none=>rfl
      | some u =>
       rw [h3] at hv
       simp only [Option.getD_some] at hv
       subst hv
       rfl
     have hw:Region.wanted o (yielded ops a.tmps)=false:=by simp [Region.wanted,hgd,hy]
     rw [hw,if_neg (by simp)]
     exact skip hk
   ·cases hg
 ·cases hc
theorem MX {ops:Array Oper} {Q:Exit→Act→World→Prop}:∀{l:List Oper} {al:List AO} {F:Nat→Prop} {s:St} {a:Act} {w:World} {K:St→Prop},Fz P ops l=some al→Rel P B F s a w→FO P al s K →
  (∀F' s' a' w',Rel P B F' s' a' w'→Step F s.H w F' s'.H w'→K s'→Q .normal a' w')→wpListIn (Ey r) 0 P ops Q l a w
 | [],al,F,s,a,w,K,hc,hr,hk,hq=>by
  simp only [Fz,Option.some.injEq] at hc
  subst hc
  exact hq F s a w hr (Step.refl _ _ _) hk
 | o::l,al,F,s,a,w,K,hc,hr,hk,hq=>by
  simp only [Fz] at hc
  split at hc
  ·next ao al' ha hl =>
   cases hc
   rw [KK] at hk
   exact Lh ha hr hk fun F' s' a' w' h1 h2 h3=>MX hl h1 h3 fun F'' s'' a'' w'' r1 r2 r3=>hq F'' s'' a'' w'' r1 (h2.trans r2) r3
  ·cases hc
theorem Lb {H0 H:Heap} {K:List D→Heap→Prop}:∀{l:List AV} {ds:List D},Eb l=some ds→K ds H→Ak H0 H l K
 | [],ds,h,hk=>by simp only [Eb,Option.some.injEq] at h; subst h; exact hk
 | x::l,ds,h,hk=>by
  cases x <;> simp only [Eb,reduceCtorEq] at h
  all_goals
   split at h
   ·next ds' e =>
    cases h
    exact Lb (K:=fun xs H''=>K (_::xs) H'') e hk
   ·cases h
theorem Ut {H:Heap} {K:List D→Heap→Prop} {l:List AV} {ds:List D} (h:Eb l=some ds) (hk:K ds H):Ai H l K:=Lb h hk
theorem O6 {t:TM} {H:Heap} {K:AV→Heap→Prop} {b b2:Bool} {news:List Nat} {lp:Bool} {kp sk:Option (List Nat)} {op:AOp} (hf:Fh H) (h:AJ P t H K (Gw b b2 news lp kp sk op)):AJ P t H K op:=by
 cases op <;> try exact h
 case load g x =>
  simp only [Gw] at h
  split at h
  ·simp only [AJ] at h ⊢
   split at h
   ·next el off e=>rw [e]; exact h
   ·exact h.elim
  ·split at h
   ·split at h
    ·next d =>
     simp only [AJ,ev] at h ⊢
     split at h
     ·next b off e=>rw [e]; exact h
     ·exact h.elim
    ·exact h
   ·split at h
    ·exact h
    ·exact h.2
 case store n p v =>
  cases p with
  | c x=>exact h
  | t d =>
   simp only [Gw] at h
   split at h
   ·simp only [AJ,ev] at h ⊢
    split at h
    ·next b off e =>
     rw [e]
     exact h.2
    ·exact h.elim
   split at h
   ·simp only [AJ] at h ⊢
    simp only [ev]
    split at h
    ·next b off e =>
     rw [e]
     exact h
    ·exact h.elim
   ·exact h
 case buildSlice e sz len z ps =>
  simp only [Gw,AJ] at h ⊢
  have h1:=h.1 hf
  have h2:=h.2
  split
  ·next cs e1 =>
   rw [e1] at h1 h2
   cases e2:Eb cs with
   | none=>simp [GM,e2] at h1
   | some ds=>exact Ut (K:=fun ds H'=>FL H' (.row e sz len (Ag sz len ds)) fun b H''=>K (.own b sz 0 len len) H'') e2 (fun b hb=>h2 b hb _ (by simp [GM,e2]))
  ·next e1=>rw [e1] at h1; simp [GM] at h1
 case call f xs =>
  cases b
  ·simp only [Gw,Bool.false_eq_true,if_false] at h
   split at h
   ·simp only [AJ] at h ⊢
    exact CallW.mono' h fun r H' h=>h.2
   ·exact PCallK.call h
  ·exact h
 case callv g xs =>
  cases b
  ·simp only [Gw,Bool.false_eq_true,if_false] at h
   split at h
   ·simp only [AJ] at h ⊢
    split at h
    ·next e=>rw [e]; exact CallW.mono' h fun r H' h=>h.2
    ·exact h.elim
   ·simp only [AJ] at h ⊢
    split at h
    ·next e=>rw [e]; exact PCallK.call h
    ·exact h.elim
  ·exact h
theorem OY {t:TM} {H:Heap} {K:AV→Heap→Prop} {nc b b2:Bool} {news:List Nat} {lp:Bool} {kp sk:Option (List Nat)} {op:AOp} (hf:Fh H) (h:AJ P t H K (HD nc b b2 news lp kp sk op)):AJ P t H K op:=by
 unfold HD at h
 split at h
 ·split at h
  ·exact NCallK.call h
  ·simp only [AJ] at h ⊢
   split at h
   ·next e1 e2 =>
    split at h
    ·next eH =>
     obtain ⟨⟨rfl,hz⟩,h2,el,h3,h4,h5⟩:=h
     rw [e1,e2]
     simp only [GX,eH,EO,Ai,Ak,Am]
     exact ⟨rfl,hz,h2,el,h3,h4,h5⟩
    ·exact h.elim
   ·exact h.elim
  ·exact h
 ·exact O6 hf h
theorem Tk {o:AO} {nc b b2:Bool} {news:List Nat} {lp:Bool} {kp sk:Option (List Nat)} {s:St} {K:St→Prop} (hf:Fh s.H) (h:EQ P { o with op:=HD nc b b2 news lp kp sk o.op } s K):EQ P o s K:=by
 have e:EV s.t { o with op:=HD nc b b2 news lp kp sk o.op }=EV s.t o:=rfl
 unfold EQ at *
 rw [e] at h
 split
 ·next e=>rw [e] at h; exact OY hf h
 ·next e=>rw [e] at h; exact h
 ·next e=>rw [e] at h; exact h
theorem Rel.free {F:Nat→Prop} {s:St} {a:Act} {w:World} (h:Rel P B F s a w):Fh s.H:=fun n=>by
 refine ⟨max n w.heap.size,by omega,?_⟩
 cases e:s.H (max n w.heap.size) with
 | none=>rfl
 | some x=>have:=(h.1.at_ _ x e).lt; omega
theorem Rel.drawn {F:Nat→Prop} {s:St} {a:Act} {w:World} (h:Rel P B F s a w) (n:Nat):Rel P B F s a { w with drawn:=n } :=
 ⟨⟨fun b x hb=>(h.1.at_ b x hb).mono rfl (fun _ h=>h) (fun _ _=>rfl),h.1.apart,h.1.old⟩,h.2.1,h.2.2.1,fun t=>(h.2.2.2 t).mono (fun _ h=>h) (fun _ _=>rfl)⟩
theorem Step.drawn (F:Nat→Prop) (H:Heap) (w:World) (n:Nat):Step F H w F H { w with drawn:=n } where
 os:=rfl
 tape:=rfl
 output:=rfl
 size:=Nat.le_refl _
 keep:=fun _ _ _=>rfl
 dom:=fun _ h=>.inl h
 mono:=fun _ h=>h
 new:=fun _ h=>.inl h
theorem K1 {ops:Array Oper}:∀{l:List Oper} {al:List AO},Fz P ops l=some al→al.length=l.length∧∀(i:Nat) o,l[i]? = some o→∃ao,al[i]? = some ao∧H8 P ops o=some ao
 | [],al,h=>by simp only [Fz,Option.some.injEq] at h; subst h; exact ⟨rfl,fun i o h=>by simp at h⟩
 | o::l,al,h=>by
  simp only [Fz] at h
  split at h
  ·next a l' h1 h2 =>
   cases h
   obtain ⟨g1,g2⟩:=K1 h2
   refine ⟨by simp [g1],fun i o' hi=>?_⟩
   cases i with
   | zero=>simp only [List.getElem?_cons_zero,Option.some.injEq] at hi; subst hi; exact ⟨a,by simp,h1⟩
   | succ i=>simpa using g2 i o' (by simpa using hi)
  ·cases h
structure Drawn (P:Program) (ops:Array Oper) (after clo:List (List Nat)) (aos:List AO):Prop where
 ops_:∀(i:Nat) o,ops[i]? = some o→∃ao nc bo b2 nw lp kp sk,H8 P ops o=some ao∧aos[i]? = some { ao with op:=HD nc bo b2 nw lp kp sk ao.op }∧after.getD i []=Hz o
 clo_:∀i,∀x∈clo.getD i [],∃k∈after.getD i [],k=x∨x∈clo.getD k []
 aft_:∀i,∀k∈after.getD i [],k<ops.size
theorem Qc {ops:Array Oper} {after clo:List (List Nat)} {aos:List AO} {Q:Exit→Act→World→Prop} {K:St→Prop} {F0:Nat→Prop} {H0:Heap} {w0:World} (hd:Drawn P ops after clo aos)
  (hq:∀F' s' a' w',Rel P B F' s' a' w'→Step F0 H0 w0 F' s'.H w'→K s'→Q .normal a' w') :
  ∀(n:Nat) (l:List Nat) (listed:Array Bool) (F:Nat→Prop) (s:St) (a:Act) (w:World),l.length=n→listed.size=ops.size→(∀j,j<ops.size→(listed.getD j false=false↔j∈l))→(∀j∈l,j<ops.size) →
   l.Pairwise (fun i j=>Gl after clo aos i j=true)→(∀i∈l,i∉after.getD i [])→(∀k,k<ops.size→k∉l→∀x∈l,x∉clo.getD k []) →
   Rel P B F s a w→Step F0 H0 w0 F s.H w→GL P aos l s K→wpAnyIn (Ey r) 0 P .any ops Q n listed a w:=by
 have rdy:∀(l:List Nat) (listed:Array Bool),listed.size=ops.size→(∀j,j<ops.size→(listed.getD j false=false↔j∈l))→(∀j∈l,j<ops.size) →
   ∀i,i∈Region.ready .any ops listed↔i∈l∧∀k∈after.getD i [],k∉l:=by
  intro l listed hs hl hlt i
  rw [mem_ready]
  have hgd:∀j,listed.getD j true=false↔j∈l:=fun j=>by
   by_cases hj:j<ops.size
   ·rw [←hl j hj]
    rw [Array.getD_eq_getD_getElem?,Array.getD_eq_getD_getElem?,Array.getElem?_eq_getElem (by omega)]
    simp
   ·refine ⟨fun h=>?_,fun h=>absurd (hlt j h) hj⟩
    rw [Array.getD_eq_getD_getElem?,Array.getElem?_eq_none (by omega)] at h
    cases h
  rw [hgd]
  refine and_congr_right fun hi=>?_
  obtain ⟨o,ho⟩:∃o,ops[i]? = some o:=⟨_,Array.getElem?_eq_getElem (hlt i hi)⟩
  obtain ⟨ao,nc,bo,b2,nw,lp,kp,sk,h1,h2,h3⟩:=hd.ops_ i o ho
  refine ⟨fun ⟨o',ho',h⟩ k hk=>?_,fun h=>⟨o,ho,fun e he hb=>?_⟩⟩
  ·rw [ho] at ho'; cases ho'
   rw [h3] at hk
   simp only [Hz,List.mem_map,List.mem_filter] at hk
   obtain ⟨e,⟨he,hb⟩,rfl⟩:=hk
   intro hc
   have:=h e (by simpa using he) hb
   have h':=(hl e.on (hlt e.on hc)).2 hc
   rw [this] at h'; cases h'
  ·have hk:e.on∈after.getD i []:=by
    rw [h3]
    simp only [Hz,List.mem_map,List.mem_filter]
    exact ⟨e,⟨by simpa using he,hb⟩,rfl⟩
   cases hv:listed.getD e.on false with
   | true=>rfl
   | false=>exact absurd ((hl e.on (hd.aft_ i _ hk)).1 hv) (h _ hk)
 intro n
 induction n with
 | zero =>
  intro l listed F s a w hn hs hl hlt hp hi hc hr hst hk
  cases l with
  | cons x l=>simp at hn
  | nil =>
   refine ⟨?_,hq F s a w hr hst hk⟩
   rw [List.eq_nil_iff_forall_not_mem]
   intro i hi
   rw [rdy [] listed hs hl hlt i] at hi
   cases hi.1
 | succ n ih =>
  intro l listed F s a w hn hs hl hlt hp hi hc hr hst hk
  refine ⟨fun hnil=>?_,fun i hri=>?_⟩
  ·exfalso
   cases l with
   | nil=>simp at hn
   | cons x l =>
    have hx:x∈Region.ready .any ops listed:=by
     rw [rdy (x::l) listed hs hl hlt x]
     refine ⟨by simp,fun k hk hkl=>?_⟩
     rcases List.mem_cons.1 hkl with rfl | h
     ·exact hi k (by simp) hk
     ·have:=(List.pairwise_cons.1 hp).1 k h
      simp only [Gl,Bool.and_eq_true,Bool.not_eq_true',List.contains_eq_mem,decide_eq_false_iff_not] at this
      exact this.1.1 hk
    rw [hnil] at hx; cases hx
  ·rw [rdy l listed hs hl hlt i] at hri
   obtain ⟨hil,hri⟩:=hri
   have hci:∀x∈l,x∉clo.getD i []:=fun x hx hxc=>by
    obtain ⟨k,hk,h | h⟩:=hd.clo_ i x hxc
    ·subst h; exact hri k hk hx
    ·exact hc k (hd.aft_ i k hk) (hri k hk) x hx h
   obtain ⟨o,h1,h2⟩:=LG hp hci hil hk
   have hilt:=hlt i hil
   obtain ⟨oo,hoo⟩:∃o,ops[i]? = some o:=⟨_,Array.getElem?_eq_getElem hilt⟩
   obtain ⟨ao,nc,bo,b2,nw,lp,kp,sk,g1,g2,g3⟩:=hd.ops_ i oo hoo
   rw [g2] at h1; cases h1
   unfold wpOpIn
   rw [hoo]
   have hnd:l.Nodup:=hp.imp fun {x y} h=>by
    simp only [Gl,Bool.and_eq_true,bne_iff_ne,ne_eq] at h
    exact h.1.2
   refine Lh g1 hr (Tk hr.free h2) fun F' s' a' w' r1 r2 r3=>ih (l.erase i) _ F' s' a' w' (by rw [List.length_erase_of_mem hil]; omega) (by simp [hs]) (fun j hj=>?_) (fun j hj=>hlt j (List.mem_of_mem_erase hj))
    (hp.sublist List.erase_sublist) (fun j hj=>hi j (List.mem_of_mem_erase hj)) (fun k hk hkl x hx=>?_) r1 (hst.trans r2) r3
   ·rw [hnd.mem_erase_iff]
    by_cases e:i=j
    ·subst e
     simp [Array.getD_eq_getD_getElem?,hs,hilt]
    ·rw [getD_set_ne false e,hl j hj]
     exact ⟨fun h=>⟨fun e'=>e e'.symm,h⟩,fun h=>h.2⟩
   ·have hxl:=List.mem_of_mem_erase hx
    by_cases e:k=i
    ·subst e; exact hci x hxl
    ·exact hc k hk (fun hkl'=>hkl ((hnd.mem_erase_iff).2 ⟨e,hkl'⟩)) x hxl
theorem Fy {ld:Nat} {ops:Array Oper} {id:Nat} {ac:ACode} (hc:E6 P ld ops=some ac):∃l,ac = .dops l∧∀{s:St} {K:St→Prop},FO P l s K →
  ∀{B:Nat} {r:Option Nat} {F:Nat→Prop} {a:Act} {w:World} {Q:Exit→Act→World→Prop},Rel P B F s a w→(∀F' s' a' w',Rel P B F' s' a' w'→Step F s.H w F' s'.H w'→K s'→Q .normal a' w')→(Code.region id ops true).wpIn (Ey r) 0 P Q a w:=by
 unfold E6 at hc
 split at hc
 ·cases hc
 ·next aos0 h0 =>
  obtain ⟨hlen,hget⟩:=K1 h0
  simp only [Array.length_toList] at hlen
  extract_lets after clo heavy stores lds ordered apart open1 adrOf keeps isSt lps ncs news0 dsts outs news aos ord at hc
  split at hc
  ·next hchk =>
   simp only [Option.map_eq_some_iff] at hc
   obtain ⟨l,hl,rfl⟩:=hc
   refine ⟨l,rfl,?_⟩
   simp only [Bool.and_eq_true,beq_iff_eq,List.all_eq_true,decide_eq_true_eq,Bool.not_eq_true',List.contains_eq_mem,decide_eq_false_iff_not,List.mem_range] at hchk
   obtain ⟨⟨⟨⟨⟨⟨⟨hm,hol⟩,hco⟩,hpo⟩,hor⟩,hcov⟩,haf⟩,hcl⟩:=hchk
   have hal:aos.length=ops.size:=by simp only [aos,List.length_map,List.length_zipIdx,hlen]
   rw [hal] at hol hor hcov haf hcl
   have hafl:after.length=ops.size:=by simp [after]
   have hd:Drawn P ops after clo aos:=by
    refine ⟨fun i o hi=>?_,fun i x hx=>?_,fun i k hk=>?_⟩
    ·obtain ⟨ao,h1,h2⟩:=hget i o (by simpa using hi)
     refine ⟨ao,ncs i,ordered i,lds i,news,lps i,keeps i,(if ld == 4&&!(ordered i) then keeps i else none),h2,?_,?_⟩
     ·simp [aos,h1]
     ·simp [after,hi]
    ·have hi:i<clo.length:=by
      rcases Nat.lt_or_ge i clo.length with h | h
      ·exact h
      ·simp [List.getElem?_eq_none h] at hx
     simp only [MZ,List.all_eq_true,List.mem_range,List.any_eq_true,Bool.or_eq_true,beq_iff_eq,List.contains_eq_mem,decide_eq_true_eq] at hco
     exact hco i hi x hx
    ·have hi:i<after.length:=by
      rcases Nat.lt_or_ge i after.length with h | h
      ·exact h
      ·simp [List.getElem?_eq_none h] at hk
     rw [List.getD_eq_getElem?_getD,List.getElem?_eq_getElem hi] at hk
     exact haf _ (List.getElem_mem hi) k (by simpa using hk)
   intro s K hk B r F a w Q hr hq
   refine wpIn_region_any hm ?_
   refine Qc hd (F0:=F) (H0:=s.H) (w0:=w) hq ops.size ord _ F s a _ hol (by simp) (fun j hj=>?_) (fun j hj=>(hor j hj).1) (Le hpo) (fun i hi=>(hor i hi).2) (fun k hk hkl=>absurd (hcov k hk) hkl) (hr.drawn _) (Step.drawn _ _ _ _) (Kt hl hk)
   simp [Array.getD_eq_getD_getElem?,hj,hcov j hj]
  ·cases hc
theorem GB {ops:Array Oper} {id:Nat} {ac:ACode} (hc:Jb P ops=some ac):∃l,ac = .dops l∧∀{s:St} {K:St→Prop},FO P l s K →
  ∀{B:Nat} {r:Option Nat} {F:Nat→Prop} {a:Act} {w:World} {Q:Exit→Act→World→Prop},Rel P B F s a w→(∀F' s' a' w',Rel P B F' s' a' w'→Step F s.H w F' s'.H w'→K s'→Q .normal a' w')→(Code.region id ops true).wpIn (Ey r) 0 P Q a w:=by
 unfold Jb at hc
 split at hc
 ·exact Fy hc
 split at hc
 ·exact Fy hc
 split at hc
 ·next c h=>cases hc; exact Fy h
 ·split at hc
  ·next c h=>cases hc; exact Fy h
  ·split at hc
   ·next c h =>
    split at hc
    ·exact Fy hc
    ·split at hc
     ·exact Fy hc
     ·split at hc
      ·exact Fy hc
      ·cases hc; exact Fy h
   ·split at hc
    ·next c h=>cases hc; exact Fy h
    ·exact Fy hc
theorem AW.mono {c:Code} {s:St} {Q Q':Out→St→Prop} (h:AW P r c s Q) (hq:∀o s',Q o s'→Q' o s'):AW P r c s Q' :=
 fun B F a w hr=>Code.wpIn_mono (fun _ _ _ ⟨o,s',F',h1,h2,h3,h4⟩=>⟨o,s',F',h1,h2,h3,hq o s' h4⟩) (h B F a w hr)
theorem Gs {r:Option Nat}:∀{ac:ACode} {c:Code} {s:St} {Q:Out→St→Prop},Ep P c=some ac→(r=none∨E8 ac=true)→FM P ac s Q→AW P r c s Q
 | .skip,c,s,Q,hc,hf,hk=>by
  cases c <;> simp only [Ep,Option.map_eq_some_iff,reduceCtorEq,and_false,exists_false,Option.some.injEq] at hc
  case skip=>exact fun B F a w hr=>wpIn_skip ⟨.normal,s,F,trivial,hr,Step.refl _ _ _,hk⟩
  case region id ops draw =>
   split at hc
   ·obtain ⟨_,e,_⟩:=GB (id:=id) hc
    cases e
   ·simp at hc
  case seq x y=>split at hc <;> simp at hc
  case rangeFunc g ps x y=>split at hc <;> (try split at hc) <;> simp at hc
  case cond x y z=>split at hc <;> simp at hc
 | .ops l,c,s,Q,hc,hf,hk=>by
  cases c <;> simp only [Ep,Option.map_eq_some_iff,reduceCtorEq,and_false,exists_false,Option.some.injEq] at hc
  case region id ops draw =>
   split at hc
   ·obtain ⟨_,e,_⟩:=GB (id:=id) hc
    cases e
   ·next hd =>
    simp only [Option.map_eq_some_iff,ACode.ops.injEq] at hc
    obtain ⟨al,h1,rfl⟩:=hc
    have:draw=false:=by simpa using hd
    subst this
    exact fun B F a w hr=>wpIn_region_list (MX h1 hr hk fun F' s' a' w' h2 h3 h4=>⟨.normal,s',F',trivial,h2,h3,h4⟩)
  case seq x y=>split at hc <;> simp at hc
  case rangeFunc g ps x y=>split at hc <;> (try split at hc) <;> simp at hc
  case cond x y z=>split at hc <;> simp at hc
 | .dops l,c,s,Q,hc,hf,hk=>by
  cases c <;> simp only [Ep,Option.map_eq_some_iff,reduceCtorEq,and_false,exists_false,Option.some.injEq] at hc
  case region id ops draw =>
   split at hc
   ·next hd =>
    obtain ⟨l',e,h⟩:=GB (id:=id) hc
    cases e
    have:draw=true:=by simpa using hd
    subst this
    exact fun B F a w hr=>h hk hr fun F' s' a' w' h2 h3 h4=>⟨.normal,s',F',trivial,h2,h3,h4⟩
   ·simp at hc
  case seq x y=>split at hc <;> simp at hc
  case rangeFunc g ps x y=>split at hc <;> (try split at hc) <;> simp at hc
  case cond x y z=>split at hc <;> simp at hc
 | .seq x y,c,s,Q,hc,hf,hk=>by
  cases c <;> simp only [Ep,Option.map_eq_some_iff,reduceCtorEq,and_false,exists_false,Option.some.injEq] at hc
  case region id ops draw =>
   split at hc
   ·obtain ⟨_,e,_⟩:=GB (id:=id) hc
    cases e
   ·simp at hc
  case rangeFunc g ps x y=>split at hc <;> (try split at hc) <;> simp at hc
  case seq cx cy =>
   split at hc
   ·next x' y' hx hy =>
    cases hc
    intro B F a w hr
    refine wpIn_seq (Code.wpIn_mono ?_ (Gs hx (hf.imp id fun h=>by simp only [E8,Bool.and_eq_true] at h; first | exact h.1 | exact h) hk B F a w hr))
    rintro e a1 w1 ⟨o,s1,F1,h1,h2,h3,h4⟩
    cases o <;> cases e <;> simp only [Hn] at h1
    ·exact Code.wpIn_mono (fun e a2 w2 ⟨o,s2,F2,g1,g2,g3,g4⟩=>⟨o,s2,F2,g1,g2,h3.trans g3,g4⟩) (Gs hy (hf.imp id fun h=>by simp only [E8,Bool.and_eq_true] at h; exact h.2) h4 B F1 a1 w1 h2)
    ·exact ⟨.exit _,s1,F1,h1,h2,h3,h4⟩
    ·exact ⟨.ret,s1,F1,trivial,h2,h3,h4⟩
   ·cases hc
  case cond x y z=>split at hc <;> simp at hc
 | .cond q x y,c,s,Q,hc,hf,hk=>by
  cases c <;> simp only [Ep,Option.map_eq_some_iff,reduceCtorEq,and_false,exists_false,Option.some.injEq] at hc
  case region id ops draw =>
   split at hc
   ·obtain ⟨_,e,_⟩:=GB (id:=id) hc
    cases e
   ·simp at hc
  case seq x y=>split at hc <;> simp at hc
  case rangeFunc g ps x y=>split at hc <;> (try split at hc) <;> simp at hc
  case cond cq cx cy =>
   split at hc
   ·next x' y' hx hy =>
    cases hc
    intro B F a w hr
    simp only [FM] at hk
    split at hk
    ·next b e =>
     have hv:=ED hr.2.2.2 cq
     rw [e] at hv
     generalize hu:a.eval cq=u at hv
     cases hv; next hv =>
     cases hv
     cases b
     ·exact wpIn_cond_false hu (Gs hy (hf.imp id fun h=>by simp only [E8,Bool.and_eq_true] at h; exact h.2) (hk.2 rfl) B F a w hr)
     ·exact wpIn_cond_true hu (Gs hx (hf.imp id fun h=>by simp only [E8,Bool.and_eq_true] at h; exact h.1) (hk.1 rfl) B F a w hr)
    ·exact hk.elim
   ·cases hc
 | .block id x,c,s,Q,hc,hf,hk=>by
  cases c <;> simp only [Ep,Option.map_eq_some_iff,reduceCtorEq,and_false,exists_false,Option.some.injEq,ACode.block.injEq] at hc
  case region id ops draw =>
   split at hc
   ·obtain ⟨_,e,_⟩:=GB (id:=id) hc
    cases e
   ·simp at hc
  case seq x y=>split at hc <;> simp at hc
  case rangeFunc g ps x y=>split at hc <;> (try split at hc) <;> simp at hc
  case cond x y z=>split at hc <;> simp at hc
  case block id' cx =>
   obtain ⟨x',hx,rfl,rfl⟩:=hc
   intro B F a w hr
   refine wpIn_block (Code.wpIn_mono ?_ (Gs hx (hf.imp id fun h=>by simp only [E8,Bool.and_eq_true] at h; first | exact h.1 | exact h) hk B F a w hr))
   rintro e a1 w1 ⟨o,s1,F1,h1,h2,h3,h4⟩
   cases o <;> cases e <;> simp only [Hn] at h1
   ·exact ⟨.normal,s1,F1,trivial,h2,h3,h4⟩
   ·subst h1
    simp only [Exit.inBlock]
    dsimp only at h4
    split
    ·next hi=>rw [if_pos hi] at h4; exact ⟨.normal,s1,F1,trivial,h2,h3,h4⟩
    ·next hi=>rw [if_neg hi] at h4; exact ⟨.exit _,s1,F1,rfl,h2,h3,h4⟩
   ·exact ⟨.ret,s1,F1,trivial,h2,h3,h4⟩
 | .loop x,c,s,Q,hc,hf,hk=>by
  cases c <;> simp only [Ep,Option.map_eq_some_iff,reduceCtorEq,and_false,exists_false,Option.some.injEq,ACode.loop.injEq] at hc
  case region id ops draw =>
   split at hc
   ·obtain ⟨_,e,_⟩:=GB (id:=id) hc
    cases e
   ·simp at hc
  case seq x y=>split at hc <;> simp at hc
  case rangeFunc g ps x y=>split at hc <;> (try split at hc) <;> simp at hc
  case cond x y z=>split at hc <;> simp at hc
  case loop cx =>
   obtain ⟨x',hx,rfl⟩:=hc
   exact hk r cx hx (hf.imp id fun h=>by simpa only [E8] using h)
 | .rangef g ps x y,c,s,Q,hc,hf,hk=>by
  cases c <;> simp only [Ep,Option.map_eq_some_iff,reduceCtorEq,and_false,exists_false,Option.some.injEq] at hc
  case region id ops draw =>
   split at hc
   ·obtain ⟨_,e,_⟩:=GB (id:=id) hc
    cases e
   ·simp at hc
  case seq x y=>split at hc <;> simp at hc
  case cond x y z=>split at hc <;> simp at hc
  case rangeFunc g' ps' a b =>
   rcases hf with rfl | hf
   ·split at hc
    ·next x' y' hx hy =>
     split at hc
     ·next hfl =>
      simp only [Option.some.injEq,ACode.rangef.injEq] at hc
      obtain ⟨h1,h2,h3,h4⟩:=hc
      subst h3 h4
      simp only [Bool.and_eq_true] at hfl
      exact hk g' ps' a b h1 h2 hx hy hfl.1 hfl.2
     ·cases hc
    ·cases hc
   ·simp [E8] at hf
 | .exit id,c,s,Q,hc,hf,hk=>by
  cases c <;> simp only [Ep,Option.map_eq_some_iff,reduceCtorEq,and_false,exists_false,Option.some.injEq,ACode.exit.injEq] at hc
  case region id ops draw =>
   split at hc
   ·obtain ⟨_,e,_⟩:=GB (id:=id) hc
    cases e
   ·simp at hc
  case seq x y=>split at hc <;> simp at hc
  case rangeFunc g ps x y=>split at hc <;> (try split at hc) <;> simp at hc
  case cond x y z=>split at hc <;> simp at hc
  case exit id'=>subst hc; exact fun B F a w hr=>wpIn_exit ⟨.exit _,s,F,rfl,hr,Step.refl _ _ _,hk⟩
 | .ret,c,s,Q,hc,hf,hk=>by
  cases c <;> simp only [Ep,Option.map_eq_some_iff,reduceCtorEq,and_false,exists_false,Option.some.injEq] at hc
  case region id ops draw =>
   split at hc
   ·obtain ⟨_,e,_⟩:=GB (id:=id) hc
    cases e
   ·simp at hc
  case seq x y=>split at hc <;> simp at hc
  case rangeFunc g ps x y=>split at hc <;> (try split at hc) <;> simp at hc
  case cond x y z=>split at hc <;> simp at hc
  case ret=>exact fun B F a w hr=>wpIn_ret ⟨.ret,s,F,trivial,hr,Step.refl _ _ _,hk⟩
structure Abst (s t:St):Prop where
 n:t.n=s.n
 tm:∀i,t.t i = .undef∨t.t i=s.t i
 hp:∀k,t.H k=none∨t.H k=s.H k
theorem Abst.refl (s:St):Abst s s:=⟨rfl,fun _=>.inr rfl,fun _=>.inr rfl⟩
theorem Rel.abst {F:Nat→Prop} {s t:St} {a:Act} {w:World} (hr:Rel P B F s a w) (h:Abst s t):Rel P B F t a w:=by
 obtain ⟨h1,h2,h3,h4⟩:=hr
 refine ⟨⟨fun b x hb=>?_,fun b x hb=>?_,h1.old⟩,?_,by rw [h.n]; exact h3,fun i=>?_⟩
 ·rcases h.hp b with e | e <;> rw [e] at hb
  ·cases hb
  ·exact h1.at_ b x hb
 ·rcases h.hp b with e | e <;> rw [e] at hb
  ·cases hb
  ·exact h1.apart b x hb
 ·obtain ⟨h0,ms,g1,g2,g3⟩:=h2
  refine ⟨h0,ms,g1,g2,fun D hD=>?_⟩
  obtain ⟨k1,k2,k3,k4⟩:=g3 D hD
  exact ⟨k1,by rcases h.hp D with e | e <;> rw [e]; exact k2,k3,k4⟩
 ·rcases h.tm i with e | e <;> rw [e]
  ·exact .undef _
  ·exact h4 i
theorem Step.less {F F':Nat→Prop} {H H0 H':Heap} {w w':World} (st:Step F H0 w F' H' w') (h:∀k,H0 k=none∨H0 k=H k):Step F H w F' H' w' where
 os:=st.os
 tape:=st.tape
 output:=st.output
 size:=st.size
 keep:=fun k hk hn=>st.keep k hk (by rcases h k with e | e <;> simp_all)
 dom:=fun k hk=>by
  rcases st.dom k hk with e | e
  ·exact .inl (by rcases h k with e2 | e2 <;> simp_all)
  ·exact .inr e
 mono:=st.mono
 new:=fun k hk=>by
  rcases st.new k hk with e | e | e
  ·exact .inl e
  ·exact .inr (.inl (by rcases h k with e2 | e2 <;> simp_all))
  ·exact .inr (.inr e)
theorem AW.abst {c:Code} {s t:St} {Q:Out→St→Prop} (h:Abst s t) (hk:AW P r c t Q):AW P r c s Q :=
 fun B F a w hr=>Code.wpIn_mono (fun _ _ _ ⟨o,s',F',h1,h2,h3,h4⟩=>⟨o,s',F',h1,h2,h3.less h.hp,h4⟩) (hk B F a w (hr.abst h))
theorem Nx {c:Code} {Q:Exit→Act→World→Prop} (I:Nat→Act→World→Prop)
  (round:∀n a w,I n a w→c.wpIn (Ey r) 0 P (Exit.then (fun a' w'=>∃m,m<n∧I m a' w') Q) a w):∀(n:Nat) (a:Act) (w:World),I n a w→(Code.loop c).wpIn (Ey r) 0 P Q a w:=by
 intro n a w h0 b k cs hro hb hr
 have key:∀n a w,I n a w→∃e a' w',Q e a' w'∧ArrivesIn (Machine.fenced P (Ey r)) P (lone (b.atR a (.code c::.inLoop c::k)) cs w) b k cs e a' w':=by
  intro n
  induction n using Nat.strongRecOn with
  | _ n ih =>
   intro a w hI
   obtain ⟨e,a1,w1,hq,harr⟩:=round n a w hI b (.inLoop c::k) cs hro hb hr
   cases e with
   | normal =>
    obtain ⟨m,hm,hI1⟩:=hq
    obtain ⟨e2,a2,w2,hq2,harr2⟩:=ih m hm a1 w1 hI1
    exact ⟨e2,a2,w2,hq2,.of_steps (StepsIn.trans harr (.one (fenced_calm hb hr rfl) stepR_inLoop)) harr2⟩
   | exit id=>exact ⟨_,a1,w1,hq,.pass (x:=.inLoop c) rfl (fun _ _=>.inl (by simp)) harr⟩
   | goto l=>exact ⟨_,a1,w1,hq,.pass (x:=.inLoop c) rfl (fun _ _=>.inl (by simp)) harr⟩
   | ret=>exact ⟨_,a1,w1,hq,.pass (x:=.inLoop c) rfl (fun _ _=>.inl (by simp)) harr⟩
   | panic ch=>exact ⟨_,a1,w1,hq,.pass (x:=.inLoop c) rfl (fun _ _=>.inl (by simp)) harr⟩
   | outgrown=>exact ⟨_,a1,w1,hq,.pass (x:=.inLoop c) rfl (fun _ _=>.inl (by simp)) harr⟩
 obtain ⟨e,a',w',hq,harr⟩:=key n a w h0
 exact ⟨e,a',w',hq,.of_steps (.one (fenced_calm hb hr rfl) stepR_loop) harr⟩
theorem Px {α:Type} (I : α→Prop) (mk : α→St) (μ : α→Nat) {b:ACode} {s:St} {Q:Out→St→Prop} (x0 : α) (h0:I x0) (ha:Abst s (mk x0))
  (round:∀x,I x→FM P b (mk x) fun o s'=>match o with | .normal=>∃y,I y∧μ y < μ x∧Abst s' (mk y) | o=>Q o s'):KA P b s Q:=by
 intro r c hc hf
 refine AW.abst ha ?_
 intro B F a w hr
 refine Nx (fun n a' w'=>∃x F',I x∧μ x=n∧Rel P B F' (mk x) a' w'∧Step F (mk x0).H w F' (mk x).H w') ?_ (μ x0) a w ⟨x0,F,h0,rfl,hr,Step.refl _ _ _⟩
 rintro n a1 w1 ⟨x,F1,hI,rfl,hr1,hs1⟩
 refine Code.wpIn_mono ?_ (Gs hc hf (round x hI) B F1 a1 w1 hr1)
 rintro e a2 w2 ⟨o,s2,F2,g1,g2,g3,g4⟩
 cases o <;> cases e <;> simp only [Hn] at g1
 ·obtain ⟨y,hy,hm,hab⟩:=g4
  refine ⟨μ y,hm,y,F2,hy,rfl,g2.abst hab,hs1.trans ⟨g3.os,g3.tape,g3.output,g3.size,g3.keep,fun k hk=>g3.dom k ?_,g3.mono,g3.new⟩⟩
  rcases hab.hp k with e | e
  ·exact absurd e hk
  ·rw [←e]; exact hk
 ·exact ⟨.exit _,s2,F2,g1,g2,hs1.trans g3,g4⟩
 ·exact ⟨.ret,s2,F2,trivial,g2,hs1.trans g3,g4⟩
end
section
variable {P:Program}
theorem KJ {F:Nat→Prop} {w:World} (n:Nat):∀(args:List AV) (vs:List Value) (i:Nat),VRL P F w args vs →
  ∀t,VR P F w (Ap args i t) (if i≤t∧t<i+vs.length then vs.getD (t-i) undef else undef)
 | [],vs,i,hv,t=>by
  obtain rfl:=hv.unnil
  rw [if_neg (by simp)]
  exact .void
 | x::l,vs,i,hv,t=>by
  obtain ⟨v,vs,rfl,hx,hl⟩:=hv.uncons
  simp only [Ap,Ao]
  by_cases e:i=t
  ·subst e
   simp only [beq_self_eq_true,cond_true]
   rw [if_pos (by simp)]
   simpa using hx
  ·rw [show (i == t)=false by simpa using e]
   simp only [cond_false]
   have ih:=KJ n l vs (i+1) hl t
   by_cases h:i+1≤t∧t<i+1+vs.length
   ·rw [if_pos h] at ih
    rw [if_pos (by simp; omega)]
    rw [show t-i=(t-(i+1))+1 by omega]
    simpa using ih
   ·rw [if_neg h] at ih
    rw [if_neg (by simp; omega)]
    exact ih
theorem J5 {F:Nat→Prop} {s:St} {a:Act} {w:World} (hr:HRel P F s.H w) (ht:∀t,VR P F w (s.t t) (a.tmps.getD t undef)):∀{rs:List ResultVar} {ar:List ARes} {K:List AV→Prop},Gk P rs=some ar→As s ar K →
  ∃vs:List Value,∃avs,((rs.mapM fun
   | .tmp t=>pure (a.tmps.getD t undef)
   | .cell q t=>do loadVar t (←asAddr (a.tmps.getD q undef)):Sem (List Value)).run P w = .ok vs w)∧VRL P F w avs vs∧K avs
 | [],ar,K,hc,hk=>by
  simp only [Gk,Option.some.injEq] at hc
  subst hc
  exact ⟨[],[],by simp,VRL.nil,hk⟩
 | .tmp t::rs,ar,K,hc,hk=>by
  simp only [Gk,Option.map_eq_some_iff] at hc
  obtain ⟨ar',h1,rfl⟩:=hc
  obtain ⟨vs,avs,e1,e2,e3⟩:=J5 hr ht h1 hk
  exact ⟨_::vs,_::avs,by simp only [List.mapM_cons,Sem.run_bind,Sem.run_pure,Result.andThen_ok,e1],VRL.cons (ht t) e2,e3⟩
 | .cell q t::rs,ar,K,hc,hk=>by
  simp only [Gk] at hc
  split at hc
  ·next g l hg hl =>
   cases hc
   obtain ⟨v,av,h1,h2,h3⟩:=KP hr hg (ht q) (K:=fun v=>As s l fun vs=>K (v::vs)) hk
   obtain ⟨vs,avs,e1,e2,e3⟩:=J5 hr ht hl h3
   refine ⟨v::vs,av::avs,?_,VRL.cons h2 e2,e3⟩
   have h4:(do loadVar t (←asAddr (a.tmps.getD q undef)):Sem Value).run P w = .ok v w:=by
    cases hq:a.tmps.getD q undef with
    | pointer p=>cases p with
     | none =>
      rw [hq] at h1
      simp [Instr.loadAt,Instr.sureAddr,stuck,Sem.run] at h1
     | some p =>
      rw [hq] at h1
      simpa [Instr.loadAt,Instr.sureAddr,asAddr] using h1
    | _ =>
     rw [hq] at h1
     simp [Instr.loadAt,Instr.sureAddr,stuck,Sem.run] at h1
   simp only [List.mapM_cons,Sem.run_bind,Result.andThen_ok,e1,Sem.run_pure] at h4 ⊢
   rw [h4]
   simp only [Result.andThen_ok,e1]
  ·cases hc
theorem Lr {Q:Out→St→Prop} {c:ACode} {s:St} (h:El P Q c [] s):FM P c s Q:=by
 unfold El at h
 have e:(fun o s'=>Eh P Q [] o s')=Q:=by funext o s'; exact A2
 rw [e] at h
 exact h
def E4:List Nat→World→World
 | [],w=>w
 | D::ms,w=>E4 ms (w.putObj D (.deferred none))
theorem In:∀{ms:List Nat} {w:World} {k:Nat},k∉ms→(E4 ms w).heap[k]? = w.heap[k]?
 | [],w,k,_=>rfl
 | D::ms,w,k,h=>by
  simp only [List.mem_cons,not_or] at h
  simp only [E4]
  rw [In h.2,World.putObj_heap_other h.1]
theorem J0:∀{ms:List Nat} {w:World},(E4 ms w).heap.size=w.heap.size
 | [],w=>rfl
 | D::ms,w=>by simp only [E4]; rw [J0,World.putObj_size]
theorem Iu:∀{ms:List Nat} {w:World},(E4 ms w).os=w.os∧(E4 ms w).tape=w.tape∧(E4 ms w).output=w.output
 | [],w=>⟨rfl,rfl,rfl⟩
 | D::ms,w=>by simp only [E4]; exact Iu
theorem Kv {fn:Func} {tmps:Array Value} {R:Ending→World→Prop}:∀(ms:List Nat) (w:World),ms.Nodup→(∀D∈ms,w.heap[D]? = some (.deferred (some []))) →
  LeavesIn Fence.wide 0 P fn tmps R [] .returning (E4 ms w)→LeavesInM Fence.wide 0 P fn tmps R (ms.map Kc) .returning w
 | [],w,_,_,h=>h
 | D::ms,w,hn,hd,h=>by
  rw [List.nodup_cons] at hn
  refine ⟨by simp,.inl ⟨D,_,rfl,run_takeDeferred (hd D (by simp)),Kv ms _ hn.2 (fun k hk=>?_) h⟩⟩
  rw [World.putObj_heap_other (fun e=>hn.1 (by rw [←e]; exact hk))]
  exact hd k (by simp [hk])
theorem D9 {f:FuncId} {af:AFunc} {args:List AV} {H:Heap} {K:AV→Heap→Prop} (hc:EU P f=some af) (hn:args.length≤af.n)
  (h:El P (A3 af.results K) af.body [] ⟨af.n,Ap args 0,H⟩):CallW P f args H K:=by
 have h:=Lr h
 unfold EU at hc
 split at hc
 ·next fn hf =>
  split at hc
  ·next c hb =>
   split at hc
   ·next ac rs hac hrs =>
    cases hc
    intro F w vs hh hv
    have hlen:args.length=vs.length:=hv.1
    refine (callsIn_wide (n:=0)).1 (callsIn_of_wp_marks hf hb trivial ?_)
    have hrel:Rel P w.heap.size F ⟨fn.ntmps,Ap args 0,H⟩ { tmps:=vs.toArray++Array.replicate (fn.ntmps-vs.toArray.size) undef,defers:=[] } w:=by
     refine ⟨hh,⟨Nat.le_refl _,[],rfl,List.nodup_nil,fun D h=>by simp at h⟩,by simp only [Array.size_append,Array.size_replicate,List.size_toArray]; dsimp only at hn; omega,fun t=>?_⟩
     have:=KJ fn.ntmps args vs 0 hv t
     have e:(vs.toArray++Array.replicate (fn.ntmps-vs.toArray.size) undef).getD t undef=if 0≤t∧t<0+vs.length then vs.getD (t-0) undef else undef:=by
      rw [Array.getD_eq_getD_getElem?,Array.getElem?_append]
      by_cases ht:t<vs.length
      ·rw [if_pos (by simpa using ht),if_pos (by omega)]; simp
      ·rw [if_neg (by simpa using ht),if_neg (by omega),Array.getElem?_replicate]
       split <;> rfl
     rw [e]
     exact this
    refine Code.wpIn_mono (F:=Fence.wide) ?_ (Gs (r:=none) hac (.inl rfl) h w.heap.size F _ w hrel)
    rintro e a' w' ⟨o,s',F',h1,h2,h3,h4⟩
    have fin:Ay s' rs (fun r=>K r s'.H)→LeavesInM Fence.wide 0 P fn a'.tmps (fun e w'=>∃r H' F' v,e = .returned v∧VR P F' w' r v∧HRel P F' H' w'∧Step F H w F' H' w'∧K r H') a'.defers .returning w':=by
     intro hk
     obtain ⟨g1,⟨g0,ms,gd,gn,gm⟩,g3,g4⟩:=h2
     rw [gd]
     refine Kv ms w' gn (fun D hD=>(gm D hD).2.2.2) ?_
     show ∃v,(results fn a'.tmps).run P (E4 ms w') = .ok v (E4 ms w')∧∃r H' F' v',Ending.returned v = .returned v'∧_
     have hoF:∀k,F' k→(E4 ms w').heap[k]? = w'.heap[k]?:=fun k hk=>In fun hm=>(gm k hm).2.2.1 hk
     have hh':HRel P F' s'.H (E4 ms w'):=⟨fun b x hb=>(g1.at_ b x hb).mono (In fun hm=>by rw [(gm b hm).2.1] at hb; cases hb) (fun _ h=>h) hoF,g1.apart,fun b hb=>by rw [J0]; exact g1.old b hb⟩
     have ht':∀t,VR P F' (E4 ms w') (s'.t t) (a'.tmps.getD t undef):=fun t=>(g4 t).mono (fun _ h=>h) hoF
     have h3:Step F H w F' s'.H (E4 ms w'):=⟨Iu.1.trans h3.os,Iu.2.1.trans h3.tape,Iu.2.2.trans h3.output,by rw [J0]; exact h3.size,
      fun k hk hn=>(In fun hm=>by have:=(gm k hm).1; omega).trans (h3.keep k hk hn),h3.dom,h3.mono,h3.new⟩
     clear g4 g1 gm gn gd g0
     generalize E4 ms w'=w' at *
     obtain ⟨us,avs,e1,e2,e3⟩:=J5 hh' ht' hrs hk
     have hres:(results fn a'.tmps).run P w' = .ok (if h:us.toArray.size=1 then us.toArray[0] else .tuple us.toArray) w':=by
      have em:=Array.toList_mapM (m:=Sem) (xs:=fn.results) (f:=fun
       | .tmp t=>pure (a'.tmps.getD t undef)
       | .cell q t=>do loadVar t (←asAddr (a'.tmps.getD q undef)))
      rw [←em] at e1
      simp only [Sem.run_map] at e1
      unfold results
      rw [Sem.run_bind]
      generalize hx:(Sem.run P (Array.mapM _ fn.results) w')=rr at e1 ⊢
      cases rr with
      | halt x w2=>simp [Result.andThen] at e1
      | ok arr w2 =>
       simp only [Result.andThen_ok,Result.ok.injEq] at e1
       obtain ⟨e4,rfl⟩:=e1
       have e5:arr=us.toArray:=by apply Array.ext'; simpa using e4
       subst e5
       rfl
     refine ⟨_,hres,?_⟩
     match avs,us,e2,e3 with
     | [],[],e2,e3=>exact ⟨_,s'.H,F',_,rfl,.tup [] [] rfl (fun j x v h _=>by simp at h),hh',h3,e3⟩
     | [x],[u],e2,e3=>exact ⟨_,s'.H,F',_,rfl,e2.2 0 _ _ rfl rfl,hh',h3,e3⟩
     | x::y::l,u::v::us,e2,e3 =>
      refine ⟨_,s'.H,F',_,rfl,?_,hh',h3,e3⟩
      rw [dif_neg (by simp)]
      exact .tup _ _ e2.1 e2.2
     | [],_::_,e2,_=>have:=e2.1; simp at this
     | _::_,[],e2,_=>have:=e2.1; simp at this
     | [x],_::_::_,e2,_=>have:=e2.1; simp at this
     | _::_::_,[u],e2,_=>have:=e2.1; simp at this
    cases o <;> cases e <;> simp only [Hn] at h1
    ·exact fin h4
    ·exact h4.elim
    ·exact fin h4
   ·cases hc
  ·cases hc
 ·cases hc
theorem CallW.mono {f:FuncId} {args:List AV} {H:Heap} {K K':AV→Heap→Prop} (h:CallW P f args H K) (hk:∀r H',K r H'→K' r H'):CallW P f args H K' :=
 fun F w vs hh hv=>(h F w vs hh hv).mono fun _ _ ⟨r,H',F',v,h1,h2,h3,h4,h5⟩=>⟨r,H',F',v,h1,h2,h3,h4,hk r H' h5⟩
def HZ {α:Type} (I : α→Prop) (mk : α→St) (μ : α→Nat) (x : α) (R:Out→St→Prop):Out→St→Prop
 | .normal,s'=>∃y,I y∧μ y < μ x∧Abst s' (mk y)
 | .exit i,s'=>R (.exit i) s'
 | .ret,s'=>R .ret s'
theorem D3 {α:Type} {I : α→Prop} {mk : α→St} {μ : α→Nat} {x : α} {R:Out→St→Prop} {s':St} {i:Nat}:HZ I mk μ x R (.exit i) s'=R (.exit i) s':=rfl
theorem Bi {α:Type} {I : α→Prop} {mk : α→St} {μ : α→Nat} {x : α} {R:Out→St→Prop} {s':St}:HZ I mk μ x R .ret s'=R .ret s':=rfl
theorem Nm {α:Type} (I : α→Prop) (mk : α→St) (μ : α→Nat) {Q:Out→St→Prop} {b:ACode} {k:List Item} {s:St} (x0 : α) (h0:I x0) (ha:Abst s (mk x0))
  (round:∀x,I x→El P (HZ I mk μ x (Eh P Q k)) b [] (mk x)):Gc P Q b k s:=by
 refine Px I mk μ x0 h0 ha fun x hx=>?_
 have h:=Lr (round x hx)
 refine cast (congrArg (FM P b (mk x)) ?_) h
 funext o s'; cases o <;> rfl
def Fq:List (Nat×AV)→TM
 | []=>fun _=>.undef
 | (i,v)::l=>Gy (Fq l) i v
def EP (t:TM):List (Nat×AV)→Prop
 | []=>True
 | (i,v)::l=>t i=v∧EP t l
theorem LY {s:St} {n:Nat} {l:List (Nat×AV)} {H:Heap} (hn:n=s.n) (h:EP s.t l) (hp:∀k,H k=none∨H k=s.H k):Abst s ⟨n,Fq l,H⟩:=by
 refine ⟨hn,fun i=>?_,hp⟩
 show Fq l i = .undef∨Fq l i=s.t i
 induction l with
 | nil=>exact .inl rfl
 | cons p l ih =>
  obtain ⟨j,v⟩:=p
  simp only [Fq,Ao]
  by_cases e:j=i
  ·subst e; simp only [beq_self_eq_true,cond_true]; exact .inr h.1.symm
  ·rw [show (j == i)=false by simpa using e]; exact ih h.2
end
def AX (H:Heap):List (Nat×Blk)→Prop
 | []=>True
 | (b,x)::l=>H b=some x∧AX H l
def Ik (n:Nat) (t:TM):List Nat→List AV→TM
 | p::ps,v::vs=>Ik n (if p<n then Gy t p v else t) ps vs
 | _,_=>t
section
variable {P:Program}
theorem E5 {H:Heap} {l:Nat} {y:Option Blk} (hl:H l=none):∀{bl:List (Nat×Blk)},AX H bl→AX (AG H l y) bl
 | [],_=>trivial
 | (b,x)::bl,h=>by
  refine ⟨?_,E5 hl h.2⟩
  have h1:=h.1
  rw [AL,if_neg (fun e=>by rw [e] at hl; rw [hl] at h1; cases h1)]
  exact h1
theorem HRel.less {F:Nat→Prop} {H H0:Heap} {w:World} (h:HRel P F H w) (hp:∀k,H0 k=none∨H0 k=H k):HRel P F H0 w :=
 have hs:∀b x,H0 b=some x→H b=some x:=fun b x hb=>by
  rcases hp b with e | e
  ·rw [e] at hb; cases hb
  ·rw [←e]; exact hb
 ⟨fun b x hb=>h.at_ b x (hs b x hb),fun b x hb=>h.apart b x (hs b x hb),h.old⟩
theorem HRel.putObj {F:Nat→Prop} {H:Heap} {w:World} {l:Nat} (o:Obj) (h:HRel P F H w) (hl:H l=none) (hF:¬F l):HRel P F H (w.putObj l o) :=
 ⟨fun b x hb=>(h.at_ b x hb).mono (World.putObj_heap_other fun e=>by rw [e,hl] at hb; cases hb) (fun _ h=>h) (fun k hk=>World.putObj_heap_other fun e=>hF (e▸hk)),
  h.apart,fun b hb=>by rw [World.putObj_size]; exact h.old b hb⟩
theorem HRel.put {F:Nat→Prop} {H:Heap} {w:World} {l:Nat} {o:Obj} {ts:List AV} {us:List Value} (h:HRel P F H w) (hl:H l=none) (hF:¬F l) (ho:w.heap[l]? = some o) (hv:VRL P F w ts us):HRel P F (AG H l (some (.obj o ts us))) w :=
 ⟨fun b x hb=>by
  rw [AL] at hb
  split at hb
  ·next e=>subst e; cases hb; exact ⟨ho,hv⟩
  ·exact h.at_ b x hb,
  fun b x hb=>by
   rw [AL] at hb
   split at hb
   ·next e=>subst e; exact hF
   ·exact h.apart b x hb,h.old⟩
theorem ER {H:Heap}:∀{bl:List (Nat×Blk)},AX H bl↔∀p∈bl,H p.1=some p.2
 | []=>by simp [AX]
 | (b,x)::bl=>by simp only [AX,List.mem_cons,forall_eq_or_imp,ER]
def Kd {α:Type} (I:List (List AV)→α→Prop) (hl : α→List (Nat×Blk)) (pre:List (List AV)) (n:Nat) (t:TM) (R:Out→St→Prop):Out→St→Prop
 | .normal,s'=>∃y,I pre y∧AX s'.H (hl y)
 | .exit i,s'=>R (.exit i) ⟨n,t,s'.H⟩
 | .ret,s'=>R .ret ⟨n,t,s'.H⟩
theorem Bs {α:Type} {I:List (List AV)→α→Prop} {hl : α→List (Nat×Blk)} {pre:List (List AV)} {n:Nat} {t:TM} {s':St} {R:Out→St→Prop} {i:Nat}:Kd I hl pre n t R (.exit i) s'=R (.exit i) ⟨n,t,s'.H⟩:=rfl
theorem BE {α:Type} {I:List (List AV)→α→Prop} {hl : α→List (Nat×Blk)} {pre:List (List AV)} {n:Nat} {t:TM} {s':St} {R:Out→St→Prop}:Kd I hl pre n t R .ret s'=R .ret ⟨n,t,s'.H⟩:=rfl
end
def ES (P:Program):Nat→TypeId→List D→Prop
 | 0,_,_=>False
 | n+1,t,l=>match P.underlying t with
  | some .bool=>∃b,l=[.bool b]
  | some (.int k)=>∃z,l=[.int k z]∧(Lit.int k z).wf=true
  | some .string=>∃s,l=[.str s]∧s.size≤maxLen
  | some (.slice e)=>∃xs,l=[.sl (P.cellsOf e) xs]∧xs.length≤maxLen∧∀el∈xs,ES P n e el
  | some (.struct fs)=>∃ls:List (List D),l=ls.flatten∧ls.length=fs.size∧∀(j:Nat) f x,fs[j]? = some f→ls[j]? = some x→ES P n f.type x
  | _=>False
def HX (P:Program):Nat→List Field→Nat→Bool
 | o,[],e=>o == e
 | o,f::r,e=>f.offset == o&&HX P (o+P.cellsOf f.type) r e
def Gd (P:Program):Nat→TypeId→Bool
 | 0,_=>false
 | n+1,t=>match P.underlying t with
  | some .bool | some (.int _) | some .string=>P.cellsOf t == 1
  | some (.slice e)=>Gd P n e&&P.cellsOf e != 0&&P.cellsOf t == 1
  | some (.struct fs)=>HX P 0 fs.toList (P.cellsOf t)&&fs.toList.all fun f=>Gd P n f.type
  | _=>false
section
variable {P:Program} {H:Type} {enc:TypeId×Value→H} {w:World} {sp:Nat→Bool} {held:Bool}
theorem Ks {F:Nat→Prop}:∀{fs:List Field} {o:Nat} {cs:List Value} {ls:List (List D)},HX P o fs cs.length=true→ls.length=fs.length →
  (∀(j:Nat) f x,fs[j]? = some f→ls[j]? = some x→x.length=((cs.drop f.offset).take (P.cellsOf f.type)).length∧((cs.drop f.offset).take (P.cellsOf f.type)).length=P.cellsOf f.type ∧
   ∀(i:Nat) c u,x[i]? = some c→((cs.drop f.offset).take (P.cellsOf f.type))[i]? = some u→RD F w c u) →
  ls.flatten.length=(cs.drop o).length∧∀(i:Nat) c u,ls.flatten[i]? = some c→(cs.drop o)[i]? = some u→RD F w c u
 | [],o,cs,ls,ht,hl,h=>by
  simp only [HX,beq_iff_eq] at ht
  cases ls with
  | nil=>exact ⟨by simp [ht],fun i c u h=>by simp at h⟩
  | cons x r=>simp at hl
 | f::fs,o,cs,ls,ht,hl,h=>by
  simp only [HX,Bool.and_eq_true,beq_iff_eq] at ht
  cases ls with
  | nil=>simp at hl
  | cons x r =>
   obtain ⟨h1,h2⟩:=Ks (F:=F) (ls:=r) ht.2 (by simpa using hl) fun j f' x' hf hx=>h (j+1) f' x' (by simpa using hf) (by simpa using hx)
   obtain ⟨g1,g2,g3⟩:=h 0 f x rfl rfl
   rw [ht.1] at g1 g2 g3
   rw [g2] at g1
   have hlt:o+P.cellsOf f.type≤cs.length∨P.cellsOf f.type=0:=by
    simp only [List.length_take,List.length_drop] at g2
    omega
   simp only [List.length_drop] at h1
   refine ⟨?_,fun i c u hc hu=>?_⟩
   ·simp only [List.flatten_cons,List.length_append,List.length_drop,g1,h1]
    omega
   ·simp only [List.flatten_cons] at hc
    by_cases hi:i<x.length
    ·rw [List.getElem?_append_left hi] at hc
     refine g3 i c u hc ?_
     rw [List.getElem?_take_of_lt (by omega)]
     exact hu
    ·rw [List.getElem?_append_right (by omega)] at hc
     refine h2 (i-x.length) c u hc ?_
     rw [List.getElem?_drop] at hu ⊢
     rw [←hu]
     congr 1
     omega
theorem NS {a:Addr} {v:Value} (h:w.cell? a=some v):a.block<w.heap.size∧a.spot=none:=by
 unfold World.cell? at h
 split at h
 ·next e =>
  refine ⟨(Array.getElem?_eq_some_iff.1 e).1,?_⟩
  split at h
  ·cases h
  ·next hs=>simpa using hs
 ·cases h
theorem JH:∀(n:Nat) (fuel:Nat) (t:TypeId) (cs:List Value) (x:_root_.Go.DataW H×List MemPlace),Gd P n t=true→_root_.Go.DataW.trod enc P w 0 sp held fuel t cs=some x →
  ∃l,ES P n t l∧l.length=cs.length∧cs.length=P.cellsOf t∧∀(j:Nat) c u,l[j]? = some c→cs[j]? = some u→RD (fun b=>b<w.heap.size) w c u
 | 0,fuel,t,cs,x,hr,h=>by cases hr
 | n+1,fuel,t,cs,x,hr,h=>by
  unfold Gd at hr
  unfold ES
  have one:∀(d:D) (v:Value),P.cellsOf t=1→cs=[v]→RD (fun b=>b<w.heap.size) w d v→([d]:List D).length=cs.length∧cs.length=P.cellsOf t∧∀(j:Nat) c u,[d][j]? = some c→cs[j]? = some u→RD (fun b=>b<w.heap.size) w c u:=fun d v hlen e hd=>by
   refine ⟨by rw [e]; rfl,by rw [e,hlen]; rfl,fun j c u h1 h2=>?_⟩
   rw [e] at h2
   cases j with
   | zero=>simp at h1 h2; subst h1; subst h2; exact hd
   | succ j=>simp at h1
  split at hr
  ·next hu =>
   obtain ⟨b,hcs,hx⟩:=_root_.Go.DataW.trod_bool hu h
   try rw [hu]
   exact ⟨[.bool b],⟨b,rfl⟩,one _ _ (by simpa using hr) hcs (.bool b)⟩
  ·next k hu =>
   obtain ⟨z,hcs,hx,hw⟩:=_root_.Go.DataW.trod_int hu h
   try rw [hu]
   exact ⟨[.int k z],⟨z,rfl,hw⟩,one _ _ (by simpa using hr) hcs (.int k z)⟩
  ·next hu =>
   obtain ⟨s,hcs,hx,hw⟩:=_root_.Go.DataW.trod_string hu h
   try rw [hu]
   exact ⟨[.str s],⟨s,rfl,hw⟩,one _ _ (by simpa using hr) hcs (.str s)⟩
  ·next e hu =>
   simp only [Bool.and_eq_true,bne_iff_ne,ne_eq,beq_iff_eq] at hr
   try rw [hu]
   rcases _root_.Go.DataW.trod_slice hu h with ⟨hcs,hx⟩ | ⟨a,len,cap,elems,rest,m,_,hcs,hx,hb,hl,hm,hel,hat,hsp,hns⟩
   ·exact ⟨[.sl (P.cellsOf e) []],⟨[],rfl,by simp,by simp⟩,one _ _ hr.2 hcs (.nil _ _ _)⟩
   ·-- each element's cells,and what they read as
    have each:∀i,i<len→∃(us:List Value) (l:List D),us.length=P.cellsOf e∧l.length=P.cellsOf e∧ES P n e l∧(∀j u,us[j]? = some u→w.cell? ((a.add (i*P.cellsOf e)).add j)=some u) ∧
      ∀(j:Nat) c u,l[j]? = some c→us[j]? = some u→RD (fun b=>b<w.heap.size) w c u:=fun i hi=>by
     have h1:=hat i hi
     rw [List.getElem?_eq_getElem (by omega)] at h1
     rw [Option.bind_eq_some_iff] at h1
     obtain ⟨us,h2,h3⟩:=h1
     obtain ⟨l,g1,g2,g3,g4⟩:=JH n m e us _ hr.1.1 h3
     refine ⟨us,l,g3,by omega,g1,fun j u hj=>?_,g4⟩
     have hjl:=(List.getElem?_eq_some_iff.1 hj).1
     obtain ⟨k1,k2,k3⟩:=World.cells?_some h2
     have:=k3 j (by omega)
     rw [this]
     exact hj
    have hch:∃f:Nat→List Value×List D,∀i,i<len→(f i).1.length=P.cellsOf e∧(f i).2.length=P.cellsOf e∧ES P n e (f i).2∧(∀j u,(f i).1[j]? = some u→w.cell? ((a.add (i*P.cellsOf e)).add j)=some u) ∧
      ∀(j:Nat) c u,(f i).2[j]? = some c→(f i).1[j]? = some u→RD (fun b=>b<w.heap.size) w c u:=by
     refine ⟨fun i=>if hi:i<len then (⟨(each i hi).choose,(each i hi).choose_spec.choose⟩:List Value×List D) else ([],[]),fun i hi=>?_⟩
     simp only [hi,dif_pos]
     exact (each i hi).choose_spec.choose_spec
    obtain ⟨f,hf⟩:=hch
    refine ⟨[.sl (P.cellsOf e) ((List.range len).map fun i=>(f i).2)],⟨_,rfl,by simp; omega,fun el hmem=>?_⟩,one _ _ hr.2 hcs ?_⟩
    ·obtain ⟨i,hi,rfl⟩:=List.mem_map.1 hmem
     exact (hf i (by simpa using hi)).2.2.1
    ·by_cases h0:len=0
     ·subst h0
      exact .nil _ _ _
     ·obtain ⟨z1,z2,z3,z4,z5⟩:=hf 0 (by omega)
      have hz:∃u,(f 0).1[0]? = some u:=⟨_,List.getElem?_eq_getElem (by omega)⟩
      obtain ⟨u0,hu0⟩:=hz
      have hbl:=NS (z4 0 u0 hu0)
      rw [Nat.zero_mul,show ∀x:Addr,x.add 0=x from fun x=>rfl,show ∀x:Addr,x.add 0=x from fun x=>rfl] at hbl
      have ha:a=⟨a.block,a.off,none⟩:=by
       obtain ⟨ab,ao,as⟩:=a
       have:=hbl.2
       simp only at this
       rw [this]
      have hblk:a.block<w.heap.size:=hbl.1
      have hpos:0<P.cellsOf e:=by omega
      have key:=RD.sl (F:=fun b=>b<w.heap.size) (w:=w) (P.cellsOf e) ((List.range len).map fun i=>(f i).2) a.block a.off cap (fun k=>(f (k / P.cellsOf e)).1.getD (k % P.cellsOf e) Go.undef) hblk (by simp; omega)
       (fun el hmem=>by obtain ⟨i,hi,rfl⟩:=List.mem_map.1 hmem; exact (hf i (by simpa using hi)).2.1)
       (fun i j el c hi hj=>by
        simp only [List.getElem?_map,Option.map_eq_some_iff] at hi
        obtain ⟨i',hi',rfl⟩:=hi
        have hlt:i<len:=by
         have:=(List.getElem?_eq_some_iff.1 hi').1
         simpa using this
        have:i'=i:=by
         rw [List.getElem?_range hlt] at hi'
         exact (Option.some.inj hi').symm
        subst this
        obtain ⟨y1,y2,y3,y4,y5⟩:=hf i' hlt
        have hjl:j<P.cellsOf e:=by rw [←y2]; exact (List.getElem?_eq_some_iff.1 hj).1
        have e1:(i'*P.cellsOf e+j) / P.cellsOf e=i':=by
         rw [Nat.mul_comm,Nat.mul_add_div hpos,Nat.div_eq_of_lt hjl,Nat.add_zero]
        have e2:(i'*P.cellsOf e+j) % P.cellsOf e=j:=by
         rw [Nat.mul_comm,Nat.mul_add_mod,Nat.mod_eq_of_lt hjl]
        have hu:(f i').1[j]? = some ((f i').1.getD j Go.undef):=by
         rw [List.getD_eq_getElem?_getD,List.getElem?_eq_getElem (by omega)]
         rfl
        have:=y4 j _ hu
        rw [ha] at this
        rw [E7,E7] at this
        simp only [e1,e2]
        rw [←this,Nat.add_assoc])
       (fun i j el c hi hj=>by
        simp only [List.getElem?_map,Option.map_eq_some_iff] at hi
        obtain ⟨i',hi',rfl⟩:=hi
        have hlt:i<len:=by
         have:=(List.getElem?_eq_some_iff.1 hi').1
         simpa using this
        have:i'=i:=by
         rw [List.getElem?_range hlt] at hi'
         exact (Option.some.inj hi').symm
        subst this
        obtain ⟨y1,y2,y3,y4,y5⟩:=hf i' hlt
        have hjl:j<P.cellsOf e:=by rw [←y2]; exact (List.getElem?_eq_some_iff.1 hj).1
        have e1:(i'*P.cellsOf e+j) / P.cellsOf e=i':=by
         rw [Nat.mul_comm,Nat.mul_add_div hpos,Nat.div_eq_of_lt hjl,Nat.add_zero]
        have e2:(i'*P.cellsOf e+j) % P.cellsOf e=j:=by
         rw [Nat.mul_comm,Nat.mul_add_mod,Nat.mod_eq_of_lt hjl]
        simp only [e1,e2]
        refine y5 j c _ hj ?_
        rw [List.getD_eq_getElem?_getD,List.getElem?_eq_getElem (by omega)]
        rfl)
      rw [←ha] at key
      simpa using key
  ·next fs hu =>
   simp only [Bool.and_eq_true,List.all_eq_true] at hr
   try rw [hu]
   obtain ⟨xs,m,_,hx,hl,hxl,hf⟩:=_root_.Go.DataW.trod_struct hu h
   have each:∀j,j<fs.size→∃l f,fs[j]? = some f∧ES P n f.type l∧l.length=((cs.drop f.offset).take (P.cellsOf f.type)).length∧((cs.drop f.offset).take (P.cellsOf f.type)).length=P.cellsOf f.type ∧
     ∀(i:Nat) c u,l[i]? = some c→((cs.drop f.offset).take (P.cellsOf f.type))[i]? = some u→RD (fun b=>b<w.heap.size) w c u:=fun j hj=>by
    obtain ⟨f,hfj⟩:∃f,fs[j]? = some f:=⟨_,Array.getElem?_eq_getElem hj⟩
    have h1:=hf j f hfj
    rw [List.getElem?_eq_getElem (by omega)] at h1
    obtain ⟨l,g1,g2,g3,g4⟩:=JH n m f.type _ _ (hr.2 f (by simpa using Array.mem_of_getElem? hfj)) h1
    exact ⟨l,f,hfj,g1,g2,g3,g4⟩
   have hch:∃g:Nat→List D,∀j f,fs[j]? = some f→ES P n f.type (g j)∧(g j).length=((cs.drop f.offset).take (P.cellsOf f.type)).length∧((cs.drop f.offset).take (P.cellsOf f.type)).length=P.cellsOf f.type ∧
     ∀(i:Nat) c u,(g j)[i]? = some c→((cs.drop f.offset).take (P.cellsOf f.type))[i]? = some u→RD (fun b=>b<w.heap.size) w c u:=by
    refine ⟨fun j=>if hj:j<fs.size then (each j hj).choose else [],fun j f hj=>?_⟩
    have hlt:j<fs.size:=(Array.getElem?_eq_some_iff.1 hj).1
    simp only [hlt,dif_pos]
    obtain ⟨f',h1,h2⟩:=(each j hlt).choose_spec
    rw [hj] at h1; cases h1
    exact h2
   obtain ⟨g,hg⟩:=hch
   have hget:∀(j:Nat) x,((List.range fs.size).map g)[j]? = some x→x=g j:=fun j x hx=>by
    simp only [List.getElem?_map,Option.map_eq_some_iff] at hx
    obtain ⟨i',hi',rfl⟩:=hx
    have hlt:j<fs.size:=by
     have:=(List.getElem?_eq_some_iff.1 hi').1
     simpa using this
    rw [List.getElem?_range hlt] at hi'
    cases hi'
    rfl
   obtain ⟨k1,k2⟩:=Ks (P:=P) (F:=fun b=>b<w.heap.size) (w:=w) (fs:=fs.toList) (o:=0) (cs:=cs) (ls:=(List.range fs.size).map g) (by rw [hl]; exact hr.1) (by simp) fun j f x hj hx=>by
    rw [hget j x hx]
    exact (hg j f (by simpa using hj)).2
   refine ⟨((List.range fs.size).map g).flatten,⟨_,rfl,by simp,fun j f x hj hx=>?_⟩,by simpa using k1,hl,fun j c u h1 h2=>k2 j c u h1 (by simpa using h2)⟩
   rw [hget j x hx]
   exact (hg j f hj).1
  ·cases hr
def Hb:List D→AV
 | [x]=>.d x
 | _=>.undef
def FZ (P:Program) (t:TypeId) (l:List D):AV :=
 match P.underlying t with
 | some (.struct _)=>.agg (mapD l)
 | _=>Hb l
theorem UY {n:Nat} {t:TypeId} {v:Value} {d:_root_.Go.DataW H} {ps:List MemPlace} (hr:Gd P n t=true) (hv:Value.okWide P w .any 0 t v) (h:_root_.Go.DataW.Trod enc P w 0 sp held t v d ps) :
  ∃l,ES P n t l∧VR P (fun b=>b<w.heap.size) w (FZ P t l) v:=by
 obtain ⟨fuel,h⟩:=h
 obtain ⟨l,h1,h2,h3,h4⟩:=JH n fuel t _ _ hr h
 refine ⟨l,h1,?_⟩
 cases n with
 | zero=>cases hr
 | succ n =>
  unfold Gd at hr
  unfold Value.okWide at hv
  unfold ES at h1
  unfold FZ
  have one:∀d:D,(∀cs,v≠.agg cs)→l=[d]→VR P (fun b=>b<w.heap.size) w (Hb l) v:=fun d hv hl=>by
   subst hl
   have e:v.cells = #[v]:=by cases v <;> first | rfl | exact absurd rfl (hv _)
   rw [e] at h4
   exact .d _ _ (h4 0 d v rfl rfl)
  split at hr
  ·next hu =>
   try rw [hu] at hv
   try rw [hu] at h1
   try rw [hu]
   obtain ⟨b,hl⟩:=h1
   exact one _ (fun cs e=>by subst e; simp [Cell.okWide,Cell.ok,hu] at hv) hl
  ·next k hu =>
   try rw [hu] at hv
   try rw [hu] at h1
   try rw [hu]
   obtain ⟨b,hl,_⟩:=h1
   exact one _ (fun cs e=>by subst e; simp [Cell.okWide,Cell.ok,hu] at hv) hl
  ·next hu =>
   try rw [hu] at hv
   try rw [hu] at h1
   try rw [hu]
   obtain ⟨b,hl,_⟩:=h1
   exact one _ (fun cs e=>by subst e; simp [Cell.okWide,Cell.ok,hu] at hv) hl
  ·next e hu =>
   try rw [hu] at hv
   try rw [hu] at h1
   try rw [hu]
   obtain ⟨b,hl,_⟩:=h1
   exact one _ (fun cs e=>by subst e; simp [Cell.okWide,Cell.ok,hu] at hv) hl
  ·next fs hu =>
   try rw [hu] at hv
   try rw [hu]
   obtain ⟨cs,rfl,hsz,_⟩:=hv
   obtain ⟨cs⟩:=cs
   dsimp only
   have:(Value.agg ⟨cs⟩).cells.toList=cs:=rfl
   rw [this] at h2 h3 h4
   have hvr:=VRL.mapD (P:=P) (F:=fun b=>b<w.heap.size) (w:=w) (el:=l) (us:=cs) h2 h4
   refine .agg _ cs hvr.1 hvr.2 fun u hu=>?_
   obtain ⟨j,hj⟩:=List.getElem?_of_mem hu
   have hlt:=(List.getElem?_eq_some_iff.1 hj).1
   exact (h4 j _ u (List.getElem?_eq_getElem (by omega)) hj).one
  ·cases hr
def TypedL (P:Program) (n:Nat):List TypeId→List (List D)→Prop
 | [],[]=>True
 | t::ts,l::ls=>ES P n t l∧TypedL P n ts ls
 | _,_=>False
def argsAV (P:Program):List TypeId→List (List D)→List AV
 | t::ts,l::ls=>FZ P t l::argsAV P ts ls
 | _,_=>[]
def J6 (P:Program) (n:Nat) (t:TypeId):Bool:=Gd P n t&&P.readableRec t&&decide (t<P.types.size)
theorem Kx {n:Nat} (hl:laidOutB P=true):∀{ts:List TypeId} {vs:List Value} {ds:List (_root_.Go.DataW H)} {ps:List MemPlace},ts.all (J6 P n)=true→(∀(j:Nat) t v,ts[j]? = some t→vs[j]? = some v→Value.okWide P w .any 0 t v) →
  _root_.Go.DataW.TrodAll enc P w 0 (fun _=>true) true ts vs ds ps →
  (∃ls,TypedL P n ts ls∧VRL P (fun b=>b<w.heap.size) w (argsAV P ts ls) vs)∧∀w',Below w.heap.size w w'→∃pa,_root_.Go.DataW.TrodAll enc P w' 0 (fun b=>decide (b<w.heap.size)) true ts vs ds pa
 | [],vs,ds,ps,hp,hv,h=>by
  obtain ⟨rfl,rfl,rfl⟩:=trodAll_nil h
  exact ⟨⟨[],trivial,.nil⟩,fun w' _=>⟨[],rfl⟩⟩
 | t::ts,vs,ds,ps,hp,hv,h=>by
  obtain ⟨v0,vs0,d0,ds0,p0,q0,rfl,rfl,rfl,h0,r0⟩:=trodAll_cons h
  simp only [List.all_cons,Bool.and_eq_true] at hp
  obtain ⟨⟨ls,h1,h2⟩,h3⟩:=Kx hl hp.2 (fun j t v h1 h2=>hv (j+1) t v (by simpa using h1) (by simpa using h2)) r0
  have hp1:=hp.1
  simp only [J6,Bool.and_eq_true,decide_eq_true_eq] at hp1
  obtain ⟨l,g1,g2⟩:=UY hp1.1.1 (hv 0 t v0 rfl rfl) h0
  refine ⟨⟨l::ls,⟨g1,h1⟩,.cons g2 h2⟩,fun w' hb=>?_⟩
  obtain ⟨pa,h4⟩:=h3 w' hb
  obtain ⟨fuel,h0'⟩:=h0
  exact ⟨_,trodAll_cons_mk (Below.trod hl hp1.1.2 hp1.2 ⟨fuel,h0'⟩ hb fun x hx=>_root_.Go.DataW.trod_lt _ _ _ _ h0' x hx) h4⟩
theorem Step.below {F F':Nat→Prop} {H':Heap} {w':World} (h:Step F Heap.none w F' H' w'):Below w.heap.size w w' :=
 ⟨h.os,h.tape,h.output,h.size,fun k hk=>h.keep k hk rfl⟩
theorem law_calls {fid:FuncId} {f:Func} {s:ChangeSpec} {args:Array Value} {ds gs:List (_root_.Go.DataW H)} {before:List MemPlace} {n:Nat} {tb:TypeId} (hvars:s.vars=[]) (hres:f.resultTypes = #[tb]) (htb:P.underlying tb=some .bool)
  (hspec:∀ds:List (_root_.Go.DataW H),ds.length=f.params.size→s.fn H ds={ results:=[.lit (.bool true)],args:=ds }) (hl:laidOutB P=true) (hok:f.params.toList.all (J6 P n)=true)
  (hval:∀(j:Nat) t v,f.params[j]? = some t→args[j]? = some v→Value.okWide P w .any 0 t v)
  (hW:_root_.Go.DataW.Whole enc P f.params.toList s.vars false w args.toList ds gs before)
  (hlaw:∀ls,TypedL P n f.params.toList ls→CallW P fid (argsAV P f.params.toList ls) Heap.none fun r _=>r = .d (.bool true)) :
  Calls P fid args w fun e W'=>∃v,e = .returned v∧s.post enc P f false true false false w args v W':=by
 have hW':=hW
 obtain ⟨p,q,hA,hV,rfl,hfz,hnd⟩:=hW
 rw [hvars] at hV
 obtain ⟨rfl,rfl⟩:=trodVars_none hV
 obtain ⟨⟨ls,h1,h2⟩,h3⟩:=Kx hl hok (fun j t v g1 g2=>hval j t v (by simpa using g1) (by simpa using g2)) hA
 have hlen:ds.length=f.params.size:=by
  have:=(_root_.Go.trodAll_length hA).2
  simpa using this
 refine (hlaw ls h1 _ w args.toList ⟨fun b x hb=>(by cases hb),fun b x hb=>(by cases hb),fun b hb=>hb⟩ h2).mono fun e W' hh=>?_
 obtain ⟨r,H',F',v,rfl,hv,_,hst,rfl⟩:=hh
 cases hv; next hv =>
 cases hv
 obtain ⟨pa,h4⟩:=h3 W' hst.below
 have hs:=hspec ds hlen
 refine ⟨_,rfl,ds,[],p++[],[],pa,[],hW',?_,?_,?_,hst.below.frame _,fun h=>by cases h⟩
 ·rw [List.append_nil,hs,hres]
  exact trodAll_mk1 (shut_bool htb _)
 ·rw [List.append_nil,hs]
  exact h4
 ·rw [List.append_nil,hs,hvars]
  rfl
end
abbrev i64 (n:Int):AV:=.d (.int .i64 n)
abbrev u64 (n:Int):AV:=.d (.int .u64 n)
abbrev bv (b:Bool):AV:=.d (.bool b)
def Fit (n:Int):Prop:=-9223372036854775808≤n∧n≤9223372036854775807
instance (n:Int):Decidable (Fit n):=by unfold Fit; exact inferInstance
theorem Tw {n:Int} (h:(Lit.int .i64 n).wf=true):Fit n:=by
 simp only [Lit.wf,Bool.and_eq_true,decide_eq_true_eq,IntKind.min,IntKind.max,IntKind.signed,IntKind.bits] at h
 unfold Fit
 constructor
 ·have:=h.1; simp at this; omega
 ·have:=h.2; simp at this; omega
theorem Da {n:Nat} {t:TM} {H:Heap}:(St.mk n t H).n=n:=(rfl)
theorem Cu {n:Nat} {t:TM} {H:Heap}:(St.mk n t H).t=t:=(rfl)
theorem CD {n:Nat} {t:TM} {H:Heap}:(St.mk n t H).H=H:=(rfl)
theorem BB {n:Nat} {r:List ARes} {b:ACode}:(AFunc.mk n r b).n=n:=(rfl)
theorem DA {n:Nat} {r:List ARes} {b:ACode}:(AFunc.mk n r b).results=r:=(rfl)
theorem Df {n:Nat} {r:List ARes} {b:ACode}:(AFunc.mk n r b).body=b:=(rfl)
theorem DX {α β:Type} {a : α} {b : β}:(Prod.mk a b).fst=a:=(rfl)
theorem BA {α β:Type} {a : α} {b : β}:(Prod.mk a b).snd=b:=(rfl)
theorem CO {i:Nat} {v:AV} {l:List (Nat×AV)} {n:Nat}:Fq ((i,v)::l) n=bif i == n then v else Fq l n:=rfl
theorem BQ {n:Nat}:Fq [] n = .undef:=rfl
def Jp (g:Option Nat) (x:Option Blk) (off:Nat) (K:AV→Prop):Prop:=match x with
 | some (.box _ cells)=>match g with
  | none=>VC (off<AM cells) (K (nth cells off))
  | some n=>VC (off+n≤AM cells) (K (.agg (seg cells off n)))
 | _=>False
theorem Cm {g:Option Nat} {b off:Nat} {H:Heap} {K:AV→Prop}:Ef g (.ptr b off) H K=Jp g (H b) off K:=rfl
theorem D1 {t:TypeId} {cells:List AV} {off:Nat} {K:AV→Prop}:Jp none (some (.box t cells)) off K=VC (off<AM cells) (K (nth cells off)):=rfl
theorem Bd {n:Nat} {t:TypeId} {cells:List AV} {off:Nat} {K:AV→Prop}:Jp (some n) (some (.box t cells)) off K=VC (off+n≤AM cells) (K (.agg (seg cells off n))):=rfl
def Nr (j:IntKind) (a b:Int):Int:=j.wrap (BitVec.ofInt j.bits a &&& BitVec.ofInt j.bits b).toNat
def R2 (j:IntKind) (a b:Int):Int:=j.wrap (BitVec.ofInt j.bits a ||| BitVec.ofInt j.bits b).toNat
def PQ (j:IntKind) (a b:Int):Int:=j.wrap (BitVec.ofInt j.bits a ^^^ BitVec.ofInt j.bits b).toNat
def Jj (P:Program) (Q:Out→St→Prop) (g:Option Nat) (p:AV) (d:Option Nat) (l:List AO) (k:List Item) (s:St):Prop:=match p with
 | .ptr b off=>Fg P Q g (.ptr b off) d l k s
 | _=>False
section
variable {P:Program} {Q:Out→St→Prop} {k:List Item} {s:St} {d:Option Nat} {l:List AO}
theorem DC {j:IntKind} {a b:Int}:ET P Q .and (.d (.int j a)) (.d (.int j b)) d l k s=AF P Q l k (AD s d (.d (.int j (Nr j a b))) s.H):=Rs
theorem B1 {j:IntKind} {a b:Int}:ET P Q .or (.d (.int j a)) (.d (.int j b)) d l k s=AF P Q l k (AD s d (.d (.int j (R2 j a b))) s.H):=PV
theorem DG {j:IntKind} {a b:Int}:ET P Q .xor (.d (.int j a)) (.d (.int j b)) d l k s=AF P Q l k (AD s d (.d (.int j (PQ j a b))) s.H):=RU
theorem En {p X:Prop} (h1:p) (h2:p→X):VC p X:=⟨h1,h2 h1⟩
theorem EF {f:FuncId} {args:List AV} {r:AV} (h:DataW P f args r) (hk:AF P Q l k (AD s d r s.H)):F4 P Q f args d l k s :=
 Mb h (LendL.refl _) hk
theorem Ek {f:FuncId} {args args':List AV} {r:AV} (h:DataW P f args' r) (hl:LendL s.H args args') (hs:HM r=true) (hk:AF P Q l k (AD s d r s.H)):F4 P Q f args d l k s :=
 Im h hl hs hk
theorem NN {f:FuncId} {args args':List AV} {r:AV} (h:NewW P f args' r) (hl:LendL s.H args args') (hk:AF P Q l k (AD s d r s.H)):F4 P Q f args d l k s :=
 Kg h hl hk
theorem Ew {f:FuncId} {args:List AV} {K:AV→Heap→Prop} (h:CallW P f args s.H K) (hk:∀r H',K r H'→AF P Q l k (AD s d r H')):F4 P Q f args d l k s :=
 CallW.mono h hk
theorem Cx {H:Heap} {b:Nat} {x y:Option Blk}:AG (AG H b x) b y=AG H b y:=by
 funext k; simp only [AL]; split <;> rfl
def Hp (x:Blk) (sz len:Nat) (d:Option Nat) (l:List AO) (k:List Item) (s:St) (P:Program) (Q:Out→St→Prop):Prop:=∀b,s.H b=none→AF P Q l k (AD s d (.own b sz 0 len len) (AG s.H b (some x)))
def Js (c:Option (List AV)) (e:TypeId) (sz len:Nat) (d:Option Nat) (l:List AO) (k:List Item) (s:St) (P:Program) (Q:Out→St→Prop):Prop:=match c with
 | some cs=>Ai s.H cs fun ds H'=>Hp (.row e sz len (Ag sz len ds)) sz len d l k ⟨s.n,s.t,H'⟩ P Q
 | none=>False
theorem U7 {s:St} {H':Heap} {d:Option Nat} {v:AV} {H:Heap}:AD ⟨s.n,s.t,H'⟩ d v H=AD s d v H:=by cases d <;> rfl
theorem CS {e:TypeId} {sz len:Nat} {z:List AV} {ps:List (Nat×Opd)}:AF P Q (⟨d,none,.buildSlice e sz len z ps⟩::l) k s=Js (Ae (Af z len) (AZ s.t sz ps)) e sz len d l k s P Q:=by
 rw [Eu]
 simp only [AJ,Js,Hp,U7]
 cases Ae (Af z len) (AZ s.t sz ps) <;> rfl
theorem Dl {cs:List AV} {e:TypeId} {sz len:Nat}:Js (some cs) e sz len d l k s P Q=Ai s.H cs fun ds H'=>Hp (.row e sz len (Ag sz len ds)) sz len d l k ⟨s.n,s.t,H'⟩ P Q:=rfl
def NJ (c:Option (List AV)) (e:TypeId) (sz len:Nat) (d:Option Nat) (l:List AO) (k:List Item) (s:St) (P:Program) (Q:Out→St→Prop):Prop:=(Fh s.H→(GM sz len c).isSome=true) ∧
    ∀b,s.H b=none→∀xs,GM sz len c=some xs→AF P Q l k (AD s d (.own b sz 0 len len) (AG s.H b (some (.row e sz len xs))))
theorem DR {e:TypeId} {sz len:Nat} {z:List AV} {ps:List (Nat×Opd)}:AF P Q (⟨d,none,.buildSliceD e sz len z ps⟩::l) k s=NJ (Ae (Af z len) (AZ s.t sz ps)) e sz len d l k s P Q:=rfl
theorem FE {x:Blk} {sz len:Nat} (h:∀b,s.H b=none→AF P Q l k (AD s d (.own b sz 0 len len) (AG s.H b (some x)))):Hp x sz len d l k s P Q:=h
def IF (xs:List (List D)) (i:Nat) (g:Option Nat) (j:Nat) (d:Option Nat) (l:List AO) (k:List Item) (s:St) (P:Program) (Q:Out→St→Prop):Prop:=∃el,xs[i]? = some el∧(match g with
 | none=>VC (j<el.length) (AF P Q l k (AD s d (nth (mapD el) j) s.H))
 | some n=>VC (j+n≤el.length) (AF P Q l k (AD s d (.agg (seg (mapD el) j n)) s.H)))
def G7 (g:Option Nat) (x:Option Blk) (sz i j:Nat) (d:Option Nat) (l:List AO) (k:List Item) (s:St) (P:Program) (Q:Out→St→Prop):Prop:=match x with
 | some (.row _ sz' _ xs)=>VC (sz=sz') (IF xs i g j d l k s P Q)
 | some (.box _ cells)=>match g with
  | none=>VC (i*sz+j<AM cells) (AF P Q l k (AD s d (nth cells (i*sz+j)) s.H))
  | some n=>VC (i*sz+j+n≤AM cells) (AF P Q l k (AD s d (.agg (seg cells (i*sz+j) n)) s.H))
 | _=>False
theorem Dd {g:Option Nat} {b sz i j:Nat}:Fg P Q g (.eptr b sz i j) d l k s=G7 g (s.H b) sz i j d l k s P Q:=by
 simp only [Fg,Ef,G7,IF,Fu,VC]
 cases s.H b with
 | none=>rfl
 | some x =>
  cases x with
  | box t cells=>cases g <;> rfl
  | obj o ts us=>rfl
  | row t sz' cap xs =>
   dsimp only
   refine propext (and_congr_right fun _=>⟨fun ⟨_,el,h1,h2⟩=>⟨el,by simpa using h1,by cases g <;> exact h2⟩,fun ⟨el,h1,h2⟩=>⟨by omega,el,by simpa using h1,by cases g <;> exact h2⟩⟩)
theorem Vc {t:TypeId} {sz i j:Nat} {cells:List AV} (h:i*sz+j<AM cells) (hk:AF P Q l k (AD s d (nth cells (i*sz+j)) s.H)):G7 none (some (.box t cells)) sz i j d l k s P Q:=⟨h,hk⟩
theorem Dv {g:Option Nat} {t:TypeId} {sz cap i j:Nat} {xs:List (List D)}:G7 g (some (.row t sz cap xs)) sz i j d l k s P Q=IF xs i g j d l k s P Q:=by simp [G7,VC]
theorem GW {xs:List (List D)} {i j:Nat} (el:List D) (h:xs[i]? = some el) (hj:j<el.length) (hk:AF P Q l k (AD s d (nth (mapD el) j) s.H)):IF xs i none j d l k s P Q:=⟨el,h,hj,hk⟩
theorem Es {xs:List (List D)} {i:Int} (el:List D) (h0:0≤i) (h:xs[i.toNat]? = some el) (hk:AF P Q l k (AD s d (.dptr el 0) s.H)):Ju P Q xs i d l k s:=⟨h0,el,h,hk⟩
def Fo (e:TypeId) (sz bytes:Nat) (z:List AV) (v x:AV) (d:Option Nat) (l:List AO) (k:List Item) (s:St) (P:Program) (Q:Out→St→Prop):Prop:=Er s.H x fun sz' ys=>(ys=[]∧z.length=sz∧match v with
 | .nilsl n=>AF P Q l k (AD s d (.nilsl n) s.H)
 | .own b n off len cap=>AF P Q l k (AD s d (.own b n off len cap) s.H)
 | _=>False)∨VC (sz'=sz∧ys≠[]∧z.length=sz) (
 match v with
 | .nilsl _=>VC (ys.length*bytes≤140737488355328∧ys.length≤maxLen) (∀b,s.H b=none→∀cap,AF P Q l k (AD s d (.own b sz 0 ys.length cap) (AG s.H b (some (.row e sz cap ys)))))
 | .own b sz'' off len cap=>match s.H b with
  | some (.row e' sz''' cap'' xs)=>VC (e'=e∧sz''=sz∧sz'''=sz∧off=0∧cap=cap''∧len=xs.length∧(xs.length+ys.length)*bytes≤140737488355328∧xs.length+ys.length≤maxLen)
    (∀b' cap',AG s.H b none b'=none→AF P Q l k (AD s d (.own b' sz 0 (len+ys.length) cap') (AG (AG s.H b none) b' (some (.row e sz cap' (xs++ys))))))
  | _=>False
 | .part b sz'' off len cap=>match s.H b with
  | some (.row e' sz''' cap'' xs)=>VC (e'=e∧sz''=sz∧sz'''=sz∧off=0∧(cap=0→len=0)∧cap<len+ys.length∧len≤xs.length∧(len+ys.length)*bytes≤140737488355328∧len+ys.length≤maxLen)
    (∀b' cap',AG s.H b none b'=none→AF P Q l k (AD s d (.own b' sz 0 (len+ys.length) cap') (AG (AG s.H b none) b' (some (.row e sz cap' (xs.take len++ys))))))
  | _=>False
 | _=>False)
theorem CB {e:TypeId} {sz bytes:Nat} {z:List AV} {v x:Opd}:AF P Q (⟨d,none,.append e sz bytes z v x⟩::l) k s=Fo e sz bytes z (ev s.t v) (ev s.t x) d l k s P Q:=rfl
theorem N7 {e t:TypeId} {sz bytes n c len capc capx:Nat} {z:List AV} {ys:List (List D)} (hx:s.H c=some (.row t sz capc ys)) (hlen:len=ys.length) (hne:ys≠[]) (hz:z.length=sz) (hb:ys.length*bytes≤140737488355328∧ys.length≤maxLen)
  (hk:∀b,s.H b=none→∀cap,AF P Q l k (AD s d (.own b sz 0 ys.length cap) (AG s.H b (some (.row e sz cap ys))))):Fo e sz bytes z (.nilsl n) (.own c sz 0 len capx) d l k s P Q:=by
 simp only [Fo,Er,hx]
 exact ⟨⟨trivial,trivial,hlen⟩,.inr ⟨⟨trivial,hne,hz⟩,hb,hk⟩⟩
theorem Pk {e t:TypeId} {sz bytes b c len cap lenb capc capx:Nat} {z:List AV} {xs ys:List (List D)} (hb:s.H b=some (.row e sz cap xs)) (hx:s.H c=some (.row t sz capc ys)) (hlb:lenb=xs.length) (hlen:len=ys.length) (hne:ys≠[]) (hz:z.length=sz) (hbd:(xs.length+ys.length)*bytes≤140737488355328∧xs.length+ys.length≤maxLen)
  (hk:∀b' cap',AG s.H b none b'=none→AF P Q l k (AD s d (.own b' sz 0 (lenb+ys.length) cap') (AG (AG s.H b none) b' (some (.row e sz cap' (xs++ys)))))):Fo e sz bytes z (.own b sz 0 lenb cap) (.own c sz 0 len capx) d l k s P Q:=by
 simp only [Fo,Er,hx,hb]
 exact ⟨⟨trivial,trivial,hlen⟩,.inr ⟨⟨trivial,hne,hz⟩,⟨trivial,trivial,trivial,trivial,trivial,hlb,hbd⟩,hk⟩⟩
theorem Hq {H:Heap} {b sz cap cap' len:Nat} {t:TypeId} {xs:List (List D)} (h:H b=some (.row t sz cap' xs)) (hl:len=xs.length) (K:Nat→List (List D)→Prop):Er H (.own b sz 0 len cap) K=K sz xs:=by
 simp [Er,h,hl,VC]
theorem TX {e:TypeId} {sz bytes b cap lenb:Nat} {z:List AV} {xs ys:List (List D)} {x:AV} (hx:∀K,Er s.H x K=K sz ys) (hb:s.H b=some (.row e sz cap xs)) (hlb:lenb=xs.length) (hz:z.length=sz) (hbd:(xs.length+ys.length)*bytes≤140737488355328∧xs.length+ys.length≤maxLen)
  (h0:ys=[]→AF P Q l k (AD s d (.own b sz 0 lenb cap) s.H))
  (hk:ys≠[]→∀b' cap',AG s.H b none b'=none→AF P Q l k (AD s d (.own b' sz 0 (lenb+ys.length) cap') (AG (AG s.H b none) b' (some (.row e sz cap' (xs++ys)))))):Fo e sz bytes z (.own b sz 0 lenb cap) x d l k s P Q:=by
 unfold Fo
 rw [hx]
 simp only [hb]
 by_cases hne:ys=[]
 ·exact .inl ⟨hne,hz,h0 hne⟩
 ·exact .inr ⟨⟨trivial,hne,hz⟩,⟨trivial,trivial,trivial,trivial,trivial,hlb,hbd⟩,hk hne⟩
theorem Ot {e:TypeId} {sz bytes n:Nat} {z:List AV} {ys:List (List D)} {x:AV} (hx:∀K,Er s.H x K=K sz ys) (hz:z.length=sz) (hbd:ys.length*bytes≤140737488355328∧ys.length≤maxLen)
  (h0:ys=[]→AF P Q l k (AD s d (.nilsl n) s.H))
  (hk:ys≠[]→∀b,s.H b=none→∀cap,AF P Q l k (AD s d (.own b sz 0 ys.length cap) (AG s.H b (some (.row e sz cap ys))))):Fo e sz bytes z (.nilsl n) x d l k s P Q:=by
 unfold Fo
 rw [hx]
 by_cases hne:ys=[]
 ·exact .inl ⟨hne,hz,h0 hne⟩
 ·exact .inr ⟨⟨(by trivial),hne,hz⟩,hbd,hk hne⟩
theorem FR {H:Heap} {j b:Nat} {x:Option Blk} (h:¬j=b):AG H j x b=H b:=by rw [AL,if_neg h]
theorem EN {H:Heap} {b:Nat} {x:Option Blk}:AG H b x b=x:=by rw [AL,if_pos rfl]
theorem EZ {H:Heap} {b k:Nat} {x:Blk} (hb:H k=none) (h:H b=some x):¬k=b∧¬b=k:=by
 refine ⟨fun e=>?_,fun e=>?_⟩
 ·subst e; rw [hb] at h; cases h
 ·subst e; rw [hb] at h; cases h
def GU (sz:Nat) (x:AV) (lo hi:Option (Option Int)) (d:Option Nat) (l:List AO) (k:List Item) (s:St) (P:Program) (Q:Out→St→Prop):Prop:=GK sz x lo hi fun v=>AF P Q l k (AD s d v s.H)
theorem Cp {sz:Nat} {x:Opd} {lo hi:Option Opd}:AF P Q (⟨d,none,.slice sz x lo hi⟩::l) k s=GU sz (ev s.t x) (EH (AP s.t lo)) (EH (AP s.t hi)) d l k s P Q:=rfl
theorem DL {sz:Nat} {xs:List (List D)} {lo hi:Option Int}:GU sz (.d (.sl sz xs)) (some lo) (some hi) d l k s P Q=VC (0≤lo.getD 0∧lo.getD 0≤hi.getD xs.length∧hi.getD xs.length≤xs.length) (AF P Q l k (AD s d (.d (.sl sz ((xs.take (hi.getD xs.length).toNat).drop (lo.getD 0).toNat))) s.H)):=by
 simp [GU,GK,VC]
theorem DP {sz n:Nat} {lo hi:Option Int}:GU sz (.nilsl n) (some lo) (some hi) d l k s P Q=VC (lo.getD 0=0∧hi.getD 0=0) (AF P Q l k (AD s d (.nilsl n) s.H)):=rfl
theorem DF {sz b off len cap:Nat} {lo hi:Option Int}:GU sz (.own b sz off len cap) (some lo) (some hi) d l k s P Q=VC (0≤lo.getD 0∧lo.getD 0≤hi.getD len∧hi.getD len≤cap) (AF P Q l k (AD s d (.part b sz (off+(lo.getD 0).toNat) ((hi.getD len).toNat-(lo.getD 0).toNat) (cap-(lo.getD 0).toNat)) s.H)):=by
 simp [GU,GK,VC]
theorem Dw {sz b off len cap:Nat} {lo hi:Option Int}:GU sz (.part b sz off len cap) (some lo) (some hi) d l k s P Q=VC (0≤lo.getD 0∧lo.getD 0≤hi.getD len∧hi.getD len≤cap) (AF P Q l k (AD s d (.part b sz (off+(lo.getD 0).toNat) ((hi.getD len).toNat-(lo.getD 0).toNat) (cap-(lo.getD 0).toNat)) s.H)):=by
 simp [GU,GK,VC]
def HQ (sz:Nat) (x:AV) (lo hi mx:Option (Option Int)) (d:Option Nat) (l:List AO) (k:List Item) (s:St) (P:Program) (Q:Out→St→Prop):Prop:=Gp sz x lo hi mx fun v=>AF P Q l k (AD s d v s.H)
theorem Br {sz:Nat} {x:Opd} {lo hi mx:Option Opd}:AF P Q (⟨d,none,.slice3 sz x lo hi mx⟩::l) k s=HQ sz (ev s.t x) (EH (AP s.t lo)) (EH (AP s.t hi)) (EH (AP s.t mx)) d l k s P Q:=by rw [Eu]; simp only [AJ,HQ]
theorem C5 {sz n:Nat} {lo:Option Int} {hi mx:Int}:HQ sz (.nilsl n) (some lo) (some (some hi)) (some (some mx)) d l k s P Q=VC (lo.getD 0=0∧hi=0∧mx=0) (AF P Q l k (AD s d (.nilsl n) s.H)):=rfl
theorem BW {sz b off len cap:Nat} {lo:Option Int} {hi mx:Int}:HQ sz (.own b sz off len cap) (some lo) (some (some hi)) (some (some mx)) d l k s P Q=VC (0≤lo.getD 0∧lo.getD 0≤hi∧hi≤mx∧mx≤cap) (AF P Q l k (AD s d (.part b sz (off+(lo.getD 0).toNat) (hi.toNat-(lo.getD 0).toNat) (mx.toNat-(lo.getD 0).toNat)) s.H)):=by
 simp [HQ,Gp,VC]
def Hy:AV→Option AV
 | .nilsl _=>some (.d (.int .i64 0))
 | .own _ _ _ _ cap=>some (.d (.int .i64 cap))
 | .part _ _ _ _ cap=>some (.d (.int .i64 cap))
 | _=>none
theorem CN {x:Opd}:AF P Q (⟨d,none,.cap x⟩::l) k s=FF P Q (Hy (ev s.t x)) d l k s:=by
 rw [Eu]
 simp only [AJ,FF,Hy]
 cases ev s.t x <;> rfl
def LV (sz:Nat) (z:List AV) (x:AV) (d:Option Nat) (l:List AO) (k:List Item) (s:St) (P:Program) (Q:Out→St→Prop):Prop:=HU sz z x s.H fun H'=>AF P Q l k (AD s d (.tup []) H')
theorem Cl {sz:Nat} {z:List AV} {x:Opd}:AF P Q (⟨d,none,.clear sz z x⟩::l) k s=LV sz z (ev s.t x) d l k s P Q:=by rw [Eu]; simp only [AJ,LV]
def KH (e:TypeId) (sz bytes:Nat) (z:List AV) (v n:AV) (d:Option Nat) (l:List AO) (k:List Item) (s:St) (P:Program) (Q:Out→St→Prop):Prop:=H5 e sz bytes z v n s.H fun v H'=>AF P Q l k (AD s d v H')
theorem CR {e:TypeId} {sz bytes:Nat} {z:List AV} {v n:Opd}:AF P Q (⟨d,none,.appendN e sz bytes z v n⟩::l) k s=KH e sz bytes z (ev s.t v) (ev s.t n) d l k s P Q:=by rw [Eu]; simp only [AJ,KH]
def Gm (n:Nat) (v:AV) (b sz i j:Nat) (d:Option Nat) (l:List AO) (k:List Item) (s:St) (P:Program) (Q:Out→St→Prop):Prop:=match s.H b with
 | some (.box t cells)=>VC (i*sz+j+n≤AM cells) (AF P Q l k (AD s d .void (AG s.H b (some (.box t (setSeg cells (i*sz+j) (EO v)))))))
 | _=>Ai s.H (EO v) fun ds H'=>match H' b with
  | some (.row t sz' cap xs)=>VC (sz=sz') (∃el,xs[i]? = some el∧VC (j+n≤el.length) (AF P Q l k (AD s d .void (AG H' b (some (.row t sz cap (xs.set i (Ed el j ds))))))))
  | _=>False
theorem J1 (n:Nat) (v:AV) (b sz i j:Nat):(Ai s.H (EO v) fun ds H'=>match H' b with
  | some (.row t sz' cap xs)=>VC (sz=sz') (Fu xs i fun el=>VC (j+n≤el.length) (AF P Q l k (AD s d .void (AG H' b (some (.row t sz cap (xs.set (i:Int).toNat (Ed el j ds))))))))
  | _=>False)=Ai s.H (EO v) fun ds H'=>match H' b with
  | some (.row t sz' cap xs)=>VC (sz=sz') (∃el,xs[i]? = some el∧VC (j+n≤el.length) (AF P Q l k (AD s d .void (AG H' b (some (.row t sz cap (xs.set i (Ed el j ds))))))))
  | _=>False:=by
 refine congrArg _ ?_
 funext ds H'
 cases H' b with
 | none=>rfl
 | some x =>
  cases x with
  | box t cells=>rfl
  | obj o ts us=>rfl
  | row t sz' cap xs =>
   simp only [VC,Fu]
   refine propext (and_congr_right fun _=>⟨fun ⟨_,el,h1,h2⟩=>⟨el,by simpa using h1,h2⟩,fun ⟨el,h1,h2⟩=>⟨by omega,el,by simpa using h1,h2⟩⟩)
theorem Bv {n b sz i j:Nat} {v:AV}:IE P Q n (.eptr b sz i j) v d l k s=VC (EM n v=true) (Gm n v b sz i j d l k s P Q):=by
 simp only [IE,GX,Gm]
 cases s.H b with
 | none=>exact congrArg (VC _) (J1 n v b sz i j)
 | some x =>
  cases x with
  | box t cells=>rfl
  | obj o ts us=>exact congrArg (VC _) (J1 n v b sz i j)
  | row t sz' cap xs=>exact congrArg (VC _) (J1 n v b sz i j)
theorem Tu {n b sz i j:Nat} {v:AV} {t:TypeId} {cells:List AV} (hb:s.H b=some (.box t cells)) (h:i*sz+j+n≤AM cells) (hk:AF P Q l k (AD s d .void (AG s.H b (some (.box t (setSeg cells (i*sz+j) (EO v))))))):Gm n v b sz i j d l k s P Q:=by
 simp only [Gm,hb]
 exact ⟨h,hk⟩
theorem GO {x:D} {b sz i j cap:Nat} {t:TypeId} {xs:List (List D)} {el:List D} (hb:s.H b=some (.row t sz cap xs)) (h:xs[i]? = some el) (hj:j<el.length) (hk:AF P Q l k (AD s d .void (AG s.H b (some (.row t sz cap (xs.set i (Ed el j [x]))))))):Gm 1 (.d x) b sz i j d l k s P Q:=by
 simp only [Gm,EO,Ai,Ak,Am,hb]
 exact ⟨trivial,el,h,hj,hk⟩
def Kk (f:FuncId) (args:List AV) (d:Option Nat) (l:List AO) (k:List Item) (s:St) (P:Program) (Q:Out→St→Prop):Prop:=NCallK P f args s.H fun v H'=>AF P Q l k (AD s d v H')
theorem Ca {f:FuncId} {args:List Opd}:AF P Q (⟨d,none,.ncall f args⟩::l) k s=Kk f (AS s.t args) d l k s P Q:=rfl
def JP (n:Nat) (p v:AV) (d:Option Nat) (l:List AO) (k:List Item) (s:St) (P:Program) (Q:Out→St→Prop):Prop:=match p,v with
 | .eptr b sz i j,.d x=>match s.H b with
  | some (.row e sz' cap xs)=>VC (n=1∧sz=sz') (Fu xs i fun el=>VC (j<el.length) (AF P Q l k (AD s d .void (AG s.H b (some (.row e sz cap (xs.set i (Ed el j [x]))))))))
  | _=>False
 | _,_=>False
theorem DV {n:Nat} {p v:Opd}:AF P Q (⟨d,none,.storeR n p v⟩::l) k s=JP n (ev s.t p) (ev s.t v) d l k s P Q:=rfl
theorem MI {x:D} {b sz i j cap:Nat} {t:TypeId} {xs:List (List D)} {el:List D} (hb:s.H b=some (.row t sz cap xs)) (h:xs[i]? = some el) (hj:j<el.length) (hk:AF P Q l k (AD s d .void (AG s.H b (some (.row t sz cap (xs.set i (Ed el j [x]))))))):JP 1 (.eptr b sz i j) (.d x) d l k s P Q:=by
 simp only [JP,hb,Fu,VC]
 exact ⟨⟨trivial,trivial⟩,by omega,el,by simpa using h,hj,hk⟩
theorem A5 {a b:ByteArray}:ET P Q .add (.d (.str a)) (.d (.str b)) d l k s=VC (a.size+b.size≤9223372036854775807) (AF P Q l k (AD s d (.d (.str (a++b))) s.H)):=rfl
def L8 (x:AV) (d:Option Nat) (l:List AO) (k:List Item) (s:St) (P:Program) (Q:Out→St→Prop):Prop:=Er s.H x fun _ ys=>match Fe ys with
 | some bs=>AF P Q l k (AD s d (.d (.str ⟨bs.toArray⟩)) s.H)
 | none=>False
theorem Di {x:Opd}:AF P Q (⟨d,none,.strOf x⟩::l) k s=L8 (ev s.t x) d l k s P Q:=by
 rw [Eu]; simp only [AJ,L8]
 refine congrArg _ ?_
 funext _ ys
 cases Fe ys <;> rfl
def Jc (x:AV) (lo hi:Option (Option Int)) (d:Option Nat) (l:List AO) (k:List Item) (s:St) (P:Program) (Q:Out→St→Prop):Prop:=match x,lo,hi with
 | .d (.str v),some lo,some hi=>VC (0≤lo.getD 0∧lo.getD 0≤hi.getD v.size∧hi.getD v.size≤v.size) (AF P Q l k (AD s d (.d (.str (v.extract (lo.getD 0).toNat (hi.getD v.size).toNat))) s.H))
 | _,_,_=>False
theorem C0 {x:Opd} {lo hi:Option Opd}:AF P Q (⟨d,none,.strSlice x lo hi⟩::l) k s=Jc (ev s.t x) (EH (AP s.t lo)) (EH (AP s.t hi)) d l k s P Q:=by
 rw [Eu]; simp only [AJ,Jc]
 generalize ev s.t x=a; generalize EH (AP s.t lo)=b; generalize EH (AP s.t hi)=c
 split
 ·rfl
 ·next hn =>
  split
  ·next v lo hi=>exact (hn v lo hi rfl rfl rfl).elim
  ·rfl
theorem A6 {v:ByteArray} {lo hi:Option Int}:Jc (.d (.str v)) (some lo) (some hi) d l k s P Q=VC (0≤lo.getD 0∧lo.getD 0≤hi.getD v.size∧hi.getD v.size≤v.size) (AF P Q l k (AD s d (.d (.str (v.extract (lo.getD 0).toNat (hi.getD v.size).toNat))) s.H)):=rfl
def NZ (P:Program) (Q:Out→St→Prop) (n:Nat) (p v:AV) (keep:List Nat) (d:Option Nat) (l:List AO) (k:List Item) (s:St):Prop:=match p with
 | .ptr b off=>VC (Aj s.t (.ptr b off) keep) (VC (EM n v=true) (match s.H b with
  | some (.box e cells)=>VC (off+n≤AM cells) (AF P Q l k (AD s d .void (AG s.H b (some (.box e (setSeg cells off (EO v)))))))
  | _=>False))
 | _=>False
theorem Cy {n:Nat} {p v:Opd} {keep:List Nat}:AF P Q (⟨d,none,.storeK n p v keep⟩::l) k s=NZ P Q n (ev s.t p) (ev s.t v) keep d l k s:=rfl
def Hw (P:Program) (Q:Out→St→Prop) (neg:Bool) (v:AV) (d:Option Nat) (l:List AO) (k:List Item) (s:St):Prop:=match v with
 | .nilsl _=>AF P Q l k (AD s d (.d (.bool (!neg))) s.H)
 | .own _ _ _ _ _=>AF P Q l k (AD s d (.d (.bool neg)) s.H)
 | .part _ _ _ _ _=>AF P Q l k (AD s d (.d (.bool neg)) s.H)
 | .d (.sl _ xs)=>AF P Q l k (AD s d (.d (.bool neg)) s.H)∧(xs=[]→AF P Q l k (AD s d (.d (.bool (!neg))) s.H))
 | _=>False
theorem CW {neg:Bool} {x:Opd}:AF P Q (⟨d,none,.isNil neg x⟩::l) k s=Hw P Q neg (ev s.t x) d l k s:=rfl
theorem D4 {neg:Bool} {sz:Nat}:Hw P Q neg (.nilsl sz) d l k s=AF P Q l k (AD s d (.d (.bool (!neg))) s.H):=rfl
theorem Cc {neg:Bool} {b sz off len cap:Nat}:Hw P Q neg (.own b sz off len cap) d l k s=AF P Q l k (AD s d (.d (.bool neg)) s.H):=rfl
theorem DW {neg:Bool} {b sz off len cap:Nat}:Hw P Q neg (.part b sz off len cap) d l k s=AF P Q l k (AD s d (.d (.bool neg)) s.H):=rfl
theorem Ht {neg:Bool} {sz:Nat} {xs:List (List D)} (h1:AF P Q l k (AD s d (.d (.bool neg)) s.H)) (h2:xs=[]→AF P Q l k (AD s d (.d (.bool (!neg))) s.H)):Hw P Q neg (.d (.sl sz xs)) d l k s:=⟨h1,h2⟩
theorem Cd {g:Option Nat} {i:Nat}:AF P Q (⟨d,none,.loadP g i⟩::l) k s=Jj P Q g (s.t i) d l k s:=by
 rw [Eu]
 simp only [AJ,Jj]
 cases s.t i <;> rfl
theorem BH {g:Option Nat} {b off:Nat}:Jj P Q g (.ptr b off) d l k s=Fg P Q g (.ptr b off) d l k s:=rfl
def Iv (f:FuncId) (args:List AV) (keep:List Nat) (d:Option Nat) (l:List AO) (k:List Item) (s:St) (P:Program) (Q:Out→St→Prop):Prop:=CallW P f args s.H fun v H'=>GG s.t s.H H' keep∧AF P Q l k (AD s d v H')
theorem A8 {f:FuncId} {args:List Opd} {keep:List Nat}:AF P Q (⟨d,none,.callS f args keep⟩::l) k s=Iv f (AS s.t args) keep d l k s P Q:=rfl
def Jn (g:AV) (args:List AV) (keep:List Nat) (d:Option Nat) (l:List AO) (k:List Item) (s:St) (P:Program) (Q:Out→St→Prop):Prop:=match g with
 | .fn f caps=>Iv f (args++caps) keep d l k s P Q
 | _=>False
theorem Do {g:Opd} {args:List Opd} {keep:List Nat}:AF P Q (⟨d,none,.callvS g args keep⟩::l) k s=Jn (ev s.t g) (AS s.t args) keep d l k s P Q:=by
 simp only [Eu,AJ,Jn,Iv]
 cases ev s.t g <;> rfl
theorem Dr {f:FuncId} {caps args:List AV} {keep:List Nat}:Jn (.fn f caps) args keep d l k s P Q=Iv f (args++caps) keep d l k s P Q:=rfl
def PG (e:TypeId) (sz bytes:Nat) (z:List AV) (x:AV) (d:Option Nat) (l:List AO) (k:List Item) (s:St) (P:Program) (Q:Out→St→Prop):Prop:=match x with
 | .d (.int _ n)=>match Eb z with
  | some ds=>VC (0≤n∧n*bytes≤281474976710656∧n≤9223372036854775807) (Hp (.row e sz n.toNat (List.replicate n.toNat ds)) sz n.toNat d l k s P Q)
  | none=>False
 | _=>False
theorem BP {e:TypeId} {sz bytes:Nat} {z:List AV} {x:Opd}:AF P Q (⟨d,none,.make e sz bytes z x⟩::l) k s=PG e sz bytes z (ev s.t x) d l k s P Q:=rfl
theorem Av {x:Blk} (h:∀b,s.H b=none→AF P Q l k (AD s d (.ptr b 0) (AG s.H b (some x)))):Jv P Q x d l k s:=h
def EX:List (Nat×Blk)→Heap
 | []=>Heap.none
 | (b,x)::l=>AG (EX l) b (some x)
theorem Bo {k:Nat}:EX [] k = .none:=rfl
theorem Aq {b k:Nat} {x:Blk} {l:List (Nat×Blk)}:EX ((b,x)::l) k=if k=b then some x else EX l k:=by
 simp only [EX,AL]
 by_cases h:b=k
 ·subst h; simp
 ·have h':¬k=b:=fun e=>h e.symm
  simp [h,h']
theorem Is {H:Heap} {l:List (Nat×Blk)} (h:AX H l) (k:Nat):EX l k=none∨EX l k=H k:=by
 induction l with
 | nil=>exact .inl rfl
 | cons p l ih =>
  obtain ⟨b,x⟩:=p
  rw [Aq]
  by_cases e:k=b
  ·subst e; rw [if_pos rfl]; exact .inr h.1.symm
  ·rw [if_neg e]; exact ih h.2
theorem Ex {α:Type} (I : α→Prop) (n:Nat) (tl : α→List (Nat×AV)) (hl : α→List (Nat×Blk)) (μ : α→Nat) {b:ACode} (x0 : α) (h0:I x0) (hn:n=s.n) (ha:EP s.t (tl x0)) (hb:AX s.H (hl x0))
  (round:∀x,I x→El P (HZ I (fun x=>⟨n,Fq (tl x),EX (hl x)⟩) μ x (Eh P Q k)) b [] ⟨n,Fq (tl x),EX (hl x)⟩):Gc P Q b k s :=
 Nm I (fun x=>⟨n,Fq (tl x),EX (hl x)⟩) μ x0 h0 (LY hn ha (Is hb)) round
theorem E3 {α:Type} {I : α→Prop} {n:Nat} {tl : α→List (Nat×AV)} {hl : α→List (Nat×Blk)} {μ : α→Nat} {x : α} {R:Out→St→Prop} {s':St} (y : α) (h1:I y) (h2 : μ y < μ x) (hn:n=s'.n) (ha:EP s'.t (tl y)) (hb:AX s'.H (hl y)):HZ I (fun x=>⟨n,Fq (tl x),EX (hl x)⟩) μ x R .normal s' :=
 ⟨y,h1,h2,LY hn ha (Is hb)⟩
theorem BJ {n:Nat} {t:TM} {x:List AV}:Ik n t [] x=t:=by cases x <;> rfl
theorem BS {n p:Nat} {t:TM} {ps:List Nat} {v:AV} {x:List AV}:Ik n t (p::ps) (v::x)=Ik n (if p<n then Gy t p v else t) ps x:=rfl
theorem AU {H:Heap} {x y:AV} (h:x=y):LendV H x y:=h▸.refl x
end
def Ja (l:List Int):List (List D):=l.map fun n=>[.int .i64 n]
theorem Ox {l:List Int}:(Ja l).length=l.length:=List.length_map ..
abbrev SE (l:List Int):AV:=.d (.sl 1 (Ja l))
def Lx (l:List Int):Prop:=∀(i:Nat) (h:i<l.length),Fit l[i]
theorem F6 {i:Nat} (h:i<9223372036854775807):IntKind.i64.wrap ((i:Int)+1)=((i+1:Nat):Int):=by rw [IntKind.wrap_i64]; omega
section
variable {P:Program} {n:Nat} {t:TypeId} {l:List D}
theorem typedL_cons {ts:List TypeId} {ls:List (List D)} (h:TypedL P n (t::ts) ls):∃l r,ls=l::r∧ES P n t l∧TypedL P n ts r:=by
 cases ls with
 | nil=>exact absurd h id
 | cons l r=>exact ⟨l,r,rfl,h.1,h.2⟩
theorem typedL_nil {ls:List (List D)} (h:TypedL P n [] ls):ls=[]:=by
 cases ls with
 | nil=>rfl
 | cons l r=>exact absurd h id
theorem typed_bool (h:ES P (n+1) t l) (ht:P.underlying t=some .bool):∃b,l=[.bool b]∧FZ P t l=bv b:=by
 rw [ES,ht] at h
 obtain ⟨b,rfl⟩:=h
 exact ⟨b,rfl,by simp [FZ,ht,Hb]⟩
theorem typed_int (h:ES P (n+1) t l) (ht:P.underlying t=some (.int .i64)):∃z,l=[.int .i64 z]∧Fit z∧FZ P t l=i64 z:=by
 rw [ES,ht] at h
 obtain ⟨z,rfl,h⟩:=h
 exact ⟨z,rfl,Tw h,by simp [FZ,ht,Hb]⟩
theorem MT {e:TypeId} (h:ES P (n+1) t l) (ht:P.underlying t=some (.slice e)):∃xs,l=[.sl (P.cellsOf e) xs]∧xs.length≤maxLen∧(∀el∈xs,ES P n e el)∧FZ P t l = .d (.sl (P.cellsOf e) xs):=by
 rw [ES,ht] at h
 obtain ⟨xs,rfl,h1,h2⟩:=h
 exact ⟨xs,rfl,h1,h2,by simp [FZ,ht,Hb]⟩
theorem Sc {e:TypeId} {xs:List (List D)} (h:∀el∈xs,ES P (n+1) e el) (he:P.underlying e=some (.int .i64)):∃zs,xs=Ja zs∧Lx zs:=by
 induction xs with
 | nil=>exact ⟨[],rfl,fun i h=>absurd h (Nat.not_lt_zero _)⟩
 | cons x xs ih =>
  obtain ⟨z,rfl,hz,_⟩:=typed_int (h x (List.mem_cons_self ..)) he
  obtain ⟨zs,rfl,h2⟩:=ih fun el h'=>h el (List.mem_cons_of_mem _ h')
  refine ⟨z::zs,rfl,fun i hi=>?_⟩
  cases i with
  | zero=>exact hz
  | succ i=>exact h2 i (by simpa using hi)
theorem typed_ints {e:TypeId} (h:ES P (n+2) t l) (ht:P.underlying t=some (.slice e)) (he:P.underlying e=some (.int .i64)) (hc:P.cellsOf e=1):∃zs,Lx zs∧zs.length≤9223372036854775807∧FZ P t l=SE zs:=by
 obtain ⟨xs,rfl,h1,h2,h3⟩:=MT h ht
 obtain ⟨zs,rfl,h4⟩:=Sc h2 he
 refine ⟨zs,h4,?_,by rw [h3,hc]⟩
 rw [Ox] at h1
 exact h1
theorem Kl:∀{fs:List Field} {ls:List (List D)},ls.length=fs.length→(∀(j:Nat) f x,fs[j]? = some f→ls[j]? = some x→ES P n f.type x)→TypedL P n (fs.map (·.type)) ls
 | [],[],_,_=>trivial
 | [],_::_,h,_=>by simp at h
 | _::_,[],h,_=>by simp at h
 | f::fs,x::ls,h,k=>⟨k 0 f x rfl rfl,Kl (by simpa using h) fun j f x h1 h2=>k (j+1) f x (by simpa using h1) (by simpa using h2)⟩
theorem GY {fs:Array Field} (h:ES P (n+1) t l) (ht:P.underlying t=some (.struct fs)):∃ls,l=ls.flatten∧TypedL P n (fs.toList.map (·.type)) ls∧FZ P t l = .agg (mapD l):=by
 rw [ES,ht] at h
 obtain ⟨ls,rfl,h1,h2⟩:=h
 exact ⟨ls,rfl,Kl (by simpa using h1) (fun j f x g1 g2=>h2 j f x (by simpa using g1) g2),by simp [FZ,ht]⟩
theorem Ee {H:Heap}:LendL H [] []:=LendL.refl _
theorem AT {H:Heap} {x y:AV} {xs ys:List AV} (h:LendV H x y) (t:LendL H xs ys):LendL H (x::xs) (y::ys):=by
 refine ⟨congrArg (· + 1) t.1,fun j u v h1 h2=>?_⟩
 cases j with
 | zero=>cases h1; cases h2; exact h
 | succ j=>exact t.2 j u v h1 h2
theorem Gv {H:Heap} {b sz cap cap' len:Nat} {e:TypeId} {xs:List (List D)} (h:H b=some (.row e sz cap' xs)) (hl:len=xs.length):LendV H (.own b sz 0 len cap) (.d (.sl sz xs)):=by
 subst hl; exact .own b sz cap e cap' xs h
theorem DataW.law {f:FuncId} {args:List AV} (h:DataW P f args (bv true)):CallW P f args Heap.none fun r _=>r = .d (.bool true) :=
 CallW.mono h fun r H' hr=>by cases hr; rfl
end
def Gb (z sz c cap:Nat):List (List D)→AV
 | []=>.nilsl z
 | x::xs=>.own c sz 0 (x::xs).length cap
def HN (t:TypeId) (sz c cap:Nat):List (List D)→List (Nat×Blk)
 | []=>[]
 | x::xs=>[(c,.row t sz cap (x::xs))]
def AQ (l:List (Nat×Blk)):List Nat:=l.map (·.1)
theorem Ml {z sz c cap:Nat} {xs:List (List D)} (h:xs≠[]):Gb z sz c cap xs = .own c sz 0 xs.length cap:=by
 cases xs with
 | nil=>exact absurd rfl h
 | cons x xs=>rfl
theorem Jh {t:TypeId} {sz c cap:Nat} {xs:List (List D)} (h:xs≠[]):HN t sz c cap xs=[(c,.row t sz cap xs)]:=by
 cases xs with
 | nil=>exact absurd rfl h
 | cons x xs=>rfl
theorem Bp {z sz c cap:Nat} {xs:List (List D)}:F5 (Gb z sz c cap xs)=some (.d (.int .i64 xs.length)):=by cases xs <;> rfl
theorem CQ {sz:Nat} {xs:List (List D)}:F5 (.d (.sl sz xs))=some (.d (.int .i64 xs.length)):=rfl
theorem Dp {sz:Nat}:F5 (.nilsl sz)=some (.d (.int .i64 0)):=rfl
theorem Bj {b sz off len cap:Nat}:F5 (.own b sz off len cap)=some (.d (.int .i64 len)):=rfl
theorem Cv {sz:Nat}:Hy (.nilsl sz)=some (.d (.int .i64 0)):=rfl
theorem C1 {b sz off len cap:Nat}:Hy (.own b sz off len cap)=some (.d (.int .i64 cap)):=rfl
theorem BK {b sz off len cap:Nat}:Hy (.part b sz off len cap)=some (.d (.int .i64 cap)):=rfl
theorem DZ {b sz off len cap:Nat}:F5 (.part b sz off len cap)=some (.d (.int .i64 len)):=rfl
theorem Bx {z sz c cap:Nat} {xs:List (List D)}:EM 1 (Gb z sz c cap xs)=true:=by cases xs <;> rfl
theorem B2 {z sz c cap:Nat} {xs:List (List D)}:EO (Gb z sz c cap xs)=[Gb z sz c cap xs]:=by cases xs <;> rfl
theorem DE (n:Nat) (xs:List AV):EM n (.agg xs)=(AM xs == n):=rfl
theorem Cq (xs:List AV):EO (.agg xs)=xs:=rfl
theorem Bq (n:Nat) (x:D):EM n (.d x)=(n == 1):=by simp [EM,Fa]
theorem BU (x:D):EO (.d x)=[.d x]:=rfl
theorem BM (n:Nat)  : EM n .nilp=(n == 1):=by simp [EM,Fa]
theorem C9  : EO .nilp=[.nilp]:=rfl
theorem Cn (n:Nat) (sz:Nat):EM n (.nilsl sz)=(n == 1):=by simp [EM,Fa]
theorem B0 (sz:Nat):EO (.nilsl sz)=[.nilsl sz]:=rfl
theorem Ce (n:Nat)  : EM n .nilfn=(n == 1):=by simp [EM,Fa]
theorem DM  : EO .nilfn=[.nilfn]:=rfl
theorem BZ (n:Nat) (b o:Nat):EM n (.ptr b o)=(n == 1):=by simp [EM,Fa]
theorem Bg (b o:Nat):EO (.ptr b o)=[.ptr b o]:=rfl
theorem Bm (n:Nat) (b sz i j:Nat):EM n (.eptr b sz i j)=(n == 1):=by simp [EM,Fa]
theorem Db (b sz i j:Nat):EO (.eptr b sz i j)=[.eptr b sz i j]:=rfl
theorem CP (n:Nat) (el:List D) (o:Nat):EM n (.dptr el o)=(n == 1):=by simp [EM,Fa]
theorem C2 (el:List D) (o:Nat):EO (.dptr el o)=[.dptr el o]:=rfl
theorem Bb (n:Nat) (b sz off len cap:Nat):EM n (.own b sz off len cap)=(n == 1):=by simp [EM,Fa]
theorem Bh (b sz off len cap:Nat):EO (.own b sz off len cap)=[.own b sz off len cap]:=rfl
theorem Dt (n:Nat) (f:FuncId) (caps:List AV):EM n (.fn f caps)=(n == 1):=by simp [EM,Fa]
theorem B9 (f:FuncId) (caps:List AV):EO (.fn f caps)=[.fn f caps]:=rfl
theorem Ac {H:Heap} {xs ys:List (Nat×Blk)}:AX H (xs++ys)↔AX H xs∧AX H ys:=by
 induction xs with
 | nil=>simp [AX]
 | cons p xs ih=>obtain ⟨b,x⟩:=p; simp only [List.cons_append,AX,ih,and_assoc]
theorem JY {H:Heap} {xs ys:List (Nat×Blk)} (h:AX H xs) (hs:∀p∈ys,p∈xs):AX H ys:=ER.2 fun p hp=>ER.1 h p (hs p hp)
theorem FY:∀{l:List (Nat×Blk)},(AQ l).Nodup→AX (EX l) l
 | [],_=>trivial
 | (b,x)::l,h=>by
  simp only [AQ,List.map_cons,List.nodup_cons] at h
  refine ⟨by rw [Aq,if_pos rfl],?_⟩
  refine ER.2 fun p hp=>?_
  rw [Aq,if_neg (fun e=>h.1 (by rw [←e]; exact List.mem_map_of_mem hp))]
  exact ER.1 (FY (l:=l) h.2) p hp
theorem Fj {H:Heap} {b:Nat} {x:Blk} {l:List (Nat×Blk)} (hb:H b=none) (h:AX H l):AX (AG H b (some x)) ((b,x)::l):=⟨EN,E5 hb h⟩
theorem Fl {H:Heap} {b:Nat} {l:List (Nat×Blk)} (hb:H b=none) (h:AX H l):b∉AQ l:=fun hm=>by
 obtain ⟨p,hp,e⟩:=List.mem_map.1 hm
 have:=ER.1 h p hp
 rw [e,hb] at this; cases this
theorem Fb {H:Heap} {b:Nat} {x:Blk} {l:List (Nat×Blk)} (hb:H b=none) (h:AX H l) (hn:(AQ l).Nodup):(AQ ((b,x)::l)).Nodup:=by
 simp only [AQ,List.map_cons,List.nodup_cons]
 exact ⟨Fl hb h,hn⟩
theorem Mr {H:Heap} {b:Nat} {y:Option Blk} {l:List (Nat×Blk)} (h:AX H l) (hn:b∉AQ l):AX (AG H b y) l :=
 ER.2 fun p hp=>by
  rw [FR (fun e=>hn (by rw [e]; exact List.mem_map_of_mem hp))]
  exact ER.1 h p hp
section
variable {P:Program} {Q:Out→St→Prop} {k:List Item} {s:St} {d:Option Nat} {l:List AO}
theorem Lw {e t:TypeId} {sz bytes z0 c cap bs capc capx:Nat} {z:List AV} {xs:List (List D)} {y:List D} (rest:List (Nat×Blk)) (hz:z.length=sz) (hall:AX s.H (HN e sz c cap xs++rest)) (hnd:(AQ (HN e sz c cap xs++rest)).Nodup)
  (hbs:s.H bs=some (.row t sz capc [y])) (hb:(xs.length+1)*bytes≤140737488355328) (hb2:xs.length+1≤9223372036854775807)
  (hk:∀H' c' cap',AX H' (HN e sz c' cap' (xs++[y])++rest)→(AQ (HN e sz c' cap' (xs++[y])++rest)).Nodup→AF P Q l k (AD s d (.own c' sz 0 (xs.length+1) cap') H')) :
  Fo e sz bytes z (Gb z0 sz c cap xs) (.own bs sz 0 1 capx) d l k s P Q:=by
 by_cases h0:xs=[]
 ·subst h0
  refine N7 (ys:=[y]) (t:=t) (capc:=capc) hbs rfl (by simp) hz ⟨by simpa using hb,by simp [maxLen]⟩ (fun b hb' cap'=>?_)
  have hr:AX s.H rest:=hall
  exact hk (AG s.H b (some (.row e sz cap' [y]))) b cap' (Fj hb' hr) (Fb hb' hr hnd)
 ·rw [Ml h0]
  rw [Jh h0] at hall hnd
  refine Pk (xs:=xs) (ys:=[y]) (t:=t) (capc:=capc) hall.1 hbs rfl rfl (by simp) hz ⟨hb,hb2⟩ (fun b' cap' hb'=>?_)
  simp only [List.cons_append,List.nil_append,AQ,List.map_cons,List.nodup_cons] at hnd
  have hr:AX (AG s.H c none) rest:=Mr hall.2 hnd.1
  have hne:xs++[y]≠[]:=by simp
  exact hk (AG (AG s.H c none) b' (some (.row e sz cap' (xs++[y])))) b' cap' (by rw [Jh hne]; exact Fj hb' hr) (by rw [Jh hne]; exact Fb hb' hr hnd.2)
end
section
variable {P:Program}
theorem NewV.free {F G:Nat→Prop} {w:World} {H:Heap} {x y:AV} (h:NewV H x y):∀{v:Value},VR P F w x v→VR P G w x v:=by
 induction h with
 | scal x hs=>exact fun hv=>Iy hv hs
 | nilsl sz sz'=>intro v hv; cases hv; (first | exact .nilsl _)
 | own b sz cap t cap' xs h hs=>intro v hv; cases hv; exact .own _ _ _ _ _ (by assumption)
 | agg xs ys hl _ ih =>
  intro v hv
  cases hv
  next cs h3 h1 h2 =>
  exact .agg _ _ h1 (fun j x v g1 g2=>by
   have hj:j<ys.length:=by rw [←hl]; exact (List.getElem?_eq_some_iff.1 g1).1
   exact ih j x _ g1 (List.getElem?_eq_getElem hj) (h2 j x v g1 g2)) (by assumption)
 | tup xs ys hl _ ih =>
  intro v hv
  cases hv
  next cs h1 h2 =>
  exact .tup _ _ h1 (fun j x v g1 g2=>by
   have hj:j<ys.length:=by rw [←hl]; exact (List.getElem?_eq_some_iff.1 g1).1
   exact ih j x _ g1 (List.getElem?_eq_getElem hj) (h2 j x v g1 g2))
def OF (x:Option Blk):Prop:=∃t sz cap xs,x=some (.row t sz cap xs)∧∀el∈xs,∀d∈el,HF d=true
theorem NewV.into {H H':Heap} (hH:∀b,OF (H b)→H' b=H b) {x y:AV} (h:NewV H x y):NewV H' x y:=by
 induction h with
 | scal x hs=>exact .scal x hs
 | nilsl sz sz'=>exact .nilsl sz sz'
 | own b sz cap t cap' xs h hs=>exact .own b sz cap t cap' xs (by rw [hH b ⟨t,sz,cap',xs,h,hs⟩]; exact h) hs
 | agg xs ys hl _ ih=>exact .agg xs ys hl ih
 | tup xs ys hl _ ih=>exact .tup xs ys hl ih
variable {Q:Out→St→Prop} {k:List Item} {s:St} {d:Option Nat} {l:List AO}
end
end Go.Proofs.Ytndepejgafppmaa.Abs
