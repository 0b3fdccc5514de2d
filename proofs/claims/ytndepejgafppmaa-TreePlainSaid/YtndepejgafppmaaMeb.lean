/- Part of the machine and the contracts of one law (joined by kmerge.py). No claim stands here. -/
import Derived.Below
import Derived.Carry
import Derived.ChangeCalls
import Derived.ChangeOld
import Derived.IntWalk
import Derived.KernelRfl
import Derived.Laws.Append
import Derived.Laws.AppendOwn
import Derived.Laws.BytesArg
import Derived.Laws.Cells
import Derived.Laws.CopyRow
import Derived.Laws.Entries
import Derived.Laws.MakeOwn
import Derived.Laws.NewFold
import Derived.Laws.Rows
import Derived.Laws.StructEq
import Derived.OpenShut
import Derived.Orders
import Derived.OrdersIn
import Derived.ProofKit
import Derived.RangeFuncLeaves
import Derived.RangeFuncSeq
import Derived.SizedLaws
import Derived.TacticsIn
import Derived.WalkKit
import Derived.Test.YtndepejgafppmaaMea
set_option maxRecDepth 100000
set_option linter.unusedSimpArgs false
set_option linter.unusedVariables false
namespace Go.Proofs.Ytndepejgafppmaa.Abs
open Go Go.RowKit Go.ChangeShapes
def ES (t:TM) (o:AO):Option Bool :=
 match o.guard with
 | none=>some true
 | some (g,want)=>match t g with
  | .d (.bool c)=>some (c == want)
  | .void=>some false
  | _=>none
def EH (P:Program) (o:AO) (s:St) (K:St→Prop):Prop :=
 match ES s.t o with
 | some true=>AI P s.t s.H (fun v H'=>K (AD s o.dst v H')) o.op
 | some false=>K (AD s o.dst .void s.H)
 | none=>False
section
variable {P:Program}
theorem MI {o:AO} {l:List AO} {s:St} {K:St→Prop}:FX P (o::l) s K↔EH P o s fun s'=>FX P l s' K:=by
 simp only [FX,EH,ES]
 cases o.guard with
 | none=>exact Iff.rfl
 | some gw =>
  obtain ⟨g,want⟩:=gw
  dsimp only
  cases hg:s.t g <;> try exact Iff.rfl
  next x =>
  cases x <;> try exact Iff.rfl
  next c =>
  dsimp only
  cases hc:(c == want) with
  | true=>simp [FG]
  | false=>simp [FG]
theorem HY {o:AO} {s:St} {K K':St→Prop} (hk:∀s',K s'→K' s') (h:EH P o s K):EH P o s K':=by
 unfold EH at *
 split at h
 ·exact IV (fun v H' h=>hk _ h) h
 ·exact hk _ h
 ·exact h
theorem EY {s:St} {d:Option Nat} {v:AV} {H:Heap}:(AD s d v H).H=H:=by unfold AD; split <;> (try split) <;> rfl
theorem FD {s:St} {d:Option Nat} {v:AV} {H:Heap} {i:Nat} (h:d≠some i):(AD s d v H).t i=s.t i:=by
 unfold AD
 split
 ·next e =>
  split
  ·show Gq s.t e v i=s.t i
   rw [Ai,show (e == i)=false by simp; rintro rfl; exact h rfl]
   rfl
  ·rfl
 ·rfl
theorem LY {s:St} {i:Nat} {v:AV} {H:Heap}:(AD s (some i) v H).t i=v∨(AD s (some i) v H).t i=s.t i:=by
 unfold AD
 dsimp only
 split
 ·left; simp [Ai]
 ·exact .inr rfl
theorem Hb {s:St} {d e:Option Nat} {u v:AV} {H1 H2 H3:Heap} (h:∀i,d=some i→e≠some i):AD (AD s d v H1) e u H2=AD (AD s e u H3) d v H2:=by
 cases d with
 | none =>
  cases e with
  | none=>rfl
  | some j=>by_cases hj:j<s.n <;> simp only [AD,hj,if_true,if_false]
 | some i =>
  cases e with
  | none=>by_cases hi:i<s.n <;> simp only [AD,hi,if_true,if_false]
  | some j =>
   have hij:i≠j:=fun e=>h i rfl (by rw [e])
   simp only [AD]
   by_cases hi:i<s.n <;> by_cases hj:j<s.n <;> simp only [hi,hj,if_true,if_false]
   congr 1
   funext k
   simp only [Ai]
   by_cases h1:i=k
   ·subst h1
    rw [show (j == i)=false by simpa using fun e=>hij e.symm]
    simp
   ·rw [show (i == k)=false by simpa using h1]
    simp
theorem GZ {t u:TM} {o:AO} (h:∀i∈Fw o,t i=u i):ES t o=ES u o:=by
 unfold ES
 split
 ·rfl
 ·next g want e =>
  rw [h g (by simp [Fw,e])]
theorem G9 {o:AO} {i:Nat} (h:i∈(FL o.op).flatMap GW):i∈Fw o:=by
 simp only [Fw,List.mem_append]; exact .inl h
structure SwapOk (a b:AO):Prop where
 ab:∀d,a.dst=some d→d∉Fw b∧d∉Fm b.op∧b.dst≠some d
 ba:∀d,b.dst=some d→d∉Fw a∧(d∉Fm a.op∨∃e z,b.op = .alloc e z)
 cls:EC a.op=0∨(EC a.op=1∧EC b.op≤2)∨(EC a.op=2∧(b.guard=none∨b.guard=a.guard)∧(∀e sz len z ps,a.op≠.buildSliceD e sz len z ps)∧∃e z,b.op = .alloc e z) ∨
  (∃g p l n d v,a.op = .loadS g p l∧b.op = .storeS n d v∧d∈l)∨(((∃f xs,a.op = .pcall f xs)∨∃f xs,a.op = .pcallv f xs)∧∃n d v,b.op = .storeS n d v) ∨
  (∃g d f xs l,a.op = .loadP g d∧b.op = .callS f xs l∧d∈l)∨(∃g d e sz bytes z s x,a.op = .loadP g d∧b.op = .append e sz bytes z s x) ∨
  (∃e sz bytes z s x,a.op = .append e sz bytes z s x∧Gt b.op∧b.guard=none) ∨
  (Gt a.op∧Gt b.op∧(b.guard=none∨b.guard=a.guard)) ∨
  (∃g d n p v l,a.op = .loadP g d∧b.op = .storeK n p v l∧d∈l) ∨
  (∃g d f xs l,a.op = .loadP g d∧b.op = .callvS f xs l∧d∈l) ∨
  (∃g p e sz bytes z x,a.op = .load g p∧b.op = .make e sz bytes z x) ∨
  (∃g p f xs,a.op = .load g p∧b.op = .ncall f xs) ∨
  (∃g d n p v,a.op = .loadP g d∧b.op = .storeR n p v)
theorem VF {a b:AO} (h:Ih a b=true):SwapOk a b:=by
 unfold Ih at h
 simp only [Bool.and_eq_true] at h
 obtain ⟨⟨h1,h2⟩,h3⟩:=h
 refine ⟨fun d hd=>?_,fun d hd=>?_,?_⟩
 ·rw [hd] at h1
  simp only [Bool.and_eq_true,Bool.not_eq_true',List.contains_eq_mem,decide_eq_false_iff_not,bne_iff_ne,ne_eq] at h1
  exact ⟨h1.1.1,h1.1.2,h1.2⟩
 ·rw [hd] at h2
  simp only [Bool.and_eq_true,Bool.not_eq_true',List.contains_eq_mem,decide_eq_false_iff_not,Bool.or_eq_true] at h2
  refine ⟨h2.1,h2.2.imp id fun h=>?_⟩
  split at h
  ·next e=>exact ⟨_,_,e⟩
  ·cases h
 ·simp only [Bool.or_eq_true,beq_iff_eq,Bool.and_eq_true,decide_eq_true_eq] at h3
  rcases h3 with ((h | h) | h) | h
  ·exact .inl h
  ·exact .inr (.inl h)
  ·have hc:=h.1.1
   have hg:=h.1.2
   have h:=h.2
   split at h
   ·next eb =>
    by_cases hab:∃e sz len z ps,a.op = .buildSliceD e sz len z ps
    ·exact .inr (.inr (.inr (.inr (.inr (.inr (.inr (.inr (.inl ⟨.inr hab,.inl ⟨_,_,eb⟩,hg⟩))))))))
    ·exact .inr (.inr (.inl ⟨hc,hg,fun e sz len z ps k=>hab ⟨e,sz,len,z,ps,k⟩,_,_,eb⟩))
   ·next ea eb=>exact .inr (.inr (.inr (.inr (.inr (.inr (.inr (.inr (.inl ⟨.inl ⟨_,_,ea⟩,.inr ⟨_,_,_,_,_,eb⟩,hg⟩))))))))
   ·next ea eb=>exact .inr (.inr (.inr (.inr (.inr (.inr (.inr (.inr (.inl ⟨.inr ⟨_,_,_,_,_,ea⟩,.inr ⟨_,_,_,_,_,eb⟩,hg⟩))))))))
   ·cases h
  ·split at h
   ·next g p l n d v e1 e2=>exact .inr (.inr (.inr (.inl ⟨g,p,l,n,d,v,e1,e2,by simpa using h⟩)))
   ·next g d f xs l e1 e2=>exact .inr (.inr (.inr (.inr (.inr (.inl ⟨g,d,f,xs,l,e1,e2,by simpa using h⟩)))))
   ·next g d f xs l e1 e2=>exact .inr (.inr (.inr (.inr (.inr (.inr (.inr (.inr (.inr (.inr (.inl ⟨g,d,f,xs,l,e1,e2,by simpa using h⟩))))))))))
   ·next e1 e2=>exact .inr (.inr (.inr (.inr (.inr (.inr (.inl ⟨_,_,_,_,_,_,_,_,e1,e2⟩))))))
   ·next e1 e2=>exact .inr (.inr (.inr (.inr (.inr (.inr (.inr (.inr (.inr (.inr (.inr (.inl ⟨_,_,_,_,_,_,_,e1,e2⟩)))))))))))
   ·next e1 e2=>exact .inr (.inr (.inr (.inr (.inr (.inr (.inr (.inr (.inr (.inr (.inr (.inr (.inl ⟨_,_,_,_,e1,e2⟩))))))))))))
   ·next e1 e2=>exact .inr (.inr (.inr (.inr (.inr (.inr (.inr (.inr (.inr (.inr (.inr (.inr (.inr ⟨_,_,_,_,_,e1,e2⟩))))))))))))
   ·next g d n p v l e1 e2=>exact .inr (.inr (.inr (.inr (.inr (.inr (.inr (.inr (.inr (.inl ⟨g,d,n,p,v,l,e1,e2,by simpa using h⟩)))))))))
   ·next e1 e2=>exact .inr (.inr (.inr (.inr (.inr (.inr (.inr (.inl ⟨_,_,_,_,_,_,e1,.inl ⟨_,_,e2⟩,by simpa using h⟩)))))))
   ·next e1 e2=>exact .inr (.inr (.inr (.inr (.inr (.inr (.inr (.inl ⟨_,_,_,_,_,_,e1,.inr ⟨_,_,_,_,_,e2⟩,by simpa using h⟩)))))))
   ·next e1 e2=>exact .inr (.inr (.inr (.inr (.inl ⟨.inl ⟨_,_,e1⟩,_,_,_,e2⟩))))
   ·next e1 e2=>exact .inr (.inr (.inr (.inr (.inl ⟨.inr ⟨_,_,e1⟩,_,_,_,e2⟩))))
   ·cases h
theorem ML {b:AO} {s:St} {da:Option Nat} {v:AV} {K:St→Prop} (h1:∀d,da=some d→d∉Fw b∧d∉Fm b.op∧b.dst≠some d) (h:EH P b (AD s da v s.H) K) :
  EH P b s fun s2=>K (AD s2 da v s2.H):=by
 have hne:∀i,i∈Fw b∨i∈Fm b.op→(AD s da v s.H).t i=s.t i:=fun i hi=>FD (fun e=>by
  have:=h1 i e
  rcases hi with hi | hi
  ·exact this.1 hi
  ·exact this.2.1 hi)
 unfold EH at *
 rw [GZ (u:=s.t) (fun i hi=>hne i (.inl hi))] at h
 split
 ·next e =>
  rw [e] at h
  dsimp only at h
  rw [Ie (u:=s.t) (fun i hi=>hne i (.inl (G9 hi))) (fun d hd=>hne d (.inr hd)),EY] at h
  refine IV (fun u H' h=>?_) h
  rw [Hb (H3:=H') (fun i e=>(h1 i e).2.2)] at h
  show K (AD (AD s b.dst u H') da v (AD s b.dst u H').H)
  rw [EY]
  exact h
 ·next e =>
  rw [e] at h
  dsimp only at h
  rw [EY,Hb (H3:=s.H) (fun i e=>(h1 i e).2.2)] at h
  show K (AD (AD s b.dst .void s.H) da v (AD s b.dst .void s.H).H)
  rw [EY]
  exact h
 ·next e=>rw [e] at h; exact h
theorem Ph {a b:AO} (hs:SwapOk a b) (ha:EC a.op≤1) {s:St} {K:St→Prop} (h:EH P b s K) :
  EH P b s fun s2=>(ES s2.t a=ES s.t a∧Re a.op s.t s.H s2.t s2.H)∧K s2:=by
 have hne:∀v H',∀i∈Fw a,(AD s b.dst v H').t i=s.t i:=fun v H' i hi=>FD (fun e=>(hs.ba i e).1 hi)
 have hg:∀v H',ES (AD s b.dst v H').t a=ES s.t a:=fun v H'=>GZ (hne v H')
 have ho:∀v H',∀i∈(FL a.op).flatMap GW,(AD s b.dst v H').t i=s.t i:=fun v H' i hi=>hne v H' i (G9 hi)
 have hnw:∀v H',(∀e z,b.op = .alloc e z→∃nb,v = .ptr nb 0∧s.H nb=none)→∀d∈Fm a.op,(AD s b.dst v H').t d=s.t d∨(∃bb off,(AD s b.dst v H').t d = .ptr bb off∧s.H bb=none)∨(AD s b.dst v H').t d = .void:=fun v H' hv d hd=>by
  by_cases e:b.dst=some d
  ·rcases (hs.ba d e).2 with h | ⟨e1,z,h⟩
   ·exact absurd hd h
   ·obtain ⟨nb,rfl,hn⟩:=hv e1 z h
    rw [e]
    rcases LY (s:=s) (i:=d) (v:=.ptr nb 0) (H:=H') with h | h
    ·exact .inr (.inl ⟨nb,0,h,hn⟩)
    ·exact .inl h
  ·exact .inl (FD e)
 -- the heap's part, for a heap that has grown
 have grown:∀v H',(∀e z,b.op = .alloc e z→∃nb,v = .ptr nb 0∧s.H nb=none)→(∀k x,s.H k=some x→H' k=some x)→Re a.op s.t s.H (AD s b.dst v H').t H':=fun v H' hv hH=>by
  refine ⟨ho v H',?_⟩
  cases hop:a.op <;> simp only [] <;> rw [hop] at hnw
  ·exact hH
  ·exact ⟨fun d hd=>hnw v H' hv d hd,fun k x e=>.inl (hH k x e)⟩
  ·exact fun k off _ e cells h=>hH _ _ h
  ·exact fun k t sz cap xs e=>hH _ _ e
  ·exact fun k t sz cap xs e=>hH _ _ e
 have zero:∀v H',EC a.op=0→Re a.op s.t s.H (AD s b.dst v H').t H':=fun v H' h0=>by
  refine ⟨ho v H',?_⟩
  cases hop:a.op <;> rw [hop] at h0 <;> simp only [] <;> simp [EC] at h0
 unfold EH at *
 split at h
 ·next e =>
  by_cases h0:EC a.op=0
  ·exact IV (fun v H' h=>⟨⟨hg v H',by rw [EY]; exact zero v H' h0⟩,h⟩) h
  ·by_cases hb:EC b.op≤1
   ·obtain ⟨v,h1,h2⟩:=Ku hb h
    refine h2 s.t s.H _ ⟨fun _ _=>rfl,?_⟩ ⟨⟨hg v s.H,by rw [EY]; exact grown v s.H (fun e z hbe=>by rw [hbe] at hb; simp [EC] at hb) (fun _ _ h=>h)⟩,h1⟩
    cases b.op <;> simp only [] <;> first | trivial | exact fun _ _ h=>h | exact fun _ _ _ _ _ h=>h | exact ⟨fun _ _=>.inl trivial,fun _ _ h=>.inl h⟩ | exact fun _ _ _ _ _ h=>h
   ·by_cases hb2:EC b.op=2
    ·refine IV (fun v H' h=>?_) (Pe hb2 h)
     obtain ⟨⟨nb,x,hn,hH,hv⟩,h1⟩:=h
     subst hH
     refine ⟨⟨hg _ _,?_⟩,h1⟩
     rw [EY]
     refine grown _ _ (fun e z hbe=>⟨nb,hv ⟨e,z,hbe⟩,hn⟩) (fun k y hk=>?_)
     rw [AK,if_neg (by rintro rfl; rw [hn] at hk; cases hk)]
     exact hk
    ·rcases hs.cls with h4 | h4 | h4 | h4 | h4 | h4 | h4 | h4 | h4 | h4 | h4 | h4 | h4 | h4
     ·exact absurd h4 h0
     ·omega
     ·omega
     ·obtain ⟨g,p,l,n,d,v,e1,e2,hd⟩:=h4
      rw [e2] at h ⊢
      simp only [AI] at h ⊢
      split at h
      ·next bb off et =>
       refine ⟨h.1,?_⟩
       have h:=h.2
       split at h
       ·next et' cells eH =>
        refine ⟨h.1,⟨hg _ _,?_⟩,h.2⟩
        rw [EY]
        refine ⟨ho _ _,?_⟩
        rw [e1]
        refine ⟨fun d' hd'=>hnw _ _ (fun e z hbe=>by rw [e2] at hbe; cases hbe) d' (by rw [e1]; exact hd'),fun k x hk=>?_⟩
        rw [AK]
        by_cases hkb:bb=k
        ·subst hkb; exact .inr ⟨d,hd,off,et⟩
        ·rw [if_neg hkb]; exact .inl hk
       ·exact h.elim
      ·exact h.elim
     ·obtain ⟨hp,n,d,v,e2⟩:=h4
      rw [e2] at h ⊢
      simp only [AI] at h ⊢
      split at h
      ·next bb off et =>
       refine ⟨h.1,?_⟩
       have h:=h.2
       split at h
       ·next et' cells eH =>
        refine ⟨h.1,⟨hg _ _,?_⟩,h.2⟩
        rw [EY]
        refine ⟨ho _ _,?_⟩
        have key:∀k t sz cap xs,s.H k=some (.row t sz cap xs)→AH s.H bb (some (.box et' (setSeg cells off (EF (ev s.t v))))) k=some (.row t sz cap xs):=fun k t sz cap xs hk=>by
         rw [AK,if_neg (by rintro rfl; rw [hk] at eH; cases eH)]; exact hk
        rcases hp with ⟨f,xs,e1⟩ | ⟨f,xs,e1⟩ <;> rw [e1] <;> exact key
       ·exact h.elim
      ·exact h.elim
     ·obtain ⟨g,d,f,xs,l,e1,e2,hd⟩:=h4
      rw [e2] at h ⊢
      simp only [AI] at h ⊢
      refine CallW.mono' h fun r H' h=>⟨h.1,⟨hg _ _,?_⟩,h.2⟩
      rw [EY]
      refine ⟨ho _ _,?_⟩
      rw [e1]
      exact h.1 d hd
     ·obtain ⟨g,d,e,sz,bytes,z,sx,x,e1,e2⟩:=h4
      rw [e2] at h ⊢
      simp only [AI] at h ⊢
      have key:∀(v:AV) (H':Heap),(∀k e cells,s.H k=some (.box e cells)→H' k=some (.box e cells))→Re a.op s.t s.H (AD s b.dst v H').t H':=fun v H' hk=>by
       refine ⟨ho _ _,?_⟩
       rw [e1]
       exact fun k off _ e cells=>hk k e cells
      refine Jz (fun n ys h=>?_) h
      rcases h with ⟨g0,g1,h⟩ | h
      ·refine .inl ⟨g0,g1,?_⟩
       split at h
       ·exact ⟨⟨hg _ _,by rw [EY]; exact key _ _ fun _ _ _ h=>h⟩,h⟩
       ·exact ⟨⟨hg _ _,by rw [EY]; exact key _ _ fun _ _ _ h=>h⟩,h⟩
       ·exact h
      ·refine .inr ⟨h.1,?_⟩
       have h:=h.2
       split at h
       ·refine ⟨h.1,fun b' hb cap=>⟨⟨hg _ _,?_⟩,h.2 b' hb cap⟩⟩
        rw [EY]
        refine key _ _ fun k e' cells hk=>?_
        rw [AK,if_neg (by rintro rfl; rw [hb] at hk; cases hk)]
        exact hk
       ·next bb n' off len cap es =>
        split at h
        ·next eH =>
         refine ⟨h.1,fun b' cap' hb=>⟨⟨hg _ _,?_⟩,h.2 b' cap' hb⟩⟩
         rw [EY]
         refine key _ _ fun k e' cells hk=>?_
         have hkb:¬bb=k:=by rintro rfl; rw [hk] at eH; cases eH
         have hkb':¬b'=k:=by
          rintro rfl
          rw [AK,if_neg hkb,hk] at hb
          cases hb
         rw [AK,if_neg hkb',AK,if_neg hkb]
         exact hk
        ·exact h.elim
       ·next bb n' off len cap es =>
        split at h
        ·next eH =>
         refine ⟨h.1,fun b' cap' hb=>⟨⟨hg _ _,?_⟩,h.2 b' cap' hb⟩⟩
         rw [EY]
         refine key _ _ fun k e' cells hk=>?_
         have hkb:¬bb=k:=by rintro rfl; rw [hk] at eH; cases eH
         have hkb':¬b'=k:=by
          rintro rfl
          rw [AK,if_neg hkb,hk] at hb
          cases hb
         rw [AK,if_neg hkb',AK,if_neg hkb]
         exact hk
        ·exact h.elim
       ·exact h.elim
     ·obtain ⟨e,sz,bytes,z,sx,x,e1,e2,_⟩:=h4
      rw [e1] at ha; simp [EC] at ha
     ·obtain ⟨⟨_,_,e1⟩ | ⟨_,_,_,_,_,e1⟩,_⟩:=h4 <;> rw [e1] at ha <;> simp [EC] at ha
     ·obtain ⟨g,d,n,p,v,l,e1,e2,hd⟩:=h4
      rw [e2] at h ⊢
      simp only [AI] at h ⊢
      split at h
      ·next bb off et =>
       refine ⟨h.1,h.2.1,?_⟩
       have hno:=JX.1 h.1
       have h:=h.2.2
       split at h
       ·next et' cells eH =>
        refine ⟨h.1,⟨hg _ _,?_⟩,h.2⟩
        rw [EY]
        refine ⟨ho _ _,?_⟩
        rw [e1]
        intro k off' htk e' cells' hk
        rw [AK,if_neg (fun e=>hno d hd k off' bb htk rfl e.symm)]
        exact hk
       ·exact h.elim
      ·exact h.elim
     ·obtain ⟨g,d,f,xs,l,e1,e2,hd⟩:=h4
      rw [e2] at h ⊢
      simp only [AI] at h ⊢
      split at h
      ·refine CallW.mono' h fun r H' h=>⟨h.1,⟨hg _ _,?_⟩,h.2⟩
       rw [EY]
       refine ⟨ho _ _,?_⟩
       rw [e1]
       exact h.1 d hd
      ·exact h.elim
     ·obtain ⟨g,p,e,sz,bytes,z,x,e1,e2⟩:=h4
      rw [e2] at h ⊢
      simp only [AI] at h ⊢
      split at h
      ·split at h
       ·refine ⟨h.1,fun nb hn=>⟨⟨hg _ _,?_⟩,h.2 nb hn⟩⟩
        rw [EY]
        refine ⟨ho _ _,?_⟩
        rw [e1]
        intro k y hk
        rw [AK,if_neg (by rintro rfl; rw [hn] at hk; cases hk)]
        exact hk
       ·exact h.elim
      ·exact h.elim
     ·obtain ⟨g,p,f,xs,e1,e2⟩:=h4
      rw [e2] at h ⊢
      simp only [AI] at h ⊢
      obtain ⟨args',e,sz,ys,g1,g2,g3,g4⟩:=h
      refine ⟨args',e,sz,ys,g1,g2,fun e0 n=>⟨⟨hg _ _,?_⟩,g3 e0 n⟩,fun nb cap hn=>⟨⟨hg _ _,?_⟩,g4 nb cap hn⟩⟩
      ·rw [EY]
       refine ⟨ho _ _,?_⟩
       rw [e1]
       exact fun k y hk=>hk
      ·rw [EY]
       refine ⟨ho _ _,?_⟩
       rw [e1]
       intro k y hk
       rw [AK,if_neg (by rintro rfl; rw [hn] at hk; cases hk)]
       exact hk
     ·obtain ⟨g,d,n,p,v,e1,e2⟩:=h4
      rw [e2] at h ⊢
      simp only [AI] at h ⊢
      split at h
      ·split at h
       ·next eH =>
        obtain ⟨h1,h2,el,h3,h4,h5⟩:=h
        refine ⟨h1,h2,el,h3,h4,⟨hg _ _,?_⟩,h5⟩
        rw [EY]
        refine ⟨ho _ _,?_⟩
        rw [e1]
        intro k off htk e' cells hk
        rw [AK,if_neg (by rintro rfl; rw [hk] at eH; cases eH)]
        exact hk
       ·exact h.elim
      ·exact h.elim
 ·next e =>
  refine ⟨⟨hg _ _,?_⟩,h⟩
  rw [EY]
  refine ⟨ho _ _,?_⟩
  have hv:∀d∈Fm a.op,(AD s b.dst .void s.H).t d=s.t d∨(∃bb off,(AD s b.dst .void s.H).t d = .ptr bb off∧s.H bb=none)∨(AD s b.dst .void s.H).t d = .void:=fun d hd=>by
   by_cases e:b.dst=some d
   ·rw [e]
    rcases LY (s:=s) (i:=d) (v:=.void) (H:=s.H) with h | h
    ·exact .inr (.inr h)
    ·exact .inl h
   ·exact .inl (FD e)
  cases hop:a.op <;> simp only [] <;> rw [hop] at hv
  ·exact fun _ _ h=>h
  ·exact ⟨fun d hd=>hv d hd,fun _ _ h=>.inl h⟩
  ·exact fun _ _ _ _ _ h=>h
  ·exact fun _ _ _ _ _ h=>h
  ·exact fun _ _ _ _ _ h=>h
 ·exact h
theorem Sy {b:AO} {s:St} {K:St→Prop} (h:EH P b s K):EH P b s fun s2=>(∀i,b.dst≠some i→s2.t i=s.t i)∧K s2:=by
 unfold EH at *
 split
 ·next e=>rw [e] at h; exact IV (fun v H' h=>⟨fun i hi=>FD hi,h⟩) h
 ·next e=>rw [e] at h; exact ⟨fun i hi=>FD hi,h⟩
 ·next e=>rw [e] at h; exact h
theorem Th {a b:AO} (hs:SwapOk a b) {s:St} {K:St→Prop} (h:EH P b s K):EH P b s fun s2=>ES s2.t a=ES s.t a∧K s2 :=
 HY (fun s2 h=>⟨GZ fun i hi=>h.1 i fun e=>(hs.ba i e).1 hi,h.2⟩) (Sy h)
theorem OG {t:TM} {H:Heap} {K:AV→Heap→Prop} {e:TypeId} {z:List AV}:AI P t H K (.alloc e z)=∀b,H b=none→K (.ptr b 0) (AH H b (some (.box e z))):=rfl
theorem Hv {H:Heap} {i j:Nat} {x y:Option Blk} (h:i≠j):AH (AH H i x) j y=AH (AH H j y) i x:=by
 funext k
 simp only [AK]
 by_cases h1:i=k
 ·subst h1; rw [if_neg (fun e=>h e.symm),if_pos rfl]; simp
 ·by_cases h2:j=k
  ·subst h2; rw [if_pos rfl,if_neg h1]; simp
  ·simp [h1,h2]
theorem XG {t:TM} {H:Heap} {K K2:AV→Heap→Prop} {e:TypeId} {xb:Blk} {sz bytes nb:Nat} {z:List AV} {sx x:Opd} (hn:H nb=none) (hk:∀v H',K v H'→H' nb=none→K2 v (AH H' nb (some xb))) (h:AI P t H K (.append e sz bytes z sx x)):AI P t (AH H nb (some xb)) K2 (.append e sz bytes z sx x):=by
 simp only [AI] at h ⊢
 have main:∀n ys,((ys=[]∧z.length=sz∧match ev t sx with
   | .nilsl n=>K (.nilsl n) H
   | .own b n off len cap=>K (.own b n off len cap) H
   | _=>False)∨VC (n=sz∧ys≠[]∧z.length=sz) (
   match ev t sx with
   | .nilsl _=>VC (ys.length*bytes≤140737488355328∧ys.length≤maxLen) (FZ H (.row e sz 0 []) fun b _=>∀cap,K (.own b sz 0 ys.length cap) (AH H b (some (.row e sz cap ys))))
   | .own b sz'' off len cap=>match H b with
    | some (.row e' sz''' cap'' xs)=>VC (e'=e∧sz''=sz∧sz'''=sz∧off=0∧cap=cap''∧len=xs.length∧(xs.length+ys.length)*bytes≤140737488355328∧xs.length+ys.length≤maxLen)
      (GD H b fun b' cap'=>K (.own b' sz 0 (len+ys.length) cap') (AH (AH H b none) b' (some (.row e sz cap' (xs++ys)))))
    | _=>False
   | .part b sz'' off len cap=>match H b with
    | some (.row e' sz''' cap'' xs)=>VC (e'=e∧sz''=sz∧sz'''=sz∧off=0∧(cap=0→len=0)∧cap<len+ys.length∧len≤xs.length∧(len+ys.length)*bytes≤140737488355328∧len+ys.length≤maxLen)
      (GD H b fun b' cap'=>K (.own b' sz 0 (len+ys.length) cap') (AH (AH H b none) b' (some (.row e sz cap' (xs.take len++ys)))))
    | _=>False
   | _=>False))→((ys=[]∧z.length=sz∧match ev t sx with
   | .nilsl n=>K2 (.nilsl n) (AH H nb (some xb))
   | .own b n off len cap=>K2 (.own b n off len cap) (AH H nb (some xb))
   | _=>False)∨VC (n=sz∧ys≠[]∧z.length=sz) (
   match ev t sx with
   | .nilsl _=>VC (ys.length*bytes≤140737488355328∧ys.length≤maxLen) (FZ (AH H nb (some xb)) (.row e sz 0 []) fun b _=>∀cap,K2 (.own b sz 0 ys.length cap) (AH (AH H nb (some xb)) b (some (.row e sz cap ys))))
   | .own b sz'' off len cap=>match (AH H nb (some xb)) b with
    | some (.row e' sz''' cap'' xs)=>VC (e'=e∧sz''=sz∧sz'''=sz∧off=0∧cap=cap''∧len=xs.length∧(xs.length+ys.length)*bytes≤140737488355328∧xs.length+ys.length≤maxLen)
      (GD (AH H nb (some xb)) b fun b' cap'=>K2 (.own b' sz 0 (len+ys.length) cap') (AH (AH (AH H nb (some xb)) b none) b' (some (.row e sz cap' (xs++ys)))))
    | _=>False
   | .part b sz'' off len cap=>match (AH H nb (some xb)) b with
    | some (.row e' sz''' cap'' xs)=>VC (e'=e∧sz''=sz∧sz'''=sz∧off=0∧(cap=0→len=0)∧cap<len+ys.length∧len≤xs.length∧(len+ys.length)*bytes≤140737488355328∧len+ys.length≤maxLen)
      (GD (AH H nb (some xb)) b fun b' cap'=>K2 (.own b' sz 0 (len+ys.length) cap') (AH (AH (AH H nb (some xb)) b none) b' (some (.row e sz cap' (xs.take len++ys)))))
    | _=>False
   | _=>False)):=by
  intro n ys h
  rcases h with ⟨g0,g1,h⟩ | h
  ·refine .inl ⟨g0,g1,?_⟩
   split at h
   ·exact hk _ _ h hn
   ·exact hk _ _ h hn
   ·exact h
  ·refine .inr ⟨h.1,?_⟩
   have h:=h.2
   split at h
   ·refine ⟨h.1,fun b hb cap=>?_⟩
    have hne:¬nb=b:=by
     rintro rfl
     rw [AK,if_pos rfl] at hb; cases hb
    rw [AK,if_neg hne] at hb
    have:=hk _ _ (h.2 b hb cap) (by rw [AK,if_neg (fun k=>hne k.symm)]; exact hn)
    rwa [Hv (fun k=>hne k.symm)] at this
   ·next b n' off len cap es =>
    have hne:¬nb=b:=by
     rintro rfl
     rw [hn] at h; exact h
    have hu:AH H nb (some xb) b=H b:=by rw [AK,if_neg hne]
    rw [hu]
    split at h
    ·refine ⟨h.1,fun b' cap' hb=>?_⟩
     have hne':¬nb=b':=by
      rintro rfl
      rw [AK,if_neg (fun k=>hne k.symm),AK,if_pos rfl] at hb
      cases hb
     have hb2:AH H b none b'=none:=by
      rw [AK] at hb ⊢
      split at hb
      ·next k=>rw [if_pos k]
      ·next k=>rw [if_neg k]; rw [AK,if_neg hne'] at hb; exact hb
     have:=hk _ _ (h.2 b' cap' hb2) (by rw [AK,if_neg (fun k=>hne' k.symm),AK,if_neg (fun k=>hne k.symm)]; exact hn)
     rw [Hv (fun k=>hne' k.symm)] at this
     have e2:AH (AH H b none) nb (some xb)=AH (AH H nb (some xb)) b none:=by
      funext k
      simp only [AK]
      by_cases k1:nb=k
      ·subst k1; rw [if_pos rfl,if_neg (fun k=>hne k.symm),if_pos rfl]
      ·rw [if_neg k1,if_neg k1]
     rwa [e2] at this
    ·exact h.elim
   ·next b n' off len cap es =>
    have hne:¬nb=b:=by
     rintro rfl
     rw [hn] at h; exact h
    have hu:AH H nb (some xb) b=H b:=by rw [AK,if_neg hne]
    rw [hu]
    split at h
    ·refine ⟨h.1,fun b' cap' hb=>?_⟩
     have hne':¬nb=b':=by
      rintro rfl
      rw [AK,if_neg (fun k=>hne k.symm),AK,if_pos rfl] at hb
      cases hb
     have hb2:AH H b none b'=none:=by
      rw [AK] at hb ⊢
      split at hb
      ·next k=>rw [if_pos k]
      ·next k=>rw [if_neg k]; rw [AK,if_neg hne'] at hb; exact hb
     have:=hk _ _ (h.2 b' cap' hb2) (by rw [AK,if_neg (fun k=>hne' k.symm),AK,if_neg (fun k=>hne k.symm)]; exact hn)
     rw [Hv (fun k=>hne' k.symm)] at this
     have e2:AH (AH H b none) nb (some xb)=AH (AH H nb (some xb)) b none:=by
      funext k
      simp only [AK]
      by_cases k1:nb=k
      ·subst k1; rw [if_pos rfl,if_neg (fun k=>hne k.symm),if_pos rfl]
      ·rw [if_neg k1,if_neg k1]
     rwa [e2] at this
    ·exact h.elim
   ·exact h.elim
 unfold Eu at h ⊢
 split at h
 ·exact main _ _ h
 ·exact main _ _ h
 ·next b n' off len cap es =>
  have hne:¬nb=b:=by
   rintro rfl
   rw [hn] at h; exact h
  rw [show AH H nb (some xb) b=H b by rw [AK,if_neg hne]]
  split at h
  ·exact ⟨h.1,main _ _ h.2⟩
  ·exact h.elim
 ·next b n' off len cap es =>
  have hne:¬nb=b:=by
   rintro rfl
   rw [hn] at h; exact h
  rw [show AH H nb (some xb) b=H b by rw [AK,if_neg hne]]
  split at h
  ·exact ⟨h.1,main _ _ h.2⟩
  ·exact h.elim
 ·exact h.elim
theorem UL {a b:AO} (hs:SwapOk a b) {s:St} {K:St→Prop} (h:EH P a s fun s1=>EH P b s1 K):EH P b s fun s2=>EH P a s2 K:=by
 cases hg:ES s.t a with
 | none=>simp only [EH,hg] at h
 | some g =>
  cases g with
  | false =>
   have h':EH P b (AD s a.dst .void s.H) K:=by simpa only [EH,hg] using h
   refine HY (fun s2 h2=>?_) (Th hs (ML hs.ab h'))
   simp only [EH,h2.1,hg]
   exact h2.2
  | true =>
   have h':AI P s.t s.H (fun v H'=>EH P b (AD s a.dst v H') K) a.op:=by simpa only [EH,hg] using h
   by_cases ha:EC a.op≤1
   ·obtain ⟨v,h1,h2⟩:=Ku ha h'
    refine HY (fun s2 h3=>?_) (Ph hs ha (ML hs.ab h1))
    obtain ⟨⟨h4,h5⟩,h6⟩:=h3
    simp only [EH,h4,hg]
    exact h2 s2.t s2.H _ h5 h6
   ·by_cases hap:∃e sz bytes z sx x,a.op = .append e sz bytes z sx x∧Gt b.op∧b.guard=none
    ·obtain ⟨e,sz,bytes,z,sx,x,e1,e2,e3⟩:=hap
     have hgb:∀u,ES u b=some true:=fun u=>by simp [ES,e3]
     have hga:∀v H',ES (AD s b.dst v H').t a=some true:=fun v H'=>by rw [←hg]; exact GZ fun i hi=>FD fun e=>(hs.ba i e).1 hi
     have hoa:∀v H' H2 K2,AI P (AD s b.dst v H').t H2 K2 a.op=AI P s.t H2 K2 a.op:=fun v H' H2 K2=>Ie (fun i hi=>FD fun e=>(hs.ba i e).1 (G9 hi)) (fun d hd=>by
      rw [e1] at hd; simp [Fm] at hd)
     have hob:∀v H',Fq (AD s a.dst v H').t b.op=Fq s.t b.op:=fun v H'=>Jo fun i hi=>FD fun e=>(hs.ab i e).1 (G9 hi)
     simp only [EH,hgb,hga,J7 e2,EY,hoa,hob] at h' ⊢
     rw [e1] at h' ⊢
     refine ⟨fun hf=>?_,fun nb hn f hf=>XG hn (fun v H' h1 h2=>?_) h'⟩
     ·obtain ⟨v,H',h1,h2⟩:=UP hf h'
      exact h1.1 h2
     ·have:=h1.2 nb h2 f hf
      rw [Hb (H3:=AH s.H nb (some (f nb).2)) (fun i e=>(hs.ab i e).2.2)] at this
      exact this
    by_cases hnn:Gt a.op∧Gt b.op∧(b.guard=none∨b.guard=a.guard)
    ·obtain ⟨na,nb',hgd⟩:=hnn
     have hgo:ES s.t b=some true:=by
      rcases hgd with e | e
      ·simp [ES,e]
      ·rw [show ES s.t b=ES s.t a by simp only [ES,e],hg]
     have hgb:∀v H',ES (AD s a.dst v H').t b=some true:=fun v H'=>by rw [←hgo]; exact GZ fun i hi=>FD fun e=>(hs.ab i e).1 hi
     have hga:∀v H',ES (AD s b.dst v H').t a=some true:=fun v H'=>by rw [←hg]; exact GZ fun i hi=>FD fun e=>(hs.ba i e).1 hi
     have hoa:∀v H',Fq (AD s b.dst v H').t a.op=Fq s.t a.op:=fun v H'=>Jo fun i hi=>FD fun e=>(hs.ba i e).1 (G9 hi)
     have hob:∀v H',Fq (AD s a.dst v H').t b.op=Fq s.t b.op:=fun v H'=>Jo fun i hi=>FD fun e=>(hs.ab i e).1 (G9 hi)
     simp only [EH,hgb,hga,hgo,J7 na,J7 nb',EY,hoa,hob] at h' ⊢
     refine ⟨fun hf=>?_,fun kb hkb fb hfb=>⟨fun hf=>h'.1 (HH.1 hf),fun ka hka fa hfa=>?_⟩⟩
     ·obtain ⟨k,_,hk⟩:=hf 0
      obtain ⟨fa,hfa⟩:=Option.isSome_iff_exists.1 (h'.1 hf)
      exact (h'.2 k hk fa hfa).1 (HH.2 hf)
     ·rw [AK] at hka
      split at hka
      ·cases hka
      ·next hne =>
       have:=(h'.2 ka hka fa hfa).2 kb (by rw [AK,if_neg (fun e=>hne e.symm)]; exact hkb) fb hfb
       rw [Hv (fun e=>hne e.symm),Hb (H3:=AH s.H kb (some (fb kb).2)) (fun i e=>(hs.ab i e).2.2)] at this
       exact this
    have h2:EC a.op=2∧(b.guard=none∨b.guard=a.guard)∧(∀e sz len z ps,a.op≠.buildSliceD e sz len z ps)∧∃e z,b.op = .alloc e z:=by
     rcases hs.cls with h4 | h4 | h4 | h4 | h4 | h4 | h4 | h4 | h4 | h4 | h4 | h4 | h4 | h4
     ·omega
     ·omega
     ·exact h4
     ·obtain ⟨g,p,l,n,d,v,e1,e2,hd⟩:=h4; rw [e1] at ha; simp [EC] at ha
     ·obtain ⟨⟨f,xs,e1⟩ | ⟨f,xs,e1⟩,_⟩:=h4 <;> rw [e1] at ha <;> simp [EC] at ha
     ·obtain ⟨g,d,f,xs,l,e1,e2,hd⟩:=h4; rw [e1] at ha; simp [EC] at ha
     ·obtain ⟨g,d,e,sz,bytes,z,sx,x,e1,e2⟩:=h4; rw [e1] at ha; simp [EC] at ha
     ·exact absurd h4 hap
     ·exact absurd h4 hnn
     ·obtain ⟨g,d,n,p,v,l,e1,e2,hd⟩:=h4; rw [e1] at ha; simp [EC] at ha
     ·obtain ⟨g,d,f,xs,l,e1,e2,hd⟩:=h4; rw [e1] at ha; simp [EC] at ha
     ·obtain ⟨g,p,e,sz,bytes,z,x,e1,e2⟩:=h4; rw [e1] at ha; simp [EC] at ha
     ·obtain ⟨g,p,f,xs,e1,e2⟩:=h4; rw [e1] at ha; simp [EC] at ha
     ·obtain ⟨g,d,n,p,v,e1,e2⟩:=h4; rw [e1] at ha; simp [EC] at ha
    obtain ⟨h2,hgd,hnd,e,z,hb⟩:=h2
    obtain ⟨x,mk,g1,g2,g3⟩:=Pz h2 hnd h'
    have hgb:∀v H',ES (AD s a.dst v H').t b=ES s.t b:=fun v H'=>GZ fun i hi=>FD fun e=>(hs.ab i e).1 hi
    have hga:∀v H',ES (AD s b.dst v H').t a=ES s.t a:=fun v H'=>GZ fun i hi=>FD fun e=>(hs.ba i e).1 hi
    have hoa:∀v H' H2 K2,AI P (AD s b.dst v H').t H2 K2 a.op=AI P s.t H2 K2 a.op:=fun v H' H2 K2=>Ie (fun i hi=>FD fun e=>(hs.ba i e).1 (G9 hi)) (fun d hd=>by
     cases hop:a.op <;> rw [hop] at h2 hd <;> simp [EC,Fm] at h2 hd)
    unfold EH at g1 ⊢
    simp only [hgb,hga,hg,hoa] at g1 ⊢
    cases hgo:ES s.t b with
    | none =>
     exfalso
     rcases hgd with e | e
     ·simp [ES,e] at hgo
     ·rw [show ES s.t b=ES s.t a by simp only [ES,e],hg] at hgo
      cases hgo
    | some g =>
     rw [hgo] at g1
     cases g with
     | false =>
      simp only [EY] at g1 ⊢
      refine g2 s.H _ fun nb hn=>?_
      have:=g1 nb hn
      rw [Hb (H3:=s.H) (fun i e=>(hs.ab i e).2.2)] at this
      exact this
     | true =>
      rw [hb] at g1 ⊢
      simp only [OG,EY] at g1 ⊢
      refine fun nb hn=>g2 _ _ fun na hna=>?_
      rw [AK] at hna
      split at hna
      ·cases hna
      ·next hne =>
       have:=g1 na hna nb (by rw [AK,if_neg (fun e=>hne e.symm)]; exact hn)
       rw [Hv (fun e=>hne e.symm),Hb (H3:=AH s.H nb (some (.box e z))) (fun i e=>(hs.ab i e).2.2)] at this
       exact this
def GJ (P:Program) (aos:List AO):List Nat→St→(St→Prop)→Prop
 | [],s,K=>K s
 | i::r,s,K=>match aos[i]? with
  | some o=>EH P o s fun s'=>GJ P aos r s' K
  | none=>False
theorem Mr {aos:List AO}:∀{l:List Nat} {os:List AO} {s:St} {K:St→Prop},IN aos l=some os→FX P os s K→GJ P aos l s K
 | [],os,s,K,hl,h=>by simp only [IN,Option.some.injEq] at hl; subst hl; exact h
 | i::r,os,s,K,hl,h=>by
  simp only [IN] at hl
  split at hl
  ·next a l h1 h2 =>
   cases hl
   rw [MI] at h
   simp only [GJ,h1]
   exact HY (fun s' h=>Mr h2 h) h
  ·cases hl
theorem LR {after clo:List (List Nat)} {aos:List AO}:∀{l:List Nat},JC after clo aos l=true→l.Pairwise fun i j=>G3 after clo aos i j=true
 | [],_=>.nil
 | i::r,h=>by
  simp only [JC,Bool.and_eq_true,List.all_eq_true] at h
  exact .cons h.1 (LR h.2)
theorem LS {after clo:List (List Nat)} {aos:List AO} {i:Nat} {K:St→Prop}:∀{l:List Nat} {s:St},l.Pairwise (fun i j=>G3 after clo aos i j=true)→(∀x∈l,x∉clo.getD i [])→i∈l→GJ P aos l s K →
  ∃o,aos[i]? = some o∧EH P o s fun s'=>GJ P aos (l.erase i) s' K
 | [],s,_,_,hi,_=>by cases hi
 | a::r,s,hp,hc,hi,h=>by
  simp only [GJ] at h
  cases ha:aos[a]? with
  | none=>rw [ha] at h; exact h.elim
  | some oa =>
   rw [ha] at h
   dsimp only at h
   by_cases e:a=i
   ·subst e
    refine ⟨oa,ha,?_⟩
    rw [List.erase_cons_head]
    exact h
   ·have hir:i∈r:=by
     rcases List.mem_cons.1 hi with h | h
     ·exact absurd h.symm e
     ·exact h
    have hpa:=List.pairwise_cons.1 hp
    have hpi:=hpa.1 i hir
    simp only [G3,Bool.and_eq_true,Bool.or_eq_true] at hpi
    have hsw:=hpi.2
    have hsw:(match aos[a]?,aos[i]? with | some a,some b=>Ih a b | _,_=>false)=true:=by
     rcases hsw with h | h
     ·exact absurd (by simpa using h) (hc a (by simp))
     ·exact h
    rw [ha] at hsw
    cases hio:aos[i]? with
    | none=>rw [hio] at hsw; cases hsw
    | some oi =>
     rw [hio] at hsw
     refine ⟨oi,rfl,?_⟩
     have key:EH P oa s fun s1=>EH P oi s1 fun s'=>GJ P aos (r.erase i) s' K:=HY (fun s1 h1=>by
      obtain ⟨o,h2,h3⟩:=LS hpa.2 (fun x hx=>hc x (by simp [hx])) hir h1
      rw [hio] at h2; cases h2
      exact h3) h
     refine HY (fun s' h'=>?_) (UL (VF hsw) key)
     rw [List.erase_cons_tail (by simpa using e)]
     simp only [GJ,ha]
     exact h'
end
section
variable {P:Program} {B:Nat} {r:Option Nat}
theorem Step.defs {F F':Nat→Prop} {H H':Heap} {w w':World} {ds:List Deferred} (st:Step F H w F' H' w') (h:DefOK B F H ds w):DefOK B F' H' ds w':=by
 obtain ⟨h0,ms,h1,h2,h3⟩:=h
 refine ⟨Nat.le_trans h0 st.size,ms,h1,h2,fun D hD=>?_⟩
 obtain ⟨g1,g2,g3,g4⟩:=h3 D hD
 have hlt:D<w.heap.size:=(Array.getElem?_eq_some_iff.1 g4).1
 refine ⟨g1,?_,fun hF=>?_,(st.keep D hlt g2).trans g4⟩
 ·cases e:H' D with
  | none=>rfl
  | some x=>rcases st.dom D (by rw [e]; simp) with h | h
            ·exact absurd g2 h
            ·omega
 ·rcases st.new D hF with h | h | h
  ·exact g3 h
  ·exact h g2
  ·omega
theorem Rel.put {F F':Nat→Prop} {s:St} {a:Act} {w w':World} {H':Heap} (hr:Rel P B F s a w) (st:Step F s.H w F' H' w') (hh:HRel P F' H' w') (dst:Option Nat) {av:AV} {v:Value} (hv:VR P F' w' av v) :
  Rel P B F' (AD s dst av H') (a.put dst v) w':=by
 obtain ⟨h1,h2,h3,h4⟩:=hr
 have h4':∀t,VR P F' w' (s.t t) (a.tmps.getD t undef):=fun t=>st.VR h1 (h4 t)
 have h2:=st.defs h2
 cases dst with
 | none=>exact ⟨hh,h2,h3,h4'⟩
 | some d =>
  simp only [AD]
  split
  ·next hd =>
   refine ⟨hh,h2,by simp [Act.put,h3],fun t=>?_⟩
   simp only [Ai,Act.put]
   by_cases e:d=t
   ·subst e
    simp only [beq_self_eq_true,cond_true]
    rw [show (a.tmps.setIfInBounds d v).getD d undef=v by simp [Array.getD,h3,hd]]
    exact hv
   ·rw [show (d == t)=false by simpa using e]
    simp only [cond_false]
    rw [show (a.tmps.setIfInBounds d v).getD t undef=a.tmps.getD t undef by rw [Array.getD_eq_getD_getElem?,Array.getD_eq_getD_getElem?,Array.getElem?_setIfInBounds_ne e]]
    exact h4' t
  ·next hd =>
   have e:a.tmps.setIfInBounds d v=a.tmps:=by
    apply Array.ext'
    simp only [Array.toList_setIfInBounds]
    exact List.set_eq_of_length_le (by simp; omega)
   simp only [Act.put,e]
   exact ⟨hh,h2,h3,h4'⟩
theorem Step.put {F F' F'':Nat→Prop} {s:St} {w w' w'':World} {H' H'':Heap} {dst:Option Nat} {av:AV} (h:Step F s.H w F' H' w') (h2:Step F' (AD s dst av H').H w' F'' H'' w''):Step F s.H w F'' H'' w'' :=
 h.trans (by rw [EY] at h2; exact h2)
theorem MP {ops:Array Oper} {Q:Exit→Act→World→Prop} {o:Oper} {ao:AO} {F:Nat→Prop} {s:St} {a:Act} {w:World} {K:St→Prop} {K':Act→World→Prop} (hc:Hl P ops o=some ao) (hr:Rel P B F s a w) (hk:EH P ao s K)
  (hq:∀F' s' a' w',Rel P B F' s' a' w'→Step F s.H w F' s'.H w'→K s'→K' a' w'):if Region.wanted o (yielded ops a.tmps) then o.wpIn (E4 r) 0 P a w K' Q else (∀f,o.about P w a.eval=some f→(E4 r).fn f)∧K' (a.put o.dst undef) w:=by
 unfold Hl at hc
 split at hc
 ·next g op hg hop =>
  cases hc
  have run:AI P s.t s.H (fun v H'=>K (AD s o.dst v H')) op→o.wpIn (E4 r) 0 P a w K' Q:=fun hk =>
   PW hop hr hk r _ _ fun v av H' F' w' h1 h2 h3 h4=>hq F' _ _ _ (hr.put h3 h2 o.dst h1) (by rw [EY]; exact h3) h4
  have skip:K (AD s o.dst .void s.H)→(∀f,o.about P w a.eval=some f→(E4 r).fn f)∧K' (a.put o.dst undef) w:=fun hk =>
   ⟨fun _ _=>trivial,hq F _ _ _ (hr.put (Step.refl _ _ _) hr.1 o.dst .void) (by rw [EY]; exact Step.refl _ _ _) hk⟩
  cases hgd:o.guard with
  | none =>
   rw [hgd] at hg
   simp only [Jg,Option.some.injEq] at hg
   subst hg
   rw [if_pos (by simp [Region.wanted,hgd])]
   exact run hk
  | some jw =>
   obtain ⟨j,want⟩:=jw
   rw [hgd] at hg
   simp only [Jg] at hg
   split at hg
   ·next d hd =>
    cases hg
    have ht:=hr.2.2.2 d
    simp only [EH,ES] at hk
    cases hsd:s.t d <;> rw [hsd] at hk <;> try exact hk.elim
    case d x =>
     cases x <;> try exact hk.elim
     next c =>
     rw [hsd] at ht
     generalize hv:a.tmps.getD d undef=v at ht
     cases ht; next ht =>
     cases ht
     have hy:yielded ops a.tmps j=some c:=by
      have hlt:d<a.tmps.size:=by
       rcases Nat.lt_or_ge d a.tmps.size with h | h
       ·exact h
       ·rw [Array.getD_eq_getD_getElem?,Array.getElem?_eq_none h] at hv; cases hv
      have h2:a.tmps[d]? = some (.bool c):=by
       rw [Array.getD_eq_getD_getElem?,Array.getElem?_eq_getElem hlt] at hv
       rw [Array.getElem?_eq_getElem hlt]
       simpa using hv
      simp [yielded,hd,h2]
     have hw:Region.wanted o (yielded ops a.tmps)=(c == want):=by simp [Region.wanted,hgd,hy]
     rw [hw]
     dsimp only at hk
     cases hcw:(c == want) with
     | true=>rw [hcw] at hk; rw [if_pos rfl]; exact run hk
     | false=>rw [hcw] at hk; rw [if_neg (by simp)]; exact skip hk
    case void =>
     rw [hsd] at ht
     generalize hv:a.tmps.getD d undef=v at ht
     cases ht
     have hy:yielded ops a.tmps j=none:=by
      unfold yielded
      rw [hd]
      simp only [Option.bind_some]
      rw [Array.getD_eq_getD_getElem?] at hv
      cases h3:a.tmps[d]? with
      | none=>rfl
      | some u =>
       rw [h3] at hv
       simp only [Option.getD_some] at hv
       subst hv
       rfl
     have hw:Region.wanted o (yielded ops a.tmps)=false:=by simp [Region.wanted,hgd,hy]
     rw [hw,if_neg (by simp)]
     exact skip hk
   ·cases hg
 ·cases hc
theorem ME {ops:Array Oper} {Q:Exit→Act→World→Prop}:∀{l:List Oper} {al:List AO} {F:Nat→Prop} {s:St} {a:Act} {w:World} {K:St→Prop},GB P ops l=some al→Rel P B F s a w→FX P al s K →
  (∀F' s' a' w',Rel P B F' s' a' w'→Step F s.H w F' s'.H w'→K s'→Q .normal a' w')→wpListIn (E4 r) 0 P ops Q l a w
 | [],al,F,s,a,w,K,hc,hr,hk,hq=>by
  simp only [GB,Option.some.injEq] at hc
  subst hc
  exact hq F s a w hr (Step.refl _ _ _) hk
 | o::l,al,F,s,a,w,K,hc,hr,hk,hq=>by
  simp only [GB] at hc
  split at hc
  ·next ao al' ha hl =>
   cases hc
   rw [MI] at hk
   exact MP ha hr hk fun F' s' a' w' h1 h2 h3=>ME hl h1 h3 fun F'' s'' a'' w'' r1 r2 r3=>hq F'' s'' a'' w'' r1 (h2.trans r2) r3
  ·cases hc
theorem LC {H0 H:Heap} {K:List D→Heap→Prop}:∀{l:List AV} {ds:List D},ET l=some ds→K ds H→Af H0 H l K
 | [],ds,h,hk=>by simp only [ET,Option.some.injEq] at h; subst h; exact hk
 | x::l,ds,h,hk=>by
  cases x <;> simp only [ET,reduceCtorEq] at h
  all_goals
   split at h
   ·next ds' e =>
    cases h
    exact LC (K:=fun xs H''=>K (_::xs) H'') e hk
   ·cases h
theorem U4 {H:Heap} {K:List D→Heap→Prop} {l:List AV} {ds:List D} (h:ET l=some ds) (hk:K ds H):Ac H l K:=LC h hk
theorem Tl {t:TM} {H:Heap} {K:AV→Heap→Prop} {b b2:Bool} {news:List Nat} {lp:Bool} {kp sk:Option (List Nat)} {op:AOp} (hf:Fk H) (h:AI P t H K (HE b b2 news lp kp sk op)):AI P t H K op:=by
 cases op <;> try exact h
 case load g x =>
  simp only [HE] at h
  split at h
  ·simp only [AI] at h ⊢
   split at h
   ·next el off e=>rw [e]; exact h
   ·exact h.elim
  ·split at h
   ·split at h
    ·next d =>
     simp only [AI,ev] at h ⊢
     split at h
     ·next b off e=>rw [e]; exact h
     ·exact h.elim
    ·exact h
   ·split at h
    ·exact h
    ·exact h.2
 case store n p v =>
  cases p with
  | c x=>exact h
  | t d =>
   simp only [HE] at h
   split at h
   ·simp only [AI,ev] at h ⊢
    split at h
    ·next b off e =>
     rw [e]
     exact h.2
    ·exact h.elim
   split at h
   ·simp only [AI] at h ⊢
    simp only [ev]
    split at h
    ·next b off e =>
     rw [e]
     exact h
    ·exact h.elim
   ·exact h
 case buildSlice e sz len z ps =>
  simp only [HE,AI] at h ⊢
  have h1:=h.1 hf
  have h2:=h.2
  split
  ·next cs e1 =>
   rw [e1] at h1 h2
   cases e2:ET cs with
   | none=>simp [Fy,e2] at h1
   | some ds=>exact U4 (K:=fun ds H'=>FZ H' (.row e sz len (AY sz len ds)) fun b H''=>K (.own b sz 0 len len) H'') e2 (fun b hb=>h2 b hb _ (by simp [Fy,e2]))
  ·next e1=>rw [e1] at h1; simp [Fy] at h1
 case call f xs =>
  cases b
  ·simp only [HE,Bool.false_eq_true,if_false] at h
   split at h
   ·simp only [AI] at h ⊢
    exact CallW.mono' h fun r H' h=>h.2
   ·exact PCallK.call h
  ·exact h
 case callv g xs =>
  cases b
  ·simp only [HE,Bool.false_eq_true,if_false] at h
   split at h
   ·simp only [AI] at h ⊢
    split at h
    ·next e=>rw [e]; exact CallW.mono' h fun r H' h=>h.2
    ·exact h.elim
   ·simp only [AI] at h ⊢
    split at h
    ·next e=>rw [e]; exact PCallK.call h
    ·exact h.elim
  ·exact h
theorem PA {t:TM} {H:Heap} {K:AV→Heap→Prop} {nc b b2:Bool} {news:List Nat} {lp:Bool} {kp sk:Option (List Nat)} {op:AOp} (hf:Fk H) (h:AI P t H K (HV nc b b2 news lp kp sk op)):AI P t H K op:=by
 unfold HV at h
 split at h
 ·split at h
  ·exact NCallK.call h
  ·simp only [AI] at h ⊢
   split at h
   ·next e1 e2 =>
    split at h
    ·next eH =>
     obtain ⟨⟨rfl,hz⟩,h2,el,h3,h4,h5⟩:=h
     rw [e1,e2]
     simp only [Ge,eH,EF,Ac,Af,Ah]
     exact ⟨rfl,hz,h2,el,h3,h4,h5⟩
    ·exact h.elim
   ·exact h.elim
  ·exact h
 ·exact Tl hf h
theorem Qx {o:AO} {nc b b2:Bool} {news:List Nat} {lp:Bool} {kp sk:Option (List Nat)} {s:St} {K:St→Prop} (hf:Fk s.H) (h:EH P { o with op:=HV nc b b2 news lp kp sk o.op } s K):EH P o s K:=by
 have e:ES s.t { o with op:=HV nc b b2 news lp kp sk o.op }=ES s.t o:=rfl
 unfold EH at *
 rw [e] at h
 split
 ·next e=>rw [e] at h; exact PA hf h
 ·next e=>rw [e] at h; exact h
 ·next e=>rw [e] at h; exact h
theorem Rel.free {F:Nat→Prop} {s:St} {a:Act} {w:World} (h:Rel P B F s a w):Fk s.H:=fun n=>by
 refine ⟨max n w.heap.size,by omega,?_⟩
 cases e:s.H (max n w.heap.size) with
 | none=>rfl
 | some x=>have:=(h.1.at_ _ x e).lt; omega
theorem Rel.drawn {F:Nat→Prop} {s:St} {a:Act} {w:World} (h:Rel P B F s a w) (n:Nat):Rel P B F s a { w with drawn:=n } :=
 ⟨⟨fun b x hb=>(h.1.at_ b x hb).mono rfl (fun _ h=>h) (fun _ _=>rfl),h.1.apart,h.1.old⟩,h.2.1,h.2.2.1,fun t=>(h.2.2.2 t).mono (fun _ h=>h) (fun _ _=>rfl)⟩
theorem Step.drawn (F:Nat→Prop) (H:Heap) (w:World) (n:Nat):Step F H w F H { w with drawn:=n } where
 os:=rfl
 tape:=rfl
 output:=rfl
 size:=Nat.le_refl _
 keep:=fun _ _ _=>rfl
 dom:=fun _ h=>.inl h
 mono:=fun _ h=>h
 new:=fun _ h=>.inl h
theorem MX {ops:Array Oper}:∀{l:List Oper} {al:List AO},GB P ops l=some al→al.length=l.length∧∀(i:Nat) o,l[i]? = some o→∃ao,al[i]? = some ao∧Hl P ops o=some ao
 | [],al,h=>by simp only [GB,Option.some.injEq] at h; subst h; exact ⟨rfl,fun i o h=>by simp at h⟩
 | o::l,al,h=>by
  simp only [GB] at h
  split at h
  ·next a l' h1 h2 =>
   cases h
   obtain ⟨g1,g2⟩:=MX h2
   refine ⟨by simp [g1],fun i o' hi=>?_⟩
   cases i with
   | zero=>simp only [List.getElem?_cons_zero,Option.some.injEq] at hi; subst hi; exact ⟨a,by simp,h1⟩
   | succ i=>simpa using g2 i o' (by simpa using hi)
  ·cases h
structure Drawn (P:Program) (ops:Array Oper) (after clo:List (List Nat)) (aos:List AO):Prop where
 ops_:∀(i:Nat) o,ops[i]? = some o→∃ao nc bo b2 nw lp kp sk,Hl P ops o=some ao∧aos[i]? = some { ao with op:=HV nc bo b2 nw lp kp sk ao.op }∧after.getD i []=H9 o
 clo_:∀i,∀x∈clo.getD i [],∃k∈after.getD i [],k=x∨x∈clo.getD k []
 aft_:∀i,∀k∈after.getD i [],k<ops.size
theorem VN {ops:Array Oper} {after clo:List (List Nat)} {aos:List AO} {Q:Exit→Act→World→Prop} {K:St→Prop} {F0:Nat→Prop} {H0:Heap} {w0:World} (hd:Drawn P ops after clo aos)
  (hq:∀F' s' a' w',Rel P B F' s' a' w'→Step F0 H0 w0 F' s'.H w'→K s'→Q .normal a' w') :
  ∀(n:Nat) (l:List Nat) (listed:Array Bool) (F:Nat→Prop) (s:St) (a:Act) (w:World),l.length=n→listed.size=ops.size→(∀j,j<ops.size→(listed.getD j false=false↔j∈l))→(∀j∈l,j<ops.size) →
   l.Pairwise (fun i j=>G3 after clo aos i j=true)→(∀i∈l,i∉after.getD i [])→(∀k,k<ops.size→k∉l→∀x∈l,x∉clo.getD k []) →
   Rel P B F s a w→Step F0 H0 w0 F s.H w→GJ P aos l s K→wpAnyIn (E4 r) 0 P .any ops Q n listed a w:=by
 have rdy:∀(l:List Nat) (listed:Array Bool),listed.size=ops.size→(∀j,j<ops.size→(listed.getD j false=false↔j∈l))→(∀j∈l,j<ops.size) →
   ∀i,i∈Region.ready .any ops listed↔i∈l∧∀k∈after.getD i [],k∉l:=by
  intro l listed hs hl hlt i
  rw [mem_ready]
  have hgd:∀j,listed.getD j true=false↔j∈l:=fun j=>by
   by_cases hj:j<ops.size
   ·rw [←hl j hj]
    rw [Array.getD_eq_getD_getElem?,Array.getD_eq_getD_getElem?,Array.getElem?_eq_getElem (by omega)]
    simp
   ·refine ⟨fun h=>?_,fun h=>absurd (hlt j h) hj⟩
    rw [Array.getD_eq_getD_getElem?,Array.getElem?_eq_none (by omega)] at h
    cases h
  rw [hgd]
  refine and_congr_right fun hi=>?_
  obtain ⟨o,ho⟩:∃o,ops[i]? = some o:=⟨_,Array.getElem?_eq_getElem (hlt i hi)⟩
  obtain ⟨ao,nc,bo,b2,nw,lp,kp,sk,h1,h2,h3⟩:=hd.ops_ i o ho
  refine ⟨fun ⟨o',ho',h⟩ k hk=>?_,fun h=>⟨o,ho,fun e he hb=>?_⟩⟩
  ·rw [ho] at ho'; cases ho'
   rw [h3] at hk
   simp only [H9,List.mem_map,List.mem_filter] at hk
   obtain ⟨e,⟨he,hb⟩,rfl⟩:=hk
   intro hc
   have:=h e (by simpa using he) hb
   have h':=(hl e.on (hlt e.on hc)).2 hc
   rw [this] at h'; cases h'
  ·have hk:e.on∈after.getD i []:=by
    rw [h3]
    simp only [H9,List.mem_map,List.mem_filter]
    exact ⟨e,⟨by simpa using he,hb⟩,rfl⟩
   cases hv:listed.getD e.on false with
   | true=>rfl
   | false=>exact absurd ((hl e.on (hd.aft_ i _ hk)).1 hv) (h _ hk)
 intro n
 induction n with
 | zero =>
  intro l listed F s a w hn hs hl hlt hp hi hc hr hst hk
  cases l with
  | cons x l=>simp at hn
  | nil =>
   refine ⟨?_,hq F s a w hr hst hk⟩
   rw [List.eq_nil_iff_forall_not_mem]
   intro i hi
   rw [rdy [] listed hs hl hlt i] at hi
   cases hi.1
 | succ n ih =>
  intro l listed F s a w hn hs hl hlt hp hi hc hr hst hk
  refine ⟨fun hnil=>?_,fun i hri=>?_⟩
  ·exfalso
   cases l with
   | nil=>simp at hn
   | cons x l =>
    have hx:x∈Region.ready .any ops listed:=by
     rw [rdy (x::l) listed hs hl hlt x]
     refine ⟨by simp,fun k hk hkl=>?_⟩
     rcases List.mem_cons.1 hkl with rfl | h
     ·exact hi k (by simp) hk
     ·have:=(List.pairwise_cons.1 hp).1 k h
      simp only [G3,Bool.and_eq_true,Bool.not_eq_true',List.contains_eq_mem,decide_eq_false_iff_not] at this
      exact this.1.1 hk
    rw [hnil] at hx; cases hx
  ·rw [rdy l listed hs hl hlt i] at hri
   obtain ⟨hil,hri⟩:=hri
   have hci:∀x∈l,x∉clo.getD i []:=fun x hx hxc=>by
    obtain ⟨k,hk,h | h⟩:=hd.clo_ i x hxc
    ·subst h; exact hri k hk hx
    ·exact hc k (hd.aft_ i k hk) (hri k hk) x hx h
   obtain ⟨o,h1,h2⟩:=LS hp hci hil hk
   have hilt:=hlt i hil
   obtain ⟨oo,hoo⟩:∃o,ops[i]? = some o:=⟨_,Array.getElem?_eq_getElem hilt⟩
   obtain ⟨ao,nc,bo,b2,nw,lp,kp,sk,g1,g2,g3⟩:=hd.ops_ i oo hoo
   rw [g2] at h1; cases h1
   unfold wpOpIn
   rw [hoo]
   have hnd:l.Nodup:=hp.imp fun {x y} h=>by
    simp only [G3,Bool.and_eq_true,bne_iff_ne,ne_eq] at h
    exact h.1.2
   refine MP g1 hr (Qx hr.free h2) fun F' s' a' w' r1 r2 r3=>ih (l.erase i) _ F' s' a' w' (by rw [List.length_erase_of_mem hil]; omega) (by simp [hs]) (fun j hj=>?_) (fun j hj=>hlt j (List.mem_of_mem_erase hj))
    (hp.sublist List.erase_sublist) (fun j hj=>hi j (List.mem_of_mem_erase hj)) (fun k hk hkl x hx=>?_) r1 (hst.trans r2) r3
   ·rw [hnd.mem_erase_iff]
    by_cases e:i=j
    ·subst e
     simp [Array.getD_eq_getD_getElem?,hs,hilt]
    ·rw [getD_set_ne false e,hl j hj]
     exact ⟨fun h=>⟨fun e'=>e e'.symm,h⟩,fun h=>h.2⟩
   ·have hxl:=List.mem_of_mem_erase hx
    by_cases e:k=i
    ·subst e; exact hci x hxl
    ·exact hc k hk (fun hkl'=>hkl ((hnd.mem_erase_iff).2 ⟨e,hkl'⟩)) x hxl
theorem F7 {ld:Nat} {ops:Array Oper} {id:Nat} {ac:ACode} (hc:FC P ld ops=some ac):∃l,ac = .dops l∧∀{s:St} {K:St→Prop},FX P l s K →
  ∀{B:Nat} {r:Option Nat} {F:Nat→Prop} {a:Act} {w:World} {Q:Exit→Act→World→Prop},Rel P B F s a w→(∀F' s' a' w',Rel P B F' s' a' w'→Step F s.H w F' s'.H w'→K s'→Q .normal a' w')→(Code.region id ops true).wpIn (E4 r) 0 P Q a w:=by
 unfold FC at hc
 split at hc
 ·cases hc
 ·next aos0 h0 =>
  obtain ⟨hlen,hget⟩:=MX h0
  simp only [Array.length_toList] at hlen
  extract_lets after clo heavy stores lds ordered apart open1 adrOf keeps isSt lps ncs news0 dsts outs news aos ord at hc
  split at hc
  ·next hchk =>
   simp only [Option.map_eq_some_iff] at hc
   obtain ⟨l,hl,rfl⟩:=hc
   refine ⟨l,rfl,?_⟩
   simp only [Bool.and_eq_true,beq_iff_eq,List.all_eq_true,decide_eq_true_eq,Bool.not_eq_true',List.contains_eq_mem,decide_eq_false_iff_not,List.mem_range] at hchk
   obtain ⟨⟨⟨⟨⟨⟨⟨hm,hol⟩,hco⟩,hpo⟩,hor⟩,hcov⟩,haf⟩,hcl⟩:=hchk
   have hal:aos.length=ops.size:=by simp only [aos,List.length_map,List.length_zipIdx,hlen]
   rw [hal] at hol hor hcov haf hcl
   have hafl:after.length=ops.size:=by simp [after]
   have hd:Drawn P ops after clo aos:=by
    refine ⟨fun i o hi=>?_,fun i x hx=>?_,fun i k hk=>?_⟩
    ·obtain ⟨ao,h1,h2⟩:=hget i o (by simpa using hi)
     refine ⟨ao,ncs i,ordered i,lds i,news,lps i,keeps i,(if ld == 4&&!(ordered i) then keeps i else none),h2,?_,?_⟩
     ·simp [aos,h1]
     ·simp [after,hi]
    ·have hi:i<clo.length:=by
      rcases Nat.lt_or_ge i clo.length with h | h
      ·exact h
      ·simp [List.getElem?_eq_none h] at hx
     simp only [LF,List.all_eq_true,List.mem_range,List.any_eq_true,Bool.or_eq_true,beq_iff_eq,List.contains_eq_mem,decide_eq_true_eq] at hco
     exact hco i hi x hx
    ·have hi:i<after.length:=by
      rcases Nat.lt_or_ge i after.length with h | h
      ·exact h
      ·simp [List.getElem?_eq_none h] at hk
     rw [List.getD_eq_getElem?_getD,List.getElem?_eq_getElem hi] at hk
     exact haf _ (List.getElem_mem hi) k (by simpa using hk)
   intro s K hk B r F a w Q hr hq
   refine wpIn_region_any hm ?_
   refine VN hd (F0:=F) (H0:=s.H) (w0:=w) hq ops.size ord _ F s a _ hol (by simp) (fun j hj=>?_) (fun j hj=>(hor j hj).1) (LR hpo) (fun i hi=>(hor i hi).2) (fun k hk hkl=>absurd (hcov k hk) hkl) (hr.drawn _) (Step.drawn _ _ _ _) (Mr hl hk)
   simp [Array.getD_eq_getD_getElem?,hj,hcov j hj]
  ·cases hc
theorem F4 {ops:Array Oper} {id:Nat} {ac:ACode} (hc:KD P ops=some ac):∃l,ac = .dops l∧∀{s:St} {K:St→Prop},FX P l s K →
  ∀{B:Nat} {r:Option Nat} {F:Nat→Prop} {a:Act} {w:World} {Q:Exit→Act→World→Prop},Rel P B F s a w→(∀F' s' a' w',Rel P B F' s' a' w'→Step F s.H w F' s'.H w'→K s'→Q .normal a' w')→(Code.region id ops true).wpIn (E4 r) 0 P Q a w:=by
 unfold KD at hc
 split at hc
 ·exact F7 hc
 split at hc
 ·exact F7 hc
 split at hc
 ·next c h=>cases hc; exact F7 h
 ·split at hc
  ·next c h=>cases hc; exact F7 h
  ·split at hc
   ·next c h =>
    split at hc
    ·exact F7 hc
    ·split at hc
     ·exact F7 hc
     ·split at hc
      ·exact F7 hc
      ·cases hc; exact F7 h
   ·split at hc
    ·next c h=>cases hc; exact F7 h
    ·exact F7 hc
theorem AW.mono {c:Code} {s:St} {Q Q':Out→St→Prop} (h:AW P r c s Q) (hq:∀o s',Q o s'→Q' o s'):AW P r c s Q' :=
 fun B F a w hr=>Code.wpIn_mono (fun _ _ _ ⟨o,s',F',h1,h2,h3,h4⟩=>⟨o,s',F',h1,h2,h3,hq o s' h4⟩) (h B F a w hr)
theorem Gv {r:Option Nat}:∀{ac:ACode} {c:Code} {s:St} {Q:Out→St→Prop},Eq P c=some ac→(r=none∨FK ac=true)→FY P ac s Q→AW P r c s Q
 | .skip,c,s,Q,hc,hf,hk=>by
  cases c <;> simp only [Eq,Option.map_eq_some_iff,reduceCtorEq,and_false,exists_false,Option.some.injEq] at hc
  case skip=>exact fun B F a w hr=>wpIn_skip ⟨.normal,s,F,trivial,hr,Step.refl _ _ _,hk⟩
  case region id ops draw =>
   split at hc
   ·obtain ⟨_,e,_⟩:=F4 (id:=id) hc
    cases e
   ·simp at hc
  case seq x y=>split at hc <;> simp at hc
  case rangeFunc g ps x y=>split at hc <;> (try split at hc) <;> simp at hc
  case cond x y z=>split at hc <;> simp at hc
 | .ops l,c,s,Q,hc,hf,hk=>by
  cases c <;> simp only [Eq,Option.map_eq_some_iff,reduceCtorEq,and_false,exists_false,Option.some.injEq] at hc
  case region id ops draw =>
   split at hc
   ·obtain ⟨_,e,_⟩:=F4 (id:=id) hc
    cases e
   ·next hd =>
    simp only [Option.map_eq_some_iff,ACode.ops.injEq] at hc
    obtain ⟨al,h1,rfl⟩:=hc
    have:draw=false:=by simpa using hd
    subst this
    exact fun B F a w hr=>wpIn_region_list (ME h1 hr hk fun F' s' a' w' h2 h3 h4=>⟨.normal,s',F',trivial,h2,h3,h4⟩)
  case seq x y=>split at hc <;> simp at hc
  case rangeFunc g ps x y=>split at hc <;> (try split at hc) <;> simp at hc
  case cond x y z=>split at hc <;> simp at hc
 | .dops l,c,s,Q,hc,hf,hk=>by
  cases c <;> simp only [Eq,Option.map_eq_some_iff,reduceCtorEq,and_false,exists_false,Option.some.injEq] at hc
  case region id ops draw =>
   split at hc
   ·next hd =>
    obtain ⟨l',e,h⟩:=F4 (id:=id) hc
    cases e
    have:draw=true:=by simpa using hd
    subst this
    exact fun B F a w hr=>h hk hr fun F' s' a' w' h2 h3 h4=>⟨.normal,s',F',trivial,h2,h3,h4⟩
   ·simp at hc
  case seq x y=>split at hc <;> simp at hc
  case rangeFunc g ps x y=>split at hc <;> (try split at hc) <;> simp at hc
  case cond x y z=>split at hc <;> simp at hc
 | .seq x y,c,s,Q,hc,hf,hk=>by
  cases c <;> simp only [Eq,Option.map_eq_some_iff,reduceCtorEq,and_false,exists_false,Option.some.injEq] at hc
  case region id ops draw =>
   split at hc
   ·obtain ⟨_,e,_⟩:=F4 (id:=id) hc
    cases e
   ·simp at hc
  case rangeFunc g ps x y=>split at hc <;> (try split at hc) <;> simp at hc
  case seq cx cy =>
   split at hc
   ·next x' y' hx hy =>
    cases hc
    intro B F a w hr
    refine wpIn_seq (Code.wpIn_mono ?_ (Gv hx (hf.imp id fun h=>by simp only [FK,Bool.and_eq_true] at h; first | exact h.1 | exact h) hk B F a w hr))
    rintro e a1 w1 ⟨o,s1,F1,h1,h2,h3,h4⟩
    cases o <;> cases e <;> simp only [Hk] at h1
    ·exact Code.wpIn_mono (fun e a2 w2 ⟨o,s2,F2,g1,g2,g3,g4⟩=>⟨o,s2,F2,g1,g2,h3.trans g3,g4⟩) (Gv hy (hf.imp id fun h=>by simp only [FK,Bool.and_eq_true] at h; exact h.2) h4 B F1 a1 w1 h2)
    ·exact ⟨.exit _,s1,F1,h1,h2,h3,h4⟩
    ·exact ⟨.ret,s1,F1,trivial,h2,h3,h4⟩
   ·cases hc
  case cond x y z=>split at hc <;> simp at hc
 | .cond q x y,c,s,Q,hc,hf,hk=>by
  cases c <;> simp only [Eq,Option.map_eq_some_iff,reduceCtorEq,and_false,exists_false,Option.some.injEq] at hc
  case region id ops draw =>
   split at hc
   ·obtain ⟨_,e,_⟩:=F4 (id:=id) hc
    cases e
   ·simp at hc
  case seq x y=>split at hc <;> simp at hc
  case rangeFunc g ps x y=>split at hc <;> (try split at hc) <;> simp at hc
  case cond cq cx cy =>
   split at hc
   ·next x' y' hx hy =>
    cases hc
    intro B F a w hr
    simp only [FY] at hk
    split at hk
    ·next b e =>
     have hv:=D6 hr.2.2.2 cq
     rw [e] at hv
     generalize hu:a.eval cq=u at hv
     cases hv; next hv =>
     cases hv
     cases b
     ·exact wpIn_cond_false hu (Gv hy (hf.imp id fun h=>by simp only [FK,Bool.and_eq_true] at h; exact h.2) (hk.2 rfl) B F a w hr)
     ·exact wpIn_cond_true hu (Gv hx (hf.imp id fun h=>by simp only [FK,Bool.and_eq_true] at h; exact h.1) (hk.1 rfl) B F a w hr)
    ·exact hk.elim
   ·cases hc
 | .block id x,c,s,Q,hc,hf,hk=>by
  cases c <;> simp only [Eq,Option.map_eq_some_iff,reduceCtorEq,and_false,exists_false,Option.some.injEq,ACode.block.injEq] at hc
  case region id ops draw =>
   split at hc
   ·obtain ⟨_,e,_⟩:=F4 (id:=id) hc
    cases e
   ·simp at hc
  case seq x y=>split at hc <;> simp at hc
  case rangeFunc g ps x y=>split at hc <;> (try split at hc) <;> simp at hc
  case cond x y z=>split at hc <;> simp at hc
  case block id' cx =>
   obtain ⟨x',hx,rfl,rfl⟩:=hc
   intro B F a w hr
   refine wpIn_block (Code.wpIn_mono ?_ (Gv hx (hf.imp id fun h=>by simp only [FK,Bool.and_eq_true] at h; first | exact h.1 | exact h) hk B F a w hr))
   rintro e a1 w1 ⟨o,s1,F1,h1,h2,h3,h4⟩
   cases o <;> cases e <;> simp only [Hk] at h1
   ·exact ⟨.normal,s1,F1,trivial,h2,h3,h4⟩
   ·subst h1
    simp only [Exit.inBlock]
    dsimp only at h4
    split
    ·next hi=>rw [if_pos hi] at h4; exact ⟨.normal,s1,F1,trivial,h2,h3,h4⟩
    ·next hi=>rw [if_neg hi] at h4; exact ⟨.exit _,s1,F1,rfl,h2,h3,h4⟩
   ·exact ⟨.ret,s1,F1,trivial,h2,h3,h4⟩
 | .loop x,c,s,Q,hc,hf,hk=>by
  cases c <;> simp only [Eq,Option.map_eq_some_iff,reduceCtorEq,and_false,exists_false,Option.some.injEq,ACode.loop.injEq] at hc
  case region id ops draw =>
   split at hc
   ·obtain ⟨_,e,_⟩:=F4 (id:=id) hc
    cases e
   ·simp at hc
  case seq x y=>split at hc <;> simp at hc
  case rangeFunc g ps x y=>split at hc <;> (try split at hc) <;> simp at hc
  case cond x y z=>split at hc <;> simp at hc
  case loop cx =>
   obtain ⟨x',hx,rfl⟩:=hc
   exact hk r cx hx (hf.imp id fun h=>by simpa only [FK] using h)
 | .rangef g ps x y,c,s,Q,hc,hf,hk=>by
  cases c <;> simp only [Eq,Option.map_eq_some_iff,reduceCtorEq,and_false,exists_false,Option.some.injEq] at hc
  case region id ops draw =>
   split at hc
   ·obtain ⟨_,e,_⟩:=F4 (id:=id) hc
    cases e
   ·simp at hc
  case seq x y=>split at hc <;> simp at hc
  case cond x y z=>split at hc <;> simp at hc
  case rangeFunc g' ps' a b =>
   rcases hf with rfl | hf
   ·split at hc
    ·next x' y' hx hy =>
     split at hc
     ·next hfl =>
      simp only [Option.some.injEq,ACode.rangef.injEq] at hc
      obtain ⟨h1,h2,h3,h4⟩:=hc
      subst h3 h4
      simp only [Bool.and_eq_true] at hfl
      exact hk g' ps' a b h1 h2 hx hy hfl.1 hfl.2
     ·cases hc
    ·cases hc
   ·simp [FK] at hf
 | .exit id,c,s,Q,hc,hf,hk=>by
  cases c <;> simp only [Eq,Option.map_eq_some_iff,reduceCtorEq,and_false,exists_false,Option.some.injEq,ACode.exit.injEq] at hc
  case region id ops draw =>
   split at hc
   ·obtain ⟨_,e,_⟩:=F4 (id:=id) hc
    cases e
   ·simp at hc
  case seq x y=>split at hc <;> simp at hc
  case rangeFunc g ps x y=>split at hc <;> (try split at hc) <;> simp at hc
  case cond x y z=>split at hc <;> simp at hc
  case exit id'=>subst hc; exact fun B F a w hr=>wpIn_exit ⟨.exit _,s,F,rfl,hr,Step.refl _ _ _,hk⟩
 | .ret,c,s,Q,hc,hf,hk=>by
  cases c <;> simp only [Eq,Option.map_eq_some_iff,reduceCtorEq,and_false,exists_false,Option.some.injEq] at hc
  case region id ops draw =>
   split at hc
   ·obtain ⟨_,e,_⟩:=F4 (id:=id) hc
    cases e
   ·simp at hc
  case seq x y=>split at hc <;> simp at hc
  case rangeFunc g ps x y=>split at hc <;> (try split at hc) <;> simp at hc
  case cond x y z=>split at hc <;> simp at hc
  case ret=>exact fun B F a w hr=>wpIn_ret ⟨.ret,s,F,trivial,hr,Step.refl _ _ _,hk⟩
structure Abst (s t:St):Prop where
 n:t.n=s.n
 tm:∀i,t.t i = .undef∨t.t i=s.t i
 hp:∀k,t.H k=none∨t.H k=s.H k
theorem Abst.refl (s:St):Abst s s:=⟨rfl,fun _=>.inr rfl,fun _=>.inr rfl⟩
theorem Rel.abst {F:Nat→Prop} {s t:St} {a:Act} {w:World} (hr:Rel P B F s a w) (h:Abst s t):Rel P B F t a w:=by
 obtain ⟨h1,h2,h3,h4⟩:=hr
 refine ⟨⟨fun b x hb=>?_,fun b x hb=>?_,h1.old⟩,?_,by rw [h.n]; exact h3,fun i=>?_⟩
 ·rcases h.hp b with e | e <;> rw [e] at hb
  ·cases hb
  ·exact h1.at_ b x hb
 ·rcases h.hp b with e | e <;> rw [e] at hb
  ·cases hb
  ·exact h1.apart b x hb
 ·obtain ⟨h0,ms,g1,g2,g3⟩:=h2
  refine ⟨h0,ms,g1,g2,fun D hD=>?_⟩
  obtain ⟨k1,k2,k3,k4⟩:=g3 D hD
  exact ⟨k1,by rcases h.hp D with e | e <;> rw [e]; exact k2,k3,k4⟩
 ·rcases h.tm i with e | e <;> rw [e]
  ·exact .undef _
  ·exact h4 i
theorem Step.less {F F':Nat→Prop} {H H0 H':Heap} {w w':World} (st:Step F H0 w F' H' w') (h:∀k,H0 k=none∨H0 k=H k):Step F H w F' H' w' where
 os:=st.os
 tape:=st.tape
 output:=st.output
 size:=st.size
 keep:=fun k hk hn=>st.keep k hk (by rcases h k with e | e <;> simp_all)
 dom:=fun k hk=>by
  rcases st.dom k hk with e | e
  ·exact .inl (by rcases h k with e2 | e2 <;> simp_all)
  ·exact .inr e
 mono:=st.mono
 new:=fun k hk=>by
  rcases st.new k hk with e | e | e
  ·exact .inl e
  ·exact .inr (.inl (by rcases h k with e2 | e2 <;> simp_all))
  ·exact .inr (.inr e)
theorem AW.abst {c:Code} {s t:St} {Q:Out→St→Prop} (h:Abst s t) (hk:AW P r c t Q):AW P r c s Q :=
 fun B F a w hr=>Code.wpIn_mono (fun _ _ _ ⟨o,s',F',h1,h2,h3,h4⟩=>⟨o,s',F',h1,h2,h3.less h.hp,h4⟩) (hk B F a w (hr.abst h))
theorem Rc {c:Code} {Q:Exit→Act→World→Prop} (I:Nat→Act→World→Prop)
  (round:∀n a w,I n a w→c.wpIn (E4 r) 0 P (Exit.then (fun a' w'=>∃m,m<n∧I m a' w') Q) a w):∀(n:Nat) (a:Act) (w:World),I n a w→(Code.loop c).wpIn (E4 r) 0 P Q a w:=by
 intro n a w h0 b k cs hro hb hr
 have key:∀n a w,I n a w→∃e a' w',Q e a' w'∧ArrivesIn (Machine.fenced P (E4 r)) P (lone (b.atR a (.code c::.inLoop c::k)) cs w) b k cs e a' w':=by
  intro n
  induction n using Nat.strongRecOn with
  | _ n ih =>
   intro a w hI
   obtain ⟨e,a1,w1,hq,harr⟩:=round n a w hI b (.inLoop c::k) cs hro hb hr
   cases e with
   | normal =>
    obtain ⟨m,hm,hI1⟩:=hq
    obtain ⟨e2,a2,w2,hq2,harr2⟩:=ih m hm a1 w1 hI1
    exact ⟨e2,a2,w2,hq2,.of_steps (StepsIn.trans harr (.one (fenced_calm hb hr rfl) stepR_inLoop)) harr2⟩
   | exit id=>exact ⟨_,a1,w1,hq,.pass (x:=.inLoop c) rfl (fun _ _=>.inl (by simp)) harr⟩
   | goto l=>exact ⟨_,a1,w1,hq,.pass (x:=.inLoop c) rfl (fun _ _=>.inl (by simp)) harr⟩
   | ret=>exact ⟨_,a1,w1,hq,.pass (x:=.inLoop c) rfl (fun _ _=>.inl (by simp)) harr⟩
   | panic ch=>exact ⟨_,a1,w1,hq,.pass (x:=.inLoop c) rfl (fun _ _=>.inl (by simp)) harr⟩
   | outgrown=>exact ⟨_,a1,w1,hq,.pass (x:=.inLoop c) rfl (fun _ _=>.inl (by simp)) harr⟩
 obtain ⟨e,a',w',hq,harr⟩:=key n a w h0
 exact ⟨e,a',w',hq,.of_steps (.one (fenced_calm hb hr rfl) stepR_loop) harr⟩
theorem T5 {α:Type} (I : α→Prop) (mk : α→St) (μ : α→Nat) {b:ACode} {s:St} {Q:Out→St→Prop} (x0 : α) (h0:I x0) (ha:Abst s (mk x0))
  (round:∀x,I x→FY P b (mk x) fun o s'=>match o with | .normal=>∃y,I y∧μ y < μ x∧Abst s' (mk y) | o=>Q o s'):JY P b s Q:=by
 intro r c hc hf
 refine AW.abst ha ?_
 intro B F a w hr
 refine Rc (fun n a' w'=>∃x F',I x∧μ x=n∧Rel P B F' (mk x) a' w'∧Step F (mk x0).H w F' (mk x).H w') ?_ (μ x0) a w ⟨x0,F,h0,rfl,hr,Step.refl _ _ _⟩
 rintro n a1 w1 ⟨x,F1,hI,rfl,hr1,hs1⟩
 refine Code.wpIn_mono ?_ (Gv hc hf (round x hI) B F1 a1 w1 hr1)
 rintro e a2 w2 ⟨o,s2,F2,g1,g2,g3,g4⟩
 cases o <;> cases e <;> simp only [Hk] at g1
 ·obtain ⟨y,hy,hm,hab⟩:=g4
  refine ⟨μ y,hm,y,F2,hy,rfl,g2.abst hab,hs1.trans ⟨g3.os,g3.tape,g3.output,g3.size,g3.keep,fun k hk=>g3.dom k ?_,g3.mono,g3.new⟩⟩
  rcases hab.hp k with e | e
  ·exact absurd e hk
  ·rw [←e]; exact hk
 ·exact ⟨.exit _,s2,F2,g1,g2,hs1.trans g3,g4⟩
 ·exact ⟨.ret,s2,F2,trivial,g2,hs1.trans g3,g4⟩
end
section
variable {P:Program}
theorem MB {F:Nat→Prop} {w:World} (n:Nat):∀(args:List AV) (vs:List Value) (i:Nat),VRL P F w args vs →
  ∀t,VR P F w (Aj args i t) (if i≤t∧t<i+vs.length then vs.getD (t-i) undef else undef)
 | [],vs,i,hv,t=>by
  obtain rfl:=hv.unnil
  rw [if_neg (by simp)]
  exact .void
 | x::l,vs,i,hv,t=>by
  obtain ⟨v,vs,rfl,hx,hl⟩:=hv.uncons
  simp only [Aj,Ai]
  by_cases e:i=t
  ·subst e
   simp only [beq_self_eq_true,cond_true]
   rw [if_pos (by simp)]
   simpa using hx
  ·rw [show (i == t)=false by simpa using e]
   simp only [cond_false]
   have ih:=MB n l vs (i+1) hl t
   by_cases h:i+1≤t∧t<i+1+vs.length
   ·rw [if_pos h] at ih
    rw [if_pos (by simp; omega)]
    rw [show t-i=(t-(i+1))+1 by omega]
    simpa using ih
   ·rw [if_neg h] at ih
    rw [if_neg (by simp; omega)]
    exact ih
theorem KG {F:Nat→Prop} {s:St} {a:Act} {w:World} (hr:HRel P F s.H w) (ht:∀t,VR P F w (s.t t) (a.tmps.getD t undef)):∀{rs:List ResultVar} {ar:List ARes} {K:List AV→Prop},G6 P rs=some ar→Ap s ar K →
  ∃vs:List Value,∃avs,((rs.mapM fun
   | .tmp t=>pure (a.tmps.getD t undef)
   | .cell q t=>do loadVar t (←asAddr (a.tmps.getD q undef)):Sem (List Value)).run P w = .ok vs w)∧VRL P F w avs vs∧K avs
 | [],ar,K,hc,hk=>by
  simp only [G6,Option.some.injEq] at hc
  subst hc
  exact ⟨[],[],by simp,VRL.nil,hk⟩
 | .tmp t::rs,ar,K,hc,hk=>by
  simp only [G6,Option.map_eq_some_iff] at hc
  obtain ⟨ar',h1,rfl⟩:=hc
  obtain ⟨vs,avs,e1,e2,e3⟩:=KG hr ht h1 hk
  exact ⟨_::vs,_::avs,by simp only [List.mapM_cons,Sem.run_bind,Sem.run_pure,Result.andThen_ok,e1],VRL.cons (ht t) e2,e3⟩
 | .cell q t::rs,ar,K,hc,hk=>by
  simp only [G6] at hc
  split at hc
  ·next g l hg hl =>
   cases hc
   obtain ⟨v,av,h1,h2,h3⟩:=Mm hr hg (ht q) (K:=fun v=>Ap s l fun vs=>K (v::vs)) hk
   obtain ⟨vs,avs,e1,e2,e3⟩:=KG hr ht hl h3
   refine ⟨v::vs,av::avs,?_,VRL.cons h2 e2,e3⟩
   have h4:(do loadVar t (←asAddr (a.tmps.getD q undef)):Sem Value).run P w = .ok v w:=by
    cases hq:a.tmps.getD q undef with
    | pointer p=>cases p with
     | none =>
      rw [hq] at h1
      simp [Instr.loadAt,Instr.sureAddr,stuck,Sem.run] at h1
     | some p =>
      rw [hq] at h1
      simpa [Instr.loadAt,Instr.sureAddr,asAddr] using h1
    | _ =>
     rw [hq] at h1
     simp [Instr.loadAt,Instr.sureAddr,stuck,Sem.run] at h1
   simp only [List.mapM_cons,Sem.run_bind,Result.andThen_ok,e1,Sem.run_pure] at h4 ⊢
   rw [h4]
   simp only [Result.andThen_ok,e1]
  ·cases hc
theorem Lb {Q:Out→St→Prop} {c:ACode} {s:St} (h:Eo P Q c [] s):FY P c s Q:=by
 unfold Eo at h
 have e:(fun o s'=>EZ P Q [] o s')=Q:=by funext o s'; exact Ax
 rw [e] at h
 exact h
def FA:List Nat→World→World
 | [],w=>w
 | D::ms,w=>FA ms (w.putObj D (.deferred none))
theorem I6:∀{ms:List Nat} {w:World} {k:Nat},k∉ms→(FA ms w).heap[k]? = w.heap[k]?
 | [],w,k,_=>rfl
 | D::ms,w,k,h=>by
  simp only [List.mem_cons,not_or] at h
  simp only [FA]
  rw [I6 h.2,World.putObj_heap_other h.1]
theorem KY:∀{ms:List Nat} {w:World},(FA ms w).heap.size=w.heap.size
 | [],w=>rfl
 | D::ms,w=>by simp only [FA]; rw [KY,World.putObj_size]
theorem Ik:∀{ms:List Nat} {w:World},(FA ms w).os=w.os∧(FA ms w).tape=w.tape∧(FA ms w).output=w.output
 | [],w=>⟨rfl,rfl,rfl⟩
 | D::ms,w=>by simp only [FA]; exact Ik
theorem Ky {fn:Func} {tmps:Array Value} {R:Ending→World→Prop}:∀(ms:List Nat) (w:World),ms.Nodup→(∀D∈ms,w.heap[D]? = some (.deferred (some []))) →
  LeavesIn Fence.wide 0 P fn tmps R [] .returning (FA ms w)→LeavesInM Fence.wide 0 P fn tmps R (ms.map Mb) .returning w
 | [],w,_,_,h=>h
 | D::ms,w,hn,hd,h=>by
  rw [List.nodup_cons] at hn
  refine ⟨by simp,.inl ⟨D,_,rfl,run_takeDeferred (hd D (by simp)),Ky ms _ hn.2 (fun k hk=>?_) h⟩⟩
  rw [World.putObj_heap_other (fun e=>hn.1 (by rw [←e]; exact hk))]
  exact hd k (by simp [hk])
theorem EQ {f:FuncId} {af:AFunc} {args:List AV} {H:Heap} {K:AV→Heap→Prop} (hc:EK P f=some af) (hn:args.length≤af.n)
  (h:Eo P (Aw af.results K) af.body [] ⟨af.n,Aj args 0,H⟩):CallW P f args H K:=by
 have h:=Lb h
 unfold EK at hc
 split at hc
 ·next fn hf =>
  split at hc
  ·next c hb =>
   split at hc
   ·next ac rs hac hrs =>
    cases hc
    intro F w vs hh hv
    have hlen:args.length=vs.length:=hv.1
    refine (callsIn_wide (n:=0)).1 (callsIn_of_wp_marks hf hb trivial ?_)
    have hrel:Rel P w.heap.size F ⟨fn.ntmps,Aj args 0,H⟩ { tmps:=vs.toArray++Array.replicate (fn.ntmps-vs.toArray.size) undef,defers:=[] } w:=by
     refine ⟨hh,⟨Nat.le_refl _,[],rfl,List.nodup_nil,fun D h=>by simp at h⟩,by simp only [Array.size_append,Array.size_replicate,List.size_toArray]; dsimp only at hn; omega,fun t=>?_⟩
     have:=MB fn.ntmps args vs 0 hv t
     have e:(vs.toArray++Array.replicate (fn.ntmps-vs.toArray.size) undef).getD t undef=if 0≤t∧t<0+vs.length then vs.getD (t-0) undef else undef:=by
      rw [Array.getD_eq_getD_getElem?,Array.getElem?_append]
      by_cases ht:t<vs.length
      ·rw [if_pos (by simpa using ht),if_pos (by omega)]; simp
      ·rw [if_neg (by simpa using ht),if_neg (by omega),Array.getElem?_replicate]
       split <;> rfl
     rw [e]
     exact this
    refine Code.wpIn_mono (F:=Fence.wide) ?_ (Gv (r:=none) hac (.inl rfl) h w.heap.size F _ w hrel)
    rintro e a' w' ⟨o,s',F',h1,h2,h3,h4⟩
    have fin:Av s' rs (fun r=>K r s'.H)→LeavesInM Fence.wide 0 P fn a'.tmps (fun e w'=>∃r H' F' v,e = .returned v∧VR P F' w' r v∧HRel P F' H' w'∧Step F H w F' H' w'∧K r H') a'.defers .returning w':=by
     intro hk
     obtain ⟨g1,⟨g0,ms,gd,gn,gm⟩,g3,g4⟩:=h2
     rw [gd]
     refine Ky ms w' gn (fun D hD=>(gm D hD).2.2.2) ?_
     show ∃v,(results fn a'.tmps).run P (FA ms w') = .ok v (FA ms w')∧∃r H' F' v',Ending.returned v = .returned v'∧_
     have hoF:∀k,F' k→(FA ms w').heap[k]? = w'.heap[k]?:=fun k hk=>I6 fun hm=>(gm k hm).2.2.1 hk
     have hh':HRel P F' s'.H (FA ms w'):=⟨fun b x hb=>(g1.at_ b x hb).mono (I6 fun hm=>by rw [(gm b hm).2.1] at hb; cases hb) (fun _ h=>h) hoF,g1.apart,fun b hb=>by rw [KY]; exact g1.old b hb⟩
     have ht':∀t,VR P F' (FA ms w') (s'.t t) (a'.tmps.getD t undef):=fun t=>(g4 t).mono (fun _ h=>h) hoF
     have h3:Step F H w F' s'.H (FA ms w'):=⟨Ik.1.trans h3.os,Ik.2.1.trans h3.tape,Ik.2.2.trans h3.output,by rw [KY]; exact h3.size,
      fun k hk hn=>(I6 fun hm=>by have:=(gm k hm).1; omega).trans (h3.keep k hk hn),h3.dom,h3.mono,h3.new⟩
     clear g4 g1 gm gn gd g0
     generalize FA ms w'=w' at *
     obtain ⟨us,avs,e1,e2,e3⟩:=KG hh' ht' hrs hk
     have hres:(results fn a'.tmps).run P w' = .ok (if h:us.toArray.size=1 then us.toArray[0] else .tuple us.toArray) w':=by
      have em:=Array.toList_mapM (m:=Sem) (xs:=fn.results) (f:=fun
       | .tmp t=>pure (a'.tmps.getD t undef)
       | .cell q t=>do loadVar t (←asAddr (a'.tmps.getD q undef)))
      rw [←em] at e1
      simp only [Sem.run_map] at e1
      unfold results
      rw [Sem.run_bind]
      generalize hx:(Sem.run P (Array.mapM _ fn.results) w')=rr at e1 ⊢
      cases rr with
      | halt x w2=>simp [Result.andThen] at e1
      | ok arr w2 =>
       simp only [Result.andThen_ok,Result.ok.injEq] at e1
       obtain ⟨e4,rfl⟩:=e1
       have e5:arr=us.toArray:=by apply Array.ext'; simpa using e4
       subst e5
       rfl
     refine ⟨_,hres,?_⟩
     match avs,us,e2,e3 with
     | [],[],e2,e3=>exact ⟨_,s'.H,F',_,rfl,.tup [] [] rfl (fun j x v h _=>by simp at h),hh',h3,e3⟩
     | [x],[u],e2,e3=>exact ⟨_,s'.H,F',_,rfl,e2.2 0 _ _ rfl rfl,hh',h3,e3⟩
     | x::y::l,u::v::us,e2,e3 =>
      refine ⟨_,s'.H,F',_,rfl,?_,hh',h3,e3⟩
      rw [dif_neg (by simp)]
      exact .tup _ _ e2.1 e2.2
     | [],_::_,e2,_=>have:=e2.1; simp at this
     | _::_,[],e2,_=>have:=e2.1; simp at this
     | [x],_::_::_,e2,_=>have:=e2.1; simp at this
     | _::_::_,[u],e2,_=>have:=e2.1; simp at this
    cases o <;> cases e <;> simp only [Hk] at h1
    ·exact fin h4
    ·exact h4.elim
    ·exact fin h4
   ·cases hc
  ·cases hc
 ·cases hc
theorem CallW.mono {f:FuncId} {args:List AV} {H:Heap} {K K':AV→Heap→Prop} (h:CallW P f args H K) (hk:∀r H',K r H'→K' r H'):CallW P f args H K' :=
 fun F w vs hh hv=>(h F w vs hh hv).mono fun _ _ ⟨r,H',F',v,h1,h2,h3,h4,h5⟩=>⟨r,H',F',v,h1,h2,h3,h4,hk r H' h5⟩
def Ht {α:Type} (I : α→Prop) (mk : α→St) (μ : α→Nat) (x : α) (R:Out→St→Prop):Out→St→Prop
 | .normal,s'=>∃y,I y∧μ y < μ x∧Abst s' (mk y)
 | .exit i,s'=>R (.exit i) s'
 | .ret,s'=>R .ret s'
theorem Bs {α:Type} {I : α→Prop} {mk : α→St} {μ : α→Nat} {x : α} {R:Out→St→Prop} {s':St} {i:Nat}:Ht I mk μ x R (.exit i) s'=R (.exit i) s':=rfl
theorem Bc {α:Type} {I : α→Prop} {mk : α→St} {μ : α→Nat} {x : α} {R:Out→St→Prop} {s':St}:Ht I mk μ x R .ret s'=R .ret s':=rfl
theorem N9 {α:Type} (I : α→Prop) (mk : α→St) (μ : α→Nat) {Q:Out→St→Prop} {b:ACode} {k:List Item} {s:St} (x0 : α) (h0:I x0) (ha:Abst s (mk x0))
  (round:∀x,I x→Eo P (Ht I mk μ x (EZ P Q k)) b [] (mk x)):HI P Q b k s:=by
 refine T5 I mk μ x0 h0 ha fun x hx=>?_
 have h:=Lb (round x hx)
 refine cast (congrArg (FY P b (mk x)) ?_) h
 funext o s'; cases o <;> rfl
def Fl:List (Nat×AV)→TM
 | []=>fun _=>.undef
 | (i,v)::l=>Gq (Fl l) i v
def Dn (t:TM):List (Nat×AV)→Prop
 | []=>True
 | (i,v)::l=>t i=v∧Dn t l
theorem Ly {s:St} {n:Nat} {l:List (Nat×AV)} {H:Heap} (hn:n=s.n) (h:Dn s.t l) (hp:∀k,H k=none∨H k=s.H k):Abst s ⟨n,Fl l,H⟩:=by
 refine ⟨hn,fun i=>?_,hp⟩
 show Fl l i = .undef∨Fl l i=s.t i
 induction l with
 | nil=>exact .inl rfl
 | cons p l ih =>
  obtain ⟨j,v⟩:=p
  simp only [Fl,Ai]
  by_cases e:j=i
  ·subst e; simp only [beq_self_eq_true,cond_true]; exact .inr h.1.symm
  ·rw [show (j == i)=false by simpa using e]; exact ih h.2
end
def AT (H:Heap):List (Nat×Blk)→Prop
 | []=>True
 | (b,x)::l=>H b=some x∧AT H l
def I9 (n:Nat) (t:TM):List Nat→List AV→TM
 | p::ps,v::vs=>I9 n (if p<n then Gq t p v else t) ps vs
 | _,_=>t
section
variable {P:Program}
theorem Gf {H:Heap} {l:Nat} {y:Option Blk} (hl:H l=none):∀{bl:List (Nat×Blk)},AT H bl→AT (AH H l y) bl
 | [],_=>trivial
 | (b,x)::bl,h=>by
  refine ⟨?_,Gf hl h.2⟩
  have h1:=h.1
  rw [AK,if_neg (fun e=>by rw [e] at hl; rw [hl] at h1; cases h1)]
  exact h1
theorem HRel.less {F:Nat→Prop} {H H0:Heap} {w:World} (h:HRel P F H w) (hp:∀k,H0 k=none∨H0 k=H k):HRel P F H0 w :=
 have hs:∀b x,H0 b=some x→H b=some x:=fun b x hb=>by
  rcases hp b with e | e
  ·rw [e] at hb; cases hb
  ·rw [←e]; exact hb
 ⟨fun b x hb=>h.at_ b x (hs b x hb),fun b x hb=>h.apart b x (hs b x hb),h.old⟩
theorem HRel.putObj {F:Nat→Prop} {H:Heap} {w:World} {l:Nat} (o:Obj) (h:HRel P F H w) (hl:H l=none) (hF:¬F l):HRel P F H (w.putObj l o) :=
 ⟨fun b x hb=>(h.at_ b x hb).mono (World.putObj_heap_other fun e=>by rw [e,hl] at hb; cases hb) (fun _ h=>h) (fun k hk=>World.putObj_heap_other fun e=>hF (e▸hk)),
  h.apart,fun b hb=>by rw [World.putObj_size]; exact h.old b hb⟩
theorem HRel.put {F:Nat→Prop} {H:Heap} {w:World} {l:Nat} {o:Obj} {ts:List AV} {us:List Value} (h:HRel P F H w) (hl:H l=none) (hF:¬F l) (ho:w.heap[l]? = some o) (hv:VRL P F w ts us):HRel P F (AH H l (some (.obj o ts us))) w :=
 ⟨fun b x hb=>by
  rw [AK] at hb
  split at hb
  ·next e=>subst e; cases hb; exact ⟨ho,hv⟩
  ·exact h.at_ b x hb,
  fun b x hb=>by
   rw [AK] at hb
   split at hb
   ·next e=>subst e; exact hF
   ·exact h.apart b x hb,h.old⟩
theorem Ei {H:Heap}:∀{bl:List (Nat×Blk)},AT H bl↔∀p∈bl,H p.1=some p.2
 | []=>by simp [AT]
 | (b,x)::bl=>by simp only [AT,List.mem_cons,forall_eq_or_imp,Ei]
def Mt {α:Type} (I:List (List AV)→α→Prop) (hl : α→List (Nat×Blk)) (pre:List (List AV)) (n:Nat) (t:TM) (R:Out→St→Prop):Out→St→Prop
 | .normal,s'=>∃y,I pre y∧AT s'.H (hl y)
 | .exit i,s'=>R (.exit i) ⟨n,t,s'.H⟩
 | .ret,s'=>R .ret ⟨n,t,s'.H⟩
theorem BX {α:Type} {I:List (List AV)→α→Prop} {hl : α→List (Nat×Blk)} {pre:List (List AV)} {n:Nat} {t:TM} {s':St} {R:Out→St→Prop} {i:Nat}:Mt I hl pre n t R (.exit i) s'=R (.exit i) ⟨n,t,s'.H⟩:=rfl
theorem DP {α:Type} {I:List (List AV)→α→Prop} {hl : α→List (Nat×Blk)} {pre:List (List AV)} {n:Nat} {t:TM} {s':St} {R:Out→St→Prop}:Mt I hl pre n t R .ret s'=R .ret ⟨n,t,s'.H⟩:=rfl
end
def EL (P:Program):Nat→TypeId→List D→Prop
 | 0,_,_=>False
 | n+1,t,l=>match P.underlying t with
  | some .bool=>∃b,l=[.bool b]
  | some (.int k)=>∃z,l=[.int k z]∧(Lit.int k z).wf=true
  | some .string=>∃s,l=[.str s]∧s.size≤maxLen
  | some (.slice e)=>∃xs,l=[.sl (P.cellsOf e) xs]∧xs.length≤maxLen∧∀el∈xs,EL P n e el
  | some (.struct fs)=>∃ls:List (List D),l=ls.flatten∧ls.length=fs.size∧∀(j:Nat) f x,fs[j]? = some f→ls[j]? = some x→EL P n f.type x
  | _=>False
def Ho (P:Program):Nat→List Field→Nat→Bool
 | o,[],e=>o == e
 | o,f::r,e=>f.offset == o&&Ho P (o+P.cellsOf f.type) r e
def Gz (P:Program):Nat→TypeId→Bool
 | 0,_=>false
 | n+1,t=>match P.underlying t with
  | some .bool | some (.int _) | some .string=>P.cellsOf t == 1
  | some (.slice e)=>Gz P n e&&P.cellsOf e != 0&&P.cellsOf t == 1
  | some (.struct fs)=>Ho P 0 fs.toList (P.cellsOf t)&&fs.toList.all fun f=>Gz P n f.type
  | _=>false
section
variable {P:Program} {H:Type} {enc:TypeId×Value→H} {w:World} {sp:Nat→Bool} {held:Bool}
theorem MZ {F:Nat→Prop}:∀{fs:List Field} {o:Nat} {cs:List Value} {ls:List (List D)},Ho P o fs cs.length=true→ls.length=fs.length →
  (∀(j:Nat) f x,fs[j]? = some f→ls[j]? = some x→x.length=((cs.drop f.offset).take (P.cellsOf f.type)).length∧((cs.drop f.offset).take (P.cellsOf f.type)).length=P.cellsOf f.type ∧
   ∀(i:Nat) c u,x[i]? = some c→((cs.drop f.offset).take (P.cellsOf f.type))[i]? = some u→RD F w c u) →
  ls.flatten.length=(cs.drop o).length∧∀(i:Nat) c u,ls.flatten[i]? = some c→(cs.drop o)[i]? = some u→RD F w c u
 | [],o,cs,ls,ht,hl,h=>by
  simp only [Ho,beq_iff_eq] at ht
  cases ls with
  | nil=>exact ⟨by simp [ht],fun i c u h=>by simp at h⟩
  | cons x r=>simp at hl
 | f::fs,o,cs,ls,ht,hl,h=>by
  simp only [Ho,Bool.and_eq_true,beq_iff_eq] at ht
  cases ls with
  | nil=>simp at hl
  | cons x r =>
   obtain ⟨h1,h2⟩:=MZ (F:=F) (ls:=r) ht.2 (by simpa using hl) fun j f' x' hf hx=>h (j+1) f' x' (by simpa using hf) (by simpa using hx)
   obtain ⟨g1,g2,g3⟩:=h 0 f x rfl rfl
   rw [ht.1] at g1 g2 g3
   rw [g2] at g1
   have hlt:o+P.cellsOf f.type≤cs.length∨P.cellsOf f.type=0:=by
    simp only [List.length_take,List.length_drop] at g2
    omega
   simp only [List.length_drop] at h1
   refine ⟨?_,fun i c u hc hu=>?_⟩
   ·simp only [List.flatten_cons,List.length_append,List.length_drop,g1,h1]
    omega
   ·simp only [List.flatten_cons] at hc
    by_cases hi:i<x.length
    ·rw [List.getElem?_append_left hi] at hc
     refine g3 i c u hc ?_
     rw [List.getElem?_take_of_lt (by omega)]
     exact hu
    ·rw [List.getElem?_append_right (by omega)] at hc
     refine h2 (i-x.length) c u hc ?_
     rw [List.getElem?_drop] at hu ⊢
     rw [←hu]
     congr 1
     omega
theorem W2 {a:Addr} {v:Value} (h:w.cell? a=some v):a.block<w.heap.size∧a.spot=none:=by
 unfold World.cell? at h
 split at h
 ·next e =>
  refine ⟨(Array.getElem?_eq_some_iff.1 e).1,?_⟩
  split at h
  ·cases h
  ·next hs=>simpa using hs
 ·cases h
theorem Kn:∀(n:Nat) (fuel:Nat) (t:TypeId) (cs:List Value) (x:_root_.Go.DataW H×List MemPlace),Gz P n t=true→_root_.Go.DataW.trod enc P w 0 sp held fuel t cs=some x →
  ∃l,EL P n t l∧l.length=cs.length∧cs.length=P.cellsOf t∧∀(j:Nat) c u,l[j]? = some c→cs[j]? = some u→RD (fun b=>b<w.heap.size) w c u
 | 0,fuel,t,cs,x,hr,h=>by cases hr
 | n+1,fuel,t,cs,x,hr,h=>by
  unfold Gz at hr
  unfold EL
  have one:∀(d:D) (v:Value),P.cellsOf t=1→cs=[v]→RD (fun b=>b<w.heap.size) w d v→([d]:List D).length=cs.length∧cs.length=P.cellsOf t∧∀(j:Nat) c u,[d][j]? = some c→cs[j]? = some u→RD (fun b=>b<w.heap.size) w c u:=fun d v hlen e hd=>by
   refine ⟨by rw [e]; rfl,by rw [e,hlen]; rfl,fun j c u h1 h2=>?_⟩
   rw [e] at h2
   cases j with
   | zero=>simp at h1 h2; subst h1; subst h2; exact hd
   | succ j=>simp at h1
  split at hr
  ·next hu =>
   obtain ⟨b,hcs,hx⟩:=_root_.Go.DataW.trod_bool hu h
   try rw [hu]
   exact ⟨[.bool b],⟨b,rfl⟩,one _ _ (by simpa using hr) hcs (.bool b)⟩
  ·next k hu =>
   obtain ⟨z,hcs,hx,hw⟩:=_root_.Go.DataW.trod_int hu h
   try rw [hu]
   exact ⟨[.int k z],⟨z,rfl,hw⟩,one _ _ (by simpa using hr) hcs (.int k z)⟩
  ·next hu =>
   obtain ⟨s,hcs,hx,hw⟩:=_root_.Go.DataW.trod_string hu h
   try rw [hu]
   exact ⟨[.str s],⟨s,rfl,hw⟩,one _ _ (by simpa using hr) hcs (.str s)⟩
  ·next e hu =>
   simp only [Bool.and_eq_true,bne_iff_ne,ne_eq,beq_iff_eq] at hr
   try rw [hu]
   rcases _root_.Go.DataW.trod_slice hu h with ⟨hcs,hx⟩ | ⟨a,len,cap,elems,rest,m,_,hcs,hx,hb,hl,hm,hel,hat,hsp,hns⟩
   ·exact ⟨[.sl (P.cellsOf e) []],⟨[],rfl,by simp,by simp⟩,one _ _ hr.2 hcs (.nil _ _ _)⟩
   ·-- each element's cells,and what they read as
    have each:∀i,i<len→∃(us:List Value) (l:List D),us.length=P.cellsOf e∧l.length=P.cellsOf e∧EL P n e l∧(∀j u,us[j]? = some u→w.cell? ((a.add (i*P.cellsOf e)).add j)=some u) ∧
      ∀(j:Nat) c u,l[j]? = some c→us[j]? = some u→RD (fun b=>b<w.heap.size) w c u:=fun i hi=>by
     have h1:=hat i hi
     rw [List.getElem?_eq_getElem (by omega)] at h1
     rw [Option.bind_eq_some_iff] at h1
     obtain ⟨us,h2,h3⟩:=h1
     obtain ⟨l,g1,g2,g3,g4⟩:=Kn n m e us _ hr.1.1 h3
     refine ⟨us,l,g3,by omega,g1,fun j u hj=>?_,g4⟩
     have hjl:=(List.getElem?_eq_some_iff.1 hj).1
     obtain ⟨k1,k2,k3⟩:=World.cells?_some h2
     have:=k3 j (by omega)
     rw [this]
     exact hj
    have hch:∃f:Nat→List Value×List D,∀i,i<len→(f i).1.length=P.cellsOf e∧(f i).2.length=P.cellsOf e∧EL P n e (f i).2∧(∀j u,(f i).1[j]? = some u→w.cell? ((a.add (i*P.cellsOf e)).add j)=some u) ∧
      ∀(j:Nat) c u,(f i).2[j]? = some c→(f i).1[j]? = some u→RD (fun b=>b<w.heap.size) w c u:=by
     refine ⟨fun i=>if hi:i<len then (⟨(each i hi).choose,(each i hi).choose_spec.choose⟩:List Value×List D) else ([],[]),fun i hi=>?_⟩
     simp only [hi,dif_pos]
     exact (each i hi).choose_spec.choose_spec
    obtain ⟨f,hf⟩:=hch
    refine ⟨[.sl (P.cellsOf e) ((List.range len).map fun i=>(f i).2)],⟨_,rfl,by simp; omega,fun el hmem=>?_⟩,one _ _ hr.2 hcs ?_⟩
    ·obtain ⟨i,hi,rfl⟩:=List.mem_map.1 hmem
     exact (hf i (by simpa using hi)).2.2.1
    ·by_cases h0:len=0
     ·subst h0
      exact .nil _ _ _
     ·obtain ⟨z1,z2,z3,z4,z5⟩:=hf 0 (by omega)
      have hz:∃u,(f 0).1[0]? = some u:=⟨_,List.getElem?_eq_getElem (by omega)⟩
      obtain ⟨u0,hu0⟩:=hz
      have hbl:=W2 (z4 0 u0 hu0)
      rw [Nat.zero_mul,show ∀x:Addr,x.add 0=x from fun x=>rfl,show ∀x:Addr,x.add 0=x from fun x=>rfl] at hbl
      have ha:a=⟨a.block,a.off,none⟩:=by
       obtain ⟨ab,ao,as⟩:=a
       have:=hbl.2
       simp only at this
       rw [this]
      have hblk:a.block<w.heap.size:=hbl.1
      have hpos:0<P.cellsOf e:=by omega
      have key:=RD.sl (F:=fun b=>b<w.heap.size) (w:=w) (P.cellsOf e) ((List.range len).map fun i=>(f i).2) a.block a.off cap (fun k=>(f (k / P.cellsOf e)).1.getD (k % P.cellsOf e) Go.undef) hblk (by simp; omega)
       (fun el hmem=>by obtain ⟨i,hi,rfl⟩:=List.mem_map.1 hmem; exact (hf i (by simpa using hi)).2.1)
       (fun i j el c hi hj=>by
        simp only [List.getElem?_map,Option.map_eq_some_iff] at hi
        obtain ⟨i',hi',rfl⟩:=hi
        have hlt:i<len:=by
         have:=(List.getElem?_eq_some_iff.1 hi').1
         simpa using this
        have:i'=i:=by
         rw [List.getElem?_range hlt] at hi'
         exact (Option.some.inj hi').symm
        subst this
        obtain ⟨y1,y2,y3,y4,y5⟩:=hf i' hlt
        have hjl:j<P.cellsOf e:=by rw [←y2]; exact (List.getElem?_eq_some_iff.1 hj).1
        have e1:(i'*P.cellsOf e+j) / P.cellsOf e=i':=by
         rw [Nat.mul_comm,Nat.mul_add_div hpos,Nat.div_eq_of_lt hjl,Nat.add_zero]
        have e2:(i'*P.cellsOf e+j) % P.cellsOf e=j:=by
         rw [Nat.mul_comm,Nat.mul_add_mod,Nat.mod_eq_of_lt hjl]
        have hu:(f i').1[j]? = some ((f i').1.getD j Go.undef):=by
         rw [List.getD_eq_getElem?_getD,List.getElem?_eq_getElem (by omega)]
         rfl
        have:=y4 j _ hu
        rw [ha] at this
        rw [FE,FE] at this
        simp only [e1,e2]
        rw [←this,Nat.add_assoc])
       (fun i j el c hi hj=>by
        simp only [List.getElem?_map,Option.map_eq_some_iff] at hi
        obtain ⟨i',hi',rfl⟩:=hi
        have hlt:i<len:=by
         have:=(List.getElem?_eq_some_iff.1 hi').1
         simpa using this
        have:i'=i:=by
         rw [List.getElem?_range hlt] at hi'
         exact (Option.some.inj hi').symm
        subst this
        obtain ⟨y1,y2,y3,y4,y5⟩:=hf i' hlt
        have hjl:j<P.cellsOf e:=by rw [←y2]; exact (List.getElem?_eq_some_iff.1 hj).1
        have e1:(i'*P.cellsOf e+j) / P.cellsOf e=i':=by
         rw [Nat.mul_comm,Nat.mul_add_div hpos,Nat.div_eq_of_lt hjl,Nat.add_zero]
        have e2:(i'*P.cellsOf e+j) % P.cellsOf e=j:=by
         rw [Nat.mul_comm,Nat.mul_add_mod,Nat.mod_eq_of_lt hjl]
        simp only [e1,e2]
        refine y5 j c _ hj ?_
        rw [List.getD_eq_getElem?_getD,List.getElem?_eq_getElem (by omega)]
        rfl)
      rw [←ha] at key
      simpa using key
  ·next fs hu =>
   simp only [Bool.and_eq_true,List.all_eq_true] at hr
   try rw [hu]
   obtain ⟨xs,m,_,hx,hl,hxl,hf⟩:=_root_.Go.DataW.trod_struct hu h
   have each:∀j,j<fs.size→∃l f,fs[j]? = some f∧EL P n f.type l∧l.length=((cs.drop f.offset).take (P.cellsOf f.type)).length∧((cs.drop f.offset).take (P.cellsOf f.type)).length=P.cellsOf f.type ∧
     ∀(i:Nat) c u,l[i]? = some c→((cs.drop f.offset).take (P.cellsOf f.type))[i]? = some u→RD (fun b=>b<w.heap.size) w c u:=fun j hj=>by
    obtain ⟨f,hfj⟩:∃f,fs[j]? = some f:=⟨_,Array.getElem?_eq_getElem hj⟩
    have h1:=hf j f hfj
    rw [List.getElem?_eq_getElem (by omega)] at h1
    obtain ⟨l,g1,g2,g3,g4⟩:=Kn n m f.type _ _ (hr.2 f (by simpa using Array.mem_of_getElem? hfj)) h1
    exact ⟨l,f,hfj,g1,g2,g3,g4⟩
   have hch:∃g:Nat→List D,∀j f,fs[j]? = some f→EL P n f.type (g j)∧(g j).length=((cs.drop f.offset).take (P.cellsOf f.type)).length∧((cs.drop f.offset).take (P.cellsOf f.type)).length=P.cellsOf f.type ∧
     ∀(i:Nat) c u,(g j)[i]? = some c→((cs.drop f.offset).take (P.cellsOf f.type))[i]? = some u→RD (fun b=>b<w.heap.size) w c u:=by
    refine ⟨fun j=>if hj:j<fs.size then (each j hj).choose else [],fun j f hj=>?_⟩
    have hlt:j<fs.size:=(Array.getElem?_eq_some_iff.1 hj).1
    simp only [hlt,dif_pos]
    obtain ⟨f',h1,h2⟩:=(each j hlt).choose_spec
    rw [hj] at h1; cases h1
    exact h2
   obtain ⟨g,hg⟩:=hch
   have hget:∀(j:Nat) x,((List.range fs.size).map g)[j]? = some x→x=g j:=fun j x hx=>by
    simp only [List.getElem?_map,Option.map_eq_some_iff] at hx
    obtain ⟨i',hi',rfl⟩:=hx
    have hlt:j<fs.size:=by
     have:=(List.getElem?_eq_some_iff.1 hi').1
     simpa using this
    rw [List.getElem?_range hlt] at hi'
    cases hi'
    rfl
   obtain ⟨k1,k2⟩:=MZ (P:=P) (F:=fun b=>b<w.heap.size) (w:=w) (fs:=fs.toList) (o:=0) (cs:=cs) (ls:=(List.range fs.size).map g) (by rw [hl]; exact hr.1) (by simp) fun j f x hj hx=>by
    rw [hget j x hx]
    exact (hg j f (by simpa using hj)).2
   refine ⟨((List.range fs.size).map g).flatten,⟨_,rfl,by simp,fun j f x hj hx=>?_⟩,by simpa using k1,hl,fun j c u h1 h2=>k2 j c u h1 (by simpa using h2)⟩
   rw [hget j x hx]
   exact (hg j f hj).1
  ·cases hr
def Hn:List D→AV
 | [x]=>.d x
 | _=>.undef
def Fh (P:Program) (t:TypeId) (l:List D):AV :=
 match P.underlying t with
 | some (.struct _)=>.agg (mapD l)
 | _=>Hn l
theorem UJ {n:Nat} {t:TypeId} {v:Value} {d:_root_.Go.DataW H} {ps:List MemPlace} (hr:Gz P n t=true) (hv:Value.okWide P w .any 0 t v) (h:_root_.Go.DataW.Trod enc P w 0 sp held t v d ps) :
  ∃l,EL P n t l∧VR P (fun b=>b<w.heap.size) w (Fh P t l) v:=by
 obtain ⟨fuel,h⟩:=h
 obtain ⟨l,h1,h2,h3,h4⟩:=Kn n fuel t _ _ hr h
 refine ⟨l,h1,?_⟩
 cases n with
 | zero=>cases hr
 | succ n =>
  unfold Gz at hr
  unfold Value.okWide at hv
  unfold EL at h1
  unfold Fh
  have one:∀d:D,(∀cs,v≠.agg cs)→l=[d]→VR P (fun b=>b<w.heap.size) w (Hn l) v:=fun d hv hl=>by
   subst hl
   have e:v.cells = #[v]:=by cases v <;> first | rfl | exact absurd rfl (hv _)
   rw [e] at h4
   exact .d _ _ (h4 0 d v rfl rfl)
  split at hr
  ·next hu =>
   try rw [hu] at hv
   try rw [hu] at h1
   try rw [hu]
   obtain ⟨b,hl⟩:=h1
   exact one _ (fun cs e=>by subst e; simp [Cell.okWide,Cell.ok,hu] at hv) hl
  ·next k hu =>
   try rw [hu] at hv
   try rw [hu] at h1
   try rw [hu]
   obtain ⟨b,hl,_⟩:=h1
   exact one _ (fun cs e=>by subst e; simp [Cell.okWide,Cell.ok,hu] at hv) hl
  ·next hu =>
   try rw [hu] at hv
   try rw [hu] at h1
   try rw [hu]
   obtain ⟨b,hl,_⟩:=h1
   exact one _ (fun cs e=>by subst e; simp [Cell.okWide,Cell.ok,hu] at hv) hl
  ·next e hu =>
   try rw [hu] at hv
   try rw [hu] at h1
   try rw [hu]
   obtain ⟨b,hl,_⟩:=h1
   exact one _ (fun cs e=>by subst e; simp [Cell.okWide,Cell.ok,hu] at hv) hl
  ·next fs hu =>
   try rw [hu] at hv
   try rw [hu]
   obtain ⟨cs,rfl,hsz,_⟩:=hv
   obtain ⟨cs⟩:=cs
   dsimp only
   have:(Value.agg ⟨cs⟩).cells.toList=cs:=rfl
   rw [this] at h2 h3 h4
   have hvr:=VRL.mapD (P:=P) (F:=fun b=>b<w.heap.size) (w:=w) (el:=l) (us:=cs) h2 h4
   refine .agg _ cs hvr.1 hvr.2 fun u hu=>?_
   obtain ⟨j,hj⟩:=List.getElem?_of_mem hu
   have hlt:=(List.getElem?_eq_some_iff.1 hj).1
   exact (h4 j _ u (List.getElem?_eq_getElem (by omega)) hj).one
  ·cases hr
def TypedL (P:Program) (n:Nat):List TypeId→List (List D)→Prop
 | [],[]=>True
 | t::ts,l::ls=>EL P n t l∧TypedL P n ts ls
 | _,_=>False
def argsAV (P:Program):List TypeId→List (List D)→List AV
 | t::ts,l::ls=>Fh P t l::argsAV P ts ls
 | _,_=>[]
def J2 (P:Program) (n:Nat) (t:TypeId):Bool:=Gz P n t&&P.readableRec t&&decide (t<P.types.size)
theorem K5 {n:Nat} (hl:laidOutB P=true):∀{ts:List TypeId} {vs:List Value} {ds:List (_root_.Go.DataW H)} {ps:List MemPlace},ts.all (J2 P n)=true→(∀(j:Nat) t v,ts[j]? = some t→vs[j]? = some v→Value.okWide P w .any 0 t v) →
  _root_.Go.DataW.TrodAll enc P w 0 (fun _=>true) true ts vs ds ps →
  (∃ls,TypedL P n ts ls∧VRL P (fun b=>b<w.heap.size) w (argsAV P ts ls) vs)∧∀w',Below w.heap.size w w'→∃pa,_root_.Go.DataW.TrodAll enc P w' 0 (fun b=>decide (b<w.heap.size)) true ts vs ds pa
 | [],vs,ds,ps,hp,hv,h=>by
  obtain ⟨rfl,rfl,rfl⟩:=trodAll_nil h
  exact ⟨⟨[],trivial,.nil⟩,fun w' _=>⟨[],rfl⟩⟩
 | t::ts,vs,ds,ps,hp,hv,h=>by
  obtain ⟨v0,vs0,d0,ds0,p0,q0,rfl,rfl,rfl,h0,r0⟩:=trodAll_cons h
  simp only [List.all_cons,Bool.and_eq_true] at hp
  obtain ⟨⟨ls,h1,h2⟩,h3⟩:=K5 hl hp.2 (fun j t v h1 h2=>hv (j+1) t v (by simpa using h1) (by simpa using h2)) r0
  have hp1:=hp.1
  simp only [J2,Bool.and_eq_true,decide_eq_true_eq] at hp1
  obtain ⟨l,g1,g2⟩:=UJ hp1.1.1 (hv 0 t v0 rfl rfl) h0
  refine ⟨⟨l::ls,⟨g1,h1⟩,.cons g2 h2⟩,fun w' hb=>?_⟩
  obtain ⟨pa,h4⟩:=h3 w' hb
  obtain ⟨fuel,h0'⟩:=h0
  exact ⟨_,trodAll_cons_mk (Below.trod hl hp1.1.2 hp1.2 ⟨fuel,h0'⟩ hb fun x hx=>_root_.Go.DataW.trod_lt _ _ _ _ h0' x hx) h4⟩
theorem Step.below {F F':Nat→Prop} {H':Heap} {w':World} (h:Step F Heap.none w F' H' w'):Below w.heap.size w w' :=
 ⟨h.os,h.tape,h.output,h.size,fun k hk=>h.keep k hk rfl⟩
theorem law_calls {fid:FuncId} {f:Func} {s:ChangeSpec} {args:Array Value} {ds gs:List (_root_.Go.DataW H)} {before:List MemPlace} {n:Nat} {tb:TypeId} (hvars:s.vars=[]) (hres:f.resultTypes = #[tb]) (htb:P.underlying tb=some .bool)
  (hspec:∀ds:List (_root_.Go.DataW H),ds.length=f.params.size→s.fn H ds={ results:=[.lit (.bool true)],args:=ds }) (hl:laidOutB P=true) (hok:f.params.toList.all (J2 P n)=true)
  (hval:∀(j:Nat) t v,f.params[j]? = some t→args[j]? = some v→Value.okWide P w .any 0 t v)
  (hW:_root_.Go.DataW.Whole enc P f.params.toList s.vars false w args.toList ds gs before)
  (hlaw:∀ls,TypedL P n f.params.toList ls→CallW P fid (argsAV P f.params.toList ls) Heap.none fun r _=>r = .d (.bool true)) :
  Calls P fid args w fun e W'=>∃v,e = .returned v∧s.post enc P f false true false false w args v W':=by
 have hW':=hW
 obtain ⟨p,q,hA,hV,rfl,hfz,hnd⟩:=hW
 rw [hvars] at hV
 obtain ⟨rfl,rfl⟩:=trodVars_none hV
 obtain ⟨⟨ls,h1,h2⟩,h3⟩:=K5 hl hok (fun j t v g1 g2=>hval j t v (by simpa using g1) (by simpa using g2)) hA
 have hlen:ds.length=f.params.size:=by
  have:=(_root_.Go.trodAll_length hA).2
  simpa using this
 refine (hlaw ls h1 _ w args.toList ⟨fun b x hb=>(by cases hb),fun b x hb=>(by cases hb),fun b hb=>hb⟩ h2).mono fun e W' hh=>?_
 obtain ⟨r,H',F',v,rfl,hv,_,hst,rfl⟩:=hh
 cases hv; next hv =>
 cases hv
 obtain ⟨pa,h4⟩:=h3 W' hst.below
 have hs:=hspec ds hlen
 refine ⟨_,rfl,ds,[],p++[],[],pa,[],hW',?_,?_,?_,hst.below.frame _,fun h=>by cases h⟩
 ·rw [List.append_nil,hs,hres]
  exact trodAll_mk1 (shut_bool htb _)
 ·rw [List.append_nil,hs]
  exact h4
 ·rw [List.append_nil,hs,hvars]
  rfl
end
abbrev i64 (n:Int):AV:=.d (.int .i64 n)
abbrev u64 (n:Int):AV:=.d (.int .u64 n)
abbrev bv (b:Bool):AV:=.d (.bool b)
def Fit (n:Int):Prop:=-9223372036854775808≤n∧n≤9223372036854775807
instance (n:Int):Decidable (Fit n):=by unfold Fit; exact inferInstance
theorem Pv {n:Int} (h:(Lit.int .i64 n).wf=true):Fit n:=by
 simp only [Lit.wf,Bool.and_eq_true,decide_eq_true_eq,IntKind.min,IntKind.max,IntKind.signed,IntKind.bits] at h
 unfold Fit
 constructor
 ·have:=h.1; simp at this; omega
 ·have:=h.2; simp at this; omega
theorem Bh {n:Nat} {t:TM} {H:Heap}:(St.mk n t H).n=n:=(rfl)
theorem A1 {n:Nat} {t:TM} {H:Heap}:(St.mk n t H).t=t:=(rfl)
theorem DG {n:Nat} {t:TM} {H:Heap}:(St.mk n t H).H=H:=(rfl)
theorem A5 {n:Nat} {r:List ARes} {b:ACode}:(AFunc.mk n r b).n=n:=(rfl)
theorem Bq {n:Nat} {r:List ARes} {b:ACode}:(AFunc.mk n r b).results=r:=(rfl)
theorem B1 {n:Nat} {r:List ARes} {b:ACode}:(AFunc.mk n r b).body=b:=(rfl)
theorem Cq {α β:Type} {a : α} {b : β}:(Prod.mk a b).fst=a:=(rfl)
theorem Bi {α β:Type} {a : α} {b : β}:(Prod.mk a b).snd=b:=(rfl)
theorem Dw {i:Nat} {v:AV} {l:List (Nat×AV)} {n:Nat}:Fl ((i,v)::l) n=bif i == n then v else Fl l n:=rfl
theorem B7 {n:Nat}:Fl [] n = .undef:=rfl
def KO (g:Option Nat) (x:Option Blk) (off:Nat) (K:AV→Prop):Prop:=match x with
 | some (.box _ cells)=>match g with
  | none=>VC (off<AM cells) (K (nth cells off))
  | some n=>VC (off+n≤AM cells) (K (.agg (seg cells off n)))
 | _=>False
theorem A2 {g:Option Nat} {b off:Nat} {H:Heap} {K:AV→Prop}:EW g (.ptr b off) H K=KO g (H b) off K:=rfl
theorem B0 {t:TypeId} {cells:List AV} {off:Nat} {K:AV→Prop}:KO none (some (.box t cells)) off K=VC (off<AM cells) (K (nth cells off)):=rfl
theorem DD {n:Nat} {t:TypeId} {cells:List AV} {off:Nat} {K:AV→Prop}:KO (some n) (some (.box t cells)) off K=VC (off+n≤AM cells) (K (.agg (seg cells off n))):=rfl
def Rq (j:IntKind) (a b:Int):Int:=j.wrap (BitVec.ofInt j.bits a &&& BitVec.ofInt j.bits b).toNat
def Sf (j:IntKind) (a b:Int):Int:=j.wrap (BitVec.ofInt j.bits a ||| BitVec.ofInt j.bits b).toNat
def Vq (j:IntKind) (a b:Int):Int:=j.wrap (BitVec.ofInt j.bits a ^^^ BitVec.ofInt j.bits b).toNat
def KC (P:Program) (Q:Out→St→Prop) (g:Option Nat) (p:AV) (d:Option Nat) (l:List AO) (k:List Item) (s:St):Prop:=match p with
 | .ptr b off=>Fo P Q g (.ptr b off) d l k s
 | _=>False
section
variable {P:Program} {Q:Out→St→Prop} {k:List Item} {s:St} {d:Option Nat} {l:List AO}
theorem Ct {j:IntKind} {a b:Int}:EJ P Q .and (.d (.int j a)) (.d (.int j b)) d l k s=AF P Q l k (AD s d (.d (.int j (Rq j a b))) s.H):=Rx
theorem BZ {j:IntKind} {a b:Int}:EJ P Q .or (.d (.int j a)) (.d (.int j b)) d l k s=AF P Q l k (AD s d (.d (.int j (Sf j a b))) s.H):=Nu
theorem Bx {j:IntKind} {a b:Int}:EJ P Q .xor (.d (.int j a)) (.d (.int j b)) d l k s=AF P Q l k (AD s d (.d (.int j (Vq j a b))) s.H):=PV
theorem E2 {p X:Prop} (h1:p) (h2:p→X):VC p X:=⟨h1,h2 h1⟩
theorem Eb {f:FuncId} {args:List AV} {r:AV} (h:DataW P f args r) (hk:AF P Q l k (AD s d r s.H)):GF P Q f args d l k s :=
 L6 h (LendL.refl _) hk
theorem Kl {f:FuncId} {args args':List AV} {r:AV} (h:DataW P f args' r) (hl:LendL s.H args args') (hs:G4 r=true) (hk:AF P Q l k (AD s d r s.H)):GF P Q f args d l k s :=
 Lq h hl hs hk
theorem E5 {f:FuncId} {args:List AV} {r:AV} (h:DataW P f args r) (hk:AF P Q l k (AD s d r s.H)):JB P Q f args d l k s :=
 ⟨args,r,LendL.refl _,.inr (.inl (LendL.refl _)),h,hk⟩
theorem Q1 {f:FuncId} {args args':List AV} {r:AV} (h:NewW P f args' r) (hl:LendL s.H args args') (hk:AF P Q l k (AD s d r s.H)):GF P Q f args d l k s :=
 Lt h hl hk
theorem Gi {f:FuncId} {args:List AV} {K:AV→Heap→Prop} (h:CallW P f args s.H K) (hk:∀r H',K r H'→AF P Q l k (AD s d r H')):GF P Q f args d l k s :=
 CallW.mono h hk
theorem Bt {H:Heap} {b:Nat} {x y:Option Blk}:AH (AH H b x) b y=AH H b y:=by
 funext k; simp only [AK]; split <;> rfl
def Gy (x:Blk) (sz len:Nat) (d:Option Nat) (l:List AO) (k:List Item) (s:St) (P:Program) (Q:Out→St→Prop):Prop:=∀b,s.H b=none→AF P Q l k (AD s d (.own b sz 0 len len) (AH s.H b (some x)))
def Jy (c:Option (List AV)) (e:TypeId) (sz len:Nat) (d:Option Nat) (l:List AO) (k:List Item) (s:St) (P:Program) (Q:Out→St→Prop):Prop:=match c with
 | some cs=>Ac s.H cs fun ds H'=>Gy (.row e sz len (AY sz len ds)) sz len d l k ⟨s.n,s.t,H'⟩ P Q
 | none=>False
theorem PI {s:St} {H':Heap} {d:Option Nat} {v:AV} {H:Heap}:AD ⟨s.n,s.t,H'⟩ d v H=AD s d v H:=by cases d <;> rfl
theorem Cg {e:TypeId} {sz len:Nat} {z:List AV} {ps:List (Nat×Opd)}:AF P Q (⟨d,none,.buildSlice e sz len z ps⟩::l) k s=Jy (AZ (Aa z len) (AX s.t sz ps)) e sz len d l k s P Q:=by
 rw [E0]
 simp only [AI,Jy,Gy,PI]
 cases AZ (Aa z len) (AX s.t sz ps) <;> rfl
theorem Co {cs:List AV} {e:TypeId} {sz len:Nat}:Jy (some cs) e sz len d l k s P Q=Ac s.H cs fun ds H'=>Gy (.row e sz len (AY sz len ds)) sz len d l k ⟨s.n,s.t,H'⟩ P Q:=rfl
def It (c:Option (List AV)) (e:TypeId) (sz len:Nat) (d:Option Nat) (l:List AO) (k:List Item) (s:St) (P:Program) (Q:Out→St→Prop):Prop:=(Fk s.H→(Fy sz len c).isSome=true) ∧
    ∀b,s.H b=none→∀xs,Fy sz len c=some xs→AF P Q l k (AD s d (.own b sz 0 len len) (AH s.H b (some (.row e sz len xs))))
theorem CO {e:TypeId} {sz len:Nat} {z:List AV} {ps:List (Nat×Opd)}:AF P Q (⟨d,none,.buildSliceD e sz len z ps⟩::l) k s=It (AZ (Aa z len) (AX s.t sz ps)) e sz len d l k s P Q:=rfl
theorem NK {cs:List AV} {e:TypeId} {sz len:Nat} {ds:List D} (h:ET cs=some ds):It (some cs) e sz len d l k s P Q=Gy (.row e sz len (AY sz len ds)) sz len d l k s P Q:=by
 have e:Fy sz len (some cs)=some (AY sz len ds):=by simp only [Fy,h]
 unfold It Gy
 rw [e]
 exact propext ⟨fun h b hb=>h.2 b hb _ rfl,fun h=>⟨fun _=>rfl,fun b hb xs hx=>by cases hx; exact h b hb⟩⟩
theorem FH {x:Blk} {sz len:Nat} (h:∀b,s.H b=none→AF P Q l k (AD s d (.own b sz 0 len len) (AH s.H b (some x)))):Gy x sz len d l k s P Q:=h
def In (xs:List (List D)) (i:Nat) (g:Option Nat) (j:Nat) (d:Option Nat) (l:List AO) (k:List Item) (s:St) (P:Program) (Q:Out→St→Prop):Prop:=∃el,xs[i]? = some el∧(match g with
 | none=>VC (j<el.length) (AF P Q l k (AD s d (nth (mapD el) j) s.H))
 | some n=>VC (j+n≤el.length) (AF P Q l k (AD s d (.agg (seg (mapD el) j n)) s.H)))
def HN (g:Option Nat) (x:Option Blk) (sz i j:Nat) (d:Option Nat) (l:List AO) (k:List Item) (s:St) (P:Program) (Q:Out→St→Prop):Prop:=match x with
 | some (.row _ sz' _ xs)=>VC (sz=sz') (In xs i g j d l k s P Q)
 | some (.box _ cells)=>match g with
  | none=>VC (i*sz+j<AM cells) (AF P Q l k (AD s d (nth cells (i*sz+j)) s.H))
  | some n=>VC (i*sz+j+n≤AM cells) (AF P Q l k (AD s d (.agg (seg cells (i*sz+j) n)) s.H))
 | _=>False
theorem CR {g:Option Nat} {b sz i j:Nat}:Fo P Q g (.eptr b sz i j) d l k s=HN g (s.H b) sz i j d l k s P Q:=by
 simp only [Fo,EW,HN,In,Fs,VC]
 cases s.H b with
 | none=>rfl
 | some x =>
  cases x with
  | box t cells=>cases g <;> rfl
  | obj o ts us=>rfl
  | row t sz' cap xs =>
   dsimp only
   refine propext (and_congr_right fun _=>⟨fun ⟨_,el,h1,h2⟩=>⟨el,by simpa using h1,by cases g <;> exact h2⟩,fun ⟨el,h1,h2⟩=>⟨by omega,el,by simpa using h1,by cases g <;> exact h2⟩⟩)
theorem P3 {t:TypeId} {sz i j:Nat} {cells:List AV} (h:i*sz+j<AM cells) (hk:AF P Q l k (AD s d (nth cells (i*sz+j)) s.H)):HN none (some (.box t cells)) sz i j d l k s P Q:=⟨h,hk⟩
theorem DF {g:Option Nat} {t:TypeId} {sz cap i j:Nat} {xs:List (List D)}:HN g (some (.row t sz cap xs)) sz i j d l k s P Q=In xs i g j d l k s P Q:=by simp [HN,VC]
theorem Hc {xs:List (List D)} {i j:Nat} (el:List D) (h:xs[i]? = some el) (hj:j<el.length) (hk:AF P Q l k (AD s d (nth (mapD el) j) s.H)):In xs i none j d l k s P Q:=⟨el,h,hj,hk⟩
theorem Es {xs:List (List D)} {i:Int} (el:List D) (h0:0≤i) (h:xs[i.toNat]? = some el) (hk:AF P Q l k (AD s d (.dptr el 0) s.H)):KE P Q xs i d l k s:=⟨h0,el,h,hk⟩
def Ft (e:TypeId) (sz bytes:Nat) (z:List AV) (v x:AV) (d:Option Nat) (l:List AO) (k:List Item) (s:St) (P:Program) (Q:Out→St→Prop):Prop:=Eu s.H x fun sz' ys=>(ys=[]∧z.length=sz∧match v with
 | .nilsl n=>AF P Q l k (AD s d (.nilsl n) s.H)
 | .own b n off len cap=>AF P Q l k (AD s d (.own b n off len cap) s.H)
 | _=>False)∨VC (sz'=sz∧ys≠[]∧z.length=sz) (
 match v with
 | .nilsl _=>VC (ys.length*bytes≤140737488355328∧ys.length≤maxLen) (∀b,s.H b=none→∀cap,AF P Q l k (AD s d (.own b sz 0 ys.length cap) (AH s.H b (some (.row e sz cap ys)))))
 | .own b sz'' off len cap=>match s.H b with
  | some (.row e' sz''' cap'' xs)=>VC (e'=e∧sz''=sz∧sz'''=sz∧off=0∧cap=cap''∧len=xs.length∧(xs.length+ys.length)*bytes≤140737488355328∧xs.length+ys.length≤maxLen)
    (∀b' cap',AH s.H b none b'=none→AF P Q l k (AD s d (.own b' sz 0 (len+ys.length) cap') (AH (AH s.H b none) b' (some (.row e sz cap' (xs++ys))))))
  | _=>False
 | .part b sz'' off len cap=>match s.H b with
  | some (.row e' sz''' cap'' xs)=>VC (e'=e∧sz''=sz∧sz'''=sz∧off=0∧(cap=0→len=0)∧cap<len+ys.length∧len≤xs.length∧(len+ys.length)*bytes≤140737488355328∧len+ys.length≤maxLen)
    (∀b' cap',AH s.H b none b'=none→AF P Q l k (AD s d (.own b' sz 0 (len+ys.length) cap') (AH (AH s.H b none) b' (some (.row e sz cap' (xs.take len++ys))))))
  | _=>False
 | _=>False)
theorem Cc {e:TypeId} {sz bytes:Nat} {z:List AV} {v x:Opd}:AF P Q (⟨d,none,.append e sz bytes z v x⟩::l) k s=Ft e sz bytes z (ev s.t v) (ev s.t x) d l k s P Q:=rfl
theorem QW {e t:TypeId} {sz bytes n c len capc capx:Nat} {z:List AV} {ys:List (List D)} (hx:s.H c=some (.row t sz capc ys)) (hlen:len=ys.length) (hne:ys≠[]) (hz:z.length=sz) (hb:ys.length*bytes≤140737488355328∧ys.length≤maxLen)
  (hk:∀b,s.H b=none→∀cap,AF P Q l k (AD s d (.own b sz 0 ys.length cap) (AH s.H b (some (.row e sz cap ys))))):Ft e sz bytes z (.nilsl n) (.own c sz 0 len capx) d l k s P Q:=by
 simp only [Ft,Eu,hx]
 exact ⟨⟨trivial,trivial,hlen⟩,.inr ⟨⟨trivial,hne,hz⟩,hb,hk⟩⟩
theorem UK {e t:TypeId} {sz bytes b c len cap lenb capc capx:Nat} {z:List AV} {xs ys:List (List D)} (hb:s.H b=some (.row e sz cap xs)) (hx:s.H c=some (.row t sz capc ys)) (hlb:lenb=xs.length) (hlen:len=ys.length) (hne:ys≠[]) (hz:z.length=sz) (hbd:(xs.length+ys.length)*bytes≤140737488355328∧xs.length+ys.length≤maxLen)
  (hk:∀b' cap',AH s.H b none b'=none→AF P Q l k (AD s d (.own b' sz 0 (lenb+ys.length) cap') (AH (AH s.H b none) b' (some (.row e sz cap' (xs++ys)))))):Ft e sz bytes z (.own b sz 0 lenb cap) (.own c sz 0 len capx) d l k s P Q:=by
 simp only [Ft,Eu,hx,hb]
 exact ⟨⟨trivial,trivial,hlen⟩,.inr ⟨⟨trivial,hne,hz⟩,⟨trivial,trivial,trivial,trivial,trivial,hlb,hbd⟩,hk⟩⟩
theorem GA {H:Heap} {b sz cap cap' len:Nat} {t:TypeId} {xs:List (List D)} (h:H b=some (.row t sz cap' xs)) (hl:len=xs.length) (K:Nat→List (List D)→Prop):Eu H (.own b sz 0 len cap) K=K sz xs:=by
 simp [Eu,h,hl,VC]
theorem Tx {e:TypeId} {sz bytes b cap lenb:Nat} {z:List AV} {xs ys:List (List D)} {x:AV} (hx:∀K,Eu s.H x K=K sz ys) (hb:s.H b=some (.row e sz cap xs)) (hlb:lenb=xs.length) (hz:z.length=sz) (hbd:(xs.length+ys.length)*bytes≤140737488355328∧xs.length+ys.length≤maxLen)
  (h0:ys=[]→AF P Q l k (AD s d (.own b sz 0 lenb cap) s.H))
  (hk:ys≠[]→∀b' cap',AH s.H b none b'=none→AF P Q l k (AD s d (.own b' sz 0 (lenb+ys.length) cap') (AH (AH s.H b none) b' (some (.row e sz cap' (xs++ys)))))):Ft e sz bytes z (.own b sz 0 lenb cap) x d l k s P Q:=by
 unfold Ft
 rw [hx]
 simp only [hb]
 by_cases hne:ys=[]
 ·exact .inl ⟨hne,hz,h0 hne⟩
 ·exact .inr ⟨⟨trivial,hne,hz⟩,⟨trivial,trivial,trivial,trivial,trivial,hlb,hbd⟩,hk hne⟩
theorem D3 {H:Heap} {j b:Nat} {x:Option Blk} (h:¬j=b):AH H j x b=H b:=by rw [AK,if_neg h]
theorem ED {H:Heap} {b:Nat} {x:Option Blk}:AH H b x b=x:=by rw [AK,if_pos rfl]
theorem EA {H:Heap} {b k:Nat} {x:Blk} (hb:H k=none) (h:H b=some x):¬k=b∧¬b=k:=by
 refine ⟨fun e=>?_,fun e=>?_⟩
 ·subst e; rw [hb] at h; cases h
 ·subst e; rw [hb] at h; cases h
theorem GK {cs:List AV} {e:TypeId} {sz len:Nat} {ds:List D} (h:ET cs=some ds) (hk:∀b,s.H b=none→AF P Q l k (AD s d (.own b sz 0 len len) (AH s.H b (some (.row e sz len (AY sz len ds)))))):It (some cs) e sz len d l k s P Q:=by
 rw [NK h]; exact hk
def Gk (sz:Nat) (x:AV) (lo hi:Option (Option Int)) (d:Option Nat) (l:List AO) (k:List Item) (s:St) (P:Program) (Q:Out→St→Prop):Prop:=GP sz x lo hi fun v=>AF P Q l k (AD s d v s.H)
theorem Cv {sz:Nat} {x:Opd} {lo hi:Option Opd}:AF P Q (⟨d,none,.slice sz x lo hi⟩::l) k s=Gk sz (ev s.t x) (D8 (AP s.t lo)) (D8 (AP s.t hi)) d l k s P Q:=rfl
theorem Db {sz:Nat} {xs:List (List D)} {lo hi:Option Int}:Gk sz (.d (.sl sz xs)) (some lo) (some hi) d l k s P Q=VC (0≤lo.getD 0∧lo.getD 0≤hi.getD xs.length∧hi.getD xs.length≤xs.length) (AF P Q l k (AD s d (.d (.sl sz ((xs.take (hi.getD xs.length).toNat).drop (lo.getD 0).toNat))) s.H)):=by
 simp [Gk,GP,VC]
theorem Dr {sz n:Nat} {lo hi:Option Int}:Gk sz (.nilsl n) (some lo) (some hi) d l k s P Q=VC (lo.getD 0=0∧hi.getD 0=0) (AF P Q l k (AD s d (.nilsl n) s.H)):=rfl
theorem Cj {sz b off len cap:Nat} {lo hi:Option Int}:Gk sz (.own b sz off len cap) (some lo) (some hi) d l k s P Q=VC (0≤lo.getD 0∧lo.getD 0≤hi.getD len∧hi.getD len≤cap) (AF P Q l k (AD s d (.part b sz (off+(lo.getD 0).toNat) ((hi.getD len).toNat-(lo.getD 0).toNat) (cap-(lo.getD 0).toNat)) s.H)):=by
 simp [Gk,GP,VC]
theorem DS {sz b off len cap:Nat} {lo hi:Option Int}:Gk sz (.part b sz off len cap) (some lo) (some hi) d l k s P Q=VC (0≤lo.getD 0∧lo.getD 0≤hi.getD len∧hi.getD len≤cap) (AF P Q l k (AD s d (.part b sz (off+(lo.getD 0).toNat) ((hi.getD len).toNat-(lo.getD 0).toNat) (cap-(lo.getD 0).toNat)) s.H)):=by
 simp [Gk,GP,VC]
def Hh (sz:Nat) (x:AV) (lo hi mx:Option (Option Int)) (d:Option Nat) (l:List AO) (k:List Item) (s:St) (P:Program) (Q:Out→St→Prop):Prop:=Gx sz x lo hi mx fun v=>AF P Q l k (AD s d v s.H)
theorem BF {sz:Nat} {x:Opd} {lo hi mx:Option Opd}:AF P Q (⟨d,none,.slice3 sz x lo hi mx⟩::l) k s=Hh sz (ev s.t x) (D8 (AP s.t lo)) (D8 (AP s.t hi)) (D8 (AP s.t mx)) d l k s P Q:=by rw [E0]; simp only [AI,Hh]
theorem Dm {sz n:Nat} {lo:Option Int} {hi mx:Int}:Hh sz (.nilsl n) (some lo) (some (some hi)) (some (some mx)) d l k s P Q=VC (lo.getD 0=0∧hi=0∧mx=0) (AF P Q l k (AD s d (.nilsl n) s.H)):=rfl
theorem B4 {sz b off len cap:Nat} {lo:Option Int} {hi mx:Int}:Hh sz (.own b sz off len cap) (some lo) (some (some hi)) (some (some mx)) d l k s P Q=VC (0≤lo.getD 0∧lo.getD 0≤hi∧hi≤mx∧mx≤cap) (AF P Q l k (AD s d (.part b sz (off+(lo.getD 0).toNat) (hi.toNat-(lo.getD 0).toNat) (mx.toNat-(lo.getD 0).toNat)) s.H)):=by
 simp [Hh,Gx,VC]
def Hi:AV→Option AV
 | .nilsl _=>some (.d (.int .i64 0))
 | .own _ _ _ _ cap=>some (.d (.int .i64 cap))
 | .part _ _ _ _ cap=>some (.d (.int .i64 cap))
 | _=>none
theorem Az {x:Opd}:AF P Q (⟨d,none,.cap x⟩::l) k s=FO P Q (Hi (ev s.t x)) d l k s:=by
 rw [E0]
 simp only [AI,FO,Hi]
 cases ev s.t x <;> rfl
def LQ (sz:Nat) (z:List AV) (x:AV) (d:Option Nat) (l:List AO) (k:List Item) (s:St) (P:Program) (Q:Out→St→Prop):Prop:=IS sz z x s.H fun H'=>AF P Q l k (AD s d (.tup []) H')
theorem Cx {sz:Nat} {z:List AV} {x:Opd}:AF P Q (⟨d,none,.clear sz z x⟩::l) k s=LQ sz z (ev s.t x) d l k s P Q:=by rw [E0]; simp only [AI,LQ]
def LA (e:TypeId) (sz bytes:Nat) (z:List AV) (v n:AV) (d:Option Nat) (l:List AO) (k:List Item) (s:St) (P:Program) (Q:Out→St→Prop):Prop:=IB e sz bytes z v n s.H fun v H'=>AF P Q l k (AD s d v H')
theorem B6 {e:TypeId} {sz bytes:Nat} {z:List AV} {v n:Opd}:AF P Q (⟨d,none,.appendN e sz bytes z v n⟩::l) k s=LA e sz bytes z (ev s.t v) (ev s.t n) d l k s P Q:=by rw [E0]; simp only [AI,LA]
def G0 (n:Nat) (v:AV) (b sz i j:Nat) (d:Option Nat) (l:List AO) (k:List Item) (s:St) (P:Program) (Q:Out→St→Prop):Prop:=match s.H b with
 | some (.box t cells)=>VC (i*sz+j+n≤AM cells) (AF P Q l k (AD s d .void (AH s.H b (some (.box t (setSeg cells (i*sz+j) (EF v)))))))
 | _=>Ac s.H (EF v) fun ds H'=>match H' b with
  | some (.row t sz' cap xs)=>VC (sz=sz') (∃el,xs[i]? = some el∧VC (j+n≤el.length) (AF P Q l k (AD s d .void (AH H' b (some (.row t sz cap (xs.set i (E3 el j ds))))))))
  | _=>False
theorem J1 (n:Nat) (v:AV) (b sz i j:Nat):(Ac s.H (EF v) fun ds H'=>match H' b with
  | some (.row t sz' cap xs)=>VC (sz=sz') (Fs xs i fun el=>VC (j+n≤el.length) (AF P Q l k (AD s d .void (AH H' b (some (.row t sz cap (xs.set (i:Int).toNat (E3 el j ds))))))))
  | _=>False)=Ac s.H (EF v) fun ds H'=>match H' b with
  | some (.row t sz' cap xs)=>VC (sz=sz') (∃el,xs[i]? = some el∧VC (j+n≤el.length) (AF P Q l k (AD s d .void (AH H' b (some (.row t sz cap (xs.set i (E3 el j ds))))))))
  | _=>False:=by
 refine congrArg _ ?_
 funext ds H'
 cases H' b with
 | none=>rfl
 | some x =>
  cases x with
  | box t cells=>rfl
  | obj o ts us=>rfl
  | row t sz' cap xs =>
   simp only [VC,Fs]
   refine propext (and_congr_right fun _=>⟨fun ⟨_,el,h1,h2⟩=>⟨el,by simpa using h1,h2⟩,fun ⟨el,h1,h2⟩=>⟨by omega,el,by simpa using h1,h2⟩⟩)
theorem BW {n b sz i j:Nat} {v:AV}:Ia P Q n (.eptr b sz i j) v d l k s=VC (EE n v=true) (G0 n v b sz i j d l k s P Q):=by
 simp only [Ia,Ge,G0]
 cases s.H b with
 | none=>exact congrArg (VC _) (J1 n v b sz i j)
 | some x =>
  cases x with
  | box t cells=>rfl
  | obj o ts us=>exact congrArg (VC _) (J1 n v b sz i j)
  | row t sz' cap xs=>exact congrArg (VC _) (J1 n v b sz i j)
theorem WK {n b sz i j:Nat} {v:AV} {t:TypeId} {cells:List AV} (hb:s.H b=some (.box t cells)) (h:i*sz+j+n≤AM cells) (hk:AF P Q l k (AD s d .void (AH s.H b (some (.box t (setSeg cells (i*sz+j) (EF v))))))):G0 n v b sz i j d l k s P Q:=by
 simp only [G0,hb]
 exact ⟨h,hk⟩
theorem HK {x:D} {b sz i j cap:Nat} {t:TypeId} {xs:List (List D)} {el:List D} (hb:s.H b=some (.row t sz cap xs)) (h:xs[i]? = some el) (hj:j<el.length) (hk:AF P Q l k (AD s d .void (AH s.H b (some (.row t sz cap (xs.set i (E3 el j [x]))))))):G0 1 (.d x) b sz i j d l k s P Q:=by
 simp only [G0,EF,Ac,Af,Ah,hb]
 exact ⟨trivial,el,h,hj,hk⟩
def Lr (f:FuncId) (args:List AV) (d:Option Nat) (l:List AO) (k:List Item) (s:St) (P:Program) (Q:Out→St→Prop):Prop:=NCallK P f args s.H fun v H'=>AF P Q l k (AD s d v H')
theorem Bb {f:FuncId} {args:List Opd}:AF P Q (⟨d,none,.ncall f args⟩::l) k s=Lr f (AR s.t args) d l k s P Q:=rfl
def Jq (n:Nat) (p v:AV) (d:Option Nat) (l:List AO) (k:List Item) (s:St) (P:Program) (Q:Out→St→Prop):Prop:=match p,v with
 | .eptr b sz i j,.d x=>match s.H b with
  | some (.row e sz' cap xs)=>VC (n=1∧sz=sz') (Fs xs i fun el=>VC (j<el.length) (AF P Q l k (AD s d .void (AH s.H b (some (.row e sz cap (xs.set i (E3 el j [x]))))))))
  | _=>False
 | _,_=>False
theorem Bg {n:Nat} {p v:Opd}:AF P Q (⟨d,none,.storeR n p v⟩::l) k s=Jq n (ev s.t p) (ev s.t v) d l k s P Q:=rfl
theorem Me {x:D} {b sz i j cap:Nat} {t:TypeId} {xs:List (List D)} {el:List D} (hb:s.H b=some (.row t sz cap xs)) (h:xs[i]? = some el) (hj:j<el.length) (hk:AF P Q l k (AD s d .void (AH s.H b (some (.row t sz cap (xs.set i (E3 el j [x]))))))):Jq 1 (.eptr b sz i j) (.d x) d l k s P Q:=by
 simp only [Jq,hb,Fs,VC]
 exact ⟨⟨trivial,trivial⟩,by omega,el,by simpa using h,hj,hk⟩
theorem CU {a b:ByteArray}:EJ P Q .add (.d (.str a)) (.d (.str b)) d l k s=VC (a.size+b.size≤9223372036854775807) (AF P Q l k (AD s d (.d (.str (a++b))) s.H)):=rfl
def JG (x:AV) (d:Option Nat) (l:List AO) (k:List Item) (s:St) (P:Program) (Q:Out→St→Prop):Prop:=Eu s.H x fun _ ys=>match Fd ys with
 | some bs=>AF P Q l k (AD s d (.d (.str ⟨bs.toArray⟩)) s.H)
 | none=>False
theorem DW {x:Opd}:AF P Q (⟨d,none,.strOf x⟩::l) k s=JG (ev s.t x) d l k s P Q:=by
 rw [E0]; simp only [AI,JG]
 refine congrArg _ ?_
 funext _ ys
 cases Fd ys <;> rfl
theorem TS {b len cap c sz:Nat} {e:TypeId} {xs:List (List D)} {bs:List UInt8} (hb:s.H b=some (.row e sz c xs)) (h:len=xs.length) (hx:Fd xs=some bs) (hk:AF P Q l k (AD s d (.d (.str ⟨bs.toArray⟩)) s.H)):JG (.own b sz 0 len cap) d l k s P Q:=by
 simp only [JG,Eu,hb,hx]
 exact ⟨⟨trivial,trivial,h⟩,hk⟩
def Jj (x:AV) (lo hi:Option (Option Int)) (d:Option Nat) (l:List AO) (k:List Item) (s:St) (P:Program) (Q:Out→St→Prop):Prop:=match x,lo,hi with
 | .d (.str v),some lo,some hi=>VC (0≤lo.getD 0∧lo.getD 0≤hi.getD v.size∧hi.getD v.size≤v.size) (AF P Q l k (AD s d (.d (.str (v.extract (lo.getD 0).toNat (hi.getD v.size).toNat))) s.H))
 | _,_,_=>False
theorem DQ {x:Opd} {lo hi:Option Opd}:AF P Q (⟨d,none,.strSlice x lo hi⟩::l) k s=Jj (ev s.t x) (D8 (AP s.t lo)) (D8 (AP s.t hi)) d l k s P Q:=by
 rw [E0]; simp only [AI,Jj]
 generalize ev s.t x=a; generalize D8 (AP s.t lo)=b; generalize D8 (AP s.t hi)=c
 split
 ·rfl
 ·next hn =>
  split
  ·next v lo hi=>exact (hn v lo hi rfl rfl rfl).elim
  ·rfl
theorem Cf {v:ByteArray} {lo hi:Option Int}:Jj (.d (.str v)) (some lo) (some hi) d l k s P Q=VC (0≤lo.getD 0∧lo.getD 0≤hi.getD v.size∧hi.getD v.size≤v.size) (AF P Q l k (AD s d (.d (.str (v.extract (lo.getD 0).toNat (hi.getD v.size).toNat))) s.H)):=rfl
def S6 (P:Program) (Q:Out→St→Prop) (n:Nat) (p v:AV) (keep:List Nat) (d:Option Nat) (l:List AO) (k:List Item) (s:St):Prop:=match p with
 | .ptr b off=>VC (Ad s.t (.ptr b off) keep) (VC (EE n v=true) (match s.H b with
  | some (.box e cells)=>VC (off+n≤AM cells) (AF P Q l k (AD s d .void (AH s.H b (some (.box e (setSeg cells off (EF v)))))))
  | _=>False))
 | _=>False
theorem CK {n:Nat} {p v:Opd} {keep:List Nat}:AF P Q (⟨d,none,.storeK n p v keep⟩::l) k s=S6 P Q n (ev s.t p) (ev s.t v) keep d l k s:=rfl
def IT (P:Program) (Q:Out→St→Prop) (neg:Bool) (v:AV) (d:Option Nat) (l:List AO) (k:List Item) (s:St):Prop:=match v with
 | .nilsl _=>AF P Q l k (AD s d (.d (.bool (!neg))) s.H)
 | .own _ _ _ _ _=>AF P Q l k (AD s d (.d (.bool neg)) s.H)
 | .part _ _ _ _ _=>AF P Q l k (AD s d (.d (.bool neg)) s.H)
 | .d (.sl _ xs)=>AF P Q l k (AD s d (.d (.bool neg)) s.H)∧(xs=[]→AF P Q l k (AD s d (.d (.bool (!neg))) s.H))
 | _=>False
theorem CH {neg:Bool} {x:Opd}:AF P Q (⟨d,none,.isNil neg x⟩::l) k s=IT P Q neg (ev s.t x) d l k s:=rfl
theorem CP {neg:Bool} {sz:Nat}:IT P Q neg (.nilsl sz) d l k s=AF P Q l k (AD s d (.d (.bool (!neg))) s.H):=rfl
theorem B8 {neg:Bool} {b sz off len cap:Nat}:IT P Q neg (.own b sz off len cap) d l k s=AF P Q l k (AD s d (.d (.bool neg)) s.H):=rfl
theorem De {neg:Bool} {b sz off len cap:Nat}:IT P Q neg (.part b sz off len cap) d l k s=AF P Q l k (AD s d (.d (.bool neg)) s.H):=rfl
theorem IQ {neg:Bool} {sz:Nat} {xs:List (List D)} (h1:AF P Q l k (AD s d (.d (.bool neg)) s.H)) (h2:xs=[]→AF P Q l k (AD s d (.d (.bool (!neg))) s.H)):IT P Q neg (.d (.sl sz xs)) d l k s:=⟨h1,h2⟩
theorem CJ {g:Option Nat} {i:Nat}:AF P Q (⟨d,none,.loadP g i⟩::l) k s=KC P Q g (s.t i) d l k s:=by
 rw [E0]
 simp only [AI,KC]
 cases s.t i <;> rfl
theorem Df {g:Option Nat} {b off:Nat}:KC P Q g (.ptr b off) d l k s=Fo P Q g (.ptr b off) d l k s:=rfl
def Im (f:FuncId) (args:List AV) (keep:List Nat) (d:Option Nat) (l:List AO) (k:List Item) (s:St) (P:Program) (Q:Out→St→Prop):Prop:=CallW P f args s.H fun v H'=>GM s.t s.H H' keep∧AF P Q l k (AD s d v H')
theorem D2 {f:FuncId} {args:List Opd} {keep:List Nat}:AF P Q (⟨d,none,.callS f args keep⟩::l) k s=Im f (AR s.t args) keep d l k s P Q:=rfl
def Jm (g:AV) (args:List AV) (keep:List Nat) (d:Option Nat) (l:List AO) (k:List Item) (s:St) (P:Program) (Q:Out→St→Prop):Prop:=match g with
 | .fn f caps=>Im f (args++caps) keep d l k s P Q
 | _=>False
theorem Bl {g:Opd} {args:List Opd} {keep:List Nat}:AF P Q (⟨d,none,.callvS g args keep⟩::l) k s=Jm (ev s.t g) (AR s.t args) keep d l k s P Q:=by
 simp only [E0,AI,Jm,Im]
 cases ev s.t g <;> rfl
theorem B9 {f:FuncId} {caps args:List AV} {keep:List Nat}:Jm (.fn f caps) args keep d l k s P Q=Im f (args++caps) keep d l k s P Q:=rfl
def VA (e:TypeId) (sz bytes:Nat) (z:List AV) (x:AV) (d:Option Nat) (l:List AO) (k:List Item) (s:St) (P:Program) (Q:Out→St→Prop):Prop:=match x with
 | .d (.int _ n)=>match ET z with
  | some ds=>VC (0≤n∧n*bytes≤281474976710656∧n≤9223372036854775807) (Gy (.row e sz n.toNat (List.replicate n.toNat ds)) sz n.toNat d l k s P Q)
  | none=>False
 | _=>False
theorem BN {e:TypeId} {sz bytes:Nat} {z:List AV} {x:Opd}:AF P Q (⟨d,none,.make e sz bytes z x⟩::l) k s=VA e sz bytes z (ev s.t x) d l k s P Q:=rfl
theorem EO {x:Blk} (h:∀b,s.H b=none→AF P Q l k (AD s d (.ptr b 0) (AH s.H b (some x)))):Jp P Q x d l k s:=h
def D4:List (Nat×Blk)→Heap
 | []=>Heap.none
 | (b,x)::l=>AH (D4 l) b (some x)
theorem DI {k:Nat}:D4 [] k = .none:=rfl
theorem Am {b k:Nat} {x:Blk} {l:List (Nat×Blk)}:D4 ((b,x)::l) k=if k=b then some x else D4 l k:=by
 simp only [D4,AK]
 by_cases h:b=k
 ·subst h; simp
 ·have h':¬k=b:=fun e=>h e.symm
  simp [h,h']
theorem JZ {H:Heap} {l:List (Nat×Blk)} (h:AT H l) (k:Nat):D4 l k=none∨D4 l k=H k:=by
 induction l with
 | nil=>exact .inl rfl
 | cons p l ih =>
  obtain ⟨b,x⟩:=p
  rw [Am]
  by_cases e:k=b
  ·subst e; rw [if_pos rfl]; exact .inr h.1.symm
  ·rw [if_neg e]; exact ih h.2
theorem Ec {α:Type} (I : α→Prop) (n:Nat) (tl : α→List (Nat×AV)) (hl : α→List (Nat×Blk)) (μ : α→Nat) {b:ACode} (x0 : α) (h0:I x0) (hn:n=s.n) (ha:Dn s.t (tl x0)) (hb:AT s.H (hl x0))
  (round:∀x,I x→Eo P (Ht I (fun x=>⟨n,Fl (tl x),D4 (hl x)⟩) μ x (EZ P Q k)) b [] ⟨n,Fl (tl x),D4 (hl x)⟩):HI P Q b k s :=
 N9 I (fun x=>⟨n,Fl (tl x),D4 (hl x)⟩) μ x0 h0 (Ly hn ha (JZ hb)) round
theorem Em {α:Type} {I : α→Prop} {n:Nat} {tl : α→List (Nat×AV)} {hl : α→List (Nat×Blk)} {μ : α→Nat} {x : α} {R:Out→St→Prop} {s':St} (y : α) (h1:I y) (h2 : μ y < μ x) (hn:n=s'.n) (ha:Dn s'.t (tl y)) (hb:AT s'.H (hl y)):Ht I (fun x=>⟨n,Fl (tl x),D4 (hl x)⟩) μ x R .normal s' :=
 ⟨y,h1,h2,Ly hn ha (JZ hb)⟩
theorem Ce {n:Nat} {t:TM} {x:List AV}:I9 n t [] x=t:=by cases x <;> rfl
theorem Cl {n p:Nat} {t:TM} {ps:List Nat} {v:AV} {x:List AV}:I9 n t (p::ps) (v::x)=I9 n (if p<n then Gq t p v else t) ps x:=rfl
theorem EM {H:Heap} {x y:AV} (h:x=y):LendV H x y:=h▸.refl x
end
def Fx (l:List Int):List (List D):=l.map fun n=>[.int .i64 n]
theorem I3 {l:List Int}:(Fx l).length=l.length:=List.length_map ..
theorem Mn {l:List Int} {i:Nat} {n:Int} (h:l[i]? = some n):(Fx l)[i]? = some [.int .i64 n]:=by simp [Fx,h]
abbrev Gp (l:List Int):AV:=.d (.sl 1 (Fx l))
def K3 (l:List Int):Prop:=∀(i:Nat) (h:i<l.length),Fit l[i]
theorem E8 {i:Nat} (h:i<9223372036854775807):IntKind.i64.wrap ((i:Int)+1)=((i+1:Nat):Int):=by rw [IntKind.wrap_i64]; omega
section
variable {P:Program} {n:Nat} {t:TypeId} {l:List D}
theorem typedL_cons {ts:List TypeId} {ls:List (List D)} (h:TypedL P n (t::ts) ls):∃l r,ls=l::r∧EL P n t l∧TypedL P n ts r:=by
 cases ls with
 | nil=>exact absurd h id
 | cons l r=>exact ⟨l,r,rfl,h.1,h.2⟩
theorem typedL_nil {ls:List (List D)} (h:TypedL P n [] ls):ls=[]:=by
 cases ls with
 | nil=>rfl
 | cons l r=>exact absurd h id
theorem typed_bool (h:EL P (n+1) t l) (ht:P.underlying t=some .bool):∃b,l=[.bool b]∧Fh P t l=bv b:=by
 rw [EL,ht] at h
 obtain ⟨b,rfl⟩:=h
 exact ⟨b,rfl,by simp [Fh,ht,Hn]⟩
theorem typed_int (h:EL P (n+1) t l) (ht:P.underlying t=some (.int .i64)):∃z,l=[.int .i64 z]∧Fit z∧Fh P t l=i64 z:=by
 rw [EL,ht] at h
 obtain ⟨z,rfl,h⟩:=h
 exact ⟨z,rfl,Pv h,by simp [Fh,ht,Hn]⟩
theorem Mh {e:TypeId} (h:EL P (n+1) t l) (ht:P.underlying t=some (.slice e)):∃xs,l=[.sl (P.cellsOf e) xs]∧xs.length≤maxLen∧(∀el∈xs,EL P n e el)∧Fh P t l = .d (.sl (P.cellsOf e) xs):=by
 rw [EL,ht] at h
 obtain ⟨xs,rfl,h1,h2⟩:=h
 exact ⟨xs,rfl,h1,h2,by simp [Fh,ht,Hn]⟩
theorem Ul {e:TypeId} {xs:List (List D)} (h:∀el∈xs,EL P (n+1) e el) (he:P.underlying e=some (.int .i64)):∃zs,xs=Fx zs∧K3 zs:=by
 induction xs with
 | nil=>exact ⟨[],rfl,fun i h=>absurd h (Nat.not_lt_zero _)⟩
 | cons x xs ih =>
  obtain ⟨z,rfl,hz,_⟩:=typed_int (h x (List.mem_cons_self ..)) he
  obtain ⟨zs,rfl,h2⟩:=ih fun el h'=>h el (List.mem_cons_of_mem _ h')
  refine ⟨z::zs,rfl,fun i hi=>?_⟩
  cases i with
  | zero=>exact hz
  | succ i=>exact h2 i (by simpa using hi)
theorem typed_ints {e:TypeId} (h:EL P (n+2) t l) (ht:P.underlying t=some (.slice e)) (he:P.underlying e=some (.int .i64)) (hc:P.cellsOf e=1):∃zs,K3 zs∧zs.length≤9223372036854775807∧Fh P t l=Gp zs:=by
 obtain ⟨xs,rfl,h1,h2,h3⟩:=Mh h ht
 obtain ⟨zs,rfl,h4⟩:=Ul h2 he
 refine ⟨zs,h4,?_,by rw [h3,hc]⟩
 rw [I3] at h1
 exact h1
theorem Lp:∀{fs:List Field} {ls:List (List D)},ls.length=fs.length→(∀(j:Nat) f x,fs[j]? = some f→ls[j]? = some x→EL P n f.type x)→TypedL P n (fs.map (·.type)) ls
 | [],[],_,_=>trivial
 | [],_::_,h,_=>by simp at h
 | _::_,[],h,_=>by simp at h
 | f::fs,x::ls,h,k=>⟨k 0 f x rfl rfl,Lp (by simpa using h) fun j f x h1 h2=>k (j+1) f x (by simpa using h1) (by simpa using h2)⟩
theorem Gd {fs:Array Field} (h:EL P (n+1) t l) (ht:P.underlying t=some (.struct fs)):∃ls,l=ls.flatten∧TypedL P n (fs.toList.map (·.type)) ls∧Fh P t l = .agg (mapD l):=by
 rw [EL,ht] at h
 obtain ⟨ls,rfl,h1,h2⟩:=h
 exact ⟨ls,rfl,Lp (by simpa using h1) (fun j f x g1 g2=>h2 j f x (by simpa using g1) g2),by simp [Fh,ht]⟩
theorem Gj {H:Heap}:LendL H [] []:=LendL.refl _
theorem EB {H:Heap} {x y:AV} {xs ys:List AV} (h:LendV H x y) (t:LendL H xs ys):LendL H (x::xs) (y::ys):=by
 refine ⟨congrArg (· + 1) t.1,fun j u v h1 h2=>?_⟩
 cases j with
 | zero=>cases h1; cases h2; exact h
 | succ j=>exact t.2 j u v h1 h2
theorem G1 {H:Heap} {b sz cap cap' len:Nat} {e:TypeId} {xs:List (List D)} (h:H b=some (.row e sz cap' xs)) (hl:len=xs.length):LendV H (.own b sz 0 len cap) (.d (.sl sz xs)):=by
 subst hl; exact .own b sz cap e cap' xs h
theorem DataW.law {f:FuncId} {args:List AV} (h:DataW P f args (bv true)):CallW P f args Heap.none fun r _=>r = .d (.bool true) :=
 CallW.mono h fun r H' hr=>by cases hr; rfl
end
def HG (z sz c cap:Nat):List (List D)→AV
 | []=>.nilsl z
 | x::xs=>.own c sz 0 (x::xs).length cap
def HP (t:TypeId) (sz c cap:Nat):List (List D)→List (Nat×Blk)
 | []=>[]
 | x::xs=>[(c,.row t sz cap (x::xs))]
def AQ (l:List (Nat×Blk)):List Nat:=l.map (·.1)
theorem Ok {z sz c cap:Nat} {xs:List (List D)} (h:xs≠[]):HG z sz c cap xs = .own c sz 0 xs.length cap:=by
 cases xs with
 | nil=>exact absurd rfl h
 | cons x xs=>rfl
theorem KF {t:TypeId} {sz c cap:Nat} {xs:List (List D)} (h:xs≠[]):HP t sz c cap xs=[(c,.row t sz cap xs)]:=by
 cases xs with
 | nil=>exact absurd rfl h
 | cons x xs=>rfl
theorem Dq {z sz c cap:Nat} {xs:List (List D)}:GO (HG z sz c cap xs)=some (.d (.int .i64 xs.length)):=by cases xs <;> rfl
theorem Cp {sz:Nat} {xs:List (List D)}:GO (.d (.sl sz xs))=some (.d (.int .i64 xs.length)):=rfl
theorem BI {sz:Nat}:GO (.nilsl sz)=some (.d (.int .i64 0)):=rfl
theorem A6 {b sz off len cap:Nat}:GO (.own b sz off len cap)=some (.d (.int .i64 len)):=rfl
theorem DH {sz:Nat}:Hi (.nilsl sz)=some (.d (.int .i64 0)):=rfl
theorem C0 {b sz off len cap:Nat}:Hi (.own b sz off len cap)=some (.d (.int .i64 cap)):=rfl
theorem BK {b sz off len cap:Nat}:Hi (.part b sz off len cap)=some (.d (.int .i64 cap)):=rfl
theorem CC {b sz off len cap:Nat}:GO (.part b sz off len cap)=some (.d (.int .i64 len)):=rfl
theorem Bf {z sz c cap:Nat} {xs:List (List D)}:EE 1 (HG z sz c cap xs)=true:=by cases xs <;> rfl
theorem DO {z sz c cap:Nat} {xs:List (List D)}:EF (HG z sz c cap xs)=[HG z sz c cap xs]:=by cases xs <;> rfl
theorem DC (n:Nat) (xs:List AV):EE n (.agg xs)=(AM xs == n):=rfl
theorem CV (xs:List AV):EF (.agg xs)=xs:=rfl
theorem DE (n:Nat) (x:D):EE n (.d x)=(n == 1):=by simp [EE,Fc]
theorem BO (x:D):EF (.d x)=[.d x]:=rfl
theorem Bu (n:Nat)  : EE n .nilp=(n == 1):=by simp [EE,Fc]
theorem DJ  : EF .nilp=[.nilp]:=rfl
theorem DR (n:Nat) (sz:Nat):EE n (.nilsl sz)=(n == 1):=by simp [EE,Fc]
theorem Dl (sz:Nat):EF (.nilsl sz)=[.nilsl sz]:=rfl
theorem Bm (n:Nat)  : EE n .nilfn=(n == 1):=by simp [EE,Fc]
theorem BL  : EF .nilfn=[.nilfn]:=rfl
theorem CD (n:Nat) (b o:Nat):EE n (.ptr b o)=(n == 1):=by simp [EE,Fc]
theorem Du (b o:Nat):EF (.ptr b o)=[.ptr b o]:=rfl
theorem BS (n:Nat) (b sz i j:Nat):EE n (.eptr b sz i j)=(n == 1):=by simp [EE,Fc]
theorem DY (b sz i j:Nat):EF (.eptr b sz i j)=[.eptr b sz i j]:=rfl
theorem Cw (n:Nat) (el:List D) (o:Nat):EE n (.dptr el o)=(n == 1):=by simp [EE,Fc]
theorem B5 (el:List D) (o:Nat):EF (.dptr el o)=[.dptr el o]:=rfl
theorem DX (n:Nat) (b sz off len cap:Nat):EE n (.own b sz off len cap)=(n == 1):=by simp [EE,Fc]
theorem DZ (b sz off len cap:Nat):EF (.own b sz off len cap)=[.own b sz off len cap]:=rfl
theorem DK (n:Nat) (f:FuncId) (caps:List AV):EE n (.fn f caps)=(n == 1):=by simp [EE,Fc]
theorem DB (f:FuncId) (caps:List AV):EF (.fn f caps)=[.fn f caps]:=rfl
theorem Ao {H:Heap} {xs ys:List (Nat×Blk)}:AT H (xs++ys)↔AT H xs∧AT H ys:=by
 induction xs with
 | nil=>simp [AT]
 | cons p xs ih=>obtain ⟨b,x⟩:=p; simp only [List.cons_append,AT,ih,and_assoc]
theorem Wu {H:Heap} {xs ys:List (Nat×Blk)} (h:AT H xs) (hs:∀p∈ys,p∈xs):AT H ys:=Ei.2 fun p hp=>Ei.1 h p (hs p hp)
theorem Ep:∀{l:List (Nat×Blk)},(AQ l).Nodup→AT (D4 l) l
 | [],_=>trivial
 | (b,x)::l,h=>by
  simp only [AQ,List.map_cons,List.nodup_cons] at h
  refine ⟨by rw [Am,if_pos rfl],?_⟩
  refine Ei.2 fun p hp=>?_
  rw [Am,if_neg (fun e=>h.1 (by rw [←e]; exact List.mem_map_of_mem hp))]
  exact Ei.1 (Ep (l:=l) h.2) p hp
theorem JE {H:Heap} {b:Nat} {x:Blk} {l:List (Nat×Blk)} (hb:H b=none) (h:AT H l):AT (AH H b (some x)) ((b,x)::l):=⟨ED,Gf hb h⟩
theorem XN {H:Heap} {b:Nat} {l:List (Nat×Blk)} (hb:H b=none) (h:AT H l):b∉AQ l:=fun hm=>by
 obtain ⟨p,hp,e⟩:=List.mem_map.1 hm
 have:=Ei.1 h p hp
 rw [e,hb] at this; cases this
theorem He {H:Heap} {b:Nat} {x:Blk} {l:List (Nat×Blk)} (hb:H b=none) (h:AT H l) (hn:(AQ l).Nodup):(AQ ((b,x)::l)).Nodup:=by
 simp only [AQ,List.map_cons,List.nodup_cons]
 exact ⟨XN hb h,hn⟩
theorem Qu {H:Heap} {b:Nat} {y:Option Blk} {l:List (Nat×Blk)} (h:AT H l) (hn:b∉AQ l):AT (AH H b y) l :=
 Ei.2 fun p hp=>by
  rw [D3 (fun e=>hn (by rw [e]; exact List.mem_map_of_mem hp))]
  exact Ei.1 h p hp
section
variable {P:Program} {Q:Out→St→Prop} {k:List Item} {s:St} {d:Option Nat} {l:List AO}
theorem MA {e t:TypeId} {sz bytes z0 c cap bs capc capx:Nat} {z:List AV} {xs:List (List D)} {y:List D} (rest:List (Nat×Blk)) (hz:z.length=sz) (hall:AT s.H (HP e sz c cap xs++rest)) (hnd:(AQ (HP e sz c cap xs++rest)).Nodup)
  (hbs:s.H bs=some (.row t sz capc [y])) (hb:(xs.length+1)*bytes≤140737488355328) (hb2:xs.length+1≤9223372036854775807)
  (hk:∀H' c' cap',AT H' (HP e sz c' cap' (xs++[y])++rest)→(AQ (HP e sz c' cap' (xs++[y])++rest)).Nodup→AF P Q l k (AD s d (.own c' sz 0 (xs.length+1) cap') H')) :
  Ft e sz bytes z (HG z0 sz c cap xs) (.own bs sz 0 1 capx) d l k s P Q:=by
 by_cases h0:xs=[]
 ·subst h0
  refine QW (ys:=[y]) (t:=t) (capc:=capc) hbs rfl (by simp) hz ⟨by simpa using hb,by simp [maxLen]⟩ (fun b hb' cap'=>?_)
  have hr:AT s.H rest:=hall
  exact hk (AH s.H b (some (.row e sz cap' [y]))) b cap' (JE hb' hr) (He hb' hr hnd)
 ·rw [Ok h0]
  rw [KF h0] at hall hnd
  refine UK (xs:=xs) (ys:=[y]) (t:=t) (capc:=capc) hall.1 hbs rfl rfl (by simp) hz ⟨hb,hb2⟩ (fun b' cap' hb'=>?_)
  simp only [List.cons_append,List.nil_append,AQ,List.map_cons,List.nodup_cons] at hnd
  have hr:AT (AH s.H c none) rest:=Qu hall.2 hnd.1
  have hne:xs++[y]≠[]:=by simp
  exact hk (AH (AH s.H c none) b' (some (.row e sz cap' (xs++[y])))) b' cap' (by rw [KF hne]; exact JE hb' hr) (by rw [KF hne]; exact He hb' hr hnd.2)
end
section
variable {P:Program}
theorem NewV.free {F G:Nat→Prop} {w:World} {H:Heap} {x y:AV} (h:NewV H x y):∀{v:Value},VR P F w x v→VR P G w x v:=by
 induction h with
 | scal x hs=>exact fun hv=>Iw hv hs
 | nilsl sz sz'=>intro v hv; cases hv; (first | exact .nilsl _)
 | own b sz cap t cap' xs h hs=>intro v hv; cases hv; exact .own _ _ _ _ _ (by assumption)
 | agg xs ys hl _ ih =>
  intro v hv
  cases hv
  next cs h3 h1 h2 =>
  exact .agg _ _ h1 (fun j x v g1 g2=>by
   have hj:j<ys.length:=by rw [←hl]; exact (List.getElem?_eq_some_iff.1 g1).1
   exact ih j x _ g1 (List.getElem?_eq_getElem hj) (h2 j x v g1 g2)) (by assumption)
 | tup xs ys hl _ ih =>
  intro v hv
  cases hv
  next cs h1 h2 =>
  exact .tup _ _ h1 (fun j x v g1 g2=>by
   have hj:j<ys.length:=by rw [←hl]; exact (List.getElem?_eq_some_iff.1 g1).1
   exact ih j x _ g1 (List.getElem?_eq_getElem hj) (h2 j x v g1 g2))
def OI (x:Option Blk):Prop:=∃t sz cap xs,x=some (.row t sz cap xs)∧∀el∈xs,∀d∈el,HM d=true
theorem NewV.into {H H':Heap} (hH:∀b,OI (H b)→H' b=H b) {x y:AV} (h:NewV H x y):NewV H' x y:=by
 induction h with
 | scal x hs=>exact .scal x hs
 | nilsl sz sz'=>exact .nilsl sz sz'
 | own b sz cap t cap' xs h hs=>exact .own b sz cap t cap' xs (by rw [hH b ⟨t,sz,cap',xs,h,hs⟩]; exact h) hs
 | agg xs ys hl _ ih=>exact .agg xs ys hl ih
 | tup xs ys hl _ ih=>exact .tup xs ys hl ih
variable {Q:Out→St→Prop} {k:List Item} {s:St} {d:Option Nat} {l:List AO}
end
end Go.Proofs.Ytndepejgafppmaa.Abs
