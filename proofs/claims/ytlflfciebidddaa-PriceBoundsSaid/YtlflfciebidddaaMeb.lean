/- Part of the machine and the contracts of one law (joined by kmerge.py). No claim stands here. -/
import Derived.Below
import Derived.Carry
import Derived.ChangeCalls
import Derived.ChangeOld
import Derived.IntWalk
import Derived.KernelRfl
import Derived.Laws.Append
import Derived.Laws.AppendOwn
import Derived.Laws.BytesArg
import Derived.Laws.Cells
import Derived.Laws.CopyRow
import Derived.Laws.Entries
import Derived.Laws.MakeOwn
import Derived.Laws.NewFold
import Derived.Laws.Rows
import Derived.Laws.StructEq
import Derived.OpenShut
import Derived.Orders
import Derived.OrdersIn
import Derived.ProofKit
import Derived.RangeFuncLeaves
import Derived.RangeFuncSeq
import Derived.SizedLaws
import Derived.TacticsIn
import Derived.WalkKit
import Derived.Test.YtlflfciebidddaaMea
set_option maxRecDepth 100000
set_option linter.unusedSimpArgs false
set_option linter.unusedVariables false
namespace Go.Proofs.Ytlflfciebidddaa.Abs
open Go Go.RowKit Go.ChangeShapes
def Ev (t:TM) (o:AO):Option Bool :=
 match o.guard with
 | none=>some true
 | some (g,want)=>match t g with
  | .d (.bool c)=>some (c == want)
  | .void=>some false
  | _=>none
def Eu (P:Program) (o:AO) (s:St) (K:St→Prop):Prop :=
 match Ev s.t o with
 | some true=>AR P s.t s.H (fun v H'=>K (AF s o.dst v H')) o.op
 | some false=>K (AF s o.dst .void s.H)
 | none=>False
section
variable {P:Program}
theorem Rb {o:AO} {l:List AO} {s:St} {K:St→Prop}:HB P (o::l) s K↔Eu P o s fun s'=>HB P l s' K:=by
 simp only [HB,Eu,Ev]
 cases o.guard with
 | none=>exact Iff.rfl
 | some gw =>
  obtain ⟨g,want⟩:=gw
  dsimp only
  cases hg:s.t g <;> try exact Iff.rfl
  next x =>
  cases x <;> try exact Iff.rfl
  next c =>
  dsimp only
  cases hc:(c == want) with
  | true=>simp [Gy]
  | false=>simp [Gy]
theorem Kz {o:AO} {s:St} {K K':St→Prop} (hk:∀s',K s'→K' s') (h:Eu P o s K):Eu P o s K':=by
 unfold Eu at *
 split at h
 ·exact MN (fun v H' h=>hk _ h) h
 ·exact hk _ h
 ·exact h
theorem FK {s:St} {d:Option Nat} {v:AV} {H:Heap}:(AF s d v H).H=H:=by unfold AF; split <;> (try split) <;> rfl
theorem GX {s:St} {d:Option Nat} {v:AV} {H:Heap} {i:Nat} (h:d≠some i):(AF s d v H).t i=s.t i:=by
 unfold AF
 split
 ·next e =>
  split
  ·show Jm s.t e v i=s.t i
   rw [Au,show (e == i)=false by simp; rintro rfl; exact h rfl]
   rfl
  ·rfl
 ·rfl
theorem S0 {s:St} {i:Nat} {v:AV} {H:Heap}:(AF s (some i) v H).t i=v∨(AF s (some i) v H).t i=s.t i:=by
 unfold AF
 dsimp only
 split
 ·left; simp [Au]
 ·exact .inr rfl
theorem Kf {s:St} {d e:Option Nat} {u v:AV} {H1 H2 H3:Heap} (h:∀i,d=some i→e≠some i):AF (AF s d v H1) e u H2=AF (AF s e u H3) d v H2:=by
 cases d with
 | none =>
  cases e with
  | none=>rfl
  | some j=>by_cases hj:j<s.n <;> simp only [AF,hj,if_true,if_false]
 | some i =>
  cases e with
  | none=>by_cases hi:i<s.n <;> simp only [AF,hi,if_true,if_false]
  | some j =>
   have hij:i≠j:=fun e=>h i rfl (by rw [e])
   simp only [AF]
   by_cases hi:i<s.n <;> by_cases hj:j<s.n <;> simp only [hi,hj,if_true,if_false]
   congr 1
   funext k
   simp only [Au]
   by_cases h1:i=k
   ·subst h1
    rw [show (j == i)=false by simpa using fun e=>hij e.symm]
    simp
   ·rw [show (i == k)=false by simpa using h1]
    simp
theorem JC {t u:TM} {o:AO} (h:∀i∈IW o,t i=u i):Ev t o=Ev u o:=by
 unfold Ev
 split
 ·rfl
 ·next g want e =>
  rw [h g (by simp [IW,e])]
theorem JR {o:AO} {i:Nat} (h:i∈(Gb o.op).flatMap Ig):i∈IW o:=by
 simp only [IW,List.mem_append]; exact .inl h
structure SwapOk (a b:AO):Prop where
 ab:∀d,a.dst=some d→d∉IW b∧d∉Hf b.op∧b.dst≠some d
 ba:∀d,b.dst=some d→d∉IW a∧(d∉Hf a.op∨∃e z,b.op = .alloc e z)
 cls:Ei a.op=0∨(Ei a.op=1∧Ei b.op≤2)∨(Ei a.op=2∧(b.guard=none∨b.guard=a.guard)∧(∀e sz len z ps,a.op≠.buildSliceD e sz len z ps)∧∃e z,b.op = .alloc e z) ∨
  (∃g p l n d v,a.op = .loadS g p l∧b.op = .storeS n d v∧d∈l)∨(((∃f xs,a.op = .pcall f xs)∨∃f xs,a.op = .pcallv f xs)∧∃n d v,b.op = .storeS n d v) ∨
  (∃g d c f xs l,a.op = .loadP g d c∧b.op = .callS f xs l∧c∈l)∨(∃g d c e sz bytes z s x,a.op = .loadP g d c∧b.op = .append e sz bytes z s x) ∨
  (∃e sz bytes z s x,a.op = .append e sz bytes z s x∧KK b.op∧b.guard=none) ∨
  (KK a.op∧KK b.op∧(b.guard=none∨b.guard=a.guard)) ∨
  (∃g d c n p v l,a.op = .loadP g d c∧b.op = .storeK n p v l∧c∈l) ∨
  (∃g d c f xs l,a.op = .loadP g d c∧b.op = .callvS f xs l∧c∈l) ∨
  (∃g p e sz bytes z x,a.op = .load g p∧b.op = .make e sz bytes z x) ∨
  (∃g p f xs,a.op = .load g p∧b.op = .ncall f xs) ∨
  (∃g d c n p v,a.op = .loadP g d c∧b.op = .storeR n p v) ∨
  (∃f xs l,a.op = .callS f xs l∧(∃e z,b.op = .alloc e z)∧b.guard=none) ∨
  (∃g d c e sz len z ps,a.op = .loadP g d c∧b.op = .buildSlice e sz len z ps)
theorem AJc {a b:AO} (h:Nm a b=true):SwapOk a b:=by
 unfold Nm at h
 simp only [Bool.and_eq_true] at h
 obtain ⟨⟨h1,h2⟩,h3⟩:=h
 refine ⟨fun d hd=>?_,fun d hd=>?_,?_⟩
 ·rw [hd] at h1
  simp only [Bool.and_eq_true,Bool.not_eq_true',List.contains_eq_mem,decide_eq_false_iff_not,bne_iff_ne,ne_eq] at h1
  exact ⟨h1.1.1,h1.1.2,h1.2⟩
 ·rw [hd] at h2
  simp only [Bool.and_eq_true,Bool.not_eq_true',List.contains_eq_mem,decide_eq_false_iff_not,Bool.or_eq_true] at h2
  refine ⟨h2.1,h2.2.imp id fun h=>?_⟩
  split at h
  ·next e=>exact ⟨_,_,e⟩
  ·cases h
 ·simp only [Bool.or_eq_true,beq_iff_eq,Bool.and_eq_true,decide_eq_true_eq] at h3
  rcases h3 with ((h | h) | h) | h
  ·exact .inl h
  ·exact .inr (.inl h)
  ·have hc:=h.1.1
   have hg:=h.1.2
   have h:=h.2
   split at h
   ·next eb =>
    by_cases hab:∃e sz len z ps,a.op = .buildSliceD e sz len z ps
    ·exact .inr (.inr (.inr (.inr (.inr (.inr (.inr (.inr (.inl ⟨.inr hab,.inl ⟨_,_,eb⟩,hg⟩))))))))
    ·exact .inr (.inr (.inl ⟨hc,hg,fun e sz len z ps k=>hab ⟨e,sz,len,z,ps,k⟩,_,_,eb⟩))
   ·next ea eb=>exact .inr (.inr (.inr (.inr (.inr (.inr (.inr (.inr (.inl ⟨.inl ⟨_,_,ea⟩,.inr ⟨_,_,_,_,_,eb⟩,hg⟩))))))))
   ·next ea eb=>exact .inr (.inr (.inr (.inr (.inr (.inr (.inr (.inr (.inl ⟨.inr ⟨_,_,_,_,_,ea⟩,.inr ⟨_,_,_,_,_,eb⟩,hg⟩))))))))
   ·cases h
  ·split at h
   ·next g p l n d v e1 e2=>exact .inr (.inr (.inr (.inl ⟨g,p,l,n,d,v,e1,e2,by simpa using h⟩)))
   ·next g d c f xs l e1 e2=>exact .inr (.inr (.inr (.inr (.inr (.inl ⟨g,d,c,f,xs,l,e1,e2,by simpa using h⟩)))))
   ·next g d c f xs l e1 e2=>exact .inr (.inr (.inr (.inr (.inr (.inr (.inr (.inr (.inr (.inr (.inl ⟨g,d,c,f,xs,l,e1,e2,by simpa using h⟩))))))))))
   ·next e1 e2=>exact .inr (.inr (.inr (.inr (.inr (.inr (.inl ⟨_,_,_,_,_,_,_,_,_,e1,e2⟩))))))
   ·next e1 e2=>exact .inr (.inr (.inr (.inr (.inr (.inr (.inr (.inr (.inr (.inr (.inr (.inr (.inr (.inr (.inr ⟨_,_,_,_,_,_,_,_,e1,e2⟩))))))))))))))
   ·next e1 e2=>exact .inr (.inr (.inr (.inr (.inr (.inr (.inr (.inr (.inr (.inr (.inr (.inl ⟨_,_,_,_,_,_,_,e1,e2⟩)))))))))))
   ·next e1 e2=>exact .inr (.inr (.inr (.inr (.inr (.inr (.inr (.inr (.inr (.inr (.inr (.inr (.inl ⟨_,_,_,_,e1,e2⟩))))))))))))
   ·next e1 e2=>exact .inr (.inr (.inr (.inr (.inr (.inr (.inr (.inr (.inr (.inr (.inr (.inr (.inr (.inl ⟨_,_,_,_,_,_,e1,e2⟩)))))))))))))
   ·next g d c n p v l e1 e2=>exact .inr (.inr (.inr (.inr (.inr (.inr (.inr (.inr (.inr (.inl ⟨g,d,c,n,p,v,l,e1,e2,by simpa using h⟩)))))))))
   ·next e1 e2=>exact .inr (.inr (.inr (.inr (.inr (.inr (.inr (.inl ⟨_,_,_,_,_,_,e1,.inl ⟨_,_,e2⟩,by simpa using h⟩)))))))
   ·next e1 e2=>exact .inr (.inr (.inr (.inr (.inr (.inr (.inr (.inl ⟨_,_,_,_,_,_,e1,.inr ⟨_,_,_,_,_,e2⟩,by simpa using h⟩)))))))
   ·next e1 e2=>exact .inr (.inr (.inr (.inr (.inr (.inr (.inr (.inr (.inr (.inr (.inr (.inr (.inr (.inr (.inl ⟨_,_,_,e1,⟨_,_,e2⟩,by simpa using h⟩))))))))))))))
   ·next e1 e2=>exact .inr (.inr (.inr (.inr (.inl ⟨.inl ⟨_,_,e1⟩,_,_,_,e2⟩))))
   ·next e1 e2=>exact .inr (.inr (.inr (.inr (.inl ⟨.inr ⟨_,_,e1⟩,_,_,_,e2⟩))))
   ·cases h
theorem ACf {H0 H:Heap} {v:AV} {K:D→Heap→Prop} (h:Ap H0 H v K):Ap H0 H v fun x H'=>(∀k e cells,H0 k=some (.box e cells)→H k=some (.box e cells)→H' k=some (.box e cells))∧K x H':=by
 unfold Ap at *
 split at h
 ·exact ⟨fun k e cells _ h=>h,h⟩
 ·exact ⟨fun k e cells _ h=>h,h⟩
 ·split at h
  ·next b _ _ _ _ _ _ _ xs eb =>
   refine ⟨h.1,fun k e cells h0 h1=>?_,h.2⟩
   rw [AL,if_neg (by rintro rfl; rw [h0] at eb; cases eb)]
   exact h1
  ·exact h
 ·exact h
theorem Te {H0:Heap}:∀{l:List AV} {H:Heap} {K:List D→Heap→Prop},Aq H0 H l K→Aq H0 H l fun x H'=>(∀k e cells,H0 k=some (.box e cells)→H k=some (.box e cells)→H' k=some (.box e cells))∧K x H'
 | [],H,K,h=>⟨fun k e cells _ h=>h,h⟩
 | v::l,H,K,h=>TR (fun x H' h=>Oe (fun xs H'' h2=>⟨fun k e cells h0 h1=>h2.1 k e cells h0 (h.1 k e cells h0 h1),h2.2⟩) (Te h.2)) (ACf h)
theorem AMj {H:Heap} {l:List AV} {K:List D→Heap→Prop} (h:Aj H l K):Aj H l fun x H'=>(∀k e cells,H k=some (.box e cells)→H' k=some (.box e cells))∧K x H' :=
 Nq (fun x H' h=>⟨fun k e cells h0=>h.1 k e cells h0 h0,h.2⟩) (Te h)
theorem RW {b:AO} {s:St} {da:Option Nat} {v:AV} {K:St→Prop} (h1:∀d,da=some d→d∉IW b∧d∉Hf b.op∧b.dst≠some d) (h:Eu P b (AF s da v s.H) K) :
  Eu P b s fun s2=>K (AF s2 da v s2.H):=by
 have hne:∀i,i∈IW b∨i∈Hf b.op→(AF s da v s.H).t i=s.t i:=fun i hi=>GX (fun e=>by
  have:=h1 i e
  rcases hi with hi | hi
  ·exact this.1 hi
  ·exact this.2.1 hi)
 unfold Eu at *
 rw [JC (u:=s.t) (fun i hi=>hne i (.inl hi))] at h
 split
 ·next e =>
  rw [e] at h
  dsimp only at h
  rw [MS (u:=s.t) (fun i hi=>hne i (.inl (JR hi))) (fun d hd=>hne d (.inr hd)),FK] at h
  refine MN (fun u H' h=>?_) h
  rw [Kf (H3:=H') (fun i e=>(h1 i e).2.2)] at h
  show K (AF (AF s b.dst u H') da v (AF s b.dst u H').H)
  rw [FK]
  exact h
 ·next e =>
  rw [e] at h
  dsimp only at h
  rw [FK,Kf (H3:=s.H) (fun i e=>(h1 i e).2.2)] at h
  show K (AF (AF s b.dst .void s.H) da v (AF s b.dst .void s.H).H)
  rw [FK]
  exact h
 ·next e=>rw [e] at h; exact h
theorem AGV {a b:AO} (hs:SwapOk a b) (ha:Ei a.op≤1) {s:St} {K:St→Prop} (h:Eu P b s K) :
  Eu P b s fun s2=>(Ev s2.t a=Ev s.t a∧Re a.op s.t s.H s2.t s2.H)∧K s2:=by
 have hne:∀v H',∀i∈IW a,(AF s b.dst v H').t i=s.t i:=fun v H' i hi=>GX (fun e=>(hs.ba i e).1 hi)
 have hg:∀v H',Ev (AF s b.dst v H').t a=Ev s.t a:=fun v H'=>JC (hne v H')
 have ho:∀v H',∀i∈(Gb a.op).flatMap Ig,(AF s b.dst v H').t i=s.t i:=fun v H' i hi=>hne v H' i (JR hi)
 have hnw:∀v H',(∀e z,b.op = .alloc e z→∃nb,v = .ptr nb 0∧s.H nb=none)→∀d∈Hf a.op,(AF s b.dst v H').t d=s.t d∨(∃bb off,(AF s b.dst v H').t d = .ptr bb off∧s.H bb=none)∨(AF s b.dst v H').t d = .void:=fun v H' hv d hd=>by
  by_cases e:b.dst=some d
  ·rcases (hs.ba d e).2 with h | ⟨e1,z,h⟩
   ·exact absurd hd h
   ·obtain ⟨nb,rfl,hn⟩:=hv e1 z h
    rw [e]
    rcases S0 (s:=s) (i:=d) (v:=.ptr nb 0) (H:=H') with h | h
    ·exact .inr (.inl ⟨nb,0,h,hn⟩)
    ·exact .inl h
  ·exact .inl (GX e)
 -- the heap's part, for a heap that has grown
 have grown:∀v H',(∀e z,b.op = .alloc e z→∃nb,v = .ptr nb 0∧s.H nb=none)→(∀k x,s.H k=some x→H' k=some x)→Re a.op s.t s.H (AF s b.dst v H').t H':=fun v H' hv hH=>by
  refine ⟨ho v H',?_⟩
  cases hop:a.op <;> simp only [] <;> rw [hop] at hnw
  ·exact hH
  ·exact ⟨fun d hd=>hnw v H' hv d hd,fun k x e=>.inl (hH k x e)⟩
  ·exact fun k off _ e cells h=>hH _ _ h
  ·exact fun k t sz cap xs e=>hH _ _ e
  ·exact fun k t sz cap xs e=>hH _ _ e
 have zero:∀v H',Ei a.op=0→Re a.op s.t s.H (AF s b.dst v H').t H':=fun v H' h0=>by
  refine ⟨ho v H',?_⟩
  cases hop:a.op <;> rw [hop] at h0 <;> simp only [] <;> simp [Ei] at h0
 unfold Eu at *
 split at h
 ·next e =>
  by_cases h0:Ei a.op=0
  ·exact MN (fun v H' h=>⟨⟨hg v H',by rw [FK]; exact zero v H' h0⟩,h⟩) h
  ·by_cases hb:Ei b.op≤1
   ·obtain ⟨v,h1,h2⟩:=S3 hb h
    refine h2 s.t s.H _ ⟨fun _ _=>rfl,?_⟩ ⟨⟨hg v s.H,by rw [FK]; exact grown v s.H (fun e z hbe=>by rw [hbe] at hb; simp [Ei] at hb) (fun _ _ h=>h)⟩,h1⟩
    cases b.op <;> simp only [] <;> first | trivial | exact fun _ _ h=>h | exact fun _ _ _ _ _ h=>h | exact ⟨fun _ _=>.inl trivial,fun _ _ h=>.inl h⟩ | exact fun _ _ _ _ _ h=>h
   ·by_cases hb2:Ei b.op=2
    ·refine MN (fun v H' h=>?_) (AMO hb2 h)
     obtain ⟨⟨nb,x,hn,hH,hv⟩,h1⟩:=h
     subst hH
     refine ⟨⟨hg _ _,?_⟩,h1⟩
     rw [FK]
     refine grown _ _ (fun e z hbe=>⟨nb,hv ⟨e,z,hbe⟩,hn⟩) (fun k y hk=>?_)
     rw [AL,if_neg (by rintro rfl; rw [hn] at hk; cases hk)]
     exact hk
    ·rcases hs.cls with h4 | h4 | h4 | h4 | h4 | h4 | h4 | h4 | h4 | h4 | h4 | h4 | h4 | h4 | h4 | h4
     ·exact absurd h4 h0
     ·omega
     ·omega
     ·obtain ⟨g,p,l,n,d,v,e1,e2,hd⟩:=h4
      rw [e2] at h ⊢
      simp only [AR] at h ⊢
      split at h
      ·next bb off et =>
       refine ⟨h.1,?_⟩
       have h:=h.2
       split at h
       ·next et' cells eH =>
        refine ⟨h.1,⟨hg _ _,?_⟩,h.2⟩
        rw [FK]
        refine ⟨ho _ _,?_⟩
        rw [e1]
        refine ⟨fun d' hd'=>hnw _ _ (fun e z hbe=>by rw [e2] at hbe; cases hbe) d' (by rw [e1]; exact hd'),fun k x hk=>?_⟩
        rw [AL]
        by_cases hkb:bb=k
        ·subst hkb; exact .inr ⟨d,hd,off,et⟩
        ·rw [if_neg hkb]; exact .inl hk
       ·exact h.elim
      ·exact h.elim
     ·obtain ⟨hp,n,d,v,e2⟩:=h4
      rw [e2] at h ⊢
      simp only [AR] at h ⊢
      split at h
      ·next bb off et =>
       refine ⟨h.1,?_⟩
       have h:=h.2
       split at h
       ·next et' cells eH =>
        refine ⟨h.1,⟨hg _ _,?_⟩,h.2⟩
        rw [FK]
        refine ⟨ho _ _,?_⟩
        have key:∀k t sz cap xs,s.H k=some (.row t sz cap xs)→AI s.H bb (some (.box et' (setSeg cells off (E4 (ev s.t v))))) k=some (.row t sz cap xs):=fun k t sz cap xs hk=>by
         rw [AL,if_neg (by rintro rfl; rw [hk] at eH; cases eH)]; exact hk
        rcases hp with ⟨f,xs,e1⟩ | ⟨f,xs,e1⟩ <;> rw [e1] <;> exact key
       ·exact h.elim
      ·exact h.elim
     ·obtain ⟨g,d,c,f,xs,l,e1,e2,hd⟩:=h4
      rw [e2] at h ⊢
      simp only [AR] at h ⊢
      refine CallW.mono' h fun r H' h=>⟨h.1,⟨hg _ _,?_⟩,h.2⟩
      rw [FK]
      refine ⟨ho _ _,?_⟩
      rw [e1]
      exact h.1 c hd
     ·obtain ⟨g,d,c,e,sz,bytes,z,sx,x,e1,e2⟩:=h4
      rw [e2] at h ⊢
      simp only [AR] at h ⊢
      have key:∀(v:AV) (H':Heap),(∀k e cells,s.H k=some (.box e cells)→H' k=some (.box e cells))→Re a.op s.t s.H (AF s b.dst v H').t H':=fun v H' hk=>by
       refine ⟨ho _ _,?_⟩
       rw [e1]
       exact fun k off _ e cells=>hk k e cells
      refine QB (fun n ys h=>?_) h
      rcases h with ⟨g0,g1,h⟩ | h
      ·refine .inl ⟨g0,g1,?_⟩
       split at h
       ·exact ⟨⟨hg _ _,by rw [FK]; exact key _ _ fun _ _ _ h=>h⟩,h⟩
       ·exact ⟨⟨hg _ _,by rw [FK]; exact key _ _ fun _ _ _ h=>h⟩,h⟩
       ·exact h
      ·refine .inr ⟨h.1,?_⟩
       have h:=h.2
       split at h
       ·refine ⟨h.1,fun b' hb cap=>⟨⟨hg _ _,?_⟩,h.2 b' hb cap⟩⟩
        rw [FK]
        refine key _ _ fun k e' cells hk=>?_
        rw [AL,if_neg (by rintro rfl; rw [hb] at hk; cases hk)]
        exact hk
       ·next bb n' off len cap es =>
        split at h
        ·next eH =>
         refine ⟨h.1,fun b' cap' hb=>⟨⟨hg _ _,?_⟩,h.2 b' cap' hb⟩⟩
         rw [FK]
         refine key _ _ fun k e' cells hk=>?_
         have hkb:¬bb=k:=by rintro rfl; rw [hk] at eH; cases eH
         have hkb':¬b'=k:=by
          rintro rfl
          rw [AL,if_neg hkb,hk] at hb
          cases hb
         rw [AL,if_neg hkb',AL,if_neg hkb]
         exact hk
        ·exact h.elim
       ·next bb n' off len cap es =>
        split at h
        ·next eH =>
         refine ⟨h.1,fun b' cap' hb=>⟨⟨hg _ _,?_⟩,h.2 b' cap' hb⟩⟩
         rw [FK]
         refine key _ _ fun k e' cells hk=>?_
         have hkb:¬bb=k:=by rintro rfl; rw [hk] at eH; cases eH
         have hkb':¬b'=k:=by
          rintro rfl
          rw [AL,if_neg hkb,hk] at hb
          cases hb
         rw [AL,if_neg hkb',AL,if_neg hkb]
         exact hk
        ·exact h.elim
       ·exact h.elim
     ·obtain ⟨e,sz,bytes,z,sx,x,e1,e2,_⟩:=h4
      rw [e1] at ha; simp [Ei] at ha
     ·obtain ⟨⟨_,_,e1⟩ | ⟨_,_,_,_,_,e1⟩,_⟩:=h4 <;> rw [e1] at ha <;> simp [Ei] at ha
     ·obtain ⟨g,d,c,n,p,v,l,e1,e2,hd⟩:=h4
      rw [e2] at h ⊢
      simp only [AR] at h ⊢
      split at h
      ·next bb off et =>
       refine ⟨h.1,h.2.1,?_⟩
       have hno:=Pe.1 h.1
       have h:=h.2.2
       split at h
       ·next et' cells eH =>
        refine ⟨h.1,⟨hg _ _,?_⟩,h.2⟩
        rw [FK]
        refine ⟨ho _ _,?_⟩
        rw [e1]
        intro k off' htk e' cells' hk
        rw [AL,if_neg (fun e=>hno c hd k off' bb htk rfl e.symm)]
        exact hk
       ·exact h.elim
      ·exact h.elim
     ·obtain ⟨g,d,c,f,xs,l,e1,e2,hd⟩:=h4
      rw [e2] at h ⊢
      simp only [AR] at h ⊢
      split at h
      ·refine CallW.mono' h fun r H' h=>⟨h.1,⟨hg _ _,?_⟩,h.2⟩
       rw [FK]
       refine ⟨ho _ _,?_⟩
       rw [e1]
       exact h.1 c hd
      ·exact h.elim
     ·obtain ⟨g,p,e,sz,bytes,z,x,e1,e2⟩:=h4
      rw [e2] at h ⊢
      simp only [AR] at h ⊢
      split at h
      ·split at h
       ·refine ⟨h.1,fun nb hn=>⟨⟨hg _ _,?_⟩,h.2 nb hn⟩⟩
        rw [FK]
        refine ⟨ho _ _,?_⟩
        rw [e1]
        intro k y hk
        rw [AL,if_neg (by rintro rfl; rw [hn] at hk; cases hk)]
        exact hk
       ·exact h.elim
      ·exact h.elim
     ·obtain ⟨g,p,f,xs,e1,e2⟩:=h4
      rw [e2] at h ⊢
      simp only [AR] at h ⊢
      obtain ⟨args',e,sz,ys,g1,g2,g3,g4⟩:=h
      refine ⟨args',e,sz,ys,g1,g2,fun e0 n=>⟨⟨hg _ _,?_⟩,g3 e0 n⟩,fun nb cap hn=>⟨⟨hg _ _,?_⟩,g4 nb cap hn⟩⟩
      ·rw [FK]
       refine ⟨ho _ _,?_⟩
       rw [e1]
       exact fun k y hk=>hk
      ·rw [FK]
       refine ⟨ho _ _,?_⟩
       rw [e1]
       intro k y hk
       rw [AL,if_neg (by rintro rfl; rw [hn] at hk; cases hk)]
       exact hk
     ·obtain ⟨g,d,c,n,p,v,e1,e2⟩:=h4
      rw [e2] at h ⊢
      simp only [AR] at h ⊢
      split at h
      ·split at h
       ·next eH =>
        obtain ⟨h1,h2,el,h3,h4,h5⟩:=h
        refine ⟨h1,h2,el,h3,h4,⟨hg _ _,?_⟩,h5⟩
        rw [FK]
        refine ⟨ho _ _,?_⟩
        rw [e1]
        intro k off htk e' cells hk
        rw [AL,if_neg (by rintro rfl; rw [hk] at eH; cases eH)]
        exact hk
       ·exact h.elim
      ·exact h.elim
     ·obtain ⟨f,xs,l,e1,_⟩:=h4; rw [e1] at ha; simp [Ei] at ha
     ·obtain ⟨g,d,c,e,sz,len,z,ps,e1,e2⟩:=h4
      rw [e2] at h ⊢
      simp only [AR] at h ⊢
      split at h
      ·refine Nq (fun ds H' h=>?_) (AMj h)
       intro nb hnb
       refine ⟨⟨hg _ _,?_⟩,h.2 nb hnb⟩
       rw [FK]
       refine ⟨ho _ _,?_⟩
       rw [e1]
       intro k off _ e' cells hk
       have hk':=h.1 k e' cells hk
       rw [AL,if_neg (by rintro rfl; rw [hnb] at hk'; cases hk')]
       exact hk'
      ·exact h.elim
 ·next e =>
  refine ⟨⟨hg _ _,?_⟩,h⟩
  rw [FK]
  refine ⟨ho _ _,?_⟩
  have hv:∀d∈Hf a.op,(AF s b.dst .void s.H).t d=s.t d∨(∃bb off,(AF s b.dst .void s.H).t d = .ptr bb off∧s.H bb=none)∨(AF s b.dst .void s.H).t d = .void:=fun d hd=>by
   by_cases e:b.dst=some d
   ·rw [e]
    rcases S0 (s:=s) (i:=d) (v:=.void) (H:=s.H) with h | h
    ·exact .inr (.inr h)
    ·exact .inl h
   ·exact .inl (GX e)
  cases hop:a.op <;> simp only [] <;> rw [hop] at hv
  ·exact fun _ _ h=>h
  ·exact ⟨fun d hd=>hv d hd,fun _ _ h=>.inl h⟩
  ·exact fun _ _ _ _ _ h=>h
  ·exact fun _ _ _ _ _ h=>h
  ·exact fun _ _ _ _ _ h=>h
 ·exact h
theorem WO {b:AO} {s:St} {K:St→Prop} (h:Eu P b s K):Eu P b s fun s2=>(∀i,b.dst≠some i→s2.t i=s.t i)∧K s2:=by
 unfold Eu at *
 split
 ·next e=>rw [e] at h; exact MN (fun v H' h=>⟨fun i hi=>GX hi,h⟩) h
 ·next e=>rw [e] at h; exact ⟨fun i hi=>GX hi,h⟩
 ·next e=>rw [e] at h; exact h
theorem ABT {a b:AO} (hs:SwapOk a b) {s:St} {K:St→Prop} (h:Eu P b s K):Eu P b s fun s2=>Ev s2.t a=Ev s.t a∧K s2 :=
 Kz (fun s2 h=>⟨JC fun i hi=>h.1 i fun e=>(hs.ba i e).1 hi,h.2⟩) (WO h)
theorem TS {t:TM} {H:Heap} {K:AV→Heap→Prop} {e:TypeId} {z:List AV}:AR P t H K (.alloc e z)=∀b,H b=none→K (.ptr b 0) (AI H b (some (.box e z))):=rfl
theorem Lr {H:Heap} {i j:Nat} {x y:Option Blk} (h:i≠j):AI (AI H i x) j y=AI (AI H j y) i x:=by
 funext k
 simp only [AL]
 by_cases h1:i=k
 ·subst h1; rw [if_neg (fun e=>h e.symm),if_pos rfl]; simp
 ·by_cases h2:j=k
  ·subst h2; rw [if_pos rfl,if_neg h1]; simp
  ·simp [h1,h2]
theorem AKf {t:TM} {H:Heap} {K K2:AV→Heap→Prop} {e:TypeId} {xb:Blk} {sz bytes nb:Nat} {z:List AV} {sx x:Opd} (hn:H nb=none) (hk:∀v H',K v H'→H' nb=none→K2 v (AI H' nb (some xb))) (h:AR P t H K (.append e sz bytes z sx x)):AR P t (AI H nb (some xb)) K2 (.append e sz bytes z sx x):=by
 simp only [AR] at h ⊢
 have main:∀n ys,((ys=[]∧z.length=sz∧match ev t sx with
   | .nilsl n=>K (.nilsl n) H
   | .own b n off len cap=>K (.own b n off len cap) H
   | _=>False)∨VC (n=sz∧ys≠[]∧z.length=sz) (
   match ev t sx with
   | .nilsl _=>VC (ys.length*bytes≤140737488355328∧ys.length≤maxLen) (HQ H (.row e sz 0 []) fun b _=>∀cap,K (.own b sz 0 ys.length cap) (AI H b (some (.row e sz cap ys))))
   | .own b sz'' off len cap=>match H b with
    | some (.row e' sz''' cap'' xs)=>VC (e'=e∧sz''=sz∧sz'''=sz∧off=0∧cap=cap''∧len=xs.length∧(xs.length+ys.length)*bytes≤140737488355328∧xs.length+ys.length≤maxLen)
      (IR H b fun b' cap'=>K (.own b' sz 0 (len+ys.length) cap') (AI (AI H b none) b' (some (.row e sz cap' (xs++ys)))))
    | _=>False
   | .part b sz'' off len cap=>match H b with
    | some (.row e' sz''' cap'' xs)=>VC (e'=e∧sz''=sz∧sz'''=sz∧off=0∧(cap=0→len=0)∧cap<len+ys.length∧len≤xs.length∧(len+ys.length)*bytes≤140737488355328∧len+ys.length≤maxLen)
      (IR H b fun b' cap'=>K (.own b' sz 0 (len+ys.length) cap') (AI (AI H b none) b' (some (.row e sz cap' (xs.take len++ys)))))
    | _=>False
   | _=>False))→((ys=[]∧z.length=sz∧match ev t sx with
   | .nilsl n=>K2 (.nilsl n) (AI H nb (some xb))
   | .own b n off len cap=>K2 (.own b n off len cap) (AI H nb (some xb))
   | _=>False)∨VC (n=sz∧ys≠[]∧z.length=sz) (
   match ev t sx with
   | .nilsl _=>VC (ys.length*bytes≤140737488355328∧ys.length≤maxLen) (HQ (AI H nb (some xb)) (.row e sz 0 []) fun b _=>∀cap,K2 (.own b sz 0 ys.length cap) (AI (AI H nb (some xb)) b (some (.row e sz cap ys))))
   | .own b sz'' off len cap=>match (AI H nb (some xb)) b with
    | some (.row e' sz''' cap'' xs)=>VC (e'=e∧sz''=sz∧sz'''=sz∧off=0∧cap=cap''∧len=xs.length∧(xs.length+ys.length)*bytes≤140737488355328∧xs.length+ys.length≤maxLen)
      (IR (AI H nb (some xb)) b fun b' cap'=>K2 (.own b' sz 0 (len+ys.length) cap') (AI (AI (AI H nb (some xb)) b none) b' (some (.row e sz cap' (xs++ys)))))
    | _=>False
   | .part b sz'' off len cap=>match (AI H nb (some xb)) b with
    | some (.row e' sz''' cap'' xs)=>VC (e'=e∧sz''=sz∧sz'''=sz∧off=0∧(cap=0→len=0)∧cap<len+ys.length∧len≤xs.length∧(len+ys.length)*bytes≤140737488355328∧len+ys.length≤maxLen)
      (IR (AI H nb (some xb)) b fun b' cap'=>K2 (.own b' sz 0 (len+ys.length) cap') (AI (AI (AI H nb (some xb)) b none) b' (some (.row e sz cap' (xs.take len++ys)))))
    | _=>False
   | _=>False)):=by
  intro n ys h
  rcases h with ⟨g0,g1,h⟩ | h
  ·refine .inl ⟨g0,g1,?_⟩
   split at h
   ·exact hk _ _ h hn
   ·exact hk _ _ h hn
   ·exact h
  ·refine .inr ⟨h.1,?_⟩
   have h:=h.2
   split at h
   ·refine ⟨h.1,fun b hb cap=>?_⟩
    have hne:¬nb=b:=by
     rintro rfl
     rw [AL,if_pos rfl] at hb; cases hb
    rw [AL,if_neg hne] at hb
    have:=hk _ _ (h.2 b hb cap) (by rw [AL,if_neg (fun k=>hne k.symm)]; exact hn)
    rwa [Lr (fun k=>hne k.symm)] at this
   ·next b n' off len cap es =>
    have hne:¬nb=b:=by
     rintro rfl
     rw [hn] at h; exact h
    have hu:AI H nb (some xb) b=H b:=by rw [AL,if_neg hne]
    rw [hu]
    split at h
    ·refine ⟨h.1,fun b' cap' hb=>?_⟩
     have hne':¬nb=b':=by
      rintro rfl
      rw [AL,if_neg (fun k=>hne k.symm),AL,if_pos rfl] at hb
      cases hb
     have hb2:AI H b none b'=none:=by
      rw [AL] at hb ⊢
      split at hb
      ·next k=>rw [if_pos k]
      ·next k=>rw [if_neg k]; rw [AL,if_neg hne'] at hb; exact hb
     have:=hk _ _ (h.2 b' cap' hb2) (by rw [AL,if_neg (fun k=>hne' k.symm),AL,if_neg (fun k=>hne k.symm)]; exact hn)
     rw [Lr (fun k=>hne' k.symm)] at this
     have e2:AI (AI H b none) nb (some xb)=AI (AI H nb (some xb)) b none:=by
      funext k
      simp only [AL]
      by_cases k1:nb=k
      ·subst k1; rw [if_pos rfl,if_neg (fun k=>hne k.symm),if_pos rfl]
      ·rw [if_neg k1,if_neg k1]
     rwa [e2] at this
    ·exact h.elim
   ·next b n' off len cap es =>
    have hne:¬nb=b:=by
     rintro rfl
     rw [hn] at h; exact h
    have hu:AI H nb (some xb) b=H b:=by rw [AL,if_neg hne]
    rw [hu]
    split at h
    ·refine ⟨h.1,fun b' cap' hb=>?_⟩
     have hne':¬nb=b':=by
      rintro rfl
      rw [AL,if_neg (fun k=>hne k.symm),AL,if_pos rfl] at hb
      cases hb
     have hb2:AI H b none b'=none:=by
      rw [AL] at hb ⊢
      split at hb
      ·next k=>rw [if_pos k]
      ·next k=>rw [if_neg k]; rw [AL,if_neg hne'] at hb; exact hb
     have:=hk _ _ (h.2 b' cap' hb2) (by rw [AL,if_neg (fun k=>hne' k.symm),AL,if_neg (fun k=>hne k.symm)]; exact hn)
     rw [Lr (fun k=>hne' k.symm)] at this
     have e2:AI (AI H b none) nb (some xb)=AI (AI H nb (some xb)) b none:=by
      funext k
      simp only [AL]
      by_cases k1:nb=k
      ·subst k1; rw [if_pos rfl,if_neg (fun k=>hne k.symm),if_pos rfl]
      ·rw [if_neg k1,if_neg k1]
     rwa [e2] at this
    ·exact h.elim
   ·exact h.elim
 unfold Fl at h ⊢
 split at h
 ·exact main _ _ h
 ·exact main _ _ h
 ·next b n' off len cap es =>
  have hne:¬nb=b:=by
   rintro rfl
   rw [hn] at h; exact h
  rw [show AI H nb (some xb) b=H b by rw [AL,if_neg hne]]
  split at h
  ·exact ⟨h.1,main _ _ h.2⟩
  ·exact h.elim
 ·next b n' off len cap es =>
  have hne:¬nb=b:=by
   rintro rfl
   rw [hn] at h; exact h
  rw [show AI H nb (some xb) b=H b by rw [AL,if_neg hne]]
  split at h
  ·exact ⟨h.1,main _ _ h.2⟩
  ·exact h.elim
 ·exact h.elim
theorem AMW {f:FuncId} {args:List AV} {H:Heap} {K:AV→Heap→Prop} {nb:Nat} {xb:Blk} (hn:H nb=none) (h:CallW P f args H K) :
  CallW P f args (AI H nb (some xb)) fun r H'=>∃H1,K r H1∧H1 nb=none∧H'=AI H1 nb (some xb):=by
 classical
 intro F w vs hh hv
 have hsub:∀b x,H b=some x→AI H nb (some xb) b=some x:=fun b x hb=>by
  rw [AL,if_neg (fun e=>by rw [e,hb] at hn; cases hn)]; exact hb
 have hh0:HRel P F H w:=⟨fun b x hb=>hh.at_ b x (hsub b x hb),fun b x hb=>hh.apart b x (hsub b x hb),hh.old⟩
 have hnb:BR P F w nb xb:=hh.at_ nb xb (by rw [AL,if_pos rfl])
 have hlt:=hnb.lt
 have hF0:∀k,F k→H k=none:=fun k hk=>by
  cases e:H k with
  | none=>rfl
  | some x=>exact absurd hk (hh0.apart k x e)
 refine (h F w vs hh0 hv).mono fun e w' hr=>?_
 obtain ⟨r,H1,F',v,rfl,h1,h2,h3,h4⟩:=hr
 have hn1:H1 nb=none:=by
  cases e:H1 nb with
  | none=>rfl
  | some x =>
   rcases h3.dom nb (by rw [e]; simp) with e | e
   ·exact absurd hn e
   ·omega
 refine ⟨r,AI H1 nb (some xb),F',v,rfl,h1,⟨fun b x hb=>?_,fun b x hb hf=>?_,h2.old⟩,⟨h3.os,h3.tape,h3.output,h3.size,fun k hk e=>h3.keep k hk ?_,fun k hk=>?_,h3.mono,fun k hk=>?_⟩,H1,h4,hn1,rfl⟩
 ·rw [AL] at hb
  split at hb
  ·next e=>subst e; cases hb; exact hnb.mono (h3.keep nb hlt hn) h3.mono (fun k hk=>h3.keep k (hh.old k hk) (hF0 k hk))
  ·exact h2.at_ b x hb
 ·rw [AL] at hb
  split at hb
  ·next e =>
   subst e
   rcases h3.new nb hf with e2 | e2 | e2
   ·exact hh.apart nb xb (by rw [AL,if_pos rfl]) e2
   ·exact e2 hn
   ·omega
  ·exact h2.apart b x hb hf
 ·rw [AL] at e
  split at e
  ·cases e
  ·exact e
 ·rw [AL] at hk ⊢
  split
  ·exact .inl (by simp)
  ·next hne=>rw [if_neg hne] at hk; exact h3.dom k hk
 ·rcases h3.new k hk with e | e | e
  ·exact .inl e
  ·refine .inr (.inl ?_)
   rw [AL]; split
   ·simp
   ·exact e
  ·exact .inr (.inr e)
theorem AHn {a b:AO} (hs:SwapOk a b) {s:St} {K:St→Prop} (h:Eu P a s fun s1=>Eu P b s1 K):Eu P b s fun s2=>Eu P a s2 K:=by
 cases hg:Ev s.t a with
 | none=>simp only [Eu,hg] at h
 | some g =>
  cases g with
  | false =>
   have h':Eu P b (AF s a.dst .void s.H) K:=by simpa only [Eu,hg] using h
   refine Kz (fun s2 h2=>?_) (ABT hs (RW hs.ab h'))
   simp only [Eu,h2.1,hg]
   exact h2.2
  | true =>
   have h':AR P s.t s.H (fun v H'=>Eu P b (AF s a.dst v H') K) a.op:=by simpa only [Eu,hg] using h
   by_cases ha:Ei a.op≤1
   ·obtain ⟨v,h1,h2⟩:=S3 ha h'
    refine Kz (fun s2 h3=>?_) (AGV hs ha (RW hs.ab h1))
    obtain ⟨⟨h4,h5⟩,h6⟩:=h3
    simp only [Eu,h4,hg]
    exact h2 s2.t s2.H _ h5 h6
   ·by_cases hap:∃e sz bytes z sx x,a.op = .append e sz bytes z sx x∧KK b.op∧b.guard=none
    ·obtain ⟨e,sz,bytes,z,sx,x,e1,e2,e3⟩:=hap
     have hgb:∀u,Ev u b=some true:=fun u=>by simp [Ev,e3]
     have hga:∀v H',Ev (AF s b.dst v H').t a=some true:=fun v H'=>by rw [←hg]; exact JC fun i hi=>GX fun e=>(hs.ba i e).1 hi
     have hoa:∀v H' H2 K2,AR P (AF s b.dst v H').t H2 K2 a.op=AR P s.t H2 K2 a.op:=fun v H' H2 K2=>MS (fun i hi=>GX fun e=>(hs.ba i e).1 (JR hi)) (fun d hd=>by
      rw [e1] at hd; simp [Hf] at hd)
     have hob:∀v H',Hv (AF s a.dst v H').t b.op=Hv s.t b.op:=fun v H'=>Oc fun i hi=>GX fun e=>(hs.ab i e).1 (JR hi)
     simp only [Eu,hgb,hga,P5 e2,FK,hoa,hob] at h' ⊢
     rw [e1] at h' ⊢
     refine ⟨fun hf=>?_,fun nb hn f hf=>AKf hn (fun v H' h1 h2=>?_) h'⟩
     ·obtain ⟨v,H',h1,h2⟩:=AHX hf h'
      exact h1.1 h2
     ·have:=h1.2 nb h2 f hf
      rw [Kf (H3:=AI s.H nb (some (f nb).2)) (fun i e=>(hs.ab i e).2.2)] at this
      exact this
    by_cases hnn:KK a.op∧KK b.op∧(b.guard=none∨b.guard=a.guard)
    ·obtain ⟨na,nb',hgd⟩:=hnn
     have hgo:Ev s.t b=some true:=by
      rcases hgd with e | e
      ·simp [Ev,e]
      ·rw [show Ev s.t b=Ev s.t a by simp only [Ev,e],hg]
     have hgb:∀v H',Ev (AF s a.dst v H').t b=some true:=fun v H'=>by rw [←hgo]; exact JC fun i hi=>GX fun e=>(hs.ab i e).1 hi
     have hga:∀v H',Ev (AF s b.dst v H').t a=some true:=fun v H'=>by rw [←hg]; exact JC fun i hi=>GX fun e=>(hs.ba i e).1 hi
     have hoa:∀v H',Hv (AF s b.dst v H').t a.op=Hv s.t a.op:=fun v H'=>Oc fun i hi=>GX fun e=>(hs.ba i e).1 (JR hi)
     have hob:∀v H',Hv (AF s a.dst v H').t b.op=Hv s.t b.op:=fun v H'=>Oc fun i hi=>GX fun e=>(hs.ab i e).1 (JR hi)
     simp only [Eu,hgb,hga,hgo,P5 na,P5 nb',FK,hoa,hob] at h' ⊢
     refine ⟨fun hf=>?_,fun kb hkb fb hfb=>⟨fun hf=>h'.1 (KP.1 hf),fun ka hka fa hfa=>?_⟩⟩
     ·obtain ⟨k,_,hk⟩:=hf 0
      obtain ⟨fa,hfa⟩:=Option.isSome_iff_exists.1 (h'.1 hf)
      exact (h'.2 k hk fa hfa).1 (KP.2 hf)
     ·rw [AL] at hka
      split at hka
      ·cases hka
      ·next hne =>
       have:=(h'.2 ka hka fa hfa).2 kb (by rw [AL,if_neg (fun e=>hne e.symm)]; exact hkb) fb hfb
       rw [Lr (fun e=>hne e.symm),Kf (H3:=AI s.H kb (some (fb kb).2)) (fun i e=>(hs.ab i e).2.2)] at this
       exact this
    by_cases hcs:∃f xs l,a.op = .callS f xs l∧(∃e z,b.op = .alloc e z)∧b.guard=none
    ·obtain ⟨f,xs,l,e1,⟨e,z,e2⟩,e3⟩:=hcs
     have hgb:∀u,Ev u b=some true:=fun u=>by simp [Ev,e3]
     have hga:∀v H',Ev (AF s b.dst v H').t a=some true:=fun v H'=>by rw [←hg]; exact JC fun i hi=>GX fun e=>(hs.ba i e).1 hi
     have hoa:∀v H' H2 K2,AR P (AF s b.dst v H').t H2 K2 a.op=AR P s.t H2 K2 a.op:=fun v H' H2 K2=>MS (fun i hi=>GX fun e=>(hs.ba i e).1 (JR hi)) (fun d hd=>by
      rw [e1] at hd; simp [Hf] at hd)
     simp only [Eu,hgb,hga,FK,hoa] at h' ⊢
     rw [e1] at h' ⊢
     rw [e2] at h' ⊢
     simp only [TS] at h' ⊢
     simp only [AR] at h' ⊢
     intro nb hn
     refine CallW.mono' (AMW (xb:=.box e z) hn h') ?_
     rintro v H' ⟨H1,⟨k1,k2⟩,k3,rfl⟩
     refine ⟨fun d hd k off hk e' cells hc=>?_,?_⟩
     ·rw [AL] at hc ⊢
      split
      ·next hh=>rw [if_pos hh] at hc; exact hc
      ·next hh=>rw [if_neg hh] at hc; exact k1 d hd k off hk e' cells hc
     ·have:=k2 nb k3
      rw [Kf (H3:=AI s.H nb (some (.box e z))) (fun i e=>(hs.ab i e).2.2)] at this
      exact this
    have h2:Ei a.op=2∧(b.guard=none∨b.guard=a.guard)∧(∀e sz len z ps,a.op≠.buildSliceD e sz len z ps)∧∃e z,b.op = .alloc e z:=by
     rcases hs.cls with h4 | h4 | h4 | h4 | h4 | h4 | h4 | h4 | h4 | h4 | h4 | h4 | h4 | h4 | h4 | h4
     ·omega
     ·omega
     ·exact h4
     ·obtain ⟨g,p,l,n,d,v,e1,e2,hd⟩:=h4; rw [e1] at ha; simp [Ei] at ha
     ·obtain ⟨⟨f,xs,e1⟩ | ⟨f,xs,e1⟩,_⟩:=h4 <;> rw [e1] at ha <;> simp [Ei] at ha
     ·obtain ⟨g,d,c,f,xs,l,e1,e2,hd⟩:=h4; rw [e1] at ha; simp [Ei] at ha
     ·obtain ⟨g,d,c,e,sz,bytes,z,sx,x,e1,e2⟩:=h4; rw [e1] at ha; simp [Ei] at ha
     ·exact absurd h4 hap
     ·exact absurd h4 hnn
     ·obtain ⟨g,d,c,n,p,v,l,e1,e2,hd⟩:=h4; rw [e1] at ha; simp [Ei] at ha
     ·obtain ⟨g,d,c,f,xs,l,e1,e2,hd⟩:=h4; rw [e1] at ha; simp [Ei] at ha
     ·obtain ⟨g,p,e,sz,bytes,z,x,e1,e2⟩:=h4; rw [e1] at ha; simp [Ei] at ha
     ·obtain ⟨g,p,f,xs,e1,e2⟩:=h4; rw [e1] at ha; simp [Ei] at ha
     ·obtain ⟨g,d,c,n,p,v,e1,e2⟩:=h4; rw [e1] at ha; simp [Ei] at ha
     ·exact absurd h4 hcs
     ·obtain ⟨g,d,c,e,sz,len,z,ps,e1,e2⟩:=h4; rw [e1] at ha; simp [Ei] at ha
    obtain ⟨h2,hgd,hnd,e,z,hb⟩:=h2
    obtain ⟨x,mk,g1,g2,g3⟩:=APV h2 hnd h'
    have hgb:∀v H',Ev (AF s a.dst v H').t b=Ev s.t b:=fun v H'=>JC fun i hi=>GX fun e=>(hs.ab i e).1 hi
    have hga:∀v H',Ev (AF s b.dst v H').t a=Ev s.t a:=fun v H'=>JC fun i hi=>GX fun e=>(hs.ba i e).1 hi
    have hoa:∀v H' H2 K2,AR P (AF s b.dst v H').t H2 K2 a.op=AR P s.t H2 K2 a.op:=fun v H' H2 K2=>MS (fun i hi=>GX fun e=>(hs.ba i e).1 (JR hi)) (fun d hd=>by
     cases hop:a.op <;> rw [hop] at h2 hd <;> simp [Ei,Hf] at h2 hd)
    unfold Eu at g1 ⊢
    simp only [hgb,hga,hg,hoa] at g1 ⊢
    cases hgo:Ev s.t b with
    | none =>
     exfalso
     rcases hgd with e | e
     ·simp [Ev,e] at hgo
     ·rw [show Ev s.t b=Ev s.t a by simp only [Ev,e],hg] at hgo
      cases hgo
    | some g =>
     rw [hgo] at g1
     cases g with
     | false =>
      simp only [FK] at g1 ⊢
      refine g2 s.H _ fun nb hn=>?_
      have:=g1 nb hn
      rw [Kf (H3:=s.H) (fun i e=>(hs.ab i e).2.2)] at this
      exact this
     | true =>
      rw [hb] at g1 ⊢
      simp only [TS,FK] at g1 ⊢
      refine fun nb hn=>g2 _ _ fun na hna=>?_
      rw [AL] at hna
      split at hna
      ·cases hna
      ·next hne =>
       have:=g1 na hna nb (by rw [AL,if_neg (fun e=>hne e.symm)]; exact hn)
       rw [Lr (fun e=>hne e.symm),Kf (H3:=AI s.H nb (some (.box e z))) (fun i e=>(hs.ab i e).2.2)] at this
       exact this
def I8 (P:Program) (aos:List AO):List Nat→St→(St→Prop)→Prop
 | [],s,K=>K s
 | i::r,s,K=>match aos[i]? with
  | some o=>Eu P o s fun s'=>I8 P aos r s' K
  | none=>False
theorem Ss {aos:List AO}:∀{l:List Nat} {os:List AO} {s:St} {K:St→Prop},Lh aos l=some os→HB P os s K→I8 P aos l s K
 | [],os,s,K,hl,h=>by simp only [Lh,Option.some.injEq] at hl; subst hl; exact h
 | i::r,os,s,K,hl,h=>by
  simp only [Lh] at hl
  split at hl
  ·next a l h1 h2 =>
   cases hl
   rw [Rb] at h
   simp only [I8,h1]
   exact Kz (fun s' h=>Ss h2 h) h
  ·cases hl
theorem S6 {after clo:List (List Nat)} {aos:List AO}:∀{l:List Nat},NG after clo aos l=true→l.Pairwise fun i j=>KQ after clo aos i j=true
 | [],_=>.nil
 | i::r,h=>by
  simp only [NG,Bool.and_eq_true,List.all_eq_true] at h
  exact .cons h.1 (S6 h.2)
theorem TT {after clo:List (List Nat)} {aos:List AO} {i:Nat} {K:St→Prop}:∀{l:List Nat} {s:St},l.Pairwise (fun i j=>KQ after clo aos i j=true)→(∀x∈l,x∉clo.getD i [])→i∈l→I8 P aos l s K →
  ∃o,aos[i]? = some o∧Eu P o s fun s'=>I8 P aos (l.erase i) s' K
 | [],s,_,_,hi,_=>by cases hi
 | a::r,s,hp,hc,hi,h=>by
  simp only [I8] at h
  cases ha:aos[a]? with
  | none=>rw [ha] at h; exact h.elim
  | some oa =>
   rw [ha] at h
   dsimp only at h
   by_cases e:a=i
   ·subst e
    refine ⟨oa,ha,?_⟩
    rw [List.erase_cons_head]
    exact h
   ·have hir:i∈r:=by
     rcases List.mem_cons.1 hi with h | h
     ·exact absurd h.symm e
     ·exact h
    have hpa:=List.pairwise_cons.1 hp
    have hpi:=hpa.1 i hir
    simp only [KQ,Bool.and_eq_true,Bool.or_eq_true] at hpi
    have hsw:=hpi.2
    have hsw:(match aos[a]?,aos[i]? with | some a,some b=>Nm a b | _,_=>false)=true:=by
     rcases hsw with h | h
     ·exact absurd (by simpa using h) (hc a (by simp))
     ·exact h
    rw [ha] at hsw
    cases hio:aos[i]? with
    | none=>rw [hio] at hsw; cases hsw
    | some oi =>
     rw [hio] at hsw
     refine ⟨oi,rfl,?_⟩
     have key:Eu P oa s fun s1=>Eu P oi s1 fun s'=>I8 P aos (r.erase i) s' K:=Kz (fun s1 h1=>by
      obtain ⟨o,h2,h3⟩:=TT hpa.2 (fun x hx=>hc x (by simp [hx])) hir h1
      rw [hio] at h2; cases h2
      exact h3) h
     refine Kz (fun s' h'=>?_) (AHn (AJc hsw) key)
     rw [List.erase_cons_tail (by simpa using e)]
     simp only [I8,ha]
     exact h'
end
section
variable {P:Program} {B:Nat} {r:Option Nat}
theorem Step.defs {F F':Nat→Prop} {H H':Heap} {w w':World} {ds:List Deferred} (st:Step F H w F' H' w') (h:PA B F H ds w):PA B F' H' ds w':=by
 obtain ⟨h0,ms,h1,h2,h3⟩:=h
 refine ⟨Nat.le_trans h0 st.size,ms,h1,h2,fun D hD=>?_⟩
 obtain ⟨g1,g2,g3,g4⟩:=h3 D hD
 have hlt:D<w.heap.size:=(Array.getElem?_eq_some_iff.1 g4).1
 refine ⟨g1,?_,fun hF=>?_,(st.keep D hlt g2).trans g4⟩
 ·cases e:H' D with
  | none=>rfl
  | some x=>rcases st.dom D (by rw [e]; simp) with h | h
            ·exact absurd g2 h
            ·omega
 ·rcases st.new D hF with h | h | h
  ·exact g3 h
  ·exact h g2
  ·omega
theorem Rel.put {F F':Nat→Prop} {s:St} {a:Act} {w w':World} {H':Heap} (hr:Rel P B F s a w) (st:Step F s.H w F' H' w') (hh:HRel P F' H' w') (dst:Option Nat) {av:AV} {v:Value} (hv:VR P F' w' av v) :
  Rel P B F' (AF s dst av H') (a.put dst v) w':=by
 obtain ⟨h1,h2,h3,h4⟩:=hr
 have h4':∀t,VR P F' w' (s.t t) (a.tmps.getD t undef):=fun t=>st.VR h1 (h4 t)
 have h2:=st.defs h2
 cases dst with
 | none=>exact ⟨hh,h2,h3,h4'⟩
 | some d =>
  simp only [AF]
  split
  ·next hd =>
   refine ⟨hh,h2,by simp [Act.put,h3],fun t=>?_⟩
   simp only [Au,Act.put]
   by_cases e:d=t
   ·subst e
    simp only [beq_self_eq_true,cond_true]
    rw [show (a.tmps.setIfInBounds d v).getD d undef=v by simp [Array.getD,h3,hd]]
    exact hv
   ·rw [show (d == t)=false by simpa using e]
    simp only [cond_false]
    rw [show (a.tmps.setIfInBounds d v).getD t undef=a.tmps.getD t undef by rw [Array.getD_eq_getD_getElem?,Array.getD_eq_getD_getElem?,Array.getElem?_setIfInBounds_ne e]]
    exact h4' t
  ·next hd =>
   have e:a.tmps.setIfInBounds d v=a.tmps:=by
    apply Array.ext'
    simp only [Array.toList_setIfInBounds]
    exact List.set_eq_of_length_le (by simp; omega)
   simp only [Act.put,e]
   exact ⟨hh,h2,h3,h4'⟩
theorem Step.put {F F' F'':Nat→Prop} {s:St} {w w' w'':World} {H' H'':Heap} {dst:Option Nat} {av:AV} (h:Step F s.H w F' H' w') (h2:Step F' (AF s dst av H').H w' F'' H'' w''):Step F s.H w F'' H'' w'' :=
 h.trans (by rw [FK] at h2; exact h2)
theorem Q2 {ops:Array Oper} {Q:Exit→Act→World→Prop} {o:Oper} {ao:AO} {F:Nat→Prop} {s:St} {a:Act} {w:World} {K:St→Prop} {K':Act→World→Prop} (hc:MW P ops o=some ao) (hr:Rel P B F s a w) (hk:Eu P ao s K)
  (hq:∀F' s' a' w',Rel P B F' s' a' w'→Step F s.H w F' s'.H w'→K s'→K' a' w'):if Region.wanted o (yielded ops a.tmps) then o.wpIn (F8 r) 0 P a w K' Q else (∀f,o.about P w a.eval=some f→(F8 r).fn f)∧K' (a.put o.dst undef) w:=by
 unfold MW at hc
 split at hc
 ·next g op hg hop =>
  cases hc
  have run:AR P s.t s.H (fun v H'=>K (AF s o.dst v H')) op→o.wpIn (F8 r) 0 P a w K' Q:=fun hk =>
   AN8 hop hr hk r _ _ fun v av H' F' w' h1 h2 h3 h4=>hq F' _ _ _ (hr.put h3 h2 o.dst h1) (by rw [FK]; exact h3) h4
  have skip:K (AF s o.dst .void s.H)→(∀f,o.about P w a.eval=some f→(F8 r).fn f)∧K' (a.put o.dst undef) w:=fun hk =>
   ⟨fun _ _=>trivial,hq F _ _ _ (hr.put (Step.refl _ _ _) hr.1 o.dst .void) (by rw [FK]; exact Step.refl _ _ _) hk⟩
  cases hgd:o.guard with
  | none =>
   rw [hgd] at hg
   simp only [Ot,Option.some.injEq] at hg
   subst hg
   rw [if_pos (by simp [Region.wanted,hgd])]
   exact run hk
  | some jw =>
   obtain ⟨j,want⟩:=jw
   rw [hgd] at hg
   simp only [Ot] at hg
   split at hg
   ·next d hd =>
    cases hg
    have ht:=hr.2.2.2 d
    simp only [Eu,Ev] at hk
    cases hsd:s.t d <;> rw [hsd] at hk <;> try exact hk.elim
    case d x =>
     cases x <;> try exact hk.elim
     next c =>
     rw [hsd] at ht
     generalize hv:a.tmps.getD d undef=v at ht
     cases ht; next ht =>
     cases ht
     have hy:yielded ops a.tmps j=some c:=by
      have hlt:d<a.tmps.size:=by
       rcases Nat.lt_or_ge d a.tmps.size with h | h
       ·exact h
       ·rw [Array.getD_eq_getD_getElem?,Array.getElem?_eq_none h] at hv; cases hv
      have h2:a.tmps[d]? = some (.bool c):=by
       rw [Array.getD_eq_getD_getElem?,Array.getElem?_eq_getElem hlt] at hv
       rw [Array.getElem?_eq_getElem hlt]
       simpa using hv
      simp [yielded,hd,h2]
     have hw:Region.wanted o (yielded ops a.tmps)=(c == want):=by simp [Region.wanted,hgd,hy]
     rw [hw]
     dsimp only at hk
     cases hcw:(c == want) with
     | true=>rw [hcw] at hk; rw [if_pos rfl]; exact run hk
     | false=>rw [hcw] at hk; rw [if_neg (by simp)]; exact skip hk
    case void =>
     rw [hsd] at ht
     generalize hv:a.tmps.getD d undef=v at ht
     cases ht
     have hy:yielded ops a.tmps j=none:=by
      unfold yielded
      rw [hd]
      simp only [Option.bind_some]
      rw [Array.getD_eq_getD_getElem?] at hv
      cases h3:a.tmps[d]? with
      | none=>rfl
      | some u =>
       rw [h3] at hv
       simp only [Option.getD_some] at hv
       subst hv
       rfl
     have hw:Region.wanted o (yielded ops a.tmps)=false:=by simp [Region.wanted,hgd,hy]
     rw [hw,if_neg (by simp)]
     exact skip hk
   ·cases hg
 ·cases hc
theorem SW {ops:Array Oper} {Q:Exit→Act→World→Prop}:∀{l:List Oper} {al:List AO} {F:Nat→Prop} {s:St} {a:Act} {w:World} {K:St→Prop},IT P ops l=some al→Rel P B F s a w→HB P al s K →
  (∀F' s' a' w',Rel P B F' s' a' w'→Step F s.H w F' s'.H w'→K s'→Q .normal a' w')→wpListIn (F8 r) 0 P ops Q l a w
 | [],al,F,s,a,w,K,hc,hr,hk,hq=>by
  simp only [IT,Option.some.injEq] at hc
  subst hc
  exact hq F s a w hr (Step.refl _ _ _) hk
 | o::l,al,F,s,a,w,K,hc,hr,hk,hq=>by
  simp only [IT] at hc
  split at hc
  ·next ao al' ha hl =>
   cases hc
   rw [Rb] at hk
   exact Q2 ha hr hk fun F' s' a' w' h1 h2 h3=>SW hl h1 h3 fun F'' s'' a'' w'' r1 r2 r3=>hq F'' s'' a'' w'' r1 (h2.trans r2) r3
  ·cases hc
theorem Q9 {H0 H:Heap} {K:List D→Heap→Prop}:∀{l:List AV} {ds:List D},FG l=some ds→K ds H→Aq H0 H l K
 | [],ds,h,hk=>by simp only [FG,Option.some.injEq] at h; subst h; exact hk
 | x::l,ds,h,hk=>by
  cases x <;> simp only [FG,reduceCtorEq] at h
  all_goals
   split at h
   ·next ds' e =>
    cases h
    exact Q9 (K:=fun xs H''=>K (_::xs) H'') e hk
   ·cases h
theorem ALq {H:Heap} {K:List D→Heap→Prop} {l:List AV} {ds:List D} (h:FG l=some ds) (hk:K ds H):Aj H l K:=Q9 h hk
theorem AOU {t:TM} {H:Heap} {K:AV→Heap→Prop} {b b2:Bool} {news:List Nat} {lp:Option Nat} {kp sk:Option (List Nat)} {op:AOp} (hf:H9 H) (h:AR P t H K (KF b b2 news lp kp sk op)):AR P t H K op:=by
 cases op <;> try exact h
 case load g x =>
  simp only [KF] at h
  split at h
  ·simp only [AR] at h ⊢
   split at h
   ·next el off e=>rw [e]; exact h
   ·exact h.elim
  ·split at h
   ·split at h
    ·next d =>
     simp only [AR,ev] at h ⊢
     split at h
     ·next b off b' off' e e'=>rw [e]; exact h.2
     ·exact h.elim
    ·exact h
   ·split at h
    ·exact h
    ·exact h.2
 case store n p v =>
  cases p with
  | c x=>exact h
  | t d =>
   simp only [KF] at h
   split at h
   ·simp only [AR,ev] at h ⊢
    split at h
    ·next b off e =>
     rw [e]
     exact h.2
    ·exact h.elim
   split at h
   ·simp only [AR] at h ⊢
    simp only [ev]
    split at h
    ·next b off e =>
     rw [e]
     exact h
    ·exact h.elim
   ·exact h
 case buildSlice e sz len z ps =>
  cases sk with
  | some _=>exact h
  | none =>
  simp only [KF,AR] at h ⊢
  have h1:=h.1 hf
  have h2:=h.2
  split
  ·next cs e1 =>
   rw [e1] at h1 h2
   cases e2:FG cs with
   | none=>simp [IN,e2] at h1
   | some ds=>exact ALq (K:=fun ds H'=>HQ H' (.row e sz len (Ad sz len ds)) fun b H''=>K (.own b sz 0 len len) H'') e2 (fun b hb=>h2 b hb _ (by simp [IN,e2]))
  ·next e1=>rw [e1] at h1; simp [IN] at h1
 case call f xs =>
  cases b
  ·simp only [KF,Bool.false_eq_true,if_false] at h
   split at h
   ·simp only [AR] at h ⊢
    exact CallW.mono' h fun r H' h=>h.2
   ·exact PCallK.call h
  ·exact h
 case callv g xs =>
  cases b
  ·simp only [KF,Bool.false_eq_true,if_false] at h
   split at h
   ·simp only [AR] at h ⊢
    split at h
    ·next e=>rw [e]; exact CallW.mono' h fun r H' h=>h.2
    ·exact h.elim
   ·simp only [AR] at h ⊢
    split at h
    ·next e=>rw [e]; exact PCallK.call h
    ·exact h.elim
  ·exact h
theorem APn {t:TM} {H:Heap} {K:AV→Heap→Prop} {nc b b2:Bool} {news:List Nat} {lp:Option Nat} {kp sk:Option (List Nat)} {op:AOp} (hf:H9 H) (h:AR P t H K (LO nc b b2 news lp kp sk op)):AR P t H K op:=by
 unfold LO at h
 split at h
 ·split at h
  ·exact NCallK.call h
  ·simp only [AR] at h ⊢
   split at h
   ·next e1 e2 =>
    split at h
    ·next eH =>
     obtain ⟨⟨rfl,hz⟩,h2,el,h3,h4,h5⟩:=h
     rw [e1,e2]
     simp only [JW,eH,E4,Aj,Aq,Ap]
     exact ⟨rfl,hz,h2,el,h3,h4,h5⟩
    ·exact h.elim
   ·exact h.elim
  ·exact h
 ·exact AOU hf h
theorem AKg {o:AO} {nc b b2:Bool} {news:List Nat} {lp:Option Nat} {kp sk:Option (List Nat)} {s:St} {K:St→Prop} (hf:H9 s.H) (h:Eu P { o with op:=LO nc b b2 news lp kp sk o.op } s K):Eu P o s K:=by
 have e:Ev s.t { o with op:=LO nc b b2 news lp kp sk o.op }=Ev s.t o:=rfl
 unfold Eu at *
 rw [e] at h
 split
 ·next e=>rw [e] at h; exact APn hf h
 ·next e=>rw [e] at h; exact h
 ·next e=>rw [e] at h; exact h
theorem Rel.free {F:Nat→Prop} {s:St} {a:Act} {w:World} (h:Rel P B F s a w):H9 s.H:=fun n=>by
 refine ⟨max n w.heap.size,by omega,?_⟩
 cases e:s.H (max n w.heap.size) with
 | none=>rfl
 | some x=>have:=(h.1.at_ _ x e).lt; omega
theorem Rel.drawn {F:Nat→Prop} {s:St} {a:Act} {w:World} (h:Rel P B F s a w) (n:Nat):Rel P B F s a { w with drawn:=n } :=
 ⟨⟨fun b x hb=>(h.1.at_ b x hb).mono rfl (fun _ h=>h) (fun _ _=>rfl),h.1.apart,h.1.old⟩,h.2.1,h.2.2.1,fun t=>(h.2.2.2 t).mono (fun _ h=>h) (fun _ _=>rfl)⟩
theorem Step.drawn (F:Nat→Prop) (H:Heap) (w:World) (n:Nat):Step F H w F H { w with drawn:=n } where
 os:=rfl
 tape:=rfl
 output:=rfl
 size:=Nat.le_refl _
 keep:=fun _ _ _=>rfl
 dom:=fun _ h=>.inl h
 mono:=fun _ h=>h
 new:=fun _ h=>.inl h
theorem RC {ops:Array Oper}:∀{l:List Oper} {al:List AO},IT P ops l=some al→al.length=l.length∧∀(i:Nat) o,l[i]? = some o→∃ao,al[i]? = some ao∧MW P ops o=some ao
 | [],al,h=>by simp only [IT,Option.some.injEq] at h; subst h; exact ⟨rfl,fun i o h=>by simp at h⟩
 | o::l,al,h=>by
  simp only [IT] at h
  split at h
  ·next a l' h1 h2 =>
   cases h
   obtain ⟨g1,g2⟩:=RC h2
   refine ⟨by simp [g1],fun i o' hi=>?_⟩
   cases i with
   | zero=>simp only [List.getElem?_cons_zero,Option.some.injEq] at hi; subst hi; exact ⟨a,by simp,h1⟩
   | succ i=>simpa using g2 i o' (by simpa using hi)
  ·cases h
structure Drawn (P:Program) (ops:Array Oper) (after clo:List (List Nat)) (aos:List AO):Prop where
 ops_:∀(i:Nat) o,ops[i]? = some o→∃ao nc bo b2 nw lp kp sk,MW P ops o=some ao∧aos[i]? = some { ao with op:=LO nc bo b2 nw lp kp sk ao.op }∧after.getD i []=MQ o
 clo_:∀i,∀x∈clo.getD i [],∃k∈after.getD i [],k=x∨x∈clo.getD k []
 aft_:∀i,∀k∈after.getD i [],k<ops.size
theorem AGq {ops:Array Oper} {after clo:List (List Nat)} {aos:List AO} {Q:Exit→Act→World→Prop} {K:St→Prop} {F0:Nat→Prop} {H0:Heap} {w0:World} (hd:Drawn P ops after clo aos)
  (hq:∀F' s' a' w',Rel P B F' s' a' w'→Step F0 H0 w0 F' s'.H w'→K s'→Q .normal a' w') :
  ∀(n:Nat) (l:List Nat) (listed:Array Bool) (F:Nat→Prop) (s:St) (a:Act) (w:World),l.length=n→listed.size=ops.size→(∀j,j<ops.size→(listed.getD j false=false↔j∈l))→(∀j∈l,j<ops.size) →
   l.Pairwise (fun i j=>KQ after clo aos i j=true)→(∀i∈l,i∉after.getD i [])→(∀k,k<ops.size→k∉l→∀x∈l,x∉clo.getD k []) →
   Rel P B F s a w→Step F0 H0 w0 F s.H w→I8 P aos l s K→wpAnyIn (F8 r) 0 P .any ops Q n listed a w:=by
 have rdy:∀(l:List Nat) (listed:Array Bool),listed.size=ops.size→(∀j,j<ops.size→(listed.getD j false=false↔j∈l))→(∀j∈l,j<ops.size) →
   ∀i,i∈Region.ready .any ops listed↔i∈l∧∀k∈after.getD i [],k∉l:=by
  intro l listed hs hl hlt i
  rw [mem_ready]
  have hgd:∀j,listed.getD j true=false↔j∈l:=fun j=>by
   by_cases hj:j<ops.size
   ·rw [←hl j hj]
    rw [Array.getD_eq_getD_getElem?,Array.getD_eq_getD_getElem?,Array.getElem?_eq_getElem (by omega)]
    simp
   ·refine ⟨fun h=>?_,fun h=>absurd (hlt j h) hj⟩
    rw [Array.getD_eq_getD_getElem?,Array.getElem?_eq_none (by omega)] at h
    cases h
  rw [hgd]
  refine and_congr_right fun hi=>?_
  obtain ⟨o,ho⟩:∃o,ops[i]? = some o:=⟨_,Array.getElem?_eq_getElem (hlt i hi)⟩
  obtain ⟨ao,nc,bo,b2,nw,lp,kp,sk,h1,h2,h3⟩:=hd.ops_ i o ho
  refine ⟨fun ⟨o',ho',h⟩ k hk=>?_,fun h=>⟨o,ho,fun e he hb=>?_⟩⟩
  ·rw [ho] at ho'; cases ho'
   rw [h3] at hk
   simp only [MQ,List.mem_map,List.mem_filter] at hk
   obtain ⟨e,⟨he,hb⟩,rfl⟩:=hk
   intro hc
   have:=h e (by simpa using he) hb
   have h':=(hl e.on (hlt e.on hc)).2 hc
   rw [this] at h'; cases h'
  ·have hk:e.on∈after.getD i []:=by
    rw [h3]
    simp only [MQ,List.mem_map,List.mem_filter]
    exact ⟨e,⟨by simpa using he,hb⟩,rfl⟩
   cases hv:listed.getD e.on false with
   | true=>rfl
   | false=>exact absurd ((hl e.on (hd.aft_ i _ hk)).1 hv) (h _ hk)
 intro n
 induction n with
 | zero =>
  intro l listed F s a w hn hs hl hlt hp hi hc hr hst hk
  cases l with
  | cons x l=>simp at hn
  | nil =>
   refine ⟨?_,hq F s a w hr hst hk⟩
   rw [List.eq_nil_iff_forall_not_mem]
   intro i hi
   rw [rdy [] listed hs hl hlt i] at hi
   cases hi.1
 | succ n ih =>
  intro l listed F s a w hn hs hl hlt hp hi hc hr hst hk
  refine ⟨fun hnil=>?_,fun i hri=>?_⟩
  ·exfalso
   cases l with
   | nil=>simp at hn
   | cons x l =>
    have hx:x∈Region.ready .any ops listed:=by
     rw [rdy (x::l) listed hs hl hlt x]
     refine ⟨by simp,fun k hk hkl=>?_⟩
     rcases List.mem_cons.1 hkl with rfl | h
     ·exact hi k (by simp) hk
     ·have:=(List.pairwise_cons.1 hp).1 k h
      simp only [KQ,Bool.and_eq_true,Bool.not_eq_true',List.contains_eq_mem,decide_eq_false_iff_not] at this
      exact this.1.1 hk
    rw [hnil] at hx; cases hx
  ·rw [rdy l listed hs hl hlt i] at hri
   obtain ⟨hil,hri⟩:=hri
   have hci:∀x∈l,x∉clo.getD i []:=fun x hx hxc=>by
    obtain ⟨k,hk,h | h⟩:=hd.clo_ i x hxc
    ·subst h; exact hri k hk hx
    ·exact hc k (hd.aft_ i k hk) (hri k hk) x hx h
   obtain ⟨o,h1,h2⟩:=TT hp hci hil hk
   have hilt:=hlt i hil
   obtain ⟨oo,hoo⟩:∃o,ops[i]? = some o:=⟨_,Array.getElem?_eq_getElem hilt⟩
   obtain ⟨ao,nc,bo,b2,nw,lp,kp,sk,g1,g2,g3⟩:=hd.ops_ i oo hoo
   rw [g2] at h1; cases h1
   unfold wpOpIn
   rw [hoo]
   have hnd:l.Nodup:=hp.imp fun {x y} h=>by
    simp only [KQ,Bool.and_eq_true,bne_iff_ne,ne_eq] at h
    exact h.1.2
   refine Q2 g1 hr (AKg hr.free h2) fun F' s' a' w' r1 r2 r3=>ih (l.erase i) _ F' s' a' w' (by rw [List.length_erase_of_mem hil]; omega) (by simp [hs]) (fun j hj=>?_) (fun j hj=>hlt j (List.mem_of_mem_erase hj))
    (hp.sublist List.erase_sublist) (fun j hj=>hi j (List.mem_of_mem_erase hj)) (fun k hk hkl x hx=>?_) r1 (hst.trans r2) r3
   ·rw [hnd.mem_erase_iff]
    by_cases e:i=j
    ·subst e
     simp [Array.getD_eq_getD_getElem?,hs,hilt]
    ·rw [getD_set_ne false e,hl j hj]
     exact ⟨fun h=>⟨fun e'=>e e'.symm,h⟩,fun h=>h.2⟩
   ·have hxl:=List.mem_of_mem_erase hx
    by_cases e:k=i
    ·subst e; exact hci x hxl
    ·exact hc k hk (fun hkl'=>hkl ((hnd.mem_erase_iff).2 ⟨e,hkl'⟩)) x hxl
theorem Ht {ld:Nat} {ops:Array Oper} {id:Nat} {ac:ACode} (hc:F7 P ld ops=some ac):∃l,ac = .dops l∧∀{s:St} {K:St→Prop},HB P l s K →
  ∀{B:Nat} {r:Option Nat} {F:Nat→Prop} {a:Act} {w:World} {Q:Exit→Act→World→Prop},Rel P B F s a w→(∀F' s' a' w',Rel P B F' s' a' w'→Step F s.H w F' s'.H w'→K s'→Q .normal a' w')→(Code.region id ops true).wpIn (F8 r) 0 P Q a w:=by
 unfold F7 at hc
 split at hc
 ·cases hc
 ·next aos0 h0 =>
  obtain ⟨hlen,hget⟩:=RC h0
  simp only [Array.length_toList] at hlen
  extract_lets after clo heavy stores lds ordered apart open1 baseOf adrOf isAl keeps isSt lps ncs isBS sks news0 dsts outs news aos ord at hc
  split at hc
  ·next hchk =>
   simp only [Option.map_eq_some_iff] at hc
   obtain ⟨l,hl,rfl⟩:=hc
   refine ⟨l,rfl,?_⟩
   simp only [Bool.and_eq_true,beq_iff_eq,List.all_eq_true,decide_eq_true_eq,Bool.not_eq_true',List.contains_eq_mem,decide_eq_false_iff_not,List.mem_range] at hchk
   obtain ⟨⟨⟨⟨⟨⟨⟨hm,hol⟩,hco⟩,hpo⟩,hor⟩,hcov⟩,haf⟩,hcl⟩:=hchk
   have hal:aos.length=ops.size:=by simp only [aos,List.length_map,List.length_zipIdx,hlen]
   rw [hal] at hol hor hcov haf hcl
   have hafl:after.length=ops.size:=by simp [after]
   have hd:Drawn P ops after clo aos:=by
    refine ⟨fun i o hi=>?_,fun i x hx=>?_,fun i k hk=>?_⟩
    ·obtain ⟨ao,h1,h2⟩:=hget i o (by simpa using hi)
     refine ⟨ao,ncs i,ordered i,lds i,news,lps i,keeps i,sks i,h2,?_,?_⟩
     ·simp [aos,h1]
     ·simp [after,hi]
    ·have hi:i<clo.length:=by
      rcases Nat.lt_or_ge i clo.length with h | h
      ·exact h
      ·simp [List.getElem?_eq_none h] at hx
     simp only [TU,List.all_eq_true,List.mem_range,List.any_eq_true,Bool.or_eq_true,beq_iff_eq,List.contains_eq_mem,decide_eq_true_eq] at hco
     exact hco i hi x hx
    ·have hi:i<after.length:=by
      rcases Nat.lt_or_ge i after.length with h | h
      ·exact h
      ·simp [List.getElem?_eq_none h] at hk
     rw [List.getD_eq_getElem?_getD,List.getElem?_eq_getElem hi] at hk
     exact haf _ (List.getElem_mem hi) k (by simpa using hk)
   intro s K hk B r F a w Q hr hq
   refine wpIn_region_any hm ?_
   refine AGq hd (F0:=F) (H0:=s.H) (w0:=w) hq ops.size ord _ F s a _ hol (by simp) (fun j hj=>?_) (fun j hj=>(hor j hj).1) (S6 hpo) (fun i hi=>(hor i hi).2) (fun k hk hkl=>absurd (hcov k hk) hkl) (hr.drawn _) (Step.drawn _ _ _ _) (Ss hl hk)
   simp [Array.getD_eq_getD_getElem?,hj,hcov j hj]
  ·cases hc
theorem W8 {ops:Array Oper} {id:Nat} {ac:ACode} (hc:O6 P ops=some ac):∃l,ac = .dops l∧∀{s:St} {K:St→Prop},HB P l s K →
  ∀{B:Nat} {r:Option Nat} {F:Nat→Prop} {a:Act} {w:World} {Q:Exit→Act→World→Prop},Rel P B F s a w→(∀F' s' a' w',Rel P B F' s' a' w'→Step F s.H w F' s'.H w'→K s'→Q .normal a' w')→(Code.region id ops true).wpIn (F8 r) 0 P Q a w:=by
 unfold O6 at hc
 split at hc
 ·exact Ht hc
 split at hc
 ·exact Ht hc
 split at hc
 ·next c h=>cases hc; exact Ht h
 ·split at hc
  ·next c h=>cases hc; exact Ht h
  ·split at hc
   ·next c h =>
    split at hc
    ·exact Ht hc
    ·split at hc
     ·exact Ht hc
     ·split at hc
      ·exact Ht hc
      ·cases hc; exact Ht h
   ·split at hc
    ·next c h=>cases hc; exact Ht h
    ·exact Ht hc
theorem Iw {ops:Array Oper} {id:Nat} {ac:ACode} (hc:O3 P ops=some ac):∃l,ac = .dops l∧∀{s:St} {K:St→Prop},HB P l s K →
  ∀{B:Nat} {r:Option Nat} {F:Nat→Prop} {a:Act} {w:World} {Q:Exit→Act→World→Prop},Rel P B F s a w→(∀F' s' a' w',Rel P B F' s' a' w'→Step F s.H w F' s'.H w'→K s'→Q .normal a' w')→(Code.region id ops true).wpIn (F8 r) 0 P Q a w:=by
 unfold O3 at hc
 split at hc
 ·exact Ht hc
 split at hc
 ·next c h =>
  split at hc
  ·exact Ht hc
  ·cases hc; exact W8 h
 ·cases hc
theorem AW.mono {c:Code} {s:St} {Q Q':Out→St→Prop} (h:AW P r c s Q) (hq:∀o s',Q o s'→Q' o s'):AW P r c s Q' :=
 fun B F a w hr=>Code.wpIn_mono (fun _ _ _ ⟨o,s',F',h1,h2,h3,h4⟩=>⟨o,s',F',h1,h2,h3,hq o s' h4⟩) (h B F a w hr)
theorem JI {r:Option Nat}:∀{ac:ACode} {c:Code} {s:St} {Q:Out→St→Prop},Fi P c=some ac→(r=none∨GS ac=true)→Fj P ac s Q→AW P r c s Q
 | .skip,c,s,Q,hc,hf,hk=>by
  cases c <;> simp only [Fi,Option.map_eq_some_iff,reduceCtorEq,and_false,exists_false,Option.some.injEq] at hc
  case skip=>exact fun B F a w hr=>wpIn_skip ⟨.normal,s,F,trivial,hr,Step.refl _ _ _,hk⟩
  case region id ops draw =>
   split at hc
   ·obtain ⟨_,e,_⟩:=Iw (id:=id) hc
    cases e
   ·simp at hc
  case seq x y=>split at hc <;> simp at hc
  case rangeFunc g ps x y=>split at hc <;> (try split at hc) <;> simp at hc
  case cond x y z=>split at hc <;> simp at hc
 | .ops l,c,s,Q,hc,hf,hk=>by
  cases c <;> simp only [Fi,Option.map_eq_some_iff,reduceCtorEq,and_false,exists_false,Option.some.injEq] at hc
  case region id ops draw =>
   split at hc
   ·obtain ⟨_,e,_⟩:=Iw (id:=id) hc
    cases e
   ·next hd =>
    simp only [Option.map_eq_some_iff,ACode.ops.injEq] at hc
    obtain ⟨al,h1,rfl⟩:=hc
    have:draw=false:=by simpa using hd
    subst this
    exact fun B F a w hr=>wpIn_region_list (SW h1 hr hk fun F' s' a' w' h2 h3 h4=>⟨.normal,s',F',trivial,h2,h3,h4⟩)
  case seq x y=>split at hc <;> simp at hc
  case rangeFunc g ps x y=>split at hc <;> (try split at hc) <;> simp at hc
  case cond x y z=>split at hc <;> simp at hc
 | .dops l,c,s,Q,hc,hf,hk=>by
  cases c <;> simp only [Fi,Option.map_eq_some_iff,reduceCtorEq,and_false,exists_false,Option.some.injEq] at hc
  case region id ops draw =>
   split at hc
   ·next hd =>
    obtain ⟨l',e,h⟩:=Iw (id:=id) hc
    cases e
    have:draw=true:=by simpa using hd
    subst this
    exact fun B F a w hr=>h hk hr fun F' s' a' w' h2 h3 h4=>⟨.normal,s',F',trivial,h2,h3,h4⟩
   ·simp at hc
  case seq x y=>split at hc <;> simp at hc
  case rangeFunc g ps x y=>split at hc <;> (try split at hc) <;> simp at hc
  case cond x y z=>split at hc <;> simp at hc
 | .seq x y,c,s,Q,hc,hf,hk=>by
  cases c <;> simp only [Fi,Option.map_eq_some_iff,reduceCtorEq,and_false,exists_false,Option.some.injEq] at hc
  case region id ops draw =>
   split at hc
   ·obtain ⟨_,e,_⟩:=Iw (id:=id) hc
    cases e
   ·simp at hc
  case rangeFunc g ps x y=>split at hc <;> (try split at hc) <;> simp at hc
  case seq cx cy =>
   split at hc
   ·next x' y' hx hy =>
    cases hc
    intro B F a w hr
    refine wpIn_seq (Code.wpIn_mono ?_ (JI hx (hf.imp id fun h=>by simp only [GS,Bool.and_eq_true] at h; first | exact h.1 | exact h) hk B F a w hr))
    rintro e a1 w1 ⟨o,s1,F1,h1,h2,h3,h4⟩
    cases o <;> cases e <;> simp only [Ka] at h1
    ·exact Code.wpIn_mono (fun e a2 w2 ⟨o,s2,F2,g1,g2,g3,g4⟩=>⟨o,s2,F2,g1,g2,h3.trans g3,g4⟩) (JI hy (hf.imp id fun h=>by simp only [GS,Bool.and_eq_true] at h; exact h.2) h4 B F1 a1 w1 h2)
    ·exact ⟨.exit _,s1,F1,h1,h2,h3,h4⟩
    ·exact ⟨.ret,s1,F1,trivial,h2,h3,h4⟩
   ·cases hc
  case cond x y z=>split at hc <;> simp at hc
 | .cond q x y,c,s,Q,hc,hf,hk=>by
  cases c <;> simp only [Fi,Option.map_eq_some_iff,reduceCtorEq,and_false,exists_false,Option.some.injEq] at hc
  case region id ops draw =>
   split at hc
   ·obtain ⟨_,e,_⟩:=Iw (id:=id) hc
    cases e
   ·simp at hc
  case seq x y=>split at hc <;> simp at hc
  case rangeFunc g ps x y=>split at hc <;> (try split at hc) <;> simp at hc
  case cond cq cx cy =>
   split at hc
   ·next x' y' hx hy =>
    cases hc
    intro B F a w hr
    simp only [Fj] at hk
    split at hk
    ·next b e =>
     have hv:=Ea hr.2.2.2 cq
     rw [e] at hv
     generalize hu:a.eval cq=u at hv
     cases hv; next hv =>
     cases hv
     cases b
     ·exact wpIn_cond_false hu (JI hy (hf.imp id fun h=>by simp only [GS,Bool.and_eq_true] at h; exact h.2) (hk.2 rfl) B F a w hr)
     ·exact wpIn_cond_true hu (JI hx (hf.imp id fun h=>by simp only [GS,Bool.and_eq_true] at h; exact h.1) (hk.1 rfl) B F a w hr)
    ·exact hk.elim
   ·cases hc
 | .block id x,c,s,Q,hc,hf,hk=>by
  cases c <;> simp only [Fi,Option.map_eq_some_iff,reduceCtorEq,and_false,exists_false,Option.some.injEq,ACode.block.injEq] at hc
  case region id ops draw =>
   split at hc
   ·obtain ⟨_,e,_⟩:=Iw (id:=id) hc
    cases e
   ·simp at hc
  case seq x y=>split at hc <;> simp at hc
  case rangeFunc g ps x y=>split at hc <;> (try split at hc) <;> simp at hc
  case cond x y z=>split at hc <;> simp at hc
  case block id' cx =>
   obtain ⟨x',hx,rfl,rfl⟩:=hc
   intro B F a w hr
   refine wpIn_block (Code.wpIn_mono ?_ (JI hx (hf.imp id fun h=>by simp only [GS,Bool.and_eq_true] at h; first | exact h.1 | exact h) hk B F a w hr))
   rintro e a1 w1 ⟨o,s1,F1,h1,h2,h3,h4⟩
   cases o <;> cases e <;> simp only [Ka] at h1
   ·exact ⟨.normal,s1,F1,trivial,h2,h3,h4⟩
   ·subst h1
    simp only [Exit.inBlock]
    dsimp only at h4
    split
    ·next hi=>rw [if_pos hi] at h4; exact ⟨.normal,s1,F1,trivial,h2,h3,h4⟩
    ·next hi=>rw [if_neg hi] at h4; exact ⟨.exit _,s1,F1,rfl,h2,h3,h4⟩
   ·exact ⟨.ret,s1,F1,trivial,h2,h3,h4⟩
 | .loop x,c,s,Q,hc,hf,hk=>by
  cases c <;> simp only [Fi,Option.map_eq_some_iff,reduceCtorEq,and_false,exists_false,Option.some.injEq,ACode.loop.injEq] at hc
  case region id ops draw =>
   split at hc
   ·obtain ⟨_,e,_⟩:=Iw (id:=id) hc
    cases e
   ·simp at hc
  case seq x y=>split at hc <;> simp at hc
  case rangeFunc g ps x y=>split at hc <;> (try split at hc) <;> simp at hc
  case cond x y z=>split at hc <;> simp at hc
  case loop cx =>
   obtain ⟨x',hx,rfl⟩:=hc
   exact hk r cx hx (hf.imp id fun h=>by simpa only [GS] using h)
 | .rangef g ps x y,c,s,Q,hc,hf,hk=>by
  cases c <;> simp only [Fi,Option.map_eq_some_iff,reduceCtorEq,and_false,exists_false,Option.some.injEq] at hc
  case region id ops draw =>
   split at hc
   ·obtain ⟨_,e,_⟩:=Iw (id:=id) hc
    cases e
   ·simp at hc
  case seq x y=>split at hc <;> simp at hc
  case cond x y z=>split at hc <;> simp at hc
  case rangeFunc g' ps' a b =>
   rcases hf with rfl | hf
   ·split at hc
    ·next x' y' hx hy =>
     split at hc
     ·next hfl =>
      simp only [Option.some.injEq,ACode.rangef.injEq] at hc
      obtain ⟨h1,h2,h3,h4⟩:=hc
      subst h3 h4
      simp only [Bool.and_eq_true] at hfl
      exact hk g' ps' a b h1 h2 hx hy hfl.1 hfl.2
     ·cases hc
    ·cases hc
   ·simp [GS] at hf
 | .exit id,c,s,Q,hc,hf,hk=>by
  cases c <;> simp only [Fi,Option.map_eq_some_iff,reduceCtorEq,and_false,exists_false,Option.some.injEq,ACode.exit.injEq] at hc
  case region id ops draw =>
   split at hc
   ·obtain ⟨_,e,_⟩:=Iw (id:=id) hc
    cases e
   ·simp at hc
  case seq x y=>split at hc <;> simp at hc
  case rangeFunc g ps x y=>split at hc <;> (try split at hc) <;> simp at hc
  case cond x y z=>split at hc <;> simp at hc
  case exit id'=>subst hc; exact fun B F a w hr=>wpIn_exit ⟨.exit _,s,F,rfl,hr,Step.refl _ _ _,hk⟩
 | .ret,c,s,Q,hc,hf,hk=>by
  cases c <;> simp only [Fi,Option.map_eq_some_iff,reduceCtorEq,and_false,exists_false,Option.some.injEq] at hc
  case region id ops draw =>
   split at hc
   ·obtain ⟨_,e,_⟩:=Iw (id:=id) hc
    cases e
   ·simp at hc
  case seq x y=>split at hc <;> simp at hc
  case rangeFunc g ps x y=>split at hc <;> (try split at hc) <;> simp at hc
  case cond x y z=>split at hc <;> simp at hc
  case ret=>exact fun B F a w hr=>wpIn_ret ⟨.ret,s,F,trivial,hr,Step.refl _ _ _,hk⟩
structure Abst (s t:St):Prop where
 n:t.n=s.n
 tm:∀i,t.t i = .undef∨t.t i=s.t i
 hp:∀k,t.H k=none∨t.H k=s.H k
theorem Abst.refl (s:St):Abst s s:=⟨rfl,fun _=>.inr rfl,fun _=>.inr rfl⟩
theorem Rel.abst {F:Nat→Prop} {s t:St} {a:Act} {w:World} (hr:Rel P B F s a w) (h:Abst s t):Rel P B F t a w:=by
 obtain ⟨h1,h2,h3,h4⟩:=hr
 refine ⟨⟨fun b x hb=>?_,fun b x hb=>?_,h1.old⟩,?_,by rw [h.n]; exact h3,fun i=>?_⟩
 ·rcases h.hp b with e | e <;> rw [e] at hb
  ·cases hb
  ·exact h1.at_ b x hb
 ·rcases h.hp b with e | e <;> rw [e] at hb
  ·cases hb
  ·exact h1.apart b x hb
 ·obtain ⟨h0,ms,g1,g2,g3⟩:=h2
  refine ⟨h0,ms,g1,g2,fun D hD=>?_⟩
  obtain ⟨k1,k2,k3,k4⟩:=g3 D hD
  exact ⟨k1,by rcases h.hp D with e | e <;> rw [e]; exact k2,k3,k4⟩
 ·rcases h.tm i with e | e <;> rw [e]
  ·exact .undef _
  ·exact h4 i
theorem Step.less {F F':Nat→Prop} {H H0 H':Heap} {w w':World} (st:Step F H0 w F' H' w') (h:∀k,H0 k=none∨H0 k=H k):Step F H w F' H' w' where
 os:=st.os
 tape:=st.tape
 output:=st.output
 size:=st.size
 keep:=fun k hk hn=>st.keep k hk (by rcases h k with e | e <;> simp_all)
 dom:=fun k hk=>by
  rcases st.dom k hk with e | e
  ·exact .inl (by rcases h k with e2 | e2 <;> simp_all)
  ·exact .inr e
 mono:=st.mono
 new:=fun k hk=>by
  rcases st.new k hk with e | e | e
  ·exact .inl e
  ·exact .inr (.inl (by rcases h k with e2 | e2 <;> simp_all))
  ·exact .inr (.inr e)
theorem AW.abst {c:Code} {s t:St} {Q:Out→St→Prop} (h:Abst s t) (hk:AW P r c t Q):AW P r c s Q :=
 fun B F a w hr=>Code.wpIn_mono (fun _ _ _ ⟨o,s',F',h1,h2,h3,h4⟩=>⟨o,s',F',h1,h2,h3.less h.hp,h4⟩) (hk B F a w (hr.abst h))
theorem AIM {c:Code} {Q:Exit→Act→World→Prop} (I:Nat→Act→World→Prop)
  (round:∀n a w,I n a w→c.wpIn (F8 r) 0 P (Exit.then (fun a' w'=>∃m,m<n∧I m a' w') Q) a w):∀(n:Nat) (a:Act) (w:World),I n a w→(Code.loop c).wpIn (F8 r) 0 P Q a w:=by
 intro n a w h0 b k cs hro hb hr
 have key:∀n a w,I n a w→∃e a' w',Q e a' w'∧ArrivesIn (Machine.fenced P (F8 r)) P (lone (b.atR a (.code c::.inLoop c::k)) cs w) b k cs e a' w':=by
  intro n
  induction n using Nat.strongRecOn with
  | _ n ih =>
   intro a w hI
   obtain ⟨e,a1,w1,hq,harr⟩:=round n a w hI b (.inLoop c::k) cs hro hb hr
   cases e with
   | normal =>
    obtain ⟨m,hm,hI1⟩:=hq
    obtain ⟨e2,a2,w2,hq2,harr2⟩:=ih m hm a1 w1 hI1
    exact ⟨e2,a2,w2,hq2,.of_steps (StepsIn.trans harr (.one (fenced_calm hb hr rfl) stepR_inLoop)) harr2⟩
   | exit id=>exact ⟨_,a1,w1,hq,.pass (x:=.inLoop c) rfl (fun _ _=>.inl (by simp)) harr⟩
   | goto l=>exact ⟨_,a1,w1,hq,.pass (x:=.inLoop c) rfl (fun _ _=>.inl (by simp)) harr⟩
   | ret=>exact ⟨_,a1,w1,hq,.pass (x:=.inLoop c) rfl (fun _ _=>.inl (by simp)) harr⟩
   | panic ch=>exact ⟨_,a1,w1,hq,.pass (x:=.inLoop c) rfl (fun _ _=>.inl (by simp)) harr⟩
   | outgrown=>exact ⟨_,a1,w1,hq,.pass (x:=.inLoop c) rfl (fun _ _=>.inl (by simp)) harr⟩
 obtain ⟨e,a',w',hq,harr⟩:=key n a w h0
 exact ⟨e,a',w',hq,.of_steps (.one (fenced_calm hb hr rfl) stepR_loop) harr⟩
theorem APd {α:Type} (I : α→Prop) (mk : α→St) (μ : α→Nat) {b:ACode} {s:St} {Q:Out→St→Prop} (x0 : α) (h0:I x0) (ha:Abst s (mk x0))
  (round:∀x,I x→Fj P b (mk x) fun o s'=>match o with | .normal=>∃y,I y∧μ y < μ x∧Abst s' (mk y) | o=>Q o s'):PQ P b s Q:=by
 intro r c hc hf
 refine AW.abst ha ?_
 intro B F a w hr
 refine AIM (fun n a' w'=>∃x F',I x∧μ x=n∧Rel P B F' (mk x) a' w'∧Step F (mk x0).H w F' (mk x).H w') ?_ (μ x0) a w ⟨x0,F,h0,rfl,hr,Step.refl _ _ _⟩
 rintro n a1 w1 ⟨x,F1,hI,rfl,hr1,hs1⟩
 refine Code.wpIn_mono ?_ (JI hc hf (round x hI) B F1 a1 w1 hr1)
 rintro e a2 w2 ⟨o,s2,F2,g1,g2,g3,g4⟩
 cases o <;> cases e <;> simp only [Ka] at g1
 ·obtain ⟨y,hy,hm,hab⟩:=g4
  refine ⟨μ y,hm,y,F2,hy,rfl,g2.abst hab,hs1.trans ⟨g3.os,g3.tape,g3.output,g3.size,g3.keep,fun k hk=>g3.dom k ?_,g3.mono,g3.new⟩⟩
  rcases hab.hp k with e | e
  ·exact absurd e hk
  ·rw [←e]; exact hk
 ·exact ⟨.exit _,s2,F2,g1,g2,hs1.trans g3,g4⟩
 ·exact ⟨.ret,s2,F2,trivial,g2,hs1.trans g3,g4⟩
end
section
variable {P:Program}
theorem Th {F:Nat→Prop} {w:World} (n:Nat):∀(args:List AV) (vs:List Value) (i:Nat),VRL P F w args vs →
  ∀t,VR P F w (Aw args i t) (if i≤t∧t<i+vs.length then vs.getD (t-i) undef else undef)
 | [],vs,i,hv,t=>by
  obtain rfl:=hv.unnil
  rw [if_neg (by simp)]
  exact .void
 | x::l,vs,i,hv,t=>by
  obtain ⟨v,vs,rfl,hx,hl⟩:=hv.uncons
  simp only [Aw,Au]
  by_cases e:i=t
  ·subst e
   simp only [beq_self_eq_true,cond_true]
   rw [if_pos (by simp)]
   simpa using hx
  ·rw [show (i == t)=false by simpa using e]
   simp only [cond_false]
   have ih:=Th n l vs (i+1) hl t
   by_cases h:i+1≤t∧t<i+1+vs.length
   ·rw [if_pos h] at ih
    rw [if_pos (by simp; omega)]
    rw [show t-i=(t-(i+1))+1 by omega]
    simpa using ih
   ·rw [if_neg h] at ih
    rw [if_neg (by simp; omega)]
    exact ih
theorem O5 {F:Nat→Prop} {s:St} {a:Act} {w:World} (hr:HRel P F s.H w) (ht:∀t,VR P F w (s.t t) (a.tmps.getD t undef)):∀{rs:List ResultVar} {ar:List ARes} {K:List AV→Prop},KB P rs=some ar→Ay s ar K →
  ∃vs:List Value,∃avs,((rs.mapM fun
   | .tmp t=>pure (a.tmps.getD t undef)
   | .cell q t=>do loadVar t (←asAddr (a.tmps.getD q undef)):Sem (List Value)).run P w = .ok vs w)∧VRL P F w avs vs∧K avs
 | [],ar,K,hc,hk=>by
  simp only [KB,Option.some.injEq] at hc
  subst hc
  exact ⟨[],[],by simp,VRL.nil,hk⟩
 | .tmp t::rs,ar,K,hc,hk=>by
  simp only [KB,Option.map_eq_some_iff] at hc
  obtain ⟨ar',h1,rfl⟩:=hc
  obtain ⟨vs,avs,e1,e2,e3⟩:=O5 hr ht h1 hk
  exact ⟨_::vs,_::avs,by simp only [List.mapM_cons,Sem.run_bind,Sem.run_pure,Result.andThen_ok,e1],VRL.cons (ht t) e2,e3⟩
 | .cell q t::rs,ar,K,hc,hk=>by
  simp only [KB] at hc
  split at hc
  ·next g l hg hl =>
   cases hc
   obtain ⟨v,av,h1,h2,h3⟩:=SI hr hg (ht q) (K:=fun v=>Ay s l fun vs=>K (v::vs)) hk
   obtain ⟨vs,avs,e1,e2,e3⟩:=O5 hr ht hl h3
   refine ⟨v::vs,av::avs,?_,VRL.cons h2 e2,e3⟩
   have h4:(do loadVar t (←asAddr (a.tmps.getD q undef)):Sem Value).run P w = .ok v w:=by
    cases hq:a.tmps.getD q undef with
    | pointer p=>cases p with
     | none =>
      rw [hq] at h1
      simp [Instr.loadAt,Instr.sureAddr,stuck,Sem.run] at h1
     | some p =>
      rw [hq] at h1
      simpa [Instr.loadAt,Instr.sureAddr,asAddr] using h1
    | _ =>
     rw [hq] at h1
     simp [Instr.loadAt,Instr.sureAddr,stuck,Sem.run] at h1
   simp only [List.mapM_cons,Sem.run_bind,Result.andThen_ok,e1,Sem.run_pure] at h4 ⊢
   rw [h4]
   simp only [Result.andThen_ok,e1]
  ·cases hc
theorem Oh {Q:Out→St→Prop} {c:ACode} {s:St} (h:FX P Q c [] s):Fj P c s Q:=by
 unfold FX at h
 have e:(fun o s'=>E5 P Q [] o s')=Q:=by funext o s'; exact BD
 rw [e] at h
 exact h
def Gf:List Nat→World→World
 | [],w=>w
 | D::ms,w=>Gf ms (w.putObj D (.deferred none))
theorem Ml:∀{ms:List Nat} {w:World} {k:Nat},k∉ms→(Gf ms w).heap[k]? = w.heap[k]?
 | [],w,k,_=>rfl
 | D::ms,w,k,h=>by
  simp only [List.mem_cons,not_or] at h
  simp only [Gf]
  rw [Ml h.2,World.putObj_heap_other h.1]
theorem P4:∀{ms:List Nat} {w:World},(Gf ms w).heap.size=w.heap.size
 | [],w=>rfl
 | D::ms,w=>by simp only [Gf]; rw [P4,World.putObj_size]
theorem N4:∀{ms:List Nat} {w:World},(Gf ms w).os=w.os∧(Gf ms w).tape=w.tape∧(Gf ms w).output=w.output
 | [],w=>⟨rfl,rfl,rfl⟩
 | D::ms,w=>by simp only [Gf]; exact N4
theorem Qg {fn:Func} {tmps:Array Value} {R:Ending→World→Prop}:∀(ms:List Nat) (w:World),ms.Nodup→(∀D∈ms,w.heap[D]? = some (.deferred (some []))) →
  LeavesIn Fence.wide 0 P fn tmps R [] .returning (Gf ms w)→LeavesInM Fence.wide 0 P fn tmps R (ms.map LL) .returning w
 | [],w,_,_,h=>h
 | D::ms,w,hn,hd,h=>by
  rw [List.nodup_cons] at hn
  refine ⟨by simp,.inl ⟨D,_,rfl,run_takeDeferred (hd D (by simp)),Qg ms _ hn.2 (fun k hk=>?_) h⟩⟩
  rw [World.putObj_heap_other (fun e=>hn.1 (by rw [←e]; exact hk))]
  exact hd k (by simp [hk])
theorem A3 {f:FuncId} {af:AFunc} {args:List AV} {H:Heap} {K:AV→Heap→Prop} (hc:A0 P f=some af) (hn:args.length≤af.n)
  (h:FX P (A8 af.results K) af.body [] ⟨af.n,Aw args 0,H⟩):CallW P f args H K:=by
 have h:=Oh h
 unfold A0 at hc
 split at hc
 ·next fn hf =>
  split at hc
  ·next c hb =>
   split at hc
   ·next ac rs hac hrs =>
    cases hc
    intro F w vs hh hv
    have hlen:args.length=vs.length:=hv.1
    refine (callsIn_wide (n:=0)).1 (callsIn_of_wp_marks hf hb trivial ?_)
    have hrel:Rel P w.heap.size F ⟨fn.ntmps,Aw args 0,H⟩ { tmps:=vs.toArray++Array.replicate (fn.ntmps-vs.toArray.size) undef,defers:=[] } w:=by
     refine ⟨hh,⟨Nat.le_refl _,[],rfl,List.nodup_nil,fun D h=>by simp at h⟩,by simp only [Array.size_append,Array.size_replicate,List.size_toArray]; dsimp only at hn; omega,fun t=>?_⟩
     have:=Th fn.ntmps args vs 0 hv t
     have e:(vs.toArray++Array.replicate (fn.ntmps-vs.toArray.size) undef).getD t undef=if 0≤t∧t<0+vs.length then vs.getD (t-0) undef else undef:=by
      rw [Array.getD_eq_getD_getElem?,Array.getElem?_append]
      by_cases ht:t<vs.length
      ·rw [if_pos (by simpa using ht),if_pos (by omega)]; simp
      ·rw [if_neg (by simpa using ht),if_neg (by omega),Array.getElem?_replicate]
       split <;> rfl
     rw [e]
     exact this
    refine Code.wpIn_mono (F:=Fence.wide) ?_ (JI (r:=none) hac (.inl rfl) h w.heap.size F _ w hrel)
    rintro e a' w' ⟨o,s',F',h1,h2,h3,h4⟩
    have fin:A4 s' rs (fun r=>K r s'.H)→LeavesInM Fence.wide 0 P fn a'.tmps (fun e w'=>∃r H' F' v,e = .returned v∧VR P F' w' r v∧HRel P F' H' w'∧Step F H w F' H' w'∧K r H') a'.defers .returning w':=by
     intro hk
     obtain ⟨g1,⟨g0,ms,gd,gn,gm⟩,g3,g4⟩:=h2
     rw [gd]
     refine Qg ms w' gn (fun D hD=>(gm D hD).2.2.2) ?_
     show ∃v,(results fn a'.tmps).run P (Gf ms w') = .ok v (Gf ms w')∧∃r H' F' v',Ending.returned v = .returned v'∧_
     have hoF:∀k,F' k→(Gf ms w').heap[k]? = w'.heap[k]?:=fun k hk=>Ml fun hm=>(gm k hm).2.2.1 hk
     have hh':HRel P F' s'.H (Gf ms w'):=⟨fun b x hb=>(g1.at_ b x hb).mono (Ml fun hm=>by rw [(gm b hm).2.1] at hb; cases hb) (fun _ h=>h) hoF,g1.apart,fun b hb=>by rw [P4]; exact g1.old b hb⟩
     have ht':∀t,VR P F' (Gf ms w') (s'.t t) (a'.tmps.getD t undef):=fun t=>(g4 t).mono (fun _ h=>h) hoF
     have h3:Step F H w F' s'.H (Gf ms w'):=⟨N4.1.trans h3.os,N4.2.1.trans h3.tape,N4.2.2.trans h3.output,by rw [P4]; exact h3.size,
      fun k hk hn=>(Ml fun hm=>by have:=(gm k hm).1; omega).trans (h3.keep k hk hn),h3.dom,h3.mono,h3.new⟩
     clear g4 g1 gm gn gd g0
     generalize Gf ms w'=w' at *
     obtain ⟨us,avs,e1,e2,e3⟩:=O5 hh' ht' hrs hk
     have hres:(results fn a'.tmps).run P w' = .ok (if h:us.toArray.size=1 then us.toArray[0] else .tuple us.toArray) w':=by
      have em:=Array.toList_mapM (m:=Sem) (xs:=fn.results) (f:=fun
       | .tmp t=>pure (a'.tmps.getD t undef)
       | .cell q t=>do loadVar t (←asAddr (a'.tmps.getD q undef)))
      rw [←em] at e1
      simp only [Sem.run_map] at e1
      unfold results
      rw [Sem.run_bind]
      generalize hx:(Sem.run P (Array.mapM _ fn.results) w')=rr at e1 ⊢
      cases rr with
      | halt x w2=>simp [Result.andThen] at e1
      | ok arr w2 =>
       simp only [Result.andThen_ok,Result.ok.injEq] at e1
       obtain ⟨e4,rfl⟩:=e1
       have e5:arr=us.toArray:=by apply Array.ext'; simpa using e4
       subst e5
       rfl
     refine ⟨_,hres,?_⟩
     match avs,us,e2,e3 with
     | [],[],e2,e3=>exact ⟨_,s'.H,F',_,rfl,.tup [] [] rfl (fun j x v h _=>by simp at h),hh',h3,e3⟩
     | [x],[u],e2,e3=>exact ⟨_,s'.H,F',_,rfl,e2.2 0 _ _ rfl rfl,hh',h3,e3⟩
     | x::y::l,u::v::us,e2,e3 =>
      refine ⟨_,s'.H,F',_,rfl,?_,hh',h3,e3⟩
      rw [dif_neg (by simp)]
      exact .tup _ _ e2.1 e2.2
     | [],_::_,e2,_=>have:=e2.1; simp at this
     | _::_,[],e2,_=>have:=e2.1; simp at this
     | [x],_::_::_,e2,_=>have:=e2.1; simp at this
     | _::_::_,[u],e2,_=>have:=e2.1; simp at this
    cases o <;> cases e <;> simp only [Ka] at h1
    ·exact fin h4
    ·exact h4.elim
    ·exact fin h4
   ·cases hc
  ·cases hc
 ·cases hc
theorem CallW.mono {f:FuncId} {args:List AV} {H:Heap} {K K':AV→Heap→Prop} (h:CallW P f args H K) (hk:∀r H',K r H'→K' r H'):CallW P f args H K' :=
 fun F w vs hh hv=>(h F w vs hh hv).mono fun _ _ ⟨r,H',F',v,h1,h2,h3,h4,h5⟩=>⟨r,H',F',v,h1,h2,h3,h4,hk r H' h5⟩
def It {α:Type} (I : α→Prop) (mk : α→St) (μ : α→Nat) (x : α) (R:Out→St→Prop):Out→St→Prop
 | .normal,s'=>∃y,I y∧μ y < μ x∧Abst s' (mk y)
 | .exit i,s'=>R (.exit i) s'
 | .ret,s'=>R .ret s'
theorem Db {α:Type} {I : α→Prop} {mk : α→St} {μ : α→Nat} {x : α} {R:Out→St→Prop} {s':St} {i:Nat}:It I mk μ x R (.exit i) s'=R (.exit i) s':=rfl
theorem Bm {α:Type} {I : α→Prop} {mk : α→St} {μ : α→Nat} {x : α} {R:Out→St→Prop} {s':St}:It I mk μ x R .ret s'=R .ret s':=rfl
theorem QC {α:Type} (I : α→Prop) (mk : α→St) (μ : α→Nat) {Q:Out→St→Prop} {b:ACode} {k:List Item} {s:St} (x0 : α) (h0:I x0) (ha:Abst s (mk x0))
  (round:∀x,I x→FX P (It I mk μ x (E5 P Q k)) b [] (mk x)):KN P Q b k s:=by
 refine APd I mk μ x0 h0 ha fun x hx=>?_
 have h:=Oh (round x hx)
 refine cast (congrArg (Fj P b (mk x)) ?_) h
 funext o s'; cases o <;> rfl
def FM:List (Nat×AV)→TM
 | []=>fun _=>.undef
 | (i,v)::l=>Jm (FM l) i v
def AP (t:TM):List (Nat×AV)→Prop
 | []=>True
 | (i,v)::l=>t i=v∧AP t l
theorem JL {s:St} {n:Nat} {l:List (Nat×AV)} {H:Heap} (hn:n=s.n) (h:AP s.t l) (hp:∀k,H k=none∨H k=s.H k):Abst s ⟨n,FM l,H⟩:=by
 refine ⟨hn,fun i=>?_,hp⟩
 show FM l i = .undef∨FM l i=s.t i
 induction l with
 | nil=>exact .inl rfl
 | cons p l ih =>
  obtain ⟨j,v⟩:=p
  simp only [FM,Au]
  by_cases e:j=i
  ·subst e; simp only [beq_self_eq_true,cond_true]; exact .inr h.1.symm
  ·rw [show (j == i)=false by simpa using e]; exact ih h.2
end
def Al (H:Heap):List (Nat×Blk)→Prop
 | []=>True
 | (b,x)::l=>H b=some x∧Al H l
def K1 (P:Program) (f:FuncId) (caps:List AV) (bl:List (Nat×Blk)) (xs:List (List AV)):Prop :=
 ∀(l:Nat) (H:Heap) (J:List (List AV)→Heap→Prop) (X:Heap→Prop),(∀pre H,J pre H→Al H bl) →
  (∀pre H b x,J pre H→H b=none→J pre (AI H b (some x))) →
  (∀pre x post H,xs=pre++x::post→J pre H→Kr P l x H fun r H'=>(r = .d (.bool true)∧J (pre++[x]) H')∨(r = .d (.bool false)∧X H')) →
  J [] H→CallW P f (.yld l::caps) H fun _ H'=>J xs H'∨X H'
def Ho (n:Nat) (t:TM):List Nat→List AV→TM
 | p::ps,v::vs=>Ho n (if p<n then Jm t p v else t) ps vs
 | _,_=>t
def Ji:ACode→Bool
 | .skip | .ops _ | .dops _=>true
 | .seq a b=>Ji a&&Ji b
 | _=>false
section
variable {P:Program}
theorem Eq {H:Heap} {l:Nat} {y:Option Blk} (hl:H l=none):∀{bl:List (Nat×Blk)},Al H bl→Al (AI H l y) bl
 | [],_=>trivial
 | (b,x)::bl,h=>by
  refine ⟨?_,Eq hl h.2⟩
  have h1:=h.1
  rw [AL,if_neg (fun e=>by rw [e] at hl; rw [hl] at h1; cases h1)]
  exact h1
theorem PW:∀{a:ACode} {s:St} {Q Q':Out→St→Prop},Ji a=true→(∀s',Q .normal s'=Q' .normal s')→Fj P a s Q=Fj P a s Q'
 | .skip,s,Q,Q',_,h=>h s
 | .ops l,s,Q,Q',_,h=>by simp only [Fj,h]
 | .dops l,s,Q,Q',_,h=>by simp only [Fj,h]
 | .seq a b,s,Q,Q',hs,h=>by
  simp only [Ji,Bool.and_eq_true] at hs
  simp only [Fj]
  exact PW hs.1 fun s'=>PW hs.2 h
theorem HRel.less {F:Nat→Prop} {H H0:Heap} {w:World} (h:HRel P F H w) (hp:∀k,H0 k=none∨H0 k=H k):HRel P F H0 w :=
 have hs:∀b x,H0 b=some x→H b=some x:=fun b x hb=>by
  rcases hp b with e | e
  ·rw [e] at hb; cases hb
  ·rw [←e]; exact hb
 ⟨fun b x hb=>h.at_ b x (hs b x hb),fun b x hb=>h.apart b x (hs b x hb),h.old⟩
theorem HRel.putObj {F:Nat→Prop} {H:Heap} {w:World} {l:Nat} (o:Obj) (h:HRel P F H w) (hl:H l=none) (hF:¬F l):HRel P F H (w.putObj l o) :=
 ⟨fun b x hb=>(h.at_ b x hb).mono (World.putObj_heap_other fun e=>by rw [e,hl] at hb; cases hb) (fun _ h=>h) (fun k hk=>World.putObj_heap_other fun e=>hF (e▸hk)),
  h.apart,fun b hb=>by rw [World.putObj_size]; exact h.old b hb⟩
theorem HRel.put {F:Nat→Prop} {H:Heap} {w:World} {l:Nat} {o:Obj} {ts:List AV} {us:List Value} (h:HRel P F H w) (hl:H l=none) (hF:¬F l) (ho:w.heap[l]? = some o) (hv:VRL P F w ts us):HRel P F (AI H l (some (.obj o ts us))) w :=
 ⟨fun b x hb=>by
  rw [AL] at hb
  split at hb
  ·next e=>subst e; cases hb; exact ⟨ho,hv⟩
  ·exact h.at_ b x hb,
  fun b x hb=>by
   rw [AL] at hb
   split at hb
   ·next e=>subst e; exact hF
   ·exact h.apart b x hb,h.old⟩
theorem HRel.grow {F:Nat→Prop} {H:Heap} {w:World} (o:Obj) (h:HRel P F H w):HRel P F H (w.alloc o) :=
 ⟨fun b x hb=>(h.at_ b x hb).mono (Below.heap_alloc w o b (h.at_ b x hb).lt) (fun _ h=>h) (fun k hk=>Below.heap_alloc w o k (h.old k hk)),h.apart,fun b hb=>by have:=h.old b hb; simp; omega⟩
theorem Qb {F:Nat→Prop} {w:World}:∀(ps:List Nat) (x:List AV) (vs:List Value) (t:TM) (tm:Array Value),VRL P F w x vs→(∀i,VR P F w (t i) (tm.getD i undef)) →
  ((ps.zip vs).foldl (fun tmps (p,v)=>tmps.setIfInBounds p v) tm).size=tm.size∧∀i,VR P F w (Ho tm.size t ps x i) (((ps.zip vs).foldl (fun tmps (p,v)=>tmps.setIfInBounds p v) tm).getD i undef)
 | [],x,vs,t,tm,_,ht=>⟨rfl,ht⟩
 | p::ps,[],vs,t,tm,hv,ht=>by
  obtain rfl:=hv.unnil
  exact ⟨rfl,ht⟩
 | p::ps,a::x,vs,t,tm,hv,ht=>by
  obtain ⟨v,vs,rfl,ha,hl⟩:=hv.uncons
  have:=Qb ps x vs (if p<tm.size then Jm t p a else t) (tm.setIfInBounds p v) hl (fun i=>?_)
  ·simp only [Array.size_setIfInBounds] at this
   exact this
  ·split
   ·next hp =>
    rw [Au]
    by_cases e:p=i
    ·subst e
     rw [show (tm.setIfInBounds p v).getD p undef=v by simp [Array.getD,hp]]
     simpa using ha
    ·rw [show (p == i)=false by simpa using e]
     rw [show (tm.setIfInBounds p v).getD i undef=tm.getD i undef by rw [Array.getD_eq_getD_getElem?,Array.getD_eq_getD_getElem?,Array.getElem?_setIfInBounds_ne e]]
     exact ht i
   ·next hp =>
    have e:tm.setIfInBounds p v=tm:=by
     apply Array.ext'
     simp only [Array.toList_setIfInBounds]
     exact List.set_eq_of_length_le (by simp; omega)
    rw [e]
    exact ht i
theorem Rx {F:Nat→Prop} {w:World} {tm:Array Value}:∀{tl:List (Nat×AV)},VRL P F w (tl.map (·.2)) (tl.map fun p=>tm.getD p.1 undef)→∀i,VR P F w (FM tl i) (tm.getD i undef)
 | [],_,i=>.undef _
 | (j,v)::tl,h,i=>by
  obtain ⟨u,us,e,h1,h2⟩:=h.uncons
  simp only [List.map_cons,List.cons.injEq] at e
  obtain ⟨rfl,rfl⟩:=e
  simp only [FM,Au]
  by_cases e:j=i
  ·subst e; simpa using h1
  ·rw [show (j == i)=false by simpa using e]; exact Rx h2 i
theorem Q3 {F:Nat→Prop} {w:World} {tm:Array Value} {t:TM} (ht:∀i,VR P F w (t i) (tm.getD i undef)):∀{tl:List (Nat×AV)},AP t tl→VRL P F w (tl.map (·.2)) (tl.map fun p=>tm.getD p.1 undef)
 | [],_=>VRL.nil
 | (j,v)::tl,h=>VRL.cons (by rw [←h.1]; exact ht j) (Q3 ht h.2)
def Fx (fn:FuncId) (tm:Array Value) (ps:Array Tmp) (a b:Code) (D:Nat) (st:LoopState) (pe:Option Code):Loop:={ state:=st,pending:=pe,fn,tmps:=tm,params:=ps,assign:=a,body:=b,defers:=D }
def JZ:Out→Option Code
 | .normal=>none
 | .exit i=>some (.exit i)
 | .ret=>some .ret
theorem UA {l D:Nat} {fn:FuncId} {tm:Array Value} {ps:Array Tmp} {a b:Code} {asg body:ACode} (ha:Fi P a=some asg) (hb:Fi P b=some body) (fa:GS asg=true) (fb:GS body=true) (hs:Ji asg=true)
  {tl:List (Nat×AV)} {x:List AV} (hx:x.length=ps.size) {H H':Heap} (hl:H l=none) (hless:∀k,H' k=none∨H' k=H k) {Q:Out→Heap→Prop}
  (h:Fj P (.seq asg body) ⟨tm.size,Ho tm.size (FM tl) ps.toList x,H'⟩ fun o s=>Q o s.H) :
  Kr P l x (AI H l (some (.obj (.loop (Fx fn tm ps a b D .ready none)) (tl.map (·.2)) (tl.map fun p=>tm.getD p.1 undef)))) fun r H' =>
   ∃o H0,H0 l=none∧Q o H0∧r = .d (.bool (JZ o).isNone) ∧
    H'=AI H0 l (some (.obj (.loop (Fx fn tm ps a b D (if (JZ o).isNone then .ready else .done) (JZ o))) (tl.map (·.2)) (tl.map fun p=>tm.getD p.1 undef))):=by
 intro F w vs hh hv
 obtain ⟨hrec,hts⟩:=hh.at_ l _ (by rw [AL,if_pos rfl])
 have hFl:¬F l:=hh.apart l _ (by rw [AL,if_pos rfl])
 have hlt:l<w.heap.size:=(Array.getElem?_eq_some_iff.1 hrec).1
 have hh0:HRel P F H w:=hh.less fun k=>by
  rw [AL]
  split
  ·next e=>subst e; exact .inl hl
  ·exact .inr rfl
 have hsz:vs.toArray.size=ps.size:=by rw [←hx]; simpa using hv.1.symm
 refine ⟨fn,_,a,b,run_yield hrec hsz,roundIn_of_wpIn trivial ?_⟩
 have e1:(((Fx fn tm ps a b D .ready none).params.zip vs.toArray).foldl (fun tmps (t,a)=>tmps.setIfInBounds t a) (Fx fn tm ps a b D .ready none).tmps)=(ps.toList.zip vs).foldl (fun tmps (p,v)=>tmps.setIfInBounds p v) tm:=by
  simp only [Fx]
  rw [←Array.foldl_toList,Array.toList_zip]
 rw [e1]
 obtain ⟨k1,k2⟩:=Qb ps.toList x vs (FM tl) tm hv (Rx hts)
 have hrel:Rel P 0 F ⟨tm.size,Ho tm.size (FM tl) ps.toList x,H⟩ { tmps:=(ps.toList.zip vs).foldl (fun tmps (p,v)=>tmps.setIfInBounds p v) tm,defers:=[] } w :=
  ⟨hh0,⟨Nat.zero_le _,[],rfl,List.nodup_nil,fun D h=>by simp at h⟩,k1,k2⟩
 have hq:Fj P asg ⟨tm.size,Ho tm.size (FM tl) ps.toList x,H'⟩ fun o s1=>o = .normal∧Fj P body s1 fun o s=>Q o s.H:=by
  simp only [Fj] at h
  refine (PW hs ?_).mp h
  intro s'
  simp
 refine Code.wpIn_mono ?_ (AW.abst (s:=⟨tm.size,Ho tm.size (FM tl) ps.toList x,H⟩) (t:=⟨tm.size,Ho tm.size (FM tl) ps.toList x,H'⟩) ⟨rfl,fun _=>.inr rfl,hless⟩ (JI (r:=some l) ha (.inr fa) hq) 0 F _ w hrel)
 rintro e a1 w1 ⟨o,s1,F1,h1,h2,h3,rfl,h4⟩
 cases e <;> simp only [Ka] at h1
 have hs1l:s1.H l=none:=by
  cases e:s1.H l with
  | none=>rfl
  | some y =>
   rcases h3.dom l (by rw [e]; simp) with h | h
   ·exact absurd hl h
   ·omega
 have hF1l:¬F1 l:=fun h=>by
  rcases h3.new l h with h | h | h
  ·exact hFl h
  ·exact h hl
  ·omega
 have hr1:w1.heap[l]? = some (.loop (Fx fn tm ps a b D .ready none)):=(h3.keep l hlt hl).trans hrec
 refine ⟨_,run_beginRound hr1 rfl,?_⟩
 have hlt1:l<w1.heap.size:=(Array.getElem?_eq_some_iff.1 hr1).1
 have hrel1:Rel P 0 F1 s1 a1 (w1.putObj l (.loop { Fx fn tm ps a b D .ready none with state:=.busy })):=by
  obtain ⟨g1,⟨g0,ms,gd,gn,gm⟩,g3,g4⟩:=h2
  refine ⟨g1.putObj _ hs1l hF1l,⟨by omega,ms,gd,gn,fun D' hD=>?_⟩,g3,fun t=>(g4 t).mono (fun _ h=>h) fun k hk=>World.putObj_heap_other fun e=>hF1l (e▸hk)⟩
  obtain ⟨m1,m2,m3,m4⟩:=gm D' hD
  refine ⟨m1,m2,m3,(World.putObj_heap_other fun e=>?_).trans m4⟩
  rw [e,hr1] at m4; cases m4
 refine Code.wpIn_mono ?_ (JI (r:=some l) hb (.inr fb) h4 0 F1 _ _ hrel1)
 rintro e a2 w3 ⟨o,s2,F2,j1,j2,j3,j4⟩
 have hs2l:s2.H l=none:=by
  cases e:s2.H l with
  | none=>rfl
  | some y =>
   rcases j3.dom l (by rw [e]; simp) with h | h
   ·exact absurd hs1l h
   ·simp at h; omega
 have hF2l:¬F2 l:=fun h=>by
  rcases j3.new l h with h | h | h
  ·exact hF1l h
  ·exact h hs1l
  ·simp at h; omega
 have hr3:w3.heap[l]? = some (.loop { Fx fn tm ps a b D .ready none with state:=.busy }):=(j3.keep l (by simpa using hlt1) hs1l).trans (World.putObj_heap_same hlt1)
 have hlt3:l<w3.heap.size:=(Array.getElem?_eq_some_iff.1 hr3).1
 have hkF:∀k,F k→∀o',(w3.putObj l o').heap[k]? = w.heap[k]?:=fun k hk o'=>by
  have n1:k≠l:=fun e=>hFl (e▸hk)
  have n2:=h3.keepF hh0 k hk
  have n3:=j3.keepF hrel1.1 k (h3.mono k hk)
  rw [World.putObj_heap_other n1,n3,World.putObj_heap_other n1,n2]
 have fin:∀(jump:Option Code),jump=JZ o→∃v w',(Instr.endRound l jump).run P w3 = .ok v w'∧∃r H' F' v',Ending.returned v = .returned v'∧VR P F' w' r v'∧HRel P F' H' w' ∧
   Step F (AI H l (some (.obj (.loop (Fx fn tm ps a b D .ready none)) (tl.map (·.2)) (tl.map fun p=>tm.getD p.1 undef)))) w F' H' w' ∧
   ∃o H0,H0 l=none∧Q o H0∧r = .d (.bool (JZ o).isNone) ∧
    H'=AI H0 l (some (.obj (.loop (Fx fn tm ps a b D (if (JZ o).isNone then .ready else .done) (JZ o))) (tl.map (·.2)) (tl.map fun p=>tm.getD p.1 undef))):=by
  intro jump hj
  subst hj
  refine ⟨_,_,run_endRound _ hr3,_,_,F2,_,rfl,.d _ _ (.bool _),?_,?_,o,s2.H,hs2l,j4,rfl,rfl⟩
  ·refine (j2.1.putObj _ hs2l hF2l).put hs2l hF2l (World.putObj_heap_same hlt3) ?_
   exact hts.mono (fun k hk=>j3.mono k (h3.mono k hk)) fun k hk=>hkF k hk _
  ·refine ⟨j3.os.trans h3.os,j3.tape.trans h3.tape,j3.output.trans h3.output,?_,fun k hk hn=>?_,fun k hk=>?_,fun k hk=>j3.mono k (h3.mono k hk),fun k hk=>?_⟩
   ·have:=j3.size; have:=h3.size; simp at *; omega
   ·rw [AL] at hn
    split at hn
    ·cases hn
    ·next e =>
     have hkl:k≠l:=fun e'=>e e'.symm
     have d1:s1.H k=none:=by
      cases e:s1.H k with
      | none=>rfl
      | some y =>
       rcases h3.dom k (by rw [e]; simp) with h | h
       ·exact absurd hn h
       ·omega
     rw [World.putObj_heap_other hkl,j3.keep k (by have:=h3.size; simp; omega) d1,World.putObj_heap_other hkl,h3.keep k hk hn]
   ·rw [AL] at hk ⊢
    split
    ·exact .inl (by simp)
    ·next e =>
     rw [if_neg e] at hk
     rcases j3.dom k hk with h | h
     ·rcases h3.dom k h with h | h
      ·exact .inl h
      ·exact .inr h
     ·exact .inr (by have:=h3.size; simp at h; omega)
   ·rw [AL]
    split
    ·exact .inr (.inl (by simp))
    ·rcases j3.new k hk with h | h | h
     ·rcases h3.new k h with h | h | h
      ·exact .inl h
      ·exact .inr (.inl h)
      ·exact .inr (.inr h)
     ·rcases h3.dom k h with h | h
      ·exact .inr (.inl h)
      ·exact .inr (.inr h)
     ·exact .inr (.inr (by have:=h3.size; simp at h; omega))
 cases o <;> cases e <;> simp only [Ka] at j1
 ·exact fin none rfl
 ·subst j1; exact fin (some (.exit _)) rfl
 ·exact fin (some .ret) rfl
theorem Gw {H:Heap}:∀{bl:List (Nat×Blk)},Al H bl↔∀p∈bl,H p.1=some p.2
 | []=>by simp [Al]
 | (b,x)::bl=>by simp only [Al,List.mem_cons,forall_eq_or_imp,Gw]
theorem AN4 {H:Heap} {i j:Nat} {x y:Option Blk} (h:i≠j):AI (AI H i x) j y=AI (AI H j y) i x:=by
 funext k
 simp only [AL]
 by_cases h1:j=k
 ·subst h1; simp [h]
 ·simp [h1]
theorem ADI {α:Type} {g:Opd} {ps:List Nat} {asg body:ACode} {s:St} {Q:Out→St→Prop} {f:FuncId} {caps:List AV} {bl:List (Nat×Blk)} {xs:List (List AV)} (tl:List (Nat×AV)) (I:List (List AV)→α→Prop) (hp : α→Heap) (hl : α→List (Nat×Blk))
  (hit:K1 P f caps bl xs) (hg:ev s.t g = .fn f caps) (hs:Ji asg=true) (hx:∀x∈xs,x.length=ps.length) (ht:AP s.t tl) (hA:∀pre y,I pre y→∀p∈bl,p∈hl y) (hle:∀H y,Al H (hl y)→∀k,hp y k=none∨hp y k=H k) (h0:∃y,I [] y∧Al s.H (hl y))
  (round:∀pre x post y,xs=pre++x::post→I pre y→Fj P (.seq asg body) ⟨s.n,Ho s.n (FM tl) ps x,hp y⟩ fun o s'=>match o with | .normal=>∃y',I (pre++[x]) y'∧Al s'.H (hl y') | o=>Q o ⟨s.n,s.t,s'.H⟩)
  (done:∀y,I xs y→Q .normal ⟨s.n,s.t,hp y⟩):Od P g ps asg body s Q:=by
 obtain ⟨J,hJ⟩:∃J:List (List AV)→Heap→Prop,J=fun pre H=>∃y,I pre y∧Al H (hl y):=⟨_,rfl⟩
 have hJA:∀pre H,J pre H→Al H bl:=fun pre H h=>by
  subst hJ
  obtain ⟨y,h1,h2⟩:=h
  exact Gw.2 fun p hp=>Gw.1 h2 p (hA pre y h1 p hp)
 have hJs:∀pre H b x,J pre H→H b=none→J pre (AI H b (some x)):=fun pre H b x h hb=>by
  subst hJ
  obtain ⟨y,h1,h2⟩:=h
  exact ⟨y,h1,Eq hb h2⟩
 have hJ0:J [] s.H:=by subst hJ; exact h0
 intro g' ps' a b hg' hps ha hb fa fb B F act w hr
 have hg2:=Ea hr.2.2.2 g'
 rw [hg',hg] at hg2
 generalize hgv:act.eval g'=gv at hg2
 cases hg2
 next cs hen hcl hcr =>
 obtain ⟨hh,hd,hn,hv⟩:=hr
 have hn':s.n=act.tmps.size:=hn.symm
 subst hps
 refine wpIn_rangeFunc ?_
 intro fn _
 have hl0:s.H w.heap.size=none:=hh.fresh (Nat.le_refl _)
 have hl1:s.H (w.heap.size+1)=none:=hh.fresh (by omega)
 have hFD:¬F w.heap.size:=fun h=>by have:=hh.old _ h; omega
 have hFl:¬F (w.heap.size+1):=fun h=>by have:=hh.old _ h; omega
 obtain ⟨W1,hW1⟩:∃W1,(w.alloc (.deferred (some []))).alloc (.loop (Fx fn act.tmps ps' a b w.heap.size .ready none))=W1:=⟨_,rfl⟩
 have hsz:W1.heap.size=w.heap.size+2:=by rw [←hW1]; simp
 have hL1:W1.heap[w.heap.size+1]? = some (.loop (Fx fn act.tmps ps' a b w.heap.size .ready none)):=by
  rw [←hW1]; have:=World.alloc_heap_new (w.alloc (.deferred (some []))) (.loop (Fx fn act.tmps ps' a b w.heap.size .ready none)); rwa [World.size_alloc] at this
 have hK1:W1.heap[w.heap.size]? = some (.deferred (some [])):=by
  rw [←hW1]; exact (Below.heap_alloc _ _ _ (by simp)).trans (World.alloc_heap_new w _)
 have hold:∀k,k<w.heap.size→W1.heap[k]? = w.heap[k]?:=fun k hk=>by
  rw [←hW1]; exact (Below.heap_alloc _ _ _ (by simp; omega)).trans (Below.heap_alloc _ _ _ hk)
 have hrest:W1.os=w.os∧W1.tape=w.tape∧W1.output=w.output:=by rw [←hW1]; exact ⟨rfl,rfl,rfl⟩
 refine ⟨w.heap.size+1,[LL w.heap.size],W1,{ target:=.fn (.func f) cs.toArray,args:=#[.func (.yield (w.heap.size+1)) #[] #[]] },W1,f,#[.func (.yield (w.heap.size+1)) #[] #[]]++cs.toArray,W1,?_,?_,fun _ _=>trivial,?_,fun h=>by simp [F8] at h,?_⟩
 ·rw [←hW1]; exact run_enterLoop_outer _ _ _ _ _
 ·simp only [resolve,hgv]
  simp [go_sem]
 ·simp [invoke,go_sem,O0 hen]
 ·refine (callsIn_wide (n:=0-1)).2 ?_
  have hts:VRL P F W1 (tl.map (·.2)) (tl.map fun p=>act.tmps.getD p.1 undef):=(Q3 hv ht).mono (fun _ h=>h) fun k hk=>hold k (hh.old k hk)
  have hh1:HRel P F (AI s.H (w.heap.size+1) (some (.obj (.loop (Fx fn act.tmps ps' a b w.heap.size .ready none)) (tl.map (·.2)) (tl.map fun p=>act.tmps.getD p.1 undef)))) W1:=by
   refine HRel.put ?_ hl1 hFl hL1 hts
   rw [←hW1]; exact (hh.grow _).grow _
  have hcall:=hit (w.heap.size+1) (AI s.H (w.heap.size+1) (some (.obj (.loop (Fx fn act.tmps ps' a b w.heap.size .ready none)) (tl.map (·.2)) (tl.map fun p=>act.tmps.getD p.1 undef))))
   (fun pre H=>∃H0,H0 (w.heap.size+1)=none∧J pre H0∧H=AI H0 (w.heap.size+1) (some (.obj (.loop (Fx fn act.tmps ps' a b w.heap.size .ready none)) (tl.map (·.2)) (tl.map fun p=>act.tmps.getD p.1 undef))))
   (fun H=>∃H0 o c,JZ o=some c∧H0 (w.heap.size+1)=none∧Q o ⟨s.n,s.t,H0⟩∧H=AI H0 (w.heap.size+1) (some (.obj (.loop (Fx fn act.tmps ps' a b w.heap.size .done (some c))) (tl.map (·.2)) (tl.map fun p=>act.tmps.getD p.1 undef))))
   (fun pre H ⟨H0,g1,g2,g3⟩=>by subst g3; exact Eq g1 (hJA pre H0 g2))
   (fun pre H b x ⟨H0,g1,g2,g3⟩ hb=>by
    subst g3
    rw [AL] at hb
    split at hb
    ·cases hb
    ·next e=>exact ⟨AI H0 b (some x),by rw [AL,if_neg (fun e'=>e e'.symm)]; exact g1,hJs pre H0 b x g2 hb,AN4 e⟩)
   (fun pre x post H hxs ⟨H0,g1,g2,g3⟩=>by
    subst g3
    obtain ⟨y,y1,y2⟩:∃y,I pre y∧Al H0 (hl y):=by subst hJ; exact g2
    have hrd:=round pre x post y hxs y1
    rw [hn'] at hrd
    intro F' w' vs' hh' hv'
    obtain ⟨fn',tm',as',bd',r1,r2⟩:=UA (l:=w.heap.size+1) (D:=w.heap.size) (fn:=fn) ha hb fa fb hs (by rw [hx x (by rw [hxs]; simp)]; simp) g1 (hle H0 y y2) (Q:=fun o H=>match o with | .normal=>J (pre++[x]) H | o=>Q o ⟨act.tmps.size,s.t,H⟩) (by
      refine cast (congrArg _ ?_) hrd
      subst hJ; funext o s'; cases o <;> rfl) F' w' vs' hh' hv'
    refine ⟨fn',tm',as',bd',r1,r2.mono fun e w2 ⟨r,H',F2,v,q1,q2,q3,q4,o,H2,q5,q6,q7,q8⟩=>⟨r,H',F2,v,q1,q2,q3,q4,?_⟩⟩
    cases o with
    | normal=>exact .inl ⟨q7,H2,q5,q6,q8⟩
    | exit i=>exact .inr ⟨q7,H2,.exit i,_,rfl,q5,by rw [hn']; exact q6,q8⟩
    | ret=>exact .inr ⟨q7,H2,.ret,_,rfl,q5,by rw [hn']; exact q6,q8⟩)
   ⟨s.H,hl1,hJ0,rfl⟩ F W1 (.func (.yield (w.heap.size+1)) #[] #[]::cs) hh1
   (VRL.cons (.yld _) (VRL.mono ⟨hcl,hcr⟩ (fun _ h=>h) fun k hk=>hold k (hh.old k hk)))
  have eargs:(Value.func (.yield (w.heap.size+1)) #[] #[]::cs).toArray = #[.func (.yield (w.heap.size+1)) #[] #[]]++cs.toArray:=by simp
  rw [eargs] at hcall
  refine hcall.mono ?_
  rintro e w2 ⟨r,H2,F2,v,rfl,q1,q2,q3,q4⟩
  have fin:∀(H0:Heap) (st:LoopState) (pe:Option Code),st≠.busy→H0 (w.heap.size+1)=none→H2=AI H0 (w.heap.size+1) (some (.obj (.loop (Fx fn act.tmps ps' a b w.heap.size st pe)) (tl.map (·.2)) (tl.map fun p=>act.tmps.getD p.1 undef))) →
    ∃w4,(Instr.endLoop (w.heap.size+1)).run P w2 = .ok pe w4∧Rel P B F2 ⟨s.n,s.t,H0⟩ { act with defers:=[LL w.heap.size]++act.defers } w4∧Step F s.H w F2 H0 w4:=by
   intro H0 st pe hst g1 g2
   subst g2
   have hr2:w2.heap[w.heap.size+1]? = some (.loop (Fx fn act.tmps ps' a b w.heap.size st pe)):=by
    have h:=q2.at_ (w.heap.size+1) _ (by rw [AL,if_pos rfl])
    exact h.1
   have hF2l:¬F2 (w.heap.size+1):=q2.apart _ _ (by rw [AL,if_pos rfl])
   have hsz2:=q3.size
   have hD1:(AI s.H (w.heap.size+1) (some (.obj (.loop (Fx fn act.tmps ps' a b w.heap.size .ready none)) (tl.map (·.2)) (tl.map fun p=>act.tmps.getD p.1 undef)))) w.heap.size=none:=by
    rw [AL,if_neg (by omega)]; exact hl0
   have hF2D:¬F2 w.heap.size:=fun h=>by
    rcases q3.new _ h with h | h | h
    ·exact hFD h
    ·exact h hD1
    ·omega
   have hH0D:H0 w.heap.size=none:=by
    cases e:H0 w.heap.size with
    | none=>rfl
    | some y =>
     rcases q3.dom w.heap.size (by rw [AL,if_neg (by omega),e]; simp) with h | h
     ·exact absurd hD1 h
     ·omega
   have hstep:Step F s.H w F2 H0 (w2.putObj (w.heap.size+1) (.loop { Fx fn act.tmps ps' a b w.heap.size st pe with state:=.exhausted })):=by
    refine ⟨q3.os.trans hrest.1,q3.tape.trans hrest.2.1,q3.output.trans hrest.2.2,by simp; omega,fun k hk hn=>?_,fun k hk=>?_,q3.mono,fun k hk=>?_⟩
    ·rw [World.putObj_heap_other (by omega),q3.keep k (by omega) (by rw [AL,if_neg (by omega)]; exact hn),hold k hk]
    ·by_cases e:w.heap.size+1=k
     ·exact .inr (by omega)
     ·rcases q3.dom k (by rw [AL,if_neg e]; exact hk) with h | h
      ·rw [AL,if_neg e] at h; exact .inl h
      ·exact .inr (by omega)
    ·rcases q3.new k hk with h | h | h
     ·exact .inl h
     ·rw [AL] at h
      split at h
      ·exact .inr (.inr (by omega))
      ·exact .inr (.inl h)
     ·exact .inr (.inr (by omega))
   have hhr:HRel P F2 H0 (w2.putObj (w.heap.size+1) (.loop { Fx fn act.tmps ps' a b w.heap.size st pe with state:=.exhausted })):=by
    refine HRel.putObj _ (q2.less fun k=>?_) g1 hF2l
    rw [AL]
    split
    ·next e=>subst e; exact .inl g1
    ·exact .inr rfl
   refine ⟨_,run_endLoop hr2 hst,⟨hhr,?_,hn,fun t=>hstep.VR hh (hv t)⟩,hstep⟩
   obtain ⟨d0,ms,d1,d2,d3⟩:=hstep.defs hd
   refine ⟨d0,w.heap.size::ms,by simp [d1],?_,fun D hD=>?_⟩
   ·rw [List.nodup_cons]
    refine ⟨fun hm=>?_,d2⟩
    obtain ⟨_,ms',d1',_,d3'⟩:=hd
    have:ms=ms':=by
     rw [d1] at d1'
     have hinj:Function.Injective LL:=fun x y h=>by simp only [LL,Deferred.mk.injEq,Target.collected.injEq] at h; exact h.1
     exact (List.map_inj_right hinj).1 d1'
    rw [this] at hm
    have:=(Array.getElem?_eq_some_iff.1 (d3' _ hm).2.2.2).1
    omega
   ·rcases List.mem_cons.1 hD with rfl | hD
    ·refine ⟨hd.1,hH0D,hF2D,?_⟩
     rw [World.putObj_heap_other (by omega),q3.keep _ (by omega) hD1,hK1]
    ·exact d3 D hD
  rcases q4 with ⟨H0,g1,g2,g3⟩ | ⟨H0,o,c,g0,g1,g2,g3⟩
  ·obtain ⟨w4,e1,e2,e3⟩:=fin H0 _ _ (by simp) g1 g3
   obtain ⟨y,y1,y2⟩:∃y,I xs y∧Al H0 (hl y):=by subst hJ; exact g2
   have y3:=hle H0 y y2
   refine ⟨_,w4,e1,.normal,⟨s.n,s.t,hp y⟩,F2,trivial,e2.abst ⟨rfl,fun _=>.inr rfl,y3⟩,⟨e3.os,e3.tape,e3.output,e3.size,e3.keep,fun k hk=>e3.dom k ?_,e3.mono,e3.new⟩,done y y1⟩
   rcases y3 k with e | e
   ·exact absurd e hk
   ·rw [←e]; exact hk
  ·obtain ⟨w4,e1,e2,e3⟩:=fin H0 _ _ (by simp) g1 g3
   refine ⟨_,w4,e1,?_⟩
   cases o with
   | normal=>cases g0
   | exit i=>cases g0; exact wpIn_exit ⟨.exit i,_,F2,rfl,e2,e3,g2⟩
   | ret=>cases g0; exact wpIn_ret ⟨.ret,_,F2,trivial,e2,e3,g2⟩
def Li {α:Type} (I:List (List AV)→α→Prop) (hl : α→List (Nat×Blk)) (pre:List (List AV)) (n:Nat) (t:TM) (R:Out→St→Prop):Out→St→Prop
 | .normal,s'=>∃y,I pre y∧Al s'.H (hl y)
 | .exit i,s'=>R (.exit i) ⟨n,t,s'.H⟩
 | .ret,s'=>R .ret ⟨n,t,s'.H⟩
theorem Cw {α:Type} {I:List (List AV)→α→Prop} {hl : α→List (Nat×Blk)} {pre:List (List AV)} {n:Nat} {t:TM} {s':St} {R:Out→St→Prop} {i:Nat}:Li I hl pre n t R (.exit i) s'=R (.exit i) ⟨n,t,s'.H⟩:=rfl
theorem BT {α:Type} {I:List (List AV)→α→Prop} {hl : α→List (Nat×Blk)} {pre:List (List AV)} {n:Nat} {t:TM} {s':St} {R:Out→St→Prop}:Li I hl pre n t R .ret s'=R .ret ⟨n,t,s'.H⟩:=rfl
theorem VW {α:Type} {I:List (List AV)→α→Prop} {hl : α→List (Nat×Blk)} {pre:List (List AV)} {n:Nat} {t:TM} {s':St} {R:Out→St→Prop} (y : α) (h1:I pre y) (h2:Al s'.H (hl y)):Li I hl pre n t R .normal s':=⟨y,h1,h2⟩
theorem Ua {α:Type} {Q:Out→St→Prop} {k:List Item} {g:Opd} {ps:List Nat} {asg body:ACode} {s:St} {f:FuncId} {caps:List AV} {bl:List (Nat×Blk)} {xs:List (List AV)} (tl:List (Nat×AV)) (I:List (List AV)→α→Prop) (hp : α→Heap) (hl : α→List (Nat×Blk))
  (hit:K1 P f caps bl xs) (hg:ev s.t g = .fn f caps) (hs:Ji asg=true) (hx:∀x∈xs,x.length=ps.length) (ht:AP s.t tl) (hA:∀pre y,I pre y→∀p∈bl,p∈hl y) (hle:∀H y,Al H (hl y)→∀k,hp y k=none∨hp y k=H k) (y0 : α) (h0:I [] y0) (h1:Al s.H (hl y0))
  (round:∀pre x post y,xs=pre++x::post→I pre y→FX P (Li I hl (pre++[x]) s.n s.t (E5 P Q k)) (.seq asg body) [] ⟨s.n,Ho s.n (FM tl) ps x,hp y⟩)
  (done:∀y,I xs y→E5 P Q k .normal ⟨s.n,s.t,hp y⟩):O1 P Q g ps asg body k s:=by
 refine ADI tl I hp hl hit hg hs hx ht hA hle ⟨y0,h0,h1⟩ (fun pre x post y h1 h2=>?_) done
 have h:=Oh (round pre x post y h1 h2)
 refine cast (congrArg (Fj P _ _) ?_) h
 funext o s'; cases o <;> rfl
theorem NR {Q:Out→St→Prop} {y:Nat} {args:List AV} {d:Option Nat} {l:List AO} {k:List Item} {s:St} {K:AV→Heap→Prop} (h:Kr P y args s.H K) (hk:∀r H',K r H'→AN P Q l k (AF s d r H')):O4 P Q y args d l k s:=by
 intro F w vs hh hv
 obtain ⟨fn,tmps,asg,body,h1,h2⟩:=h F w vs hh hv
 exact ⟨fn,tmps,asg,body,h1,h2.mono fun e w' ⟨r,H',F',v,g1,g2,g3,g4,g5⟩=>⟨r,H',F',v,g1,g2,g3,g4,hk _ _ g5⟩⟩
end
def Ez (P:Program):Nat→TypeId→List D→Prop
 | 0,_,_=>False
 | n+1,t,l=>match P.underlying t with
  | some .bool=>∃b,l=[.bool b]
  | some (.int k)=>∃z,l=[.int k z]∧(Lit.int k z).wf=true
  | some .string=>∃s,l=[.str s]∧s.size≤maxLen
  | some (.slice e)=>∃xs,l=[.sl (P.cellsOf e) xs]∧xs.length≤maxLen∧∀el∈xs,Ez P n e el
  | some (.struct fs)=>∃ls:List (List D),l=ls.flatten∧ls.length=fs.size∧∀(j:Nat) f x,fs[j]? = some f→ls[j]? = some x→Ez P n f.type x
  | _=>False
def MB (P:Program):Nat→List Field→Nat→Bool
 | o,[],e=>o == e
 | o,f::r,e=>f.offset == o&&MB P (o+P.cellsOf f.type) r e
def J7 (P:Program):Nat→TypeId→Bool
 | 0,_=>false
 | n+1,t=>match P.underlying t with
  | some .bool | some (.int _) | some .string=>P.cellsOf t == 1
  | some (.slice e)=>J7 P n e&&P.cellsOf e != 0&&P.cellsOf t == 1
  | some (.struct fs)=>MB P 0 fs.toList (P.cellsOf t)&&fs.toList.all fun f=>J7 P n f.type
  | _=>false
section
variable {P:Program} {H:Type} {enc:TypeId×Value→H} {w:World} {sp:Nat→Bool} {held:Bool}
theorem T4 {F:Nat→Prop}:∀{fs:List Field} {o:Nat} {cs:List Value} {ls:List (List D)},MB P o fs cs.length=true→ls.length=fs.length →
  (∀(j:Nat) f x,fs[j]? = some f→ls[j]? = some x→x.length=((cs.drop f.offset).take (P.cellsOf f.type)).length∧((cs.drop f.offset).take (P.cellsOf f.type)).length=P.cellsOf f.type ∧
   ∀(i:Nat) c u,x[i]? = some c→((cs.drop f.offset).take (P.cellsOf f.type))[i]? = some u→RD F w c u) →
  ls.flatten.length=(cs.drop o).length∧∀(i:Nat) c u,ls.flatten[i]? = some c→(cs.drop o)[i]? = some u→RD F w c u
 | [],o,cs,ls,ht,hl,h=>by
  simp only [MB,beq_iff_eq] at ht
  cases ls with
  | nil=>exact ⟨by simp [ht],fun i c u h=>by simp at h⟩
  | cons x r=>simp at hl
 | f::fs,o,cs,ls,ht,hl,h=>by
  simp only [MB,Bool.and_eq_true,beq_iff_eq] at ht
  cases ls with
  | nil=>simp at hl
  | cons x r =>
   obtain ⟨h1,h2⟩:=T4 (F:=F) (ls:=r) ht.2 (by simpa using hl) fun j f' x' hf hx=>h (j+1) f' x' (by simpa using hf) (by simpa using hx)
   obtain ⟨g1,g2,g3⟩:=h 0 f x rfl rfl
   rw [ht.1] at g1 g2 g3
   rw [g2] at g1
   have hlt:o+P.cellsOf f.type≤cs.length∨P.cellsOf f.type=0:=by
    simp only [List.length_take,List.length_drop] at g2
    omega
   simp only [List.length_drop] at h1
   refine ⟨?_,fun i c u hc hu=>?_⟩
   ·simp only [List.flatten_cons,List.length_append,List.length_drop,g1,h1]
    omega
   ·simp only [List.flatten_cons] at hc
    by_cases hi:i<x.length
    ·rw [List.getElem?_append_left hi] at hc
     refine g3 i c u hc ?_
     rw [List.getElem?_take_of_lt (by omega)]
     exact hu
    ·rw [List.getElem?_append_right (by omega)] at hc
     refine h2 (i-x.length) c u hc ?_
     rw [List.getElem?_drop] at hu ⊢
     rw [←hu]
     congr 1
     omega
theorem ANY {a:Addr} {v:Value} (h:w.cell? a=some v):a.block<w.heap.size∧a.spot=none:=by
 unfold World.cell? at h
 split at h
 ·next e =>
  refine ⟨(Array.getElem?_eq_some_iff.1 e).1,?_⟩
  split at h
  ·cases h
  ·next hs=>simpa using hs
 ·cases h
theorem P1:∀(n:Nat) (fuel:Nat) (t:TypeId) (cs:List Value) (x:_root_.Go.DataW H×List MemPlace),J7 P n t=true→_root_.Go.DataW.trod enc P w 0 sp held fuel t cs=some x →
  ∃l,Ez P n t l∧l.length=cs.length∧cs.length=P.cellsOf t∧∀(j:Nat) c u,l[j]? = some c→cs[j]? = some u→RD (fun b=>b<w.heap.size) w c u
 | 0,fuel,t,cs,x,hr,h=>by cases hr
 | n+1,fuel,t,cs,x,hr,h=>by
  unfold J7 at hr
  unfold Ez
  have one:∀(d:D) (v:Value),P.cellsOf t=1→cs=[v]→RD (fun b=>b<w.heap.size) w d v→([d]:List D).length=cs.length∧cs.length=P.cellsOf t∧∀(j:Nat) c u,[d][j]? = some c→cs[j]? = some u→RD (fun b=>b<w.heap.size) w c u:=fun d v hlen e hd=>by
   refine ⟨by rw [e]; rfl,by rw [e,hlen]; rfl,fun j c u h1 h2=>?_⟩
   rw [e] at h2
   cases j with
   | zero=>simp at h1 h2; subst h1; subst h2; exact hd
   | succ j=>simp at h1
  split at hr
  ·next hu =>
   obtain ⟨b,hcs,hx⟩:=_root_.Go.DataW.trod_bool hu h
   try rw [hu]
   exact ⟨[.bool b],⟨b,rfl⟩,one _ _ (by simpa using hr) hcs (.bool b)⟩
  ·next k hu =>
   obtain ⟨z,hcs,hx,hw⟩:=_root_.Go.DataW.trod_int hu h
   try rw [hu]
   exact ⟨[.int k z],⟨z,rfl,hw⟩,one _ _ (by simpa using hr) hcs (.int k z)⟩
  ·next hu =>
   obtain ⟨s,hcs,hx,hw⟩:=_root_.Go.DataW.trod_string hu h
   try rw [hu]
   exact ⟨[.str s],⟨s,rfl,hw⟩,one _ _ (by simpa using hr) hcs (.str s)⟩
  ·next e hu =>
   simp only [Bool.and_eq_true,bne_iff_ne,ne_eq,beq_iff_eq] at hr
   try rw [hu]
   rcases _root_.Go.DataW.trod_slice hu h with ⟨hcs,hx⟩ | ⟨a,len,cap,elems,rest,m,_,hcs,hx,hb,hl,hm,hel,hat,hsp,hns⟩
   ·exact ⟨[.sl (P.cellsOf e) []],⟨[],rfl,by simp,by simp⟩,one _ _ hr.2 hcs (.nil _ _ _)⟩
   ·-- each element's cells,and what they read as
    have each:∀i,i<len→∃(us:List Value) (l:List D),us.length=P.cellsOf e∧l.length=P.cellsOf e∧Ez P n e l∧(∀j u,us[j]? = some u→w.cell? ((a.add (i*P.cellsOf e)).add j)=some u) ∧
      ∀(j:Nat) c u,l[j]? = some c→us[j]? = some u→RD (fun b=>b<w.heap.size) w c u:=fun i hi=>by
     have h1:=hat i hi
     rw [List.getElem?_eq_getElem (by omega)] at h1
     rw [Option.bind_eq_some_iff] at h1
     obtain ⟨us,h2,h3⟩:=h1
     obtain ⟨l,g1,g2,g3,g4⟩:=P1 n m e us _ hr.1.1 h3
     refine ⟨us,l,g3,by omega,g1,fun j u hj=>?_,g4⟩
     have hjl:=(List.getElem?_eq_some_iff.1 hj).1
     obtain ⟨k1,k2,k3⟩:=World.cells?_some h2
     have:=k3 j (by omega)
     rw [this]
     exact hj
    have hch:∃f:Nat→List Value×List D,∀i,i<len→(f i).1.length=P.cellsOf e∧(f i).2.length=P.cellsOf e∧Ez P n e (f i).2∧(∀j u,(f i).1[j]? = some u→w.cell? ((a.add (i*P.cellsOf e)).add j)=some u) ∧
      ∀(j:Nat) c u,(f i).2[j]? = some c→(f i).1[j]? = some u→RD (fun b=>b<w.heap.size) w c u:=by
     refine ⟨fun i=>if hi:i<len then (⟨(each i hi).choose,(each i hi).choose_spec.choose⟩:List Value×List D) else ([],[]),fun i hi=>?_⟩
     simp only [hi,dif_pos]
     exact (each i hi).choose_spec.choose_spec
    obtain ⟨f,hf⟩:=hch
    refine ⟨[.sl (P.cellsOf e) ((List.range len).map fun i=>(f i).2)],⟨_,rfl,by simp; omega,fun el hmem=>?_⟩,one _ _ hr.2 hcs ?_⟩
    ·obtain ⟨i,hi,rfl⟩:=List.mem_map.1 hmem
     exact (hf i (by simpa using hi)).2.2.1
    ·by_cases h0:len=0
     ·subst h0
      exact .nil _ _ _
     ·obtain ⟨z1,z2,z3,z4,z5⟩:=hf 0 (by omega)
      have hz:∃u,(f 0).1[0]? = some u:=⟨_,List.getElem?_eq_getElem (by omega)⟩
      obtain ⟨u0,hu0⟩:=hz
      have hbl:=ANY (z4 0 u0 hu0)
      rw [Nat.zero_mul,show ∀x:Addr,x.add 0=x from fun x=>rfl,show ∀x:Addr,x.add 0=x from fun x=>rfl] at hbl
      have ha:a=⟨a.block,a.off,none⟩:=by
       obtain ⟨ab,ao,as⟩:=a
       have:=hbl.2
       simp only at this
       rw [this]
      have hblk:a.block<w.heap.size:=hbl.1
      have hpos:0<P.cellsOf e:=by omega
      have key:=RD.sl (F:=fun b=>b<w.heap.size) (w:=w) (P.cellsOf e) ((List.range len).map fun i=>(f i).2) a.block a.off cap (fun k=>(f (k / P.cellsOf e)).1.getD (k % P.cellsOf e) Go.undef) hblk (by simp; omega)
       (fun el hmem=>by obtain ⟨i,hi,rfl⟩:=List.mem_map.1 hmem; exact (hf i (by simpa using hi)).2.1)
       (fun i j el c hi hj=>by
        simp only [List.getElem?_map,Option.map_eq_some_iff] at hi
        obtain ⟨i',hi',rfl⟩:=hi
        have hlt:i<len:=by
         have:=(List.getElem?_eq_some_iff.1 hi').1
         simpa using this
        have:i'=i:=by
         rw [List.getElem?_range hlt] at hi'
         exact (Option.some.inj hi').symm
        subst this
        obtain ⟨y1,y2,y3,y4,y5⟩:=hf i' hlt
        have hjl:j<P.cellsOf e:=by rw [←y2]; exact (List.getElem?_eq_some_iff.1 hj).1
        have e1:(i'*P.cellsOf e+j) / P.cellsOf e=i':=by
         rw [Nat.mul_comm,Nat.mul_add_div hpos,Nat.div_eq_of_lt hjl,Nat.add_zero]
        have e2:(i'*P.cellsOf e+j) % P.cellsOf e=j:=by
         rw [Nat.mul_comm,Nat.mul_add_mod,Nat.mod_eq_of_lt hjl]
        have hu:(f i').1[j]? = some ((f i').1.getD j Go.undef):=by
         rw [List.getD_eq_getElem?_getD,List.getElem?_eq_getElem (by omega)]
         rfl
        have:=y4 j _ hu
        rw [ha] at this
        rw [Gs,Gs] at this
        simp only [e1,e2]
        rw [←this,Nat.add_assoc])
       (fun i j el c hi hj=>by
        simp only [List.getElem?_map,Option.map_eq_some_iff] at hi
        obtain ⟨i',hi',rfl⟩:=hi
        have hlt:i<len:=by
         have:=(List.getElem?_eq_some_iff.1 hi').1
         simpa using this
        have:i'=i:=by
         rw [List.getElem?_range hlt] at hi'
         exact (Option.some.inj hi').symm
        subst this
        obtain ⟨y1,y2,y3,y4,y5⟩:=hf i' hlt
        have hjl:j<P.cellsOf e:=by rw [←y2]; exact (List.getElem?_eq_some_iff.1 hj).1
        have e1:(i'*P.cellsOf e+j) / P.cellsOf e=i':=by
         rw [Nat.mul_comm,Nat.mul_add_div hpos,Nat.div_eq_of_lt hjl,Nat.add_zero]
        have e2:(i'*P.cellsOf e+j) % P.cellsOf e=j:=by
         rw [Nat.mul_comm,Nat.mul_add_mod,Nat.mod_eq_of_lt hjl]
        simp only [e1,e2]
        refine y5 j c _ hj ?_
        rw [List.getD_eq_getElem?_getD,List.getElem?_eq_getElem (by omega)]
        rfl)
      rw [←ha] at key
      simpa using key
  ·next fs hu =>
   simp only [Bool.and_eq_true,List.all_eq_true] at hr
   try rw [hu]
   obtain ⟨xs,m,_,hx,hl,hxl,hf⟩:=_root_.Go.DataW.trod_struct hu h
   have each:∀j,j<fs.size→∃l f,fs[j]? = some f∧Ez P n f.type l∧l.length=((cs.drop f.offset).take (P.cellsOf f.type)).length∧((cs.drop f.offset).take (P.cellsOf f.type)).length=P.cellsOf f.type ∧
     ∀(i:Nat) c u,l[i]? = some c→((cs.drop f.offset).take (P.cellsOf f.type))[i]? = some u→RD (fun b=>b<w.heap.size) w c u:=fun j hj=>by
    obtain ⟨f,hfj⟩:∃f,fs[j]? = some f:=⟨_,Array.getElem?_eq_getElem hj⟩
    have h1:=hf j f hfj
    rw [List.getElem?_eq_getElem (by omega)] at h1
    obtain ⟨l,g1,g2,g3,g4⟩:=P1 n m f.type _ _ (hr.2 f (by simpa using Array.mem_of_getElem? hfj)) h1
    exact ⟨l,f,hfj,g1,g2,g3,g4⟩
   have hch:∃g:Nat→List D,∀j f,fs[j]? = some f→Ez P n f.type (g j)∧(g j).length=((cs.drop f.offset).take (P.cellsOf f.type)).length∧((cs.drop f.offset).take (P.cellsOf f.type)).length=P.cellsOf f.type ∧
     ∀(i:Nat) c u,(g j)[i]? = some c→((cs.drop f.offset).take (P.cellsOf f.type))[i]? = some u→RD (fun b=>b<w.heap.size) w c u:=by
    refine ⟨fun j=>if hj:j<fs.size then (each j hj).choose else [],fun j f hj=>?_⟩
    have hlt:j<fs.size:=(Array.getElem?_eq_some_iff.1 hj).1
    simp only [hlt,dif_pos]
    obtain ⟨f',h1,h2⟩:=(each j hlt).choose_spec
    rw [hj] at h1; cases h1
    exact h2
   obtain ⟨g,hg⟩:=hch
   have hget:∀(j:Nat) x,((List.range fs.size).map g)[j]? = some x→x=g j:=fun j x hx=>by
    simp only [List.getElem?_map,Option.map_eq_some_iff] at hx
    obtain ⟨i',hi',rfl⟩:=hx
    have hlt:j<fs.size:=by
     have:=(List.getElem?_eq_some_iff.1 hi').1
     simpa using this
    rw [List.getElem?_range hlt] at hi'
    cases hi'
    rfl
   obtain ⟨k1,k2⟩:=T4 (P:=P) (F:=fun b=>b<w.heap.size) (w:=w) (fs:=fs.toList) (o:=0) (cs:=cs) (ls:=(List.range fs.size).map g) (by rw [hl]; exact hr.1) (by simp) fun j f x hj hx=>by
    rw [hget j x hx]
    exact (hg j f (by simpa using hj)).2
   refine ⟨((List.range fs.size).map g).flatten,⟨_,rfl,by simp,fun j f x hj hx=>?_⟩,by simpa using k1,hl,fun j c u h1 h2=>k2 j c u h1 (by simpa using h2)⟩
   rw [hget j x hx]
   exact (hg j f hj).1
  ·cases hr
def Kx:List D→AV
 | [x]=>.d x
 | _=>.undef
def Gl (P:Program) (t:TypeId) (l:List D):AV :=
 match P.underlying t with
 | some (.struct _)=>.agg (mapD l)
 | _=>Kx l
theorem Y1 {n:Nat} {t:TypeId} {v:Value} {d:_root_.Go.DataW H} {ps:List MemPlace} (hr:J7 P n t=true) (hv:Value.okWide P w .any 0 t v) (h:_root_.Go.DataW.Trod enc P w 0 sp held t v d ps) :
  ∃l,Ez P n t l∧VR P (fun b=>b<w.heap.size) w (Gl P t l) v:=by
 obtain ⟨fuel,h⟩:=h
 obtain ⟨l,h1,h2,h3,h4⟩:=P1 n fuel t _ _ hr h
 refine ⟨l,h1,?_⟩
 cases n with
 | zero=>cases hr
 | succ n =>
  unfold J7 at hr
  unfold Value.okWide at hv
  unfold Ez at h1
  unfold Gl
  have one:∀d:D,(∀cs,v≠.agg cs)→l=[d]→VR P (fun b=>b<w.heap.size) w (Kx l) v:=fun d hv hl=>by
   subst hl
   have e:v.cells = #[v]:=by cases v <;> first | rfl | exact absurd rfl (hv _)
   rw [e] at h4
   exact .d _ _ (h4 0 d v rfl rfl)
  split at hr
  ·next hu =>
   try rw [hu] at hv
   try rw [hu] at h1
   try rw [hu]
   obtain ⟨b,hl⟩:=h1
   exact one _ (fun cs e=>by subst e; simp [Cell.okWide,Cell.ok,hu] at hv) hl
  ·next k hu =>
   try rw [hu] at hv
   try rw [hu] at h1
   try rw [hu]
   obtain ⟨b,hl,_⟩:=h1
   exact one _ (fun cs e=>by subst e; simp [Cell.okWide,Cell.ok,hu] at hv) hl
  ·next hu =>
   try rw [hu] at hv
   try rw [hu] at h1
   try rw [hu]
   obtain ⟨b,hl,_⟩:=h1
   exact one _ (fun cs e=>by subst e; simp [Cell.okWide,Cell.ok,hu] at hv) hl
  ·next e hu =>
   try rw [hu] at hv
   try rw [hu] at h1
   try rw [hu]
   obtain ⟨b,hl,_⟩:=h1
   exact one _ (fun cs e=>by subst e; simp [Cell.okWide,Cell.ok,hu] at hv) hl
  ·next fs hu =>
   try rw [hu] at hv
   try rw [hu]
   obtain ⟨cs,rfl,hsz,_⟩:=hv
   obtain ⟨cs⟩:=cs
   dsimp only
   have:(Value.agg ⟨cs⟩).cells.toList=cs:=rfl
   rw [this] at h2 h3 h4
   have hvr:=VRL.mapD (P:=P) (F:=fun b=>b<w.heap.size) (w:=w) (el:=l) (us:=cs) h2 h4
   refine .agg _ cs hvr.1 hvr.2 fun u hu=>?_
   obtain ⟨j,hj⟩:=List.getElem?_of_mem hu
   have hlt:=(List.getElem?_eq_some_iff.1 hj).1
   exact (h4 j _ u (List.getElem?_eq_getElem (by omega)) hj).one
  ·cases hr
def TypedL (P:Program) (n:Nat):List TypeId→List (List D)→Prop
 | [],[]=>True
 | t::ts,l::ls=>Ez P n t l∧TypedL P n ts ls
 | _,_=>False
def argsAV (P:Program):List TypeId→List (List D)→List AV
 | t::ts,l::ls=>Gl P t l::argsAV P ts ls
 | _,_=>[]
def OJ (P:Program) (n:Nat) (t:TypeId):Bool:=J7 P n t&&P.readableRec t&&decide (t<P.types.size)
theorem Sz {n:Nat} (hl:laidOutB P=true):∀{ts:List TypeId} {vs:List Value} {ds:List (_root_.Go.DataW H)} {ps:List MemPlace},ts.all (OJ P n)=true→(∀(j:Nat) t v,ts[j]? = some t→vs[j]? = some v→Value.okWide P w .any 0 t v) →
  _root_.Go.DataW.TrodAll enc P w 0 (fun _=>true) true ts vs ds ps →
  (∃ls,TypedL P n ts ls∧VRL P (fun b=>b<w.heap.size) w (argsAV P ts ls) vs)∧∀w',Below w.heap.size w w'→∃pa,_root_.Go.DataW.TrodAll enc P w' 0 (fun b=>decide (b<w.heap.size)) true ts vs ds pa
 | [],vs,ds,ps,hp,hv,h=>by
  obtain ⟨rfl,rfl,rfl⟩:=trodAll_nil h
  exact ⟨⟨[],trivial,.nil⟩,fun w' _=>⟨[],rfl⟩⟩
 | t::ts,vs,ds,ps,hp,hv,h=>by
  obtain ⟨v0,vs0,d0,ds0,p0,q0,rfl,rfl,rfl,h0,r0⟩:=trodAll_cons h
  simp only [List.all_cons,Bool.and_eq_true] at hp
  obtain ⟨⟨ls,h1,h2⟩,h3⟩:=Sz hl hp.2 (fun j t v h1 h2=>hv (j+1) t v (by simpa using h1) (by simpa using h2)) r0
  have hp1:=hp.1
  simp only [OJ,Bool.and_eq_true,decide_eq_true_eq] at hp1
  obtain ⟨l,g1,g2⟩:=Y1 hp1.1.1 (hv 0 t v0 rfl rfl) h0
  refine ⟨⟨l::ls,⟨g1,h1⟩,.cons g2 h2⟩,fun w' hb=>?_⟩
  obtain ⟨pa,h4⟩:=h3 w' hb
  obtain ⟨fuel,h0'⟩:=h0
  exact ⟨_,trodAll_cons_mk (Below.trod hl hp1.1.2 hp1.2 ⟨fuel,h0'⟩ hb fun x hx=>_root_.Go.DataW.trod_lt _ _ _ _ h0' x hx) h4⟩
theorem Step.below {F F':Nat→Prop} {H':Heap} {w':World} (h:Step F Heap.none w F' H' w'):Below w.heap.size w w' :=
 ⟨h.os,h.tape,h.output,h.size,fun k hk=>h.keep k hk rfl⟩
theorem law_calls {fid:FuncId} {f:Func} {s:ChangeSpec} {args:Array Value} {ds gs:List (_root_.Go.DataW H)} {before:List MemPlace} {n:Nat} {tb:TypeId} (hvars:s.vars=[]) (hres:f.resultTypes = #[tb]) (htb:P.underlying tb=some .bool)
  (hspec:∀ds:List (_root_.Go.DataW H),ds.length=f.params.size→s.fn H ds={ results:=[.lit (.bool true)],args:=ds }) (hl:laidOutB P=true) (hok:f.params.toList.all (OJ P n)=true)
  (hval:∀(j:Nat) t v,f.params[j]? = some t→args[j]? = some v→Value.okWide P w .any 0 t v)
  (hW:_root_.Go.DataW.Whole enc P f.params.toList s.vars false w args.toList ds gs before)
  (hlaw:∀ls,TypedL P n f.params.toList ls→CallW P fid (argsAV P f.params.toList ls) Heap.none fun r _=>r = .d (.bool true)) :
  Calls P fid args w fun e W'=>∃v,e = .returned v∧s.post enc P f false true false false w args v W':=by
 have hW':=hW
 obtain ⟨p,q,hA,hV,rfl,hfz,hnd⟩:=hW
 rw [hvars] at hV
 obtain ⟨rfl,rfl⟩:=trodVars_none hV
 obtain ⟨⟨ls,h1,h2⟩,h3⟩:=Sz hl hok (fun j t v g1 g2=>hval j t v (by simpa using g1) (by simpa using g2)) hA
 have hlen:ds.length=f.params.size:=by
  have:=(_root_.Go.trodAll_length hA).2
  simpa using this
 refine (hlaw ls h1 _ w args.toList ⟨fun b x hb=>(by cases hb),fun b x hb=>(by cases hb),fun b hb=>hb⟩ h2).mono fun e W' hh=>?_
 obtain ⟨r,H',F',v,rfl,hv,_,hst,rfl⟩:=hh
 cases hv; next hv =>
 cases hv
 obtain ⟨pa,h4⟩:=h3 W' hst.below
 have hs:=hspec ds hlen
 refine ⟨_,rfl,ds,[],p++[],[],pa,[],hW',?_,?_,?_,hst.below.frame _,fun h=>by cases h⟩
 ·rw [List.append_nil,hs,hres]
  exact trodAll_mk1 (shut_bool htb _)
 ·rw [List.append_nil,hs]
  exact h4
 ·rw [List.append_nil,hs,hvars]
  rfl
end
abbrev i64 (n:Int):AV:=.d (.int .i64 n)
abbrev u64 (n:Int):AV:=.d (.int .u64 n)
abbrev bv (b:Bool):AV:=.d (.bool b)
def Fit (n:Int):Prop:=-9223372036854775808≤n∧n≤9223372036854775807
instance (n:Int):Decidable (Fit n):=by unfold Fit; exact inferInstance
theorem UQ {n:Int} (h:(Lit.int .i64 n).wf=true):Fit n:=by
 simp only [Lit.wf,Bool.and_eq_true,decide_eq_true_eq,IntKind.min,IntKind.max,IntKind.signed,IntKind.bits] at h
 unfold Fit
 constructor
 ·have:=h.1; simp at this; omega
 ·have:=h.2; simp at this; omega
theorem FN {n:Int} (h:Fit n):IntKind.i64.wrap n=n:=by rw [IntKind.wrap_i64]; unfold Fit at h; omega
theorem FA {n:Int} (h:0≤n∧n≤18446744073709551615):IntKind.u64.wrap n=n:=by rw [IntKind.wrap_u64]; omega
theorem BW {n:Nat} {t:TM} {H:Heap}:(St.mk n t H).n=n:=(rfl)
theorem BY {n:Nat} {t:TM} {H:Heap}:(St.mk n t H).t=t:=(rfl)
theorem DD {n:Nat} {t:TM} {H:Heap}:(St.mk n t H).H=H:=(rfl)
theorem B8 {n:Nat} {r:List ARes} {b:ACode}:(AFunc.mk n r b).n=n:=(rfl)
theorem BZ {n:Nat} {r:List ARes} {b:ACode}:(AFunc.mk n r b).results=r:=(rfl)
theorem Bs {n:Nat} {r:List ARes} {b:ACode}:(AFunc.mk n r b).body=b:=(rfl)
theorem AZ {α β:Type} {a : α} {b : β}:(Prod.mk a b).fst=a:=(rfl)
theorem Ac {α β:Type} {a : α} {b : β}:(Prod.mk a b).snd=b:=(rfl)
theorem BE {i:Nat} {v:AV} {l:List (Nat×AV)} {n:Nat}:FM ((i,v)::l) n=bif i == n then v else FM l n:=rfl
theorem Br {n:Nat}:FM [] n = .undef:=rfl
def Pw (g:Option Nat) (x:Option Blk) (off:Nat) (K:AV→Prop):Prop:=match x with
 | some (.box _ cells)=>match g with
  | none=>VC (off<AU cells) (K (nth cells off))
  | some n=>VC (off+n≤AU cells) (K (.agg (seg cells off n)))
 | _=>False
theorem Cf {g:Option Nat} {b off:Nat} {H:Heap} {K:AV→Prop}:FS g (.ptr b off) H K=Pw g (H b) off K:=rfl
theorem CL {t:TypeId} {cells:List AV} {off:Nat} {K:AV→Prop}:Pw none (some (.box t cells)) off K=VC (off<AU cells) (K (nth cells off)):=rfl
theorem CM {n:Nat} {t:TypeId} {cells:List AV} {off:Nat} {K:AV→Prop}:Pw (some n) (some (.box t cells)) off K=VC (off+n≤AU cells) (K (.agg (seg cells off n))):=rfl
def MV (j:IntKind) (a b:Int):Int:=j.wrap (BitVec.ofInt j.bits a &&& BitVec.ofInt j.bits b).toNat
def OC (j:IntKind) (a b:Int):Int:=j.wrap (BitVec.ofInt j.bits a ||| BitVec.ofInt j.bits b).toNat
def APR (j:IntKind) (a b:Int):Int:=j.wrap (BitVec.ofInt j.bits a ^^^ BitVec.ofInt j.bits b).toNat
def M9 (P:Program) (Q:Out→St→Prop) (g:Option Nat) (p c:AV) (d:Option Nat) (l:List AO) (k:List Item) (s:St):Prop:=match p,c with
 | .ptr b off,.ptr b' _=>VC (b=b') (Hx P Q g (.ptr b off) d l k s)
 | _,_=>False
section
variable {P:Program} {Q:Out→St→Prop} {k:List Item} {s:St} {d:Option Nat} {l:List AO}
theorem Bl {j:IntKind} {a b:Int}:Ew P Q .and (.d (.int j a)) (.d (.int j b)) d l k s=AN P Q l k (AF s d (.d (.int j (MV j a b))) s.H):=AJk
theorem EC {j:IntKind} {a b:Int}:Ew P Q .or (.d (.int j a)) (.d (.int j b)) d l k s=AN P Q l k (AF s d (.d (.int j (OC j a b))) s.H):=ALE
theorem DT {j:IntKind} {a b:Int}:Ew P Q .xor (.d (.int j a)) (.d (.int j b)) d l k s=AN P Q l k (AF s d (.d (.int j (APR j a b))) s.H):=AIN
theorem Ej {c w:Bool} {op:AOp} (h1:c=true→Hg P Q (.d (.bool c)) w d op l k s) (h2:c=false→Hg P Q (.d (.bool c)) w d op l k s):Hg P Q (.d (.bool c)) w d op l k s:=by
 cases hc:c
 ·exact hc▸h2 hc
 ·exact hc▸h1 hc
theorem Eb {c:Bool} {a b:ACode} (h1:c=true→Jp P Q (.d (.bool c)) a b k s) (h2:c=false→Jp P Q (.d (.bool c)) a b k s):Jp P Q (.d (.bool c)) a b k s:=by
 cases hc:c
 ·exact hc▸h2 hc
 ·exact hc▸h1 hc
theorem Er {c:Bool} {x y:AV} (h1:c=true→JU P Q (.d (.bool c)) x y d l k s) (h2:c=false→JU P Q (.d (.bool c)) x y d l k s):JU P Q (.d (.bool c)) x y d l k s:=by
 cases hc:c
 ·exact hc▸h2 hc
 ·exact hc▸h1 hc
theorem BB {p X:Prop} (h1:p) (h2:p→X):VC p X:=⟨h1,h2 h1⟩
theorem AQ {f:FuncId} {args:List AV} {r:AV} (h:DataW P f args r) (hk:AN P Q l k (AF s d r s.H)):KA P Q f args d l k s :=
 Ta h (LendL.refl _) hk
theorem TH {f:FuncId} {args args':List AV} {r:AV} (h:DataW P f args' r) (e:args=args') (hk:AN P Q l k (AF s d r s.H)):KA P Q f args d l k s:=by
 subst e; exact AQ h hk
theorem SK {f:FuncId} {args args':List AV} {r:AV} (h:DataW P f args' r) (hl:LendL s.H args args') (hs:K8 r=true) (hk:AN P Q l k (AF s d r s.H)):KA P Q f args d l k s :=
 Tc h hl hs hk
theorem E0 {f:FuncId} {args:List AV} {r:AV} (h:DataW P f args r) (hk:AN P Q l k (AF s d r s.H)):NB P Q f args d l k s :=
 ⟨args,r,LendL.refl _,.inr (.inl (LendL.refl _)),h,hk⟩
theorem C8 {f:FuncId} {args:List AV} {K:AV→Heap→Prop} (h:CallW P f args s.H K) (hk:∀r H',K r H'→AN P Q l k (AF s d r H')):KA P Q f args d l k s :=
 CallW.mono h hk
theorem AT {H:Heap} {b:Nat} {x y:Option Blk}:AI (AI H b x) b y=AI H b y:=by
 funext k; simp only [AL]; split <;> rfl
def KJ (x:Blk) (sz len:Nat) (d:Option Nat) (l:List AO) (k:List Item) (s:St) (P:Program) (Q:Out→St→Prop):Prop:=∀b,s.H b=none→AN P Q l k (AF s d (.own b sz 0 len len) (AI s.H b (some x)))
def Om (c:Option (List AV)) (e:TypeId) (sz len:Nat) (d:Option Nat) (l:List AO) (k:List Item) (s:St) (P:Program) (Q:Out→St→Prop):Prop:=match c with
 | some cs=>Aj s.H cs fun ds H'=>KJ (.row e sz len (Ad sz len ds)) sz len d l k ⟨s.n,s.t,H'⟩ P Q
 | none=>False
theorem ALJ {s:St} {H':Heap} {d:Option Nat} {v:AV} {H:Heap}:AF ⟨s.n,s.t,H'⟩ d v H=AF s d v H:=by cases d <;> rfl
theorem Cx {e:TypeId} {sz len:Nat} {z:List AV} {ps:List (Nat×Opd)}:AN P Q (⟨d,none,.buildSlice e sz len z ps⟩::l) k s=Om (Ah (Ai z len) (Ae s.t sz ps)) e sz len d l k s P Q:=by
 rw [GE]
 simp only [AR,Om,KJ,ALJ]
 cases Ah (Ai z len) (Ae s.t sz ps) <;> rfl
theorem DZ {cs:List AV} {e:TypeId} {sz len:Nat}:Om (some cs) e sz len d l k s P Q=Aj s.H cs fun ds H'=>KJ (.row e sz len (Ad sz len ds)) sz len d l k ⟨s.n,s.t,H'⟩ P Q:=rfl
def Mv (c:Option (List AV)) (e:TypeId) (sz len:Nat) (d:Option Nat) (l:List AO) (k:List Item) (s:St) (P:Program) (Q:Out→St→Prop):Prop:=(H9 s.H→(IN sz len c).isSome=true) ∧
    ∀b,s.H b=none→∀xs,IN sz len c=some xs→AN P Q l k (AF s d (.own b sz 0 len len) (AI s.H b (some (.row e sz len xs))))
theorem DV {e:TypeId} {sz len:Nat} {z:List AV} {ps:List (Nat×Opd)}:AN P Q (⟨d,none,.buildSliceD e sz len z ps⟩::l) k s=Mv (Ah (Ai z len) (Ae s.t sz ps)) e sz len d l k s P Q:=rfl
theorem Wg {cs:List AV} {e:TypeId} {sz len:Nat} {ds:List D} (h:FG cs=some ds):Mv (some cs) e sz len d l k s P Q=KJ (.row e sz len (Ad sz len ds)) sz len d l k s P Q:=by
 have e:IN sz len (some cs)=some (Ad sz len ds):=by simp only [IN,h]
 unfold Mv KJ
 rw [e]
 exact propext ⟨fun h b hb=>h.2 b hb _ rfl,fun h=>⟨fun _=>rfl,fun b hb xs hx=>by cases hx; exact h b hb⟩⟩
theorem EL {x:Blk} {sz len:Nat} (h:∀b,s.H b=none→AN P Q l k (AF s d (.own b sz 0 len len) (AI s.H b (some x)))):KJ x sz len d l k s P Q:=h
def L7 (xs:List (List D)) (i:Nat) (g:Option Nat) (j:Nat) (d:Option Nat) (l:List AO) (k:List Item) (s:St) (P:Program) (Q:Out→St→Prop):Prop:=∃el,xs[i]? = some el∧(match g with
 | none=>VC (j<el.length) (AN P Q l k (AF s d (nth (mapD el) j) s.H))
 | some n=>VC (j+n≤el.length) (AN P Q l k (AF s d (.agg (seg (mapD el) j n)) s.H)))
def Mq (g:Option Nat) (x:Option Blk) (sz i j:Nat) (d:Option Nat) (l:List AO) (k:List Item) (s:St) (P:Program) (Q:Out→St→Prop):Prop:=match x with
 | some (.row _ sz' _ xs)=>VC (sz=sz') (L7 xs i g j d l k s P Q)
 | some (.box _ cells)=>match g with
  | none=>VC (i*sz+j<AU cells) (AN P Q l k (AF s d (nth cells (i*sz+j)) s.H))
  | some n=>VC (i*sz+j+n≤AU cells) (AN P Q l k (AF s d (.agg (seg cells (i*sz+j) n)) s.H))
 | _=>False
theorem CI {g:Option Nat} {b sz i j:Nat}:Hx P Q g (.eptr b sz i j) d l k s=Mq g (s.H b) sz i j d l k s P Q:=by
 simp only [Hx,FS,Mq,L7,Io,VC]
 cases s.H b with
 | none=>rfl
 | some x =>
  cases x with
  | box t cells=>cases g <;> rfl
  | obj o ts us=>rfl
  | row t sz' cap xs =>
   dsimp only
   refine propext (and_congr_right fun _=>⟨fun ⟨_,el,h1,h2⟩=>⟨el,by simpa using h1,by cases g <;> exact h2⟩,fun ⟨el,h1,h2⟩=>⟨by omega,el,by simpa using h1,by cases g <;> exact h2⟩⟩)
theorem BJ {g:Option Nat} {t:TypeId} {sz cap i j:Nat} {xs:List (List D)}:Mq g (some (.row t sz cap xs)) sz i j d l k s P Q=L7 xs i g j d l k s P Q:=by simp [Mq,VC]
theorem EZ {xs:List (List D)} {i j:Nat} (el:List D) (h:xs[i]? = some el) (hj:j<el.length) (hk:AN P Q l k (AF s d (nth (mapD el) j) s.H)):L7 xs i none j d l k s P Q:=⟨el,h,hj,hk⟩
theorem Es {xs:List (List D)} {i j n:Nat} (el:List D) (h:xs[i]? = some el) (hj:j+n≤el.length) (hk:AN P Q l k (AF s d (.agg (seg (mapD el) j n)) s.H)):L7 xs i (some n) j d l k s P Q:=⟨el,h,hj,hk⟩
theorem Eh {xs:List (List D)} {i:Int} (el:List D) (h0:0≤i) (h:xs[i.toNat]? = some el) (hk:AN P Q l k (AF s d (.dptr el 0) s.H)):Ol P Q xs i d l k s:=⟨h0,el,h,hk⟩
def Hq (e:TypeId) (sz bytes:Nat) (z:List AV) (v x:AV) (d:Option Nat) (l:List AO) (k:List Item) (s:St) (P:Program) (Q:Out→St→Prop):Prop:=Fl s.H x fun sz' ys=>(ys=[]∧z.length=sz∧match v with
 | .nilsl n=>AN P Q l k (AF s d (.nilsl n) s.H)
 | .own b n off len cap=>AN P Q l k (AF s d (.own b n off len cap) s.H)
 | _=>False)∨VC (sz'=sz∧ys≠[]∧z.length=sz) (
 match v with
 | .nilsl _=>VC (ys.length*bytes≤140737488355328∧ys.length≤maxLen) (∀b,s.H b=none→∀cap,AN P Q l k (AF s d (.own b sz 0 ys.length cap) (AI s.H b (some (.row e sz cap ys)))))
 | .own b sz'' off len cap=>match s.H b with
  | some (.row e' sz''' cap'' xs)=>VC (e'=e∧sz''=sz∧sz'''=sz∧off=0∧cap=cap''∧len=xs.length∧(xs.length+ys.length)*bytes≤140737488355328∧xs.length+ys.length≤maxLen)
    (∀b' cap',AI s.H b none b'=none→AN P Q l k (AF s d (.own b' sz 0 (len+ys.length) cap') (AI (AI s.H b none) b' (some (.row e sz cap' (xs++ys))))))
  | _=>False
 | .part b sz'' off len cap=>match s.H b with
  | some (.row e' sz''' cap'' xs)=>VC (e'=e∧sz''=sz∧sz'''=sz∧off=0∧(cap=0→len=0)∧cap<len+ys.length∧len≤xs.length∧(len+ys.length)*bytes≤140737488355328∧len+ys.length≤maxLen)
    (∀b' cap',AI s.H b none b'=none→AN P Q l k (AF s d (.own b' sz 0 (len+ys.length) cap') (AI (AI s.H b none) b' (some (.row e sz cap' (xs.take len++ys))))))
  | _=>False
 | _=>False)
theorem CF {e:TypeId} {sz bytes:Nat} {z:List AV} {v x:Opd}:AN P Q (⟨d,none,.append e sz bytes z v x⟩::l) k s=Hq e sz bytes z (ev s.t v) (ev s.t x) d l k s P Q:=rfl
theorem R9 {e t:TypeId} {sz bytes n c len capc capx:Nat} {z:List AV} {ys:List (List D)} (hx:s.H c=some (.row t sz capc ys)) (hlen:len=ys.length) (hne:ys≠[]) (hz:z.length=sz) (hb:ys.length*bytes≤140737488355328∧ys.length≤maxLen)
  (hk:∀b,s.H b=none→∀cap,AN P Q l k (AF s d (.own b sz 0 ys.length cap) (AI s.H b (some (.row e sz cap ys))))):Hq e sz bytes z (.nilsl n) (.own c sz 0 len capx) d l k s P Q:=by
 simp only [Hq,Fl,hx]
 exact ⟨⟨trivial,trivial,hlen⟩,.inr ⟨⟨trivial,hne,hz⟩,hb,hk⟩⟩
theorem ARN {e t:TypeId} {sz bytes b c len cap lenb capc capx:Nat} {z:List AV} {xs ys:List (List D)} (hb:s.H b=some (.row e sz cap xs)) (hx:s.H c=some (.row t sz capc ys)) (hlb:lenb=xs.length) (hlen:len=ys.length) (hne:ys≠[]) (hz:z.length=sz) (hbd:(xs.length+ys.length)*bytes≤140737488355328∧xs.length+ys.length≤maxLen)
  (hk:∀b' cap',AI s.H b none b'=none→AN P Q l k (AF s d (.own b' sz 0 (lenb+ys.length) cap') (AI (AI s.H b none) b' (some (.row e sz cap' (xs++ys)))))):Hq e sz bytes z (.own b sz 0 lenb cap) (.own c sz 0 len capx) d l k s P Q:=by
 simp only [Hq,Fl,hx,hb]
 exact ⟨⟨trivial,trivial,hlen⟩,.inr ⟨⟨trivial,hne,hz⟩,⟨trivial,trivial,trivial,trivial,trivial,hlb,hbd⟩,hk⟩⟩
theorem AN6 {e:TypeId} {sz bytes b cap capb lenb:Nat} {z:List AV} {xs ys:List (List D)} {x:AV} (hx:∀K,Fl s.H x K=K sz ys) (hb:s.H b=some (.row e sz capb xs)) (hle:lenb≤xs.length) (hc0:cap=0→lenb=0) (hne:ys≠[]) (hcap:cap<lenb+ys.length) (hz:z.length=sz) (hbd:(lenb+ys.length)*bytes≤140737488355328∧lenb+ys.length≤maxLen)
  (hk:∀b' cap',AI s.H b none b'=none→AN P Q l k (AF s d (.own b' sz 0 (lenb+ys.length) cap') (AI (AI s.H b none) b' (some (.row e sz cap' (xs.take lenb++ys)))))):Hq e sz bytes z (.part b sz 0 lenb cap) x d l k s P Q:=by
 unfold Hq
 rw [hx]
 simp only [hb]
 exact .inr ⟨⟨trivial,hne,hz⟩,⟨trivial,trivial,trivial,trivial,hc0,hcap,hle,hbd⟩,hk⟩
theorem ACm {H:Heap} {b sz cap cap' len:Nat} {t:TypeId} {xs:List (List D)} (h:H b=some (.row t sz cap' xs)) (hl:len=xs.length) (K:Nat→List (List D)→Prop):Fl H (.own b sz 0 len cap) K=K sz xs:=by
 simp [Fl,h,hl,VC]
theorem AQN {H:Heap} {b sz off len cap cap':Nat} {t:TypeId} {xs:List (List D)} (h:H b=some (.row t sz cap' xs)) (hl:off+len≤xs.length) (K:Nat→List (List D)→Prop):Fl H (.part b sz off len cap) K=K sz ((xs.drop off).take len):=by
 simp [Fl,h,hl,VC]
theorem AQ3 {e:TypeId} {sz bytes b cap lenb:Nat} {z:List AV} {xs ys:List (List D)} {x:AV} (hx:∀K,Fl s.H x K=K sz ys) (hb:s.H b=some (.row e sz cap xs)) (hlb:lenb=xs.length) (hz:z.length=sz) (hbd:(xs.length+ys.length)*bytes≤140737488355328∧xs.length+ys.length≤maxLen)
  (h0:ys=[]→AN P Q l k (AF s d (.own b sz 0 lenb cap) s.H))
  (hk:ys≠[]→∀b' cap',AI s.H b none b'=none→AN P Q l k (AF s d (.own b' sz 0 (lenb+ys.length) cap') (AI (AI s.H b none) b' (some (.row e sz cap' (xs++ys)))))):Hq e sz bytes z (.own b sz 0 lenb cap) x d l k s P Q:=by
 unfold Hq
 rw [hx]
 simp only [hb]
 by_cases hne:ys=[]
 ·exact .inl ⟨hne,hz,h0 hne⟩
 ·exact .inr ⟨⟨trivial,hne,hz⟩,⟨trivial,trivial,trivial,trivial,trivial,hlb,hbd⟩,hk hne⟩
theorem EN {H:Heap} {j b:Nat} {x:Option Blk} (h:¬j=b):AI H j x b=H b:=by rw [AL,if_neg h]
theorem AK {H:Heap} {b:Nat} {x:Option Blk}:AI H b x b=x:=by rw [AL,if_pos rfl]
theorem EG {H:Heap} {b k:Nat} {x:Blk} (hb:H k=none) (h:H b=some x):¬k=b∧¬b=k:=by
 refine ⟨fun e=>?_,fun e=>?_⟩
 ·subst e; rw [hb] at h; cases h
 ·subst e; rw [hb] at h; cases h
theorem J8 {cs:List AV} {e:TypeId} {sz len:Nat} {ds:List D} (h:FG cs=some ds) (hk:∀b,s.H b=none→AN P Q l k (AF s d (.own b sz 0 len len) (AI s.H b (some (.row e sz len (Ad sz len ds)))))):Mv (some cs) e sz len d l k s P Q:=by
 rw [Wg h]; exact hk
def Jw (sz:Nat) (x:AV) (lo hi:Option (Option Int)) (d:Option Nat) (l:List AO) (k:List Item) (s:St) (P:Program) (Q:Out→St→Prop):Prop:=JD sz x lo hi fun v=>AN P Q l k (AF s d v s.H)
theorem BI {sz:Nat} {x:Opd} {lo hi:Option Opd}:AN P Q (⟨d,none,.slice sz x lo hi⟩::l) k s=Jw sz (ev s.t x) (EV (AS s.t lo)) (EV (AS s.t hi)) d l k s P Q:=rfl
theorem CD {sz:Nat} {xs:List (List D)} {lo hi:Option Int}:Jw sz (.d (.sl sz xs)) (some lo) (some hi) d l k s P Q=VC (0≤lo.getD 0∧lo.getD 0≤hi.getD xs.length∧hi.getD xs.length≤xs.length) (AN P Q l k (AF s d (.d (.sl sz ((xs.take (hi.getD xs.length).toNat).drop (lo.getD 0).toNat))) s.H)):=by
 simp [Jw,JD,VC]
theorem CQ {sz n:Nat} {lo hi:Option Int}:Jw sz (.nilsl n) (some lo) (some hi) d l k s P Q=VC (lo.getD 0=0∧hi.getD 0=0) (AN P Q l k (AF s d (.nilsl n) s.H)):=rfl
theorem D9 {sz b off len cap:Nat} {lo hi:Option Int}:Jw sz (.own b sz off len cap) (some lo) (some hi) d l k s P Q=VC (0≤lo.getD 0∧lo.getD 0≤hi.getD len∧hi.getD len≤cap) (AN P Q l k (AF s d (.part b sz (off+(lo.getD 0).toNat) ((hi.getD len).toNat-(lo.getD 0).toNat) (cap-(lo.getD 0).toNat)) s.H)):=by
 simp [Jw,JD,VC]
theorem CW {sz b off len cap:Nat} {lo hi:Option Int}:Jw sz (.part b sz off len cap) (some lo) (some hi) d l k s P Q=VC (0≤lo.getD 0∧lo.getD 0≤hi.getD len∧hi.getD len≤cap) (AN P Q l k (AF s d (.part b sz (off+(lo.getD 0).toNat) ((hi.getD len).toNat-(lo.getD 0).toNat) (cap-(lo.getD 0).toNat)) s.H)):=by
 simp [Jw,JD,VC]
def L3 (sz:Nat) (x:AV) (lo hi mx:Option (Option Int)) (d:Option Nat) (l:List AO) (k:List Item) (s:St) (P:Program) (Q:Out→St→Prop):Prop:=KG sz x lo hi mx fun v=>AN P Q l k (AF s d v s.H)
theorem DN {sz:Nat} {x:Opd} {lo hi mx:Option Opd}:AN P Q (⟨d,none,.slice3 sz x lo hi mx⟩::l) k s=L3 sz (ev s.t x) (EV (AS s.t lo)) (EV (AS s.t hi)) (EV (AS s.t mx)) d l k s P Q:=by rw [GE]; simp only [AR,L3]
theorem B9 {sz n:Nat} {lo:Option Int} {hi mx:Int}:L3 sz (.nilsl n) (some lo) (some (some hi)) (some (some mx)) d l k s P Q=VC (lo.getD 0=0∧hi=0∧mx=0) (AN P Q l k (AF s d (.nilsl n) s.H)):=rfl
theorem Dh {sz b off len cap:Nat} {lo:Option Int} {hi mx:Int}:L3 sz (.own b sz off len cap) (some lo) (some (some hi)) (some (some mx)) d l k s P Q=VC (0≤lo.getD 0∧lo.getD 0≤hi∧hi≤mx∧mx≤cap) (AN P Q l k (AF s d (.part b sz (off+(lo.getD 0).toNat) (hi.toNat-(lo.getD 0).toNat) (mx.toNat-(lo.getD 0).toNat)) s.H)):=by
 simp [L3,KG,VC]
def L6:AV→Option AV
 | .nilsl _=>some (.d (.int .i64 0))
 | .own _ _ _ _ cap=>some (.d (.int .i64 cap))
 | .part _ _ _ _ cap=>some (.d (.int .i64 cap))
 | _=>none
theorem BH {x:Opd}:AN P Q (⟨d,none,.cap x⟩::l) k s=G2 P Q (L6 (ev s.t x)) d l k s:=by
 rw [GE]
 simp only [AR,G2,L6]
 cases ev s.t x <;> rfl
def Sq (sz:Nat) (z:List AV) (x:AV) (d:Option Nat) (l:List AO) (k:List Item) (s:St) (P:Program) (Q:Out→St→Prop):Prop:=L8 sz z x s.H fun H'=>AN P Q l k (AF s d (.tup []) H')
theorem Bg {sz:Nat} {z:List AV} {x:Opd}:AN P Q (⟨d,none,.clear sz z x⟩::l) k s=Sq sz z (ev s.t x) d l k s P Q:=by rw [GE]; simp only [AR,Sq]
def TF (e:TypeId) (sz bytes:Nat) (z:List AV) (v n:AV) (d:Option Nat) (l:List AO) (k:List Item) (s:St) (P:Program) (Q:Out→St→Prop):Prop:=MH e sz bytes z v n s.H fun v H'=>AN P Q l k (AF s d v H')
theorem BG {e:TypeId} {sz bytes:Nat} {z:List AV} {v n:Opd}:AN P Q (⟨d,none,.appendN e sz bytes z v n⟩::l) k s=TF e sz bytes z (ev s.t v) (ev s.t n) d l k s P Q:=by rw [GE]; simp only [AR,TF]
def S1 (n:Nat) (v:AV) (b sz i j:Nat) (d:Option Nat) (l:List AO) (k:List Item) (s:St) (P:Program) (Q:Out→St→Prop):Prop:=match s.H b with
 | some (.box t cells)=>VC (i*sz+j+n≤AU cells) (AN P Q l k (AF s d .void (AI s.H b (some (.box t (setSeg cells (i*sz+j) (E4 v)))))))
 | _=>Aj s.H (E4 v) fun ds H'=>match H' b with
  | some (.row t sz' cap xs)=>VC (sz=sz') (∃el,xs[i]? = some el∧VC (j+n≤el.length) (AN P Q l k (AF s d .void (AI H' b (some (.row t sz cap (xs.set i (HE el j ds))))))))
  | _=>False
theorem Oa (n:Nat) (v:AV) (b sz i j:Nat):(Aj s.H (E4 v) fun ds H'=>match H' b with
  | some (.row t sz' cap xs)=>VC (sz=sz') (Io xs i fun el=>VC (j+n≤el.length) (AN P Q l k (AF s d .void (AI H' b (some (.row t sz cap (xs.set (i:Int).toNat (HE el j ds))))))))
  | _=>False)=Aj s.H (E4 v) fun ds H'=>match H' b with
  | some (.row t sz' cap xs)=>VC (sz=sz') (∃el,xs[i]? = some el∧VC (j+n≤el.length) (AN P Q l k (AF s d .void (AI H' b (some (.row t sz cap (xs.set i (HE el j ds))))))))
  | _=>False:=by
 refine congrArg _ ?_
 funext ds H'
 cases H' b with
 | none=>rfl
 | some x =>
  cases x with
  | box t cells=>rfl
  | obj o ts us=>rfl
  | row t sz' cap xs =>
   simp only [VC,Io]
   refine propext (and_congr_right fun _=>⟨fun ⟨_,el,h1,h2⟩=>⟨el,by simpa using h1,h2⟩,fun ⟨el,h1,h2⟩=>⟨by omega,el,by simpa using h1,h2⟩⟩)
theorem CY {n b sz i j:Nat} {v:AV}:Ni P Q n (.eptr b sz i j) v d l k s=VC (fits n v=true) (S1 n v b sz i j d l k s P Q):=by
 simp only [Ni,JW,S1]
 cases s.H b with
 | none=>exact congrArg (VC _) (Oa n v b sz i j)
 | some x =>
  cases x with
  | box t cells=>rfl
  | obj o ts us=>exact congrArg (VC _) (Oa n v b sz i j)
  | row t sz' cap xs=>exact congrArg (VC _) (Oa n v b sz i j)
def AJh (f:FuncId) (args:List AV) (d:Option Nat) (l:List AO) (k:List Item) (s:St) (P:Program) (Q:Out→St→Prop):Prop:=NCallK P f args s.H fun v H'=>AN P Q l k (AF s d v H')
theorem DU {f:FuncId} {args:List Opd}:AN P Q (⟨d,none,.ncall f args⟩::l) k s=AJh f (Ab s.t args) d l k s P Q:=rfl
def AKq (n:Nat) (p v:AV) (d:Option Nat) (l:List AO) (k:List Item) (s:St) (P:Program) (Q:Out→St→Prop):Prop:=match p,v with
 | .eptr b sz i j,.d x=>match s.H b with
  | some (.row e sz' cap xs)=>VC (n=1∧sz=sz') (Io xs i fun el=>VC (j<el.length) (AN P Q l k (AF s d .void (AI s.H b (some (.row e sz cap (xs.set i (HE el j [x]))))))))
  | _=>False
 | _,_=>False
theorem B2 {n:Nat} {p v:Opd}:AN P Q (⟨d,none,.storeR n p v⟩::l) k s=AKq n (ev s.t p) (ev s.t v) d l k s P Q:=rfl
theorem Cn {a b:ByteArray}:Ew P Q .add (.d (.str a)) (.d (.str b)) d l k s=VC (a.size+b.size≤9223372036854775807) (AN P Q l k (AF s d (.d (.str (a++b))) s.H)):=rfl
def Ro (x:AV) (d:Option Nat) (l:List AO) (k:List Item) (s:St) (P:Program) (Q:Out→St→Prop):Prop:=Fl s.H x fun _ ys=>match Hw ys with
 | some bs=>AN P Q l k (AF s d (.d (.str ⟨bs.toArray⟩)) s.H)
 | none=>False
theorem EA {x:Opd}:AN P Q (⟨d,none,.strOf x⟩::l) k s=Ro (ev s.t x) d l k s P Q:=by
 rw [GE]; simp only [AR,Ro]
 refine congrArg _ ?_
 funext _ ys
 cases Hw ys <;> rfl
def Pl (x:AV) (lo hi:Option (Option Int)) (d:Option Nat) (l:List AO) (k:List Item) (s:St) (P:Program) (Q:Out→St→Prop):Prop:=match x,lo,hi with
 | .d (.str v),some lo,some hi=>VC (0≤lo.getD 0∧lo.getD 0≤hi.getD v.size∧hi.getD v.size≤v.size) (AN P Q l k (AF s d (.d (.str (v.extract (lo.getD 0).toNat (hi.getD v.size).toNat))) s.H))
 | _,_,_=>False
theorem Ar {x:Opd} {lo hi:Option Opd}:AN P Q (⟨d,none,.strSlice x lo hi⟩::l) k s=Pl (ev s.t x) (EV (AS s.t lo)) (EV (AS s.t hi)) d l k s P Q:=by
 rw [GE]; simp only [AR,Pl]
 generalize ev s.t x=a; generalize EV (AS s.t lo)=b; generalize EV (AS s.t hi)=c
 split
 ·rfl
 ·next hn =>
  split
  ·next v lo hi=>exact (hn v lo hi rfl rfl rfl).elim
  ·rfl
theorem As {v:ByteArray} {lo hi:Option Int}:Pl (.d (.str v)) (some lo) (some hi) d l k s P Q=VC (0≤lo.getD 0∧lo.getD 0≤hi.getD v.size∧hi.getD v.size≤v.size) (AN P Q l k (AF s d (.d (.str (v.extract (lo.getD 0).toNat (hi.getD v.size).toNat))) s.H)):=rfl
def AQg (P:Program) (Q:Out→St→Prop) (n:Nat) (p v:AV) (keep:List Nat) (d:Option Nat) (l:List AO) (k:List Item) (s:St):Prop:=match p with
 | .ptr b off=>VC (Ao s.t (.ptr b off) keep) (VC (fits n v=true) (match s.H b with
  | some (.box e cells)=>VC (off+n≤AU cells) (AN P Q l k (AF s d .void (AI s.H b (some (.box e (setSeg cells off (E4 v)))))))
  | _=>False))
 | _=>False
theorem Dk {n:Nat} {p v:Opd} {keep:List Nat}:AN P Q (⟨d,none,.storeK n p v keep⟩::l) k s=AQg P Q n (ev s.t p) (ev s.t v) keep d l k s:=rfl
def NE (P:Program) (Q:Out→St→Prop) (neg:Bool) (v:AV) (d:Option Nat) (l:List AO) (k:List Item) (s:St):Prop:=match v with
 | .nilsl _=>AN P Q l k (AF s d (.d (.bool (!neg))) s.H)
 | .own _ _ _ _ _=>AN P Q l k (AF s d (.d (.bool neg)) s.H)
 | .part _ _ _ _ _=>AN P Q l k (AF s d (.d (.bool neg)) s.H)
 | .d (.sl _ xs)=>AN P Q l k (AF s d (.d (.bool neg)) s.H)∧(xs=[]→AN P Q l k (AF s d (.d (.bool (!neg))) s.H))
 | _=>False
theorem Dc {neg:Bool} {x:Opd}:AN P Q (⟨d,none,.isNil neg x⟩::l) k s=NE P Q neg (ev s.t x) d l k s:=rfl
theorem CB {neg:Bool} {sz:Nat}:NE P Q neg (.nilsl sz) d l k s=AN P Q l k (AF s d (.d (.bool (!neg))) s.H):=rfl
theorem DH {neg:Bool} {b sz off len cap:Nat}:NE P Q neg (.own b sz off len cap) d l k s=AN P Q l k (AF s d (.d (.bool neg)) s.H):=rfl
theorem CS {neg:Bool} {b sz off len cap:Nat}:NE P Q neg (.part b sz off len cap) d l k s=AN P Q l k (AF s d (.d (.bool neg)) s.H):=rfl
theorem Ba {g:Option Nat} {i c:Nat}:AN P Q (⟨d,none,.loadP g i c⟩::l) k s=M9 P Q g (s.t i) (s.t c) d l k s:=by
 rw [GE]
 simp only [AR,M9]
 cases s.t i <;> cases s.t c <;> rfl
theorem B0 {g:Option Nat} {b off off':Nat}:M9 P Q g (.ptr b off) (.ptr b off') d l k s=Hx P Q g (.ptr b off) d l k s:=by
 simp [M9,VC]
def Lu (f:FuncId) (args:List AV) (keep:List Nat) (d:Option Nat) (l:List AO) (k:List Item) (s:St) (P:Program) (Q:Out→St→Prop):Prop:=CallW P f args s.H fun v H'=>Hy s.t s.H H' keep∧AN P Q l k (AF s d v H')
theorem Bq {f:FuncId} {args:List Opd} {keep:List Nat}:AN P Q (⟨d,none,.callS f args keep⟩::l) k s=Lu f (Ab s.t args) keep d l k s P Q:=rfl
def O7 (g:AV) (args:List AV) (keep:List Nat) (d:Option Nat) (l:List AO) (k:List Item) (s:St) (P:Program) (Q:Out→St→Prop):Prop:=match g with
 | .fn f caps=>Lu f (args++caps) keep d l k s P Q
 | _=>False
theorem Dy {g:Opd} {args:List Opd} {keep:List Nat}:AN P Q (⟨d,none,.callvS g args keep⟩::l) k s=O7 (ev s.t g) (Ab s.t args) keep d l k s P Q:=by
 simp only [GE,AR,O7,Lu]
 cases ev s.t g <;> rfl
theorem DS {f:FuncId} {caps args:List AV} {keep:List Nat}:O7 (.fn f caps) args keep d l k s P Q=Lu f (args++caps) keep d l k s P Q:=rfl
theorem LD {f:FuncId} {args:List AV} {keep:List Nat} {K:AV→Heap→Prop} (h:CallW P f args s.H K) (hk:∀r H',K r H'→Hy s.t s.H H' keep∧AN P Q l k (AF s d r H')):Lu f args keep d l k s P Q :=
 CallW.mono h hk
def AIk (e:TypeId) (sz bytes:Nat) (z:List AV) (x:AV) (d:Option Nat) (l:List AO) (k:List Item) (s:St) (P:Program) (Q:Out→St→Prop):Prop:=match x with
 | .d (.int _ n)=>match FG z with
  | some ds=>VC (0≤n∧n*bytes≤281474976710656∧n≤9223372036854775807) (KJ (.row e sz n.toNat (List.replicate n.toNat ds)) sz n.toNat d l k s P Q)
  | none=>False
 | _=>False
theorem Dw {e:TypeId} {sz bytes:Nat} {z:List AV} {x:Opd}:AN P Q (⟨d,none,.make e sz bytes z x⟩::l) k s=AIk e sz bytes z (ev s.t x) d l k s P Q:=rfl
theorem Aa {x:Blk} (h:∀b,s.H b=none→AN P Q l k (AF s d (.ptr b 0) (AI s.H b (some x)))):PN P Q x d l k s:=h
theorem Em {H:Heap} {b k:Nat} {x:Blk}:AI H b (some x) k=none↔¬b=k∧¬k=b∧H k=none:=by
 rw [AL]
 by_cases h:b=k
 ·simp [h]
 ·exact ⟨fun e=>⟨h,fun e'=>h e'.symm,by simpa [h] using e⟩,fun e=>by simpa [h] using e.2.2⟩
theorem Heap.none_get (k:Nat):Heap.none k = .none:=rfl
theorem Lp {α:Type} {I : α→Prop} {mk : α→St} {μ : α→Nat} {x : α} {R:Out→St→Prop} {s':St} (y : α) (h1:I y) (h2 : μ y < μ x) (h3:Abst s' (mk y)):It I mk μ x R .normal s':=⟨y,h1,h2,h3⟩
def EH:List (Nat×Blk)→Heap
 | []=>Heap.none
 | (b,x)::l=>AI (EH l) b (some x)
theorem AY {k:Nat}:EH [] k = .none:=rfl
theorem Am {b k:Nat} {x:Blk} {l:List (Nat×Blk)}:EH ((b,x)::l) k=if k=b then some x else EH l k:=by
 simp only [EH,AL]
 by_cases h:b=k
 ·subst h; simp
 ·have h':¬k=b:=fun e=>h e.symm
  simp [h,h']
theorem Ep {b k:Nat} {x:Blk} {l:List (Nat×Blk)}:EH ((b,x)::l) k=none↔¬b=k∧¬k=b∧EH l k=none:=Em
theorem NU {H:Heap} {l:List (Nat×Blk)} (h:Al H l) (k:Nat):EH l k=none∨EH l k=H k:=by
 induction l with
 | nil=>exact .inl rfl
 | cons p l ih =>
  obtain ⟨b,x⟩:=p
  rw [Am]
  by_cases e:k=b
  ·subst e; rw [if_pos rfl]; exact .inr h.1.symm
  ·rw [if_neg e]; exact ih h.2
theorem EX {α:Type} (I : α→Prop) (n:Nat) (tl : α→List (Nat×AV)) (hl : α→List (Nat×Blk)) (μ : α→Nat) {b:ACode} (x0 : α) (h0:I x0) (hn:n=s.n) (ha:AP s.t (tl x0)) (hb:Al s.H (hl x0))
  (round:∀x,I x→FX P (It I (fun x=>⟨n,FM (tl x),EH (hl x)⟩) μ x (E5 P Q k)) b [] ⟨n,FM (tl x),EH (hl x)⟩):KN P Q b k s :=
 QC I (fun x=>⟨n,FM (tl x),EH (hl x)⟩) μ x0 h0 (JL hn ha (NU hb)) round
theorem EF {α:Type} {I : α→Prop} {n:Nat} {tl : α→List (Nat×AV)} {hl : α→List (Nat×Blk)} {μ : α→Nat} {x : α} {R:Out→St→Prop} {s':St} (y : α) (h1:I y) (h2 : μ y < μ x) (hn:n=s'.n) (ha:AP s'.t (tl y)) (hb:Al s'.H (hl y)):It I (fun x=>⟨n,FM (tl x),EH (hl x)⟩) μ x R .normal s' :=
 ⟨y,h1,h2,JL hn ha (NU hb)⟩
theorem Cb {n:Nat} {t:TM} {x:List AV}:Ho n t [] x=t:=by cases x <;> rfl
theorem DY {n p:Nat} {t:TM} {ps:List Nat} {v:AV} {x:List AV}:Ho n t (p::ps) (v::x)=Ho n (if p<n then Jm t p v else t) ps x:=rfl
theorem AOR {α:Type} {g:Opd} {ps:List Nat} {asg body:ACode} {f:FuncId} {caps:List AV} {bl:List (Nat×Blk)} {xs:List (List AV)} (tl:List (Nat×AV)) (I:List (List AV)→α→Prop) (hl : α→List (Nat×Blk)) (y0 : α)
  (hit:K1 P f caps bl xs) (hg:ev s.t g = .fn f caps) (hs:Ji asg=true) (hx:∀x∈xs,x.length=ps.length) (ht:AP s.t tl) (hA:∀pre y,I pre y→∀p∈bl,p∈hl y) (h0:I [] y0) (h1:Al s.H (hl y0))
  (round:∀pre x post y,xs=pre++x::post→I pre y→FX P (Li I hl (pre++[x]) s.n s.t (E5 P Q k)) (.seq asg body) [] ⟨s.n,Ho s.n (FM tl) ps x,EH (hl y)⟩)
  (done:∀y,I xs y→E5 P Q k .normal ⟨s.n,s.t,EH (hl y)⟩):O1 P Q g ps asg body k s :=
 Ua tl I (fun y=>EH (hl y)) hl hit hg hs hx ht hA (fun _ _ h=>NU h) y0 h0 h1 round done
theorem AJ {H:Heap} {x y:AV} (h:x=y):LendV H x y:=h▸.refl x
end
def Et (l:List Int):List (List D):=l.map fun n=>[.int .i64 n]
theorem FJ {l:List Int}:(Et l).length=l.length:=List.length_map ..
theorem TB {l:List Int} {i:Nat} {n:Int} (h:l[i]? = some n):(Et l)[i]? = some [.int .i64 n]:=by simp [Et,h]
theorem N2 {l:List Int} {i:Nat} (h:i<l.length):(Et l)[((i:Int)).toNat]? = some [.int .i64 l[i]]:=by
 rw [Int.toNat_natCast]; exact TB (List.getElem?_eq_getElem h)
abbrev G6 (l:List Int):AV:=.d (.sl 1 (Et l))
def Kh (l:List Int):Prop:=∀(i:Nat) (h:i<l.length),Fit l[i]
theorem Ed {i:Nat} (h:i<9223372036854775807):IntKind.i64.wrap ((i:Int)+1)=((i+1:Nat):Int):=by rw [IntKind.wrap_i64]; omega
section
variable {P:Program} {n:Nat} {t:TypeId} {l:List D}
theorem typedL_cons {ts:List TypeId} {ls:List (List D)} (h:TypedL P n (t::ts) ls):∃l r,ls=l::r∧Ez P n t l∧TypedL P n ts r:=by
 cases ls with
 | nil=>exact absurd h id
 | cons l r=>exact ⟨l,r,rfl,h.1,h.2⟩
theorem typedL_nil {ls:List (List D)} (h:TypedL P n [] ls):ls=[]:=by
 cases ls with
 | nil=>rfl
 | cons l r=>exact absurd h id
theorem typed_bool (h:Ez P (n+1) t l) (ht:P.underlying t=some .bool):∃b,l=[.bool b]∧Gl P t l=bv b:=by
 rw [Ez,ht] at h
 obtain ⟨b,rfl⟩:=h
 exact ⟨b,rfl,by simp [Gl,ht,Kx]⟩
theorem typed_int (h:Ez P (n+1) t l) (ht:P.underlying t=some (.int .i64)):∃z,l=[.int .i64 z]∧Fit z∧Gl P t l=i64 z:=by
 rw [Ez,ht] at h
 obtain ⟨z,rfl,h⟩:=h
 exact ⟨z,rfl,UQ h,by simp [Gl,ht,Kx]⟩
theorem QU {e:TypeId} (h:Ez P (n+1) t l) (ht:P.underlying t=some (.slice e)):∃xs,l=[.sl (P.cellsOf e) xs]∧xs.length≤maxLen∧(∀el∈xs,Ez P n e el)∧Gl P t l = .d (.sl (P.cellsOf e) xs):=by
 rw [Ez,ht] at h
 obtain ⟨xs,rfl,h1,h2⟩:=h
 exact ⟨xs,rfl,h1,h2,by simp [Gl,ht,Kx]⟩
theorem AGR {e:TypeId} {xs:List (List D)} (h:∀el∈xs,Ez P (n+1) e el) (he:P.underlying e=some (.int .i64)):∃zs,xs=Et zs∧Kh zs:=by
 induction xs with
 | nil=>exact ⟨[],rfl,fun i h=>absurd h (Nat.not_lt_zero _)⟩
 | cons x xs ih =>
  obtain ⟨z,rfl,hz,_⟩:=typed_int (h x (List.mem_cons_self ..)) he
  obtain ⟨zs,rfl,h2⟩:=ih fun el h'=>h el (List.mem_cons_of_mem _ h')
  refine ⟨z::zs,rfl,fun i hi=>?_⟩
  cases i with
  | zero=>exact hz
  | succ i=>exact h2 i (by simpa using hi)
theorem typed_ints {e:TypeId} (h:Ez P (n+2) t l) (ht:P.underlying t=some (.slice e)) (he:P.underlying e=some (.int .i64)) (hc:P.cellsOf e=1):∃zs,Kh zs∧zs.length≤9223372036854775807∧Gl P t l=G6 zs:=by
 obtain ⟨xs,rfl,h1,h2,h3⟩:=QU h ht
 obtain ⟨zs,rfl,h4⟩:=AGR h2 he
 refine ⟨zs,h4,?_,by rw [h3,hc]⟩
 rw [FJ] at h1
 exact h1
theorem Rw:∀{fs:List Field} {ls:List (List D)},ls.length=fs.length→(∀(j:Nat) f x,fs[j]? = some f→ls[j]? = some x→Ez P n f.type x)→TypedL P n (fs.map (·.type)) ls
 | [],[],_,_=>trivial
 | [],_::_,h,_=>by simp at h
 | _::_,[],h,_=>by simp at h
 | f::fs,x::ls,h,k=>⟨k 0 f x rfl rfl,Rw (by simpa using h) fun j f x h1 h2=>k (j+1) f x (by simpa using h1) (by simpa using h2)⟩
theorem Kp {fs:Array Field} (h:Ez P (n+1) t l) (ht:P.underlying t=some (.struct fs)):∃ls,l=ls.flatten∧TypedL P n (fs.toList.map (·.type)) ls∧Gl P t l = .agg (mapD l):=by
 rw [Ez,ht] at h
 obtain ⟨ls,rfl,h1,h2⟩:=h
 exact ⟨ls,rfl,Rw (by simpa using h1) (fun j f x g1 g2=>h2 j f x (by simpa using g1) g2),by simp [Gl,ht]⟩
theorem G9 {H:Heap}:LendL H [] []:=LendL.refl _
theorem EK {H:Heap} {x y:AV} {xs ys:List AV} (h:LendV H x y) (t:LendL H xs ys):LendL H (x::xs) (y::ys):=by
 refine ⟨congrArg (· + 1) t.1,fun j u v h1 h2=>?_⟩
 cases j with
 | zero=>cases h1; cases h2; exact h
 | succ j=>exact t.2 j u v h1 h2
theorem JE {H:Heap} {b sz cap cap' len:Nat} {e:TypeId} {xs:List (List D)} (h:H b=some (.row e sz cap' xs)) (hl:len=xs.length):LendV H (.own b sz 0 len cap) (.d (.sl sz xs)):=by
 subst hl; exact .own b sz cap e cap' xs h
theorem DataW.law {f:FuncId} {args:List AV} (h:DataW P f args (bv true)):CallW P f args Heap.none fun r _=>r = .d (.bool true) :=
 CallW.mono h fun r H' hr=>by cases hr; rfl
end
def EM (z sz c cap:Nat):List (List D)→AV
 | []=>.nilsl z
 | x::xs=>.own c sz 0 (x::xs).length cap
def E2 (t:TypeId) (sz c cap:Nat):List (List D)→List (Nat×Blk)
 | []=>[]
 | x::xs=>[(c,.row t sz cap (x::xs))]
def EJ (l:List (Nat×Blk)):List Nat:=l.map (·.1)
theorem Fv {z sz c cap:Nat} {xs:List (List D)} (h:xs≠[]):EM z sz c cap xs = .own c sz 0 xs.length cap:=by
 cases xs with
 | nil=>exact absurd rfl h
 | cons x xs=>rfl
theorem Hn {t:TypeId} {sz c cap:Nat} {xs:List (List D)} (h:xs≠[]):E2 t sz c cap xs=[(c,.row t sz cap xs)]:=by
 cases xs with
 | nil=>exact absurd rfl h
 | cons x xs=>rfl
theorem ANv {t:TypeId} {sz c cap:Nat}:E2 t sz c cap []=[]:=rfl
theorem A7 {z sz c cap:Nat} {xs:List (List D)}:KT (EM z sz c cap xs)=some (.d (.int .i64 xs.length)):=by cases xs <;> rfl
theorem DM {sz:Nat} {xs:List (List D)}:KT (.d (.sl sz xs))=some (.d (.int .i64 xs.length)):=rfl
theorem BC {sz:Nat}:KT (.nilsl sz)=some (.d (.int .i64 0)):=rfl
theorem Bx {b sz off len cap:Nat}:KT (.own b sz off len cap)=some (.d (.int .i64 len)):=rfl
theorem CK {sz:Nat}:L6 (.nilsl sz)=some (.d (.int .i64 0)):=rfl
theorem D3 {b sz off len cap:Nat}:L6 (.own b sz off len cap)=some (.d (.int .i64 cap)):=rfl
theorem Ct {b sz off len cap:Nat}:L6 (.part b sz off len cap)=some (.d (.int .i64 cap)):=rfl
theorem Bp {b sz off len cap:Nat}:KT (.part b sz off len cap)=some (.d (.int .i64 len)):=rfl
theorem Bd {z sz c cap:Nat} {xs:List (List D)}:fits 1 (EM z sz c cap xs)=true:=by cases xs <;> rfl
theorem Bu {z sz c cap:Nat} {xs:List (List D)}:E4 (EM z sz c cap xs)=[EM z sz c cap xs]:=by cases xs <;> rfl
theorem Dr (n:Nat) (xs:List AV):fits n (.agg xs)=(AU xs == n):=rfl
theorem CC (xs:List AV):E4 (.agg xs)=xs:=rfl
theorem BU (n:Nat) (x:D):fits n (.d x)=(n == 1):=by simp [fits,He]
theorem Bz (x:D):E4 (.d x)=[.d x]:=rfl
theorem CR (n:Nat)  : fits n .nilp=(n == 1):=by simp [fits,He]
theorem Cd  : E4 .nilp=[.nilp]:=rfl
theorem DQ (n:Nat) (sz:Nat):fits n (.nilsl sz)=(n == 1):=by simp [fits,He]
theorem D8 (sz:Nat):E4 (.nilsl sz)=[.nilsl sz]:=rfl
theorem Ck (n:Nat)  : fits n .nilfn=(n == 1):=by simp [fits,He]
theorem CU  : E4 .nilfn=[.nilfn]:=rfl
theorem Ci (n:Nat) (b o:Nat):fits n (.ptr b o)=(n == 1):=by simp [fits,He]
theorem BL (b o:Nat):E4 (.ptr b o)=[.ptr b o]:=rfl
theorem Cj (n:Nat) (b sz i j:Nat):fits n (.eptr b sz i j)=(n == 1):=by simp [fits,He]
theorem DL (b sz i j:Nat):E4 (.eptr b sz i j)=[.eptr b sz i j]:=rfl
theorem BN (n:Nat) (el:List D) (o:Nat):fits n (.dptr el o)=(n == 1):=by simp [fits,He]
theorem DJ (el:List D) (o:Nat):E4 (.dptr el o)=[.dptr el o]:=rfl
theorem DC (n:Nat) (b sz off len cap:Nat):fits n (.own b sz off len cap)=(n == 1):=by simp [fits,He]
theorem Bf (b sz off len cap:Nat):E4 (.own b sz off len cap)=[.own b sz off len cap]:=rfl
theorem Dt (n:Nat) (f:FuncId) (caps:List AV):fits n (.fn f caps)=(n == 1):=by simp [fits,He]
theorem DF (f:FuncId) (caps:List AV):E4 (.fn f caps)=[.fn f caps]:=rfl
theorem Ki {H:Heap} {t:TypeId} {z sz c cap:Nat} {xs:List (List D)} (h:Al H (E2 t sz c cap xs)):LendV H (EM z sz c cap xs) (.d (.sl sz xs)):=by
 cases xs with
 | nil=>exact .nilsl _ _
 | cons x xs=>exact .own c sz cap t cap (x::xs) h.1
theorem SO {H:Heap} {t:TypeId} {z sz c cap:Nat} {xs:List (List D)} (h:Al H (E2 t sz c cap xs)) (hs:∀el∈xs,∀d∈el,Iv d=true):NewV H (EM z sz c cap xs) (.d (.sl sz xs)):=by
 cases xs with
 | nil=>exact .nilsl _ _
 | cons x xs=>exact .own c sz cap t cap (x::xs) h.1 hs
theorem Ec {H:Heap} {xs ys:List (Nat×Blk)}:Al H (xs++ys)↔Al H xs∧Al H ys:=by
 induction xs with
 | nil=>simp [Al]
 | cons p xs ih=>obtain ⟨b,x⟩:=p; simp only [List.cons_append,Al,ih,and_assoc]
theorem FV:∀{l:List (Nat×Blk)},(EJ l).Nodup→Al (EH l) l
 | [],_=>trivial
 | (b,x)::l,h=>by
  simp only [EJ,List.map_cons,List.nodup_cons] at h
  refine ⟨by rw [Am,if_pos rfl],?_⟩
  refine Gw.2 fun p hp=>?_
  rw [Am,if_neg (fun e=>h.1 (by rw [←e]; exact List.mem_map_of_mem hp))]
  exact Gw.1 (FV (l:=l) h.2) p hp
theorem G8 {H:Heap} {b:Nat} {x:Blk} {l:List (Nat×Blk)} (hb:H b=none) (h:Al H l):Al (AI H b (some x)) ((b,x)::l):=⟨AK,Eq hb h⟩
theorem Ih {H:Heap} {b:Nat} {l:List (Nat×Blk)} (hb:H b=none) (h:Al H l):b∉EJ l:=fun hm=>by
 obtain ⟨p,hp,e⟩:=List.mem_map.1 hm
 have:=Gw.1 h p hp
 rw [e,hb] at this; cases this
theorem Pu {H:Heap} {b:Nat} {x:Blk} {l:List (Nat×Blk)} (hb:H b=none) (h:Al H l) (hn:(EJ l).Nodup):(EJ ((b,x)::l)).Nodup:=by
 simp only [EJ,List.map_cons,List.nodup_cons]
 exact ⟨Ih hb h,hn⟩
theorem T6 {H:Heap} {b:Nat} {x x':Blk} {l:List (Nat×Blk)} (h:Al H ((b,x)::l)) (hn:(EJ ((b,x)::l)).Nodup):Al (AI H b (some x')) ((b,x')::l):=by
 simp only [EJ,List.map_cons,List.nodup_cons] at hn
 refine ⟨AK,Gw.2 fun p hp=>?_⟩
 rw [EN (fun e=>hn.1 (by rw [e]; exact List.mem_map_of_mem hp))]
 exact Gw.1 h.2 p hp
theorem LW {H:Heap} {b:Nat} {y:Option Blk} {l:List (Nat×Blk)} (h:Al H l) (hn:b∉EJ l):Al (AI H b y) l :=
 Gw.2 fun p hp=>by
  rw [EN (fun e=>hn (by rw [e]; exact List.mem_map_of_mem hp))]
  exact Gw.1 h p hp
section
variable {P:Program} {Q:Out→St→Prop} {k:List Item} {s:St} {d:Option Nat} {l:List AO}
theorem Gg {e t:TypeId} {sz bytes z0 c cap bs capc capx:Nat} {z:List AV} {xs:List (List D)} {y:List D} (rest:List (Nat×Blk)) (hz:z.length=sz) (hall:Al s.H (E2 e sz c cap xs++rest)) (hnd:(EJ (E2 e sz c cap xs++rest)).Nodup)
  (hbs:s.H bs=some (.row t sz capc [y])) (hb:(xs.length+1)*bytes≤140737488355328) (hb2:xs.length+1≤9223372036854775807)
  (hk:∀H' c' cap',Al H' (E2 e sz c' cap' (xs++[y])++rest)→(EJ (E2 e sz c' cap' (xs++[y])++rest)).Nodup→AN P Q l k (AF s d (.own c' sz 0 (xs.length+1) cap') H')) :
  Hq e sz bytes z (EM z0 sz c cap xs) (.own bs sz 0 1 capx) d l k s P Q:=by
 by_cases h0:xs=[]
 ·subst h0
  refine R9 (ys:=[y]) (t:=t) (capc:=capc) hbs rfl (by simp) hz ⟨by simpa using hb,by simp [maxLen]⟩ (fun b hb' cap'=>?_)
  have hr:Al s.H rest:=hall
  exact hk (AI s.H b (some (.row e sz cap' [y]))) b cap' (G8 hb' hr) (Pu hb' hr hnd)
 ·rw [Fv h0]
  rw [Hn h0] at hall hnd
  refine ARN (xs:=xs) (ys:=[y]) (t:=t) (capc:=capc) hall.1 hbs rfl rfl (by simp) hz ⟨hb,hb2⟩ (fun b' cap' hb'=>?_)
  simp only [List.cons_append,List.nil_append,EJ,List.map_cons,List.nodup_cons] at hnd
  have hr:Al (AI s.H c none) rest:=LW hall.2 hnd.1
  have hne:xs++[y]≠[]:=by simp
  exact hk (AI (AI s.H c none) b' (some (.row e sz cap' (xs++[y])))) b' cap' (by rw [Hn hne]; exact G8 hb' hr) (by rw [Hn hne]; exact Pu hb' hr hnd.2)
theorem AOE {α β:Type} {f : α→β} {l:List α} {pre post:List β} {x : β} (h:l.map f=pre++x::post):∃hl:pre.length<l.length,x=f l[pre.length]∧pre=(l.take pre.length).map f:=by
 have hlen:=congrArg List.length h
 simp only [List.length_map,List.length_append,List.length_cons] at hlen
 have hl:pre.length<l.length:=by omega
 refine ⟨hl,?_,?_⟩
 ·have:=congrArg (fun m=>m[pre.length]?) h
  simp only [List.getElem?_map,List.getElem?_eq_getElem hl,Option.map_some,List.getElem?_append_right (Nat.le_refl _),Nat.sub_self,List.getElem?_cons_zero,Option.some.injEq] at this
  exact this.symm
 ·have:=congrArg (List.take pre.length) h
  rw [←List.map_take,List.take_left' rfl] at this
  exact this.symm
end
section
variable {P:Program}
theorem NewV.free {F G:Nat→Prop} {w:World} {H:Heap} {x y:AV} (h:NewV H x y):∀{v:Value},VR P F w x v→VR P G w x v:=by
 induction h with
 | scal x hs=>exact fun hv=>OO hv hs
 | nilsl sz sz'=>intro v hv; cases hv; (first | exact .nilsl _)
 | own b sz cap t cap' xs h hs=>intro v hv; cases hv; exact .own _ _ _ _ _ (by assumption)
 | agg xs ys hl _ ih =>
  intro v hv
  cases hv
  next cs h3 h1 h2 =>
  exact .agg _ _ h1 (fun j x v g1 g2=>by
   have hj:j<ys.length:=by rw [←hl]; exact (List.getElem?_eq_some_iff.1 g1).1
   exact ih j x _ g1 (List.getElem?_eq_getElem hj) (h2 j x v g1 g2)) (by assumption)
 | tup xs ys hl _ ih =>
  intro v hv
  cases hv
  next cs h1 h2 =>
  exact .tup _ _ h1 (fun j x v g1 g2=>by
   have hj:j<ys.length:=by rw [←hl]; exact (List.getElem?_eq_some_iff.1 g1).1
   exact ih j x _ g1 (List.getElem?_eq_getElem hj) (h2 j x v g1 g2))
def AJR (x:Option Blk):Prop:=∃t sz cap xs,x=some (.row t sz cap xs)∧∀el∈xs,∀d∈el,Iv d=true
theorem NewV.into {H H':Heap} (hH:∀b,AJR (H b)→H' b=H b) {x y:AV} (h:NewV H x y):NewV H' x y:=by
 induction h with
 | scal x hs=>exact .scal x hs
 | nilsl sz sz'=>exact .nilsl sz sz'
 | own b sz cap t cap' xs h hs=>exact .own b sz cap t cap' xs (by rw [hH b ⟨t,sz,cap',xs,h,hs⟩]; exact h) hs
 | agg xs ys hl _ ih=>exact .agg xs ys hl ih
 | tup xs ys hl _ ih=>exact .tup xs ys hl ih
variable {Q:Out→St→Prop} {k:List Item} {s:St} {d:Option Nat} {l:List AO}
end
end Go.Proofs.Ytlflfciebidddaa.Abs
