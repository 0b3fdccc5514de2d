/- Part of the machine and the contracts of one law (joined by kmerge.py). No claim stands here. -/
import Derived.Below
import Derived.Carry
import Derived.ChangeCalls
import Derived.ChangeOld
import Derived.IntWalk
import Derived.KernelRfl
import Derived.Laws.Append
import Derived.Laws.AppendOwn
import Derived.Laws.Cells
import Derived.Laws.CopyRow
import Derived.Laws.Entries
import Derived.Laws.MakeOwn
import Derived.Laws.NewFold
import Derived.Laws.Rows
import Derived.Laws.StructEq
import Derived.OpenShut
import Derived.Orders
import Derived.OrdersIn
import Derived.ProofKit
import Derived.RangeFuncLeaves
import Derived.RangeFuncSeq
import Derived.SizedLaws
import Derived.TacticsIn
import Derived.WalkKit
import Derived.Test.YtbihahpaalcjjaaGreatMba
set_option maxRecDepth 100000
set_option linter.unusedSimpArgs false
set_option linter.unusedVariables false
namespace Go.Proofs.YtbihahpaalcjjaaGreat.Abs
open Go Go.RowKit Go.ChangeShapes
def AS (H:Heap):List (Nat×Blk)→Prop
 | []=>True
 | (b,x)::l=>H b=some x∧AS H l
def Ii (P:Program) (f:FuncId) (caps:List AV) (bl:List (Nat×Blk)) (xs:List (List AV)):Prop :=
 ∀(l:Nat) (H:Heap) (J:List (List AV)→Heap→Prop) (X:Heap→Prop),(∀pre H,J pre H→AS H bl) →
  (∀pre H b x,J pre H→H b=none→J pre (upd H b (some x))) →
  (∀pre x post H,xs=pre++x::post→J pre H→Ki P l x H fun r H'=>(r = .d (.bool true)∧J (pre++[x]) H')∨(r = .d (.bool false)∧X H')) →
  J [] H→CallW P f (.yld l::caps) H fun _ H'=>J xs H'∨X H'
def HD (n:Nat) (t:TM):List Nat→List AV→TM
 | p::ps,v::vs=>HD n (if p<n then JP t p v else t) ps vs
 | _,_=>t
def JH:ACode→Bool
 | .skip | .ops _ | .dops _=>true
 | .seq a b=>JH a&&JH b
 | _=>false
section
variable {P:Program}
theorem An {H:Heap} {l:Nat} {y:Option Blk} (hl:H l=none):∀{bl:List (Nat×Blk)},AS H bl→AS (upd H l y) bl
 | [],_=>trivial
 | (b,x)::bl,h=>by
  refine ⟨?_,An hl h.2⟩
  have h1:=h.1
  rw [AR,if_neg (fun e=>by rw [e] at hl; rw [hl] at h1; cases h1)]
  exact h1
theorem O4:∀{a:ACode} {s:St} {Q Q':Out→St→Prop},JH a=true→(∀s',Q .normal s'=Q' .normal s')→FN P a s Q=FN P a s Q'
 | .skip,s,Q,Q',_,h=>h s
 | .ops l,s,Q,Q',_,h=>by simp only [FN,h]
 | .dops l,s,Q,Q',_,h=>by simp only [FN,h]
 | .seq a b,s,Q,Q',hs,h=>by
  simp only [JH,Bool.and_eq_true] at hs
  simp only [FN]
  exact O4 hs.1 fun s'=>O4 hs.2 h
theorem HRel.less {F:Nat→Prop} {H H0:Heap} {w:World} (h:HRel P F H w) (hp:∀k,H0 k=none∨H0 k=H k):HRel P F H0 w :=
 have hs:∀b x,H0 b=some x→H b=some x:=fun b x hb=>by
  rcases hp b with e | e
  ·rw [e] at hb; cases hb
  ·rw [←e]; exact hb
 ⟨fun b x hb=>h.at_ b x (hs b x hb),fun b x hb=>h.apart b x (hs b x hb),h.old⟩
theorem HRel.putObj {F:Nat→Prop} {H:Heap} {w:World} {l:Nat} (o:Obj) (h:HRel P F H w) (hl:H l=none) (hF:¬F l):HRel P F H (w.putObj l o) :=
 ⟨fun b x hb=>(h.at_ b x hb).mono (World.putObj_heap_other fun e=>by rw [e,hl] at hb; cases hb) (fun _ h=>h) (fun k hk=>World.putObj_heap_other fun e=>hF (e▸hk)),
  h.apart,fun b hb=>by rw [World.putObj_size]; exact h.old b hb⟩
theorem HRel.put {F:Nat→Prop} {H:Heap} {w:World} {l:Nat} {o:Obj} {ts:List AV} {us:List Value} (h:HRel P F H w) (hl:H l=none) (hF:¬F l) (ho:w.heap[l]? = some o) (hv:VRL P F w ts us):HRel P F (upd H l (some (.obj o ts us))) w :=
 ⟨fun b x hb=>by
  rw [AR] at hb
  split at hb
  ·next e=>subst e; cases hb; exact ⟨ho,hv⟩
  ·exact h.at_ b x hb,
  fun b x hb=>by
   rw [AR] at hb
   split at hb
   ·next e=>subst e; exact hF
   ·exact h.apart b x hb,h.old⟩
theorem HRel.grow {F:Nat→Prop} {H:Heap} {w:World} (o:Obj) (h:HRel P F H w):HRel P F H (w.alloc o) :=
 ⟨fun b x hb=>(h.at_ b x hb).mono (Below.heap_alloc w o b (h.at_ b x hb).lt) (fun _ h=>h) (fun k hk=>Below.heap_alloc w o k (h.old k hk)),h.apart,fun b hb=>by have:=h.old b hb; simp; omega⟩
theorem Qf {F:Nat→Prop} {w:World}:∀(ps:List Nat) (x:List AV) (vs:List Value) (t:TM) (tm:Array Value),VRL P F w x vs→(∀i,VR P F w (t i) (tm.getD i undef)) →
  ((ps.zip vs).foldl (fun tmps (p,v)=>tmps.setIfInBounds p v) tm).size=tm.size∧∀i,VR P F w (HD tm.size t ps x i) (((ps.zip vs).foldl (fun tmps (p,v)=>tmps.setIfInBounds p v) tm).getD i undef)
 | [],x,vs,t,tm,_,ht=>⟨rfl,ht⟩
 | p::ps,[],vs,t,tm,hv,ht=>by
  obtain rfl:=hv.unnil
  exact ⟨rfl,ht⟩
 | p::ps,a::x,vs,t,tm,hv,ht=>by
  obtain ⟨v,vs,rfl,ha,hl⟩:=hv.uncons
  have:=Qf ps x vs (if p<tm.size then JP t p a else t) (tm.setIfInBounds p v) hl (fun i=>?_)
  ·simp only [Array.size_setIfInBounds] at this
   exact this
  ·split
   ·next hp =>
    rw [A4]
    by_cases e:p=i
    ·subst e
     rw [show (tm.setIfInBounds p v).getD p undef=v by simp [Array.getD,hp]]
     simpa using ha
    ·rw [show (p == i)=false by simpa using e]
     rw [show (tm.setIfInBounds p v).getD i undef=tm.getD i undef by rw [Array.getD_eq_getD_getElem?,Array.getD_eq_getD_getElem?,Array.getElem?_setIfInBounds_ne e]]
     exact ht i
   ·next hp =>
    have e:tm.setIfInBounds p v=tm:=by
     apply Array.ext'
     simp only [Array.toList_setIfInBounds]
     exact List.set_eq_of_length_le (by simp; omega)
    rw [e]
    exact ht i
theorem R6 {F:Nat→Prop} {w:World} {tm:Array Value}:∀{tl:List (Nat×AV)},VRL P F w (tl.map (·.2)) (tl.map fun p=>tm.getD p.1 undef)→∀i,VR P F w (Et tl i) (tm.getD i undef)
 | [],_,i=>.undef _
 | (j,v)::tl,h,i=>by
  obtain ⟨u,us,e,h1,h2⟩:=h.uncons
  simp only [List.map_cons,List.cons.injEq] at e
  obtain ⟨rfl,rfl⟩:=e
  simp only [Et,A4]
  by_cases e:j=i
  ·subst e; simpa using h1
  ·rw [show (j == i)=false by simpa using e]; exact R6 h2 i
theorem Ri {F:Nat→Prop} {w:World} {tm:Array Value} {t:TM} (ht:∀i,VR P F w (t i) (tm.getD i undef)):∀{tl:List (Nat×AV)},AM t tl→VRL P F w (tl.map (·.2)) (tl.map fun p=>tm.getD p.1 undef)
 | [],_=>VRL.nil
 | (j,v)::tl,h=>VRL.cons (by rw [←h.1]; exact ht j) (Ri ht h.2)
def Fg (fn:FuncId) (tm:Array Value) (ps:Array Tmp) (a b:Code) (D:Nat) (st:LoopState) (pe:Option Code):Loop:={ state:=st,pending:=pe,fn,tmps:=tm,params:=ps,assign:=a,body:=b,defers:=D }
def JS:Out→Option Code
 | .normal=>none
 | .exit i=>some (.exit i)
 | .ret=>some .ret
theorem Vg {l D:Nat} {fn:FuncId} {tm:Array Value} {ps:Array Tmp} {a b:Code} {asg body:ACode} (ha:FO P a=some asg) (hb:FO P b=some body) (fa:GH asg=true) (fb:GH body=true) (hs:JH asg=true)
  {tl:List (Nat×AV)} {x:List AV} (hx:x.length=ps.size) {H H':Heap} (hl:H l=none) (hless:∀k,H' k=none∨H' k=H k) {Q:Out→Heap→Prop}
  (h:FN P (.seq asg body) ⟨tm.size,HD tm.size (Et tl) ps.toList x,H'⟩ fun o s=>Q o s.H) :
  Ki P l x (upd H l (some (.obj (.loop (Fg fn tm ps a b D .ready none)) (tl.map (·.2)) (tl.map fun p=>tm.getD p.1 undef)))) fun r H' =>
   ∃o H0,H0 l=none∧Q o H0∧r = .d (.bool (JS o).isNone) ∧
    H'=upd H0 l (some (.obj (.loop (Fg fn tm ps a b D (if (JS o).isNone then .ready else .done) (JS o))) (tl.map (·.2)) (tl.map fun p=>tm.getD p.1 undef))):=by
 intro F w vs hh hv
 obtain ⟨hrec,hts⟩:=hh.at_ l _ (by rw [AR,if_pos rfl])
 have hFl:¬F l:=hh.apart l _ (by rw [AR,if_pos rfl])
 have hlt:l<w.heap.size:=(Array.getElem?_eq_some_iff.1 hrec).1
 have hh0:HRel P F H w:=hh.less fun k=>by
  rw [AR]
  split
  ·next e=>subst e; exact .inl hl
  ·exact .inr rfl
 have hsz:vs.toArray.size=ps.size:=by rw [←hx]; simpa using hv.1.symm
 refine ⟨fn,_,a,b,run_yield hrec hsz,roundIn_of_wpIn trivial ?_⟩
 have e1:(((Fg fn tm ps a b D .ready none).params.zip vs.toArray).foldl (fun tmps (t,a)=>tmps.setIfInBounds t a) (Fg fn tm ps a b D .ready none).tmps)=(ps.toList.zip vs).foldl (fun tmps (p,v)=>tmps.setIfInBounds p v) tm:=by
  simp only [Fg]
  rw [←Array.foldl_toList,Array.toList_zip]
 rw [e1]
 obtain ⟨k1,k2⟩:=Qf ps.toList x vs (Et tl) tm hv (R6 hts)
 have hrel:Rel P 0 F ⟨tm.size,HD tm.size (Et tl) ps.toList x,H⟩ { tmps:=(ps.toList.zip vs).foldl (fun tmps (p,v)=>tmps.setIfInBounds p v) tm,defers:=[] } w :=
  ⟨hh0,⟨Nat.zero_le _,[],rfl,List.nodup_nil,fun D h=>by simp at h⟩,k1,k2⟩
 have hq:FN P asg ⟨tm.size,HD tm.size (Et tl) ps.toList x,H'⟩ fun o s1=>o = .normal∧FN P body s1 fun o s=>Q o s.H:=by
  simp only [FN] at h
  refine (O4 hs ?_).mp h
  intro s'
  simp
 refine Code.wpIn_mono ?_ (AW.abst (s:=⟨tm.size,HD tm.size (Et tl) ps.toList x,H⟩) (t:=⟨tm.size,HD tm.size (Et tl) ps.toList x,H'⟩) ⟨rfl,fun _=>.inr rfl,hless⟩ (I3 (r:=some l) ha (.inr fa) hq) 0 F _ w hrel)
 rintro e a1 w1 ⟨o,s1,F1,h1,h2,h3,rfl,h4⟩
 cases e <;> simp only [KM] at h1
 have hs1l:s1.H l=none:=by
  cases e:s1.H l with
  | none=>rfl
  | some y =>
   rcases h3.dom l (by rw [e]; simp) with h | h
   ·exact absurd hl h
   ·omega
 have hF1l:¬F1 l:=fun h=>by
  rcases h3.new l h with h | h | h
  ·exact hFl h
  ·exact h hl
  ·omega
 have hr1:w1.heap[l]? = some (.loop (Fg fn tm ps a b D .ready none)):=(h3.keep l hlt hl).trans hrec
 refine ⟨_,run_beginRound hr1 rfl,?_⟩
 have hlt1:l<w1.heap.size:=(Array.getElem?_eq_some_iff.1 hr1).1
 have hrel1:Rel P 0 F1 s1 a1 (w1.putObj l (.loop { Fg fn tm ps a b D .ready none with state:=.busy })):=by
  obtain ⟨g1,⟨g0,ms,gd,gn,gm⟩,g3,g4⟩:=h2
  refine ⟨g1.putObj _ hs1l hF1l,⟨by omega,ms,gd,gn,fun D' hD=>?_⟩,g3,fun t=>(g4 t).mono (fun _ h=>h) fun k hk=>World.putObj_heap_other fun e=>hF1l (e▸hk)⟩
  obtain ⟨m1,m2,m3,m4⟩:=gm D' hD
  refine ⟨m1,m2,m3,(World.putObj_heap_other fun e=>?_).trans m4⟩
  rw [e,hr1] at m4; cases m4
 refine Code.wpIn_mono ?_ (I3 (r:=some l) hb (.inr fb) h4 0 F1 _ _ hrel1)
 rintro e a2 w3 ⟨o,s2,F2,j1,j2,j3,j4⟩
 have hs2l:s2.H l=none:=by
  cases e:s2.H l with
  | none=>rfl
  | some y =>
   rcases j3.dom l (by rw [e]; simp) with h | h
   ·exact absurd hs1l h
   ·simp at h; omega
 have hF2l:¬F2 l:=fun h=>by
  rcases j3.new l h with h | h | h
  ·exact hF1l h
  ·exact h hs1l
  ·simp at h; omega
 have hr3:w3.heap[l]? = some (.loop { Fg fn tm ps a b D .ready none with state:=.busy }):=(j3.keep l (by simpa using hlt1) hs1l).trans (World.putObj_heap_same hlt1)
 have hlt3:l<w3.heap.size:=(Array.getElem?_eq_some_iff.1 hr3).1
 have hkF:∀k,F k→∀o',(w3.putObj l o').heap[k]? = w.heap[k]?:=fun k hk o'=>by
  have n1:k≠l:=fun e=>hFl (e▸hk)
  have n2:=h3.keepF hh0 k hk
  have n3:=j3.keepF hrel1.1 k (h3.mono k hk)
  rw [World.putObj_heap_other n1,n3,World.putObj_heap_other n1,n2]
 have fin:∀(jump:Option Code),jump=JS o→∃v w',(Instr.endRound l jump).run P w3 = .ok v w'∧∃r H' F' v',Ending.returned v = .returned v'∧VR P F' w' r v'∧HRel P F' H' w' ∧
   Step F (upd H l (some (.obj (.loop (Fg fn tm ps a b D .ready none)) (tl.map (·.2)) (tl.map fun p=>tm.getD p.1 undef)))) w F' H' w' ∧
   ∃o H0,H0 l=none∧Q o H0∧r = .d (.bool (JS o).isNone) ∧
    H'=upd H0 l (some (.obj (.loop (Fg fn tm ps a b D (if (JS o).isNone then .ready else .done) (JS o))) (tl.map (·.2)) (tl.map fun p=>tm.getD p.1 undef))):=by
  intro jump hj
  subst hj
  refine ⟨_,_,run_endRound _ hr3,_,_,F2,_,rfl,.d _ _ (.bool _),?_,?_,o,s2.H,hs2l,j4,rfl,rfl⟩
  ·refine (j2.1.putObj _ hs2l hF2l).put hs2l hF2l (World.putObj_heap_same hlt3) ?_
   exact hts.mono (fun k hk=>j3.mono k (h3.mono k hk)) fun k hk=>hkF k hk _
  ·refine ⟨j3.os.trans h3.os,j3.tape.trans h3.tape,j3.output.trans h3.output,?_,fun k hk hn=>?_,fun k hk=>?_,fun k hk=>j3.mono k (h3.mono k hk),fun k hk=>?_⟩
   ·have:=j3.size; have:=h3.size; simp at *; omega
   ·rw [AR] at hn
    split at hn
    ·cases hn
    ·next e =>
     have hkl:k≠l:=fun e'=>e e'.symm
     have d1:s1.H k=none:=by
      cases e:s1.H k with
      | none=>rfl
      | some y =>
       rcases h3.dom k (by rw [e]; simp) with h | h
       ·exact absurd hn h
       ·omega
     rw [World.putObj_heap_other hkl,j3.keep k (by have:=h3.size; simp; omega) d1,World.putObj_heap_other hkl,h3.keep k hk hn]
   ·rw [AR] at hk ⊢
    split
    ·exact .inl (by simp)
    ·next e =>
     rw [if_neg e] at hk
     rcases j3.dom k hk with h | h
     ·rcases h3.dom k h with h | h
      ·exact .inl h
      ·exact .inr h
     ·exact .inr (by have:=h3.size; simp at h; omega)
   ·rw [AR]
    split
    ·exact .inr (.inl (by simp))
    ·rcases j3.new k hk with h | h | h
     ·rcases h3.new k h with h | h | h
      ·exact .inl h
      ·exact .inr (.inl h)
      ·exact .inr (.inr h)
     ·rcases h3.dom k h with h | h
      ·exact .inr (.inl h)
      ·exact .inr (.inr h)
     ·exact .inr (.inr (by have:=h3.size; simp at h; omega))
 cases o <;> cases e <;> simp only [KM] at j1
 ·exact fin none rfl
 ·subst j1; exact fin (some (.exit _)) rfl
 ·exact fin (some .ret) rfl
theorem E5 {H:Heap}:∀{bl:List (Nat×Blk)},AS H bl↔∀p∈bl,H p.1=some p.2
 | []=>by simp [AS]
 | (b,x)::bl=>by simp only [AS,List.mem_cons,forall_eq_or_imp,E5]
theorem Y4 {H:Heap} {i j:Nat} {x y:Option Blk} (h:i≠j):upd (upd H i x) j y=upd (upd H j y) i x:=by
 funext k
 simp only [AR]
 by_cases h1:j=k
 ·subst h1; simp [h]
 ·simp [h1]
theorem Zd {α:Type} {g:Opd} {ps:List Nat} {asg body:ACode} {s:St} {Q:Out→St→Prop} {f:FuncId} {caps:List AV} {bl:List (Nat×Blk)} {xs:List (List AV)} (tl:List (Nat×AV)) (I:List (List AV)→α→Prop) (hp : α→Heap) (hl : α→List (Nat×Blk))
  (hit:Ii P f caps bl xs) (hg:ev s.t g = .fn f caps) (hs:JH asg=true) (hx:∀x∈xs,x.length=ps.length) (ht:AM s.t tl) (hA:∀pre y,I pre y→∀p∈bl,p∈hl y) (hle:∀H y,AS H (hl y)→∀k,hp y k=none∨hp y k=H k) (h0:∃y,I [] y∧AS s.H (hl y))
  (round:∀pre x post y,xs=pre++x::post→I pre y→FN P (.seq asg body) ⟨s.n,HD s.n (Et tl) ps x,hp y⟩ fun o s'=>match o with | .normal=>∃y',I (pre++[x]) y'∧AS s'.H (hl y') | o=>Q o ⟨s.n,s.t,s'.H⟩)
  (done:∀y,I xs y→Q .normal ⟨s.n,s.t,hp y⟩):O9 P g ps asg body s Q:=by
 obtain ⟨J,hJ⟩:∃J:List (List AV)→Heap→Prop,J=fun pre H=>∃y,I pre y∧AS H (hl y):=⟨_,rfl⟩
 have hJA:∀pre H,J pre H→AS H bl:=fun pre H h=>by
  subst hJ
  obtain ⟨y,h1,h2⟩:=h
  exact E5.2 fun p hp=>E5.1 h2 p (hA pre y h1 p hp)
 have hJs:∀pre H b x,J pre H→H b=none→J pre (upd H b (some x)):=fun pre H b x h hb=>by
  subst hJ
  obtain ⟨y,h1,h2⟩:=h
  exact ⟨y,h1,An hb h2⟩
 have hJ0:J [] s.H:=by subst hJ; exact h0
 intro g' ps' a b hg' hps ha hb fa fb B F act w hr
 have hg2:=EU hr.2.2.2 g'
 rw [hg',hg] at hg2
 generalize hgv:act.eval g'=gv at hg2
 cases hg2
 next cs hen hcl hcr =>
 obtain ⟨hh,hd,hn,hv⟩:=hr
 have hn':s.n=act.tmps.size:=hn.symm
 subst hps
 refine wpIn_rangeFunc ?_
 intro fn _
 have hl0:s.H w.heap.size=none:=hh.fresh (Nat.le_refl _)
 have hl1:s.H (w.heap.size+1)=none:=hh.fresh (by omega)
 have hFD:¬F w.heap.size:=fun h=>by have:=hh.old _ h; omega
 have hFl:¬F (w.heap.size+1):=fun h=>by have:=hh.old _ h; omega
 obtain ⟨W1,hW1⟩:∃W1,(w.alloc (.deferred (some []))).alloc (.loop (Fg fn act.tmps ps' a b w.heap.size .ready none))=W1:=⟨_,rfl⟩
 have hsz:W1.heap.size=w.heap.size+2:=by rw [←hW1]; simp
 have hL1:W1.heap[w.heap.size+1]? = some (.loop (Fg fn act.tmps ps' a b w.heap.size .ready none)):=by
  rw [←hW1]; have:=World.alloc_heap_new (w.alloc (.deferred (some []))) (.loop (Fg fn act.tmps ps' a b w.heap.size .ready none)); rwa [World.size_alloc] at this
 have hK1:W1.heap[w.heap.size]? = some (.deferred (some [])):=by
  rw [←hW1]; exact (Below.heap_alloc _ _ _ (by simp)).trans (World.alloc_heap_new w _)
 have hold:∀k,k<w.heap.size→W1.heap[k]? = w.heap[k]?:=fun k hk=>by
  rw [←hW1]; exact (Below.heap_alloc _ _ _ (by simp; omega)).trans (Below.heap_alloc _ _ _ hk)
 have hrest:W1.os=w.os∧W1.tape=w.tape∧W1.output=w.output:=by rw [←hW1]; exact ⟨rfl,rfl,rfl⟩
 refine ⟨w.heap.size+1,[Kl w.heap.size],W1,{ target:=.fn (.func f) cs.toArray,args:=#[.func (.yield (w.heap.size+1)) #[] #[]] },W1,f,#[.func (.yield (w.heap.size+1)) #[] #[]]++cs.toArray,W1,?_,?_,fun _ _=>trivial,?_,fun h=>by simp [Fu] at h,?_⟩
 ·rw [←hW1]; exact run_enterLoop_outer _ _ _ _ _
 ·simp only [resolve,hgv]
  simp [go_sem]
 ·simp [invoke,go_sem,PE hen]
 ·refine (callsIn_wide (n:=0-1)).2 ?_
  have hts:VRL P F W1 (tl.map (·.2)) (tl.map fun p=>act.tmps.getD p.1 undef):=(Ri hv ht).mono (fun _ h=>h) fun k hk=>hold k (hh.old k hk)
  have hh1:HRel P F (upd s.H (w.heap.size+1) (some (.obj (.loop (Fg fn act.tmps ps' a b w.heap.size .ready none)) (tl.map (·.2)) (tl.map fun p=>act.tmps.getD p.1 undef)))) W1:=by
   refine HRel.put ?_ hl1 hFl hL1 hts
   rw [←hW1]; exact (hh.grow _).grow _
  have hcall:=hit (w.heap.size+1) (upd s.H (w.heap.size+1) (some (.obj (.loop (Fg fn act.tmps ps' a b w.heap.size .ready none)) (tl.map (·.2)) (tl.map fun p=>act.tmps.getD p.1 undef))))
   (fun pre H=>∃H0,H0 (w.heap.size+1)=none∧J pre H0∧H=upd H0 (w.heap.size+1) (some (.obj (.loop (Fg fn act.tmps ps' a b w.heap.size .ready none)) (tl.map (·.2)) (tl.map fun p=>act.tmps.getD p.1 undef))))
   (fun H=>∃H0 o c,JS o=some c∧H0 (w.heap.size+1)=none∧Q o ⟨s.n,s.t,H0⟩∧H=upd H0 (w.heap.size+1) (some (.obj (.loop (Fg fn act.tmps ps' a b w.heap.size .done (some c))) (tl.map (·.2)) (tl.map fun p=>act.tmps.getD p.1 undef))))
   (fun pre H ⟨H0,g1,g2,g3⟩=>by subst g3; exact An g1 (hJA pre H0 g2))
   (fun pre H b x ⟨H0,g1,g2,g3⟩ hb=>by
    subst g3
    rw [AR] at hb
    split at hb
    ·cases hb
    ·next e=>exact ⟨upd H0 b (some x),by rw [AR,if_neg (fun e'=>e e'.symm)]; exact g1,hJs pre H0 b x g2 hb,Y4 e⟩)
   (fun pre x post H hxs ⟨H0,g1,g2,g3⟩=>by
    subst g3
    obtain ⟨y,y1,y2⟩:∃y,I pre y∧AS H0 (hl y):=by subst hJ; exact g2
    have hrd:=round pre x post y hxs y1
    rw [hn'] at hrd
    intro F' w' vs' hh' hv'
    obtain ⟨fn',tm',as',bd',r1,r2⟩:=Vg (l:=w.heap.size+1) (D:=w.heap.size) (fn:=fn) ha hb fa fb hs (by rw [hx x (by rw [hxs]; simp)]; simp) g1 (hle H0 y y2) (Q:=fun o H=>match o with | .normal=>J (pre++[x]) H | o=>Q o ⟨act.tmps.size,s.t,H⟩) (by
      refine cast (congrArg _ ?_) hrd
      subst hJ; funext o s'; cases o <;> rfl) F' w' vs' hh' hv'
    refine ⟨fn',tm',as',bd',r1,r2.mono fun e w2 ⟨r,H',F2,v,q1,q2,q3,q4,o,H2,q5,q6,q7,q8⟩=>⟨r,H',F2,v,q1,q2,q3,q4,?_⟩⟩
    cases o with
    | normal=>exact .inl ⟨q7,H2,q5,q6,q8⟩
    | exit i=>exact .inr ⟨q7,H2,.exit i,_,rfl,q5,by rw [hn']; exact q6,q8⟩
    | ret=>exact .inr ⟨q7,H2,.ret,_,rfl,q5,by rw [hn']; exact q6,q8⟩)
   ⟨s.H,hl1,hJ0,rfl⟩ F W1 (.func (.yield (w.heap.size+1)) #[] #[]::cs) hh1
   (VRL.cons (.yld _) (VRL.mono ⟨hcl,hcr⟩ (fun _ h=>h) fun k hk=>hold k (hh.old k hk)))
  have eargs:(Value.func (.yield (w.heap.size+1)) #[] #[]::cs).toArray = #[.func (.yield (w.heap.size+1)) #[] #[]]++cs.toArray:=by simp
  rw [eargs] at hcall
  refine hcall.mono ?_
  rintro e w2 ⟨r,H2,F2,v,rfl,q1,q2,q3,q4⟩
  have fin:∀(H0:Heap) (st:LoopState) (pe:Option Code),st≠.busy→H0 (w.heap.size+1)=none→H2=upd H0 (w.heap.size+1) (some (.obj (.loop (Fg fn act.tmps ps' a b w.heap.size st pe)) (tl.map (·.2)) (tl.map fun p=>act.tmps.getD p.1 undef))) →
    ∃w4,(Instr.endLoop (w.heap.size+1)).run P w2 = .ok pe w4∧Rel P B F2 ⟨s.n,s.t,H0⟩ { act with defers:=[Kl w.heap.size]++act.defers } w4∧Step F s.H w F2 H0 w4:=by
   intro H0 st pe hst g1 g2
   subst g2
   have hr2:w2.heap[w.heap.size+1]? = some (.loop (Fg fn act.tmps ps' a b w.heap.size st pe)):=by
    have h:=q2.at_ (w.heap.size+1) _ (by rw [AR,if_pos rfl])
    exact h.1
   have hF2l:¬F2 (w.heap.size+1):=q2.apart _ _ (by rw [AR,if_pos rfl])
   have hsz2:=q3.size
   have hD1:(upd s.H (w.heap.size+1) (some (.obj (.loop (Fg fn act.tmps ps' a b w.heap.size .ready none)) (tl.map (·.2)) (tl.map fun p=>act.tmps.getD p.1 undef)))) w.heap.size=none:=by
    rw [AR,if_neg (by omega)]; exact hl0
   have hF2D:¬F2 w.heap.size:=fun h=>by
    rcases q3.new _ h with h | h | h
    ·exact hFD h
    ·exact h hD1
    ·omega
   have hH0D:H0 w.heap.size=none:=by
    cases e:H0 w.heap.size with
    | none=>rfl
    | some y =>
     rcases q3.dom w.heap.size (by rw [AR,if_neg (by omega),e]; simp) with h | h
     ·exact absurd hD1 h
     ·omega
   have hstep:Step F s.H w F2 H0 (w2.putObj (w.heap.size+1) (.loop { Fg fn act.tmps ps' a b w.heap.size st pe with state:=.exhausted })):=by
    refine ⟨q3.os.trans hrest.1,q3.tape.trans hrest.2.1,q3.output.trans hrest.2.2,by simp; omega,fun k hk hn=>?_,fun k hk=>?_,q3.mono,fun k hk=>?_⟩
    ·rw [World.putObj_heap_other (by omega),q3.keep k (by omega) (by rw [AR,if_neg (by omega)]; exact hn),hold k hk]
    ·by_cases e:w.heap.size+1=k
     ·exact .inr (by omega)
     ·rcases q3.dom k (by rw [AR,if_neg e]; exact hk) with h | h
      ·rw [AR,if_neg e] at h; exact .inl h
      ·exact .inr (by omega)
    ·rcases q3.new k hk with h | h | h
     ·exact .inl h
     ·rw [AR] at h
      split at h
      ·exact .inr (.inr (by omega))
      ·exact .inr (.inl h)
     ·exact .inr (.inr (by omega))
   have hhr:HRel P F2 H0 (w2.putObj (w.heap.size+1) (.loop { Fg fn act.tmps ps' a b w.heap.size st pe with state:=.exhausted })):=by
    refine HRel.putObj _ (q2.less fun k=>?_) g1 hF2l
    rw [AR]
    split
    ·next e=>subst e; exact .inl g1
    ·exact .inr rfl
   refine ⟨_,run_endLoop hr2 hst,⟨hhr,?_,hn,fun t=>hstep.VR hh (hv t)⟩,hstep⟩
   obtain ⟨d0,ms,d1,d2,d3⟩:=hstep.defs hd
   refine ⟨d0,w.heap.size::ms,by simp [d1],?_,fun D hD=>?_⟩
   ·rw [List.nodup_cons]
    refine ⟨fun hm=>?_,d2⟩
    obtain ⟨_,ms',d1',_,d3'⟩:=hd
    have:ms=ms':=by
     rw [d1] at d1'
     have hinj:Function.Injective Kl:=fun x y h=>by simp only [Kl,Deferred.mk.injEq,Target.collected.injEq] at h; exact h.1
     exact (List.map_inj_right hinj).1 d1'
    rw [this] at hm
    have:=(Array.getElem?_eq_some_iff.1 (d3' _ hm).2.2.2).1
    omega
   ·rcases List.mem_cons.1 hD with rfl | hD
    ·refine ⟨hd.1,hH0D,hF2D,?_⟩
     rw [World.putObj_heap_other (by omega),q3.keep _ (by omega) hD1,hK1]
    ·exact d3 D hD
  rcases q4 with ⟨H0,g1,g2,g3⟩ | ⟨H0,o,c,g0,g1,g2,g3⟩
  ·obtain ⟨w4,e1,e2,e3⟩:=fin H0 _ _ (by simp) g1 g3
   obtain ⟨y,y1,y2⟩:∃y,I xs y∧AS H0 (hl y):=by subst hJ; exact g2
   have y3:=hle H0 y y2
   refine ⟨_,w4,e1,.normal,⟨s.n,s.t,hp y⟩,F2,trivial,e2.abst ⟨rfl,fun _=>.inr rfl,y3⟩,⟨e3.os,e3.tape,e3.output,e3.size,e3.keep,fun k hk=>e3.dom k ?_,e3.mono,e3.new⟩,done y y1⟩
   rcases y3 k with e | e
   ·exact absurd e hk
   ·rw [←e]; exact hk
  ·obtain ⟨w4,e1,e2,e3⟩:=fin H0 _ _ (by simp) g1 g3
   refine ⟨_,w4,e1,?_⟩
   cases o with
   | normal=>cases g0
   | exit i=>cases g0; exact wpIn_exit ⟨.exit i,_,F2,rfl,e2,e3,g2⟩
   | ret=>cases g0; exact wpIn_ret ⟨.ret,_,F2,trivial,e2,e3,g2⟩
def Kh {α:Type} (I:List (List AV)→α→Prop) (hl : α→List (Nat×Blk)) (pre:List (List AV)) (n:Nat) (t:TM) (R:Out→St→Prop):Out→St→Prop
 | .normal,s'=>∃y,I pre y∧AS s'.H (hl y)
 | .exit i,s'=>R (.exit i) ⟨n,t,s'.H⟩
 | .ret,s'=>R .ret ⟨n,t,s'.H⟩
theorem CE {α:Type} {I:List (List AV)→α→Prop} {hl : α→List (Nat×Blk)} {pre:List (List AV)} {n:Nat} {t:TM} {s':St} {R:Out→St→Prop} {i:Nat}:Kh I hl pre n t R (.exit i) s'=R (.exit i) ⟨n,t,s'.H⟩:=rfl
theorem DA {α:Type} {I:List (List AV)→α→Prop} {hl : α→List (Nat×Blk)} {pre:List (List AV)} {n:Nat} {t:TM} {s':St} {R:Out→St→Prop}:Kh I hl pre n t R .ret s'=R .ret ⟨n,t,s'.H⟩:=rfl
theorem K3 {α:Type} {I:List (List AV)→α→Prop} {hl : α→List (Nat×Blk)} {pre:List (List AV)} {n:Nat} {t:TM} {s':St} {R:Out→St→Prop} (y : α) (h1:I pre y) (h2:AS s'.H (hl y)):Kh I hl pre n t R .normal s':=⟨y,h1,h2⟩
theorem ASG {α:Type} {Q:Out→St→Prop} {k:List Item} {g:Opd} {ps:List Nat} {asg body:ACode} {s:St} {f:FuncId} {caps:List AV} {bl:List (Nat×Blk)} {xs:List (List AV)} (tl:List (Nat×AV)) (I:List (List AV)→α→Prop) (hp : α→Heap) (hl : α→List (Nat×Blk))
  (hit:Ii P f caps bl xs) (hg:ev s.t g = .fn f caps) (hs:JH asg=true) (hx:∀x∈xs,x.length=ps.length) (ht:AM s.t tl) (hA:∀pre y,I pre y→∀p∈bl,p∈hl y) (hle:∀H y,AS H (hl y)→∀k,hp y k=none∨hp y k=H k) (y0 : α) (h0:I [] y0) (h1:AS s.H (hl y0))
  (round:∀pre x post y,xs=pre++x::post→I pre y→FD P (Kh I hl (pre++[x]) s.n s.t (Ej P Q k)) (.seq asg body) [] ⟨s.n,HD s.n (Et tl) ps x,hp y⟩)
  (done:∀y,I xs y→Ej P Q k .normal ⟨s.n,s.t,hp y⟩):Ot P Q g ps asg body k s:=by
 refine Zd tl I hp hl hit hg hs hx ht hA hle ⟨y0,h0,h1⟩ (fun pre x post y h1 h2=>?_) done
 have h:=N5 (round pre x post y h1 h2)
 refine cast (congrArg (FN P _ _) ?_) h
 funext o s'; cases o <;> rfl
theorem KS {Q:Out→St→Prop} {y:Nat} {args:List AV} {d:Option Nat} {l:List AO} {k:List Item} {s:St} {K:AV→Heap→Prop} (h:Ki P y args s.H K) (hk:∀r H',K r H'→AQ P Q l k (AL s d r H')):Nv P Q y args d l k s:=by
 intro F w vs hh hv
 obtain ⟨fn,tmps,asg,body,h1,h2⟩:=h F w vs hh hv
 exact ⟨fn,tmps,asg,body,h1,h2.mono fun e w' ⟨r,H',F',v,g1,g2,g3,g4,g5⟩=>⟨r,H',F',v,g1,g2,g3,g4,hk _ _ g5⟩⟩
end
def Eq (P:Program):Nat→TypeId→List D→Prop
 | 0,_,_=>False
 | n+1,t,l=>match P.underlying t with
  | some .bool=>∃b,l=[.bool b]
  | some (.int k)=>∃z,l=[.int k z]∧(Lit.int k z).wf=true
  | some .string=>∃s,l=[.str s]∧s.size≤maxLen
  | some (.slice e)=>∃xs,l=[.sl (P.cellsOf e) xs]∧xs.length≤maxLen∧∀el∈xs,Eq P n e el
  | some (.struct fs)=>∃ls:List (List D),l=ls.flatten∧ls.length=fs.size∧∀(j:Nat) f x,fs[j]? = some f→ls[j]? = some x→Eq P n f.type x
  | _=>False
def LY (P:Program):Nat→List Field→Nat→Bool
 | o,[],e=>o == e
 | o,f::r,e=>f.offset == o&&LY P (o+P.cellsOf f.type) r e
def Jt (P:Program):Nat→TypeId→Bool
 | 0,_=>false
 | n+1,t=>match P.underlying t with
  | some .bool | some (.int _) | some .string=>P.cellsOf t == 1
  | some (.slice e)=>Jt P n e&&P.cellsOf e != 0&&P.cellsOf t == 1
  | some (.struct fs)=>LY P 0 fs.toList (P.cellsOf t)&&fs.toList.all fun f=>Jt P n f.type
  | _=>false
section
variable {P:Program} {H:Type} {enc:TypeId×Value→H} {w:World} {sp:Nat→Bool} {held:Bool}
theorem Pr {F:Nat→Prop}:∀{fs:List Field} {o:Nat} {cs:List Value} {ls:List (List D)},LY P o fs cs.length=true→ls.length=fs.length →
  (∀(j:Nat) f x,fs[j]? = some f→ls[j]? = some x→x.length=((cs.drop f.offset).take (P.cellsOf f.type)).length∧((cs.drop f.offset).take (P.cellsOf f.type)).length=P.cellsOf f.type ∧
   ∀(i:Nat) c u,x[i]? = some c→((cs.drop f.offset).take (P.cellsOf f.type))[i]? = some u→RD F w c u) →
  ls.flatten.length=(cs.drop o).length∧∀(i:Nat) c u,ls.flatten[i]? = some c→(cs.drop o)[i]? = some u→RD F w c u
 | [],o,cs,ls,ht,hl,h=>by
  simp only [LY,beq_iff_eq] at ht
  cases ls with
  | nil=>exact ⟨by simp [ht],fun i c u h=>by simp at h⟩
  | cons x r=>simp at hl
 | f::fs,o,cs,ls,ht,hl,h=>by
  simp only [LY,Bool.and_eq_true,beq_iff_eq] at ht
  cases ls with
  | nil=>simp at hl
  | cons x r =>
   obtain ⟨h1,h2⟩:=Pr (F:=F) (ls:=r) ht.2 (by simpa using hl) fun j f' x' hf hx=>h (j+1) f' x' (by simpa using hf) (by simpa using hx)
   obtain ⟨g1,g2,g3⟩:=h 0 f x rfl rfl
   rw [ht.1] at g1 g2 g3
   rw [g2] at g1
   have hlt:o+P.cellsOf f.type≤cs.length∨P.cellsOf f.type=0:=by
    simp only [List.length_take,List.length_drop] at g2
    omega
   simp only [List.length_drop] at h1
   refine ⟨?_,fun i c u hc hu=>?_⟩
   ·simp only [List.flatten_cons,List.length_append,List.length_drop,g1,h1]
    omega
   ·simp only [List.flatten_cons] at hc
    by_cases hi:i<x.length
    ·rw [List.getElem?_append_left hi] at hc
     refine g3 i c u hc ?_
     rw [List.getElem?_take_of_lt (by omega)]
     exact hu
    ·rw [List.getElem?_append_right (by omega)] at hc
     refine h2 (i-x.length) c u hc ?_
     rw [List.getElem?_drop] at hu ⊢
     rw [←hu]
     congr 1
     omega
theorem ZQ {a:Addr} {v:Value} (h:w.cell? a=some v):a.block<w.heap.size∧a.spot=none:=by
 unfold World.cell? at h
 split at h
 ·next e =>
  refine ⟨(Array.getElem?_eq_some_iff.1 e).1,?_⟩
  split at h
  ·cases h
  ·next hs=>simpa using hs
 ·cases h
theorem PI:∀(n:Nat) (fuel:Nat) (t:TypeId) (cs:List Value) (x:_root_.Go.DataW H×List MemPlace),Jt P n t=true→_root_.Go.DataW.trod enc P w 0 sp held fuel t cs=some x →
  ∃l,Eq P n t l∧l.length=cs.length∧cs.length=P.cellsOf t∧∀(j:Nat) c u,l[j]? = some c→cs[j]? = some u→RD (fun b=>b<w.heap.size) w c u
 | 0,fuel,t,cs,x,hr,h=>by cases hr
 | n+1,fuel,t,cs,x,hr,h=>by
  unfold Jt at hr
  unfold Eq
  have one:∀(d:D) (v:Value),P.cellsOf t=1→cs=[v]→RD (fun b=>b<w.heap.size) w d v→([d]:List D).length=cs.length∧cs.length=P.cellsOf t∧∀(j:Nat) c u,[d][j]? = some c→cs[j]? = some u→RD (fun b=>b<w.heap.size) w c u:=fun d v hlen e hd=>by
   refine ⟨by rw [e]; rfl,by rw [e,hlen]; rfl,fun j c u h1 h2=>?_⟩
   rw [e] at h2
   cases j with
   | zero=>simp at h1 h2; subst h1; subst h2; exact hd
   | succ j=>simp at h1
  split at hr
  ·next hu =>
   obtain ⟨b,hcs,hx⟩:=_root_.Go.DataW.trod_bool hu h
   try rw [hu]
   exact ⟨[.bool b],⟨b,rfl⟩,one _ _ (by simpa using hr) hcs (.bool b)⟩
  ·next k hu =>
   obtain ⟨z,hcs,hx,hw⟩:=_root_.Go.DataW.trod_int hu h
   try rw [hu]
   exact ⟨[.int k z],⟨z,rfl,hw⟩,one _ _ (by simpa using hr) hcs (.int k z)⟩
  ·next hu =>
   obtain ⟨s,hcs,hx,hw⟩:=_root_.Go.DataW.trod_string hu h
   try rw [hu]
   exact ⟨[.str s],⟨s,rfl,hw⟩,one _ _ (by simpa using hr) hcs (.str s)⟩
  ·next e hu =>
   simp only [Bool.and_eq_true,bne_iff_ne,ne_eq,beq_iff_eq] at hr
   try rw [hu]
   rcases _root_.Go.DataW.trod_slice hu h with ⟨hcs,hx⟩ | ⟨a,len,cap,elems,rest,m,_,hcs,hx,hb,hl,hm,hel,hat,hsp,hns⟩
   ·exact ⟨[.sl (P.cellsOf e) []],⟨[],rfl,by simp,by simp⟩,one _ _ hr.2 hcs (.nil _ _ _)⟩
   ·-- each element's cells,and what they read as
    have each:∀i,i<len→∃(us:List Value) (l:List D),us.length=P.cellsOf e∧l.length=P.cellsOf e∧Eq P n e l∧(∀j u,us[j]? = some u→w.cell? ((a.add (i*P.cellsOf e)).add j)=some u) ∧
      ∀(j:Nat) c u,l[j]? = some c→us[j]? = some u→RD (fun b=>b<w.heap.size) w c u:=fun i hi=>by
     have h1:=hat i hi
     rw [List.getElem?_eq_getElem (by omega)] at h1
     rw [Option.bind_eq_some_iff] at h1
     obtain ⟨us,h2,h3⟩:=h1
     obtain ⟨l,g1,g2,g3,g4⟩:=PI n m e us _ hr.1.1 h3
     refine ⟨us,l,g3,by omega,g1,fun j u hj=>?_,g4⟩
     have hjl:=(List.getElem?_eq_some_iff.1 hj).1
     obtain ⟨k1,k2,k3⟩:=World.cells?_some h2
     have:=k3 j (by omega)
     rw [this]
     exact hj
    have hch:∃f:Nat→List Value×List D,∀i,i<len→(f i).1.length=P.cellsOf e∧(f i).2.length=P.cellsOf e∧Eq P n e (f i).2∧(∀j u,(f i).1[j]? = some u→w.cell? ((a.add (i*P.cellsOf e)).add j)=some u) ∧
      ∀(j:Nat) c u,(f i).2[j]? = some c→(f i).1[j]? = some u→RD (fun b=>b<w.heap.size) w c u:=by
     refine ⟨fun i=>if hi:i<len then (⟨(each i hi).choose,(each i hi).choose_spec.choose⟩:List Value×List D) else ([],[]),fun i hi=>?_⟩
     simp only [hi,dif_pos]
     exact (each i hi).choose_spec.choose_spec
    obtain ⟨f,hf⟩:=hch
    refine ⟨[.sl (P.cellsOf e) ((List.range len).map fun i=>(f i).2)],⟨_,rfl,by simp; omega,fun el hmem=>?_⟩,one _ _ hr.2 hcs ?_⟩
    ·obtain ⟨i,hi,rfl⟩:=List.mem_map.1 hmem
     exact (hf i (by simpa using hi)).2.2.1
    ·by_cases h0:len=0
     ·subst h0
      exact .nil _ _ _
     ·obtain ⟨z1,z2,z3,z4,z5⟩:=hf 0 (by omega)
      have hz:∃u,(f 0).1[0]? = some u:=⟨_,List.getElem?_eq_getElem (by omega)⟩
      obtain ⟨u0,hu0⟩:=hz
      have hbl:=ZQ (z4 0 u0 hu0)
      rw [Nat.zero_mul,show ∀x:Addr,x.add 0=x from fun x=>rfl,show ∀x:Addr,x.add 0=x from fun x=>rfl] at hbl
      have ha:a=⟨a.block,a.off,none⟩:=by
       obtain ⟨ab,ao,as⟩:=a
       have:=hbl.2
       simp only at this
       rw [this]
      have hblk:a.block<w.heap.size:=hbl.1
      have hpos:0<P.cellsOf e:=by omega
      have key:=RD.sl (F:=fun b=>b<w.heap.size) (w:=w) (P.cellsOf e) ((List.range len).map fun i=>(f i).2) a.block a.off cap (fun k=>(f (k / P.cellsOf e)).1.getD (k % P.cellsOf e) Go.undef) hblk (by simp; omega)
       (fun el hmem=>by obtain ⟨i,hi,rfl⟩:=List.mem_map.1 hmem; exact (hf i (by simpa using hi)).2.1)
       (fun i j el c hi hj=>by
        simp only [List.getElem?_map,Option.map_eq_some_iff] at hi
        obtain ⟨i',hi',rfl⟩:=hi
        have hlt:i<len:=by
         have:=(List.getElem?_eq_some_iff.1 hi').1
         simpa using this
        have:i'=i:=by
         rw [List.getElem?_range hlt] at hi'
         exact (Option.some.inj hi').symm
        subst this
        obtain ⟨y1,y2,y3,y4,y5⟩:=hf i' hlt
        have hjl:j<P.cellsOf e:=by rw [←y2]; exact (List.getElem?_eq_some_iff.1 hj).1
        have e1:(i'*P.cellsOf e+j) / P.cellsOf e=i':=by
         rw [Nat.mul_comm,Nat.mul_add_div hpos,Nat.div_eq_of_lt hjl,Nat.add_zero]
        have e2:(i'*P.cellsOf e+j) % P.cellsOf e=j:=by
         rw [Nat.mul_comm,Nat.mul_add_mod,Nat.mod_eq_of_lt hjl]
        have hu:(f i').1[j]? = some ((f i').1.getD j Go.undef):=by
         rw [List.getD_eq_getElem?_getD,List.getElem?_eq_getElem (by omega)]
         rfl
        have:=y4 j _ hu
        rw [ha] at this
        rw [Hm,Hm] at this
        simp only [e1,e2]
        rw [←this,Nat.add_assoc])
       (fun i j el c hi hj=>by
        simp only [List.getElem?_map,Option.map_eq_some_iff] at hi
        obtain ⟨i',hi',rfl⟩:=hi
        have hlt:i<len:=by
         have:=(List.getElem?_eq_some_iff.1 hi').1
         simpa using this
        have:i'=i:=by
         rw [List.getElem?_range hlt] at hi'
         exact (Option.some.inj hi').symm
        subst this
        obtain ⟨y1,y2,y3,y4,y5⟩:=hf i' hlt
        have hjl:j<P.cellsOf e:=by rw [←y2]; exact (List.getElem?_eq_some_iff.1 hj).1
        have e1:(i'*P.cellsOf e+j) / P.cellsOf e=i':=by
         rw [Nat.mul_comm,Nat.mul_add_div hpos,Nat.div_eq_of_lt hjl,Nat.add_zero]
        have e2:(i'*P.cellsOf e+j) % P.cellsOf e=j:=by
         rw [Nat.mul_comm,Nat.mul_add_mod,Nat.mod_eq_of_lt hjl]
        simp only [e1,e2]
        refine y5 j c _ hj ?_
        rw [List.getD_eq_getElem?_getD,List.getElem?_eq_getElem (by omega)]
        rfl)
      rw [←ha] at key
      simpa using key
  ·next fs hu =>
   simp only [Bool.and_eq_true,List.all_eq_true] at hr
   try rw [hu]
   obtain ⟨xs,m,_,hx,hl,hxl,hf⟩:=_root_.Go.DataW.trod_struct hu h
   have each:∀j,j<fs.size→∃l f,fs[j]? = some f∧Eq P n f.type l∧l.length=((cs.drop f.offset).take (P.cellsOf f.type)).length∧((cs.drop f.offset).take (P.cellsOf f.type)).length=P.cellsOf f.type ∧
     ∀(i:Nat) c u,l[i]? = some c→((cs.drop f.offset).take (P.cellsOf f.type))[i]? = some u→RD (fun b=>b<w.heap.size) w c u:=fun j hj=>by
    obtain ⟨f,hfj⟩:∃f,fs[j]? = some f:=⟨_,Array.getElem?_eq_getElem hj⟩
    have h1:=hf j f hfj
    rw [List.getElem?_eq_getElem (by omega)] at h1
    obtain ⟨l,g1,g2,g3,g4⟩:=PI n m f.type _ _ (hr.2 f (by simpa using Array.mem_of_getElem? hfj)) h1
    exact ⟨l,f,hfj,g1,g2,g3,g4⟩
   have hch:∃g:Nat→List D,∀j f,fs[j]? = some f→Eq P n f.type (g j)∧(g j).length=((cs.drop f.offset).take (P.cellsOf f.type)).length∧((cs.drop f.offset).take (P.cellsOf f.type)).length=P.cellsOf f.type ∧
     ∀(i:Nat) c u,(g j)[i]? = some c→((cs.drop f.offset).take (P.cellsOf f.type))[i]? = some u→RD (fun b=>b<w.heap.size) w c u:=by
    refine ⟨fun j=>if hj:j<fs.size then (each j hj).choose else [],fun j f hj=>?_⟩
    have hlt:j<fs.size:=(Array.getElem?_eq_some_iff.1 hj).1
    simp only [hlt,dif_pos]
    obtain ⟨f',h1,h2⟩:=(each j hlt).choose_spec
    rw [hj] at h1; cases h1
    exact h2
   obtain ⟨g,hg⟩:=hch
   have hget:∀(j:Nat) x,((List.range fs.size).map g)[j]? = some x→x=g j:=fun j x hx=>by
    simp only [List.getElem?_map,Option.map_eq_some_iff] at hx
    obtain ⟨i',hi',rfl⟩:=hx
    have hlt:j<fs.size:=by
     have:=(List.getElem?_eq_some_iff.1 hi').1
     simpa using this
    rw [List.getElem?_range hlt] at hi'
    cases hi'
    rfl
   obtain ⟨k1,k2⟩:=Pr (P:=P) (F:=fun b=>b<w.heap.size) (w:=w) (fs:=fs.toList) (o:=0) (cs:=cs) (ls:=(List.range fs.size).map g) (by rw [hl]; exact hr.1) (by simp) fun j f x hj hx=>by
    rw [hget j x hx]
    exact (hg j f (by simpa using hj)).2
   refine ⟨((List.range fs.size).map g).flatten,⟨_,rfl,by simp,fun j f x hj hx=>?_⟩,by simpa using k1,hl,fun j c u h1 h2=>k2 j c u h1 (by simpa using h2)⟩
   rw [hget j x hx]
   exact (hg j f hj).1
  ·cases hr
def LK:List D→AV
 | [x]=>.d x
 | _=>.undef
def G2 (P:Program) (t:TypeId) (l:List D):AV :=
 match P.underlying t with
 | some (.struct _)=>.agg (mapD l)
 | _=>LK l
theorem AIu {n:Nat} {t:TypeId} {v:Value} {d:_root_.Go.DataW H} {ps:List MemPlace} (hr:Jt P n t=true) (hv:Value.okWide P w .any 0 t v) (h:_root_.Go.DataW.Trod enc P w 0 sp held t v d ps) :
  ∃l,Eq P n t l∧VR P (fun b=>b<w.heap.size) w (G2 P t l) v:=by
 obtain ⟨fuel,h⟩:=h
 obtain ⟨l,h1,h2,h3,h4⟩:=PI n fuel t _ _ hr h
 refine ⟨l,h1,?_⟩
 cases n with
 | zero=>cases hr
 | succ n =>
  unfold Jt at hr
  unfold Value.okWide at hv
  unfold Eq at h1
  unfold G2
  have one:∀d:D,(∀cs,v≠.agg cs)→l=[d]→VR P (fun b=>b<w.heap.size) w (LK l) v:=fun d hv hl=>by
   subst hl
   have e:v.cells = #[v]:=by cases v <;> first | rfl | exact absurd rfl (hv _)
   rw [e] at h4
   exact .d _ _ (h4 0 d v rfl rfl)
  split at hr
  ·next hu =>
   try rw [hu] at hv
   try rw [hu] at h1
   try rw [hu]
   obtain ⟨b,hl⟩:=h1
   exact one _ (fun cs e=>by subst e; simp [Cell.okWide,Cell.ok,hu] at hv) hl
  ·next k hu =>
   try rw [hu] at hv
   try rw [hu] at h1
   try rw [hu]
   obtain ⟨b,hl,_⟩:=h1
   exact one _ (fun cs e=>by subst e; simp [Cell.okWide,Cell.ok,hu] at hv) hl
  ·next hu =>
   try rw [hu] at hv
   try rw [hu] at h1
   try rw [hu]
   obtain ⟨b,hl,_⟩:=h1
   exact one _ (fun cs e=>by subst e; simp [Cell.okWide,Cell.ok,hu] at hv) hl
  ·next e hu =>
   try rw [hu] at hv
   try rw [hu] at h1
   try rw [hu]
   obtain ⟨b,hl,_⟩:=h1
   exact one _ (fun cs e=>by subst e; simp [Cell.okWide,Cell.ok,hu] at hv) hl
  ·next fs hu =>
   try rw [hu] at hv
   try rw [hu]
   obtain ⟨cs,rfl,hsz,_⟩:=hv
   obtain ⟨cs⟩:=cs
   dsimp only
   have:(Value.agg ⟨cs⟩).cells.toList=cs:=rfl
   rw [this] at h2 h3 h4
   have hvr:=VRL.mapD (P:=P) (F:=fun b=>b<w.heap.size) (w:=w) (el:=l) (us:=cs) h2 h4
   refine .agg _ cs hvr.1 hvr.2 fun u hu=>?_
   obtain ⟨j,hj⟩:=List.getElem?_of_mem hu
   have hlt:=(List.getElem?_eq_some_iff.1 hj).1
   exact (h4 j _ u (List.getElem?_eq_getElem (by omega)) hj).one
  ·cases hr
def TypedL (P:Program) (n:Nat):List TypeId→List (List D)→Prop
 | [],[]=>True
 | t::ts,l::ls=>Eq P n t l∧TypedL P n ts ls
 | _,_=>False
def argsAV (P:Program):List TypeId→List (List D)→List AV
 | t::ts,l::ls=>G2 P t l::argsAV P ts ls
 | _,_=>[]
def OY (P:Program) (n:Nat) (t:TypeId):Bool:=Jt P n t&&P.readableRec t&&decide (t<P.types.size)
theorem S5 {n:Nat} (hl:laidOutB P=true):∀{ts:List TypeId} {vs:List Value} {ds:List (_root_.Go.DataW H)} {ps:List MemPlace},ts.all (OY P n)=true→(∀(j:Nat) t v,ts[j]? = some t→vs[j]? = some v→Value.okWide P w .any 0 t v) →
  _root_.Go.DataW.TrodAll enc P w 0 (fun _=>true) true ts vs ds ps →
  (∃ls,TypedL P n ts ls∧VRL P (fun b=>b<w.heap.size) w (argsAV P ts ls) vs)∧∀w',Below w.heap.size w w'→∃pa,_root_.Go.DataW.TrodAll enc P w' 0 (fun b=>decide (b<w.heap.size)) true ts vs ds pa
 | [],vs,ds,ps,hp,hv,h=>by
  obtain ⟨rfl,rfl,rfl⟩:=trodAll_nil h
  exact ⟨⟨[],trivial,.nil⟩,fun w' _=>⟨[],rfl⟩⟩
 | t::ts,vs,ds,ps,hp,hv,h=>by
  obtain ⟨v0,vs0,d0,ds0,p0,q0,rfl,rfl,rfl,h0,r0⟩:=trodAll_cons h
  simp only [List.all_cons,Bool.and_eq_true] at hp
  obtain ⟨⟨ls,h1,h2⟩,h3⟩:=S5 hl hp.2 (fun j t v h1 h2=>hv (j+1) t v (by simpa using h1) (by simpa using h2)) r0
  have hp1:=hp.1
  simp only [OY,Bool.and_eq_true,decide_eq_true_eq] at hp1
  obtain ⟨l,g1,g2⟩:=AIu hp1.1.1 (hv 0 t v0 rfl rfl) h0
  refine ⟨⟨l::ls,⟨g1,h1⟩,.cons g2 h2⟩,fun w' hb=>?_⟩
  obtain ⟨pa,h4⟩:=h3 w' hb
  obtain ⟨fuel,h0'⟩:=h0
  exact ⟨_,trodAll_cons_mk (Below.trod hl hp1.1.2 hp1.2 ⟨fuel,h0'⟩ hb fun x hx=>_root_.Go.DataW.trod_lt _ _ _ _ h0' x hx) h4⟩
theorem Step.below {F F':Nat→Prop} {H':Heap} {w':World} (h:Step F Heap.none w F' H' w'):Below w.heap.size w w' :=
 ⟨h.os,h.tape,h.output,h.size,fun k hk=>h.keep k hk rfl⟩
theorem law_calls {fid:FuncId} {f:Func} {s:ChangeSpec} {args:Array Value} {ds gs:List (_root_.Go.DataW H)} {before:List MemPlace} {n:Nat} {tb:TypeId} (hvars:s.vars=[]) (hres:f.resultTypes = #[tb]) (htb:P.underlying tb=some .bool)
  (hspec:∀ds:List (_root_.Go.DataW H),ds.length=f.params.size→s.fn H ds={ results:=[.lit (.bool true)],args:=ds }) (hl:laidOutB P=true) (hok:f.params.toList.all (OY P n)=true)
  (hval:∀(j:Nat) t v,f.params[j]? = some t→args[j]? = some v→Value.okWide P w .any 0 t v)
  (hW:_root_.Go.DataW.Whole enc P f.params.toList s.vars false w args.toList ds gs before)
  (hlaw:∀ls,TypedL P n f.params.toList ls→CallW P fid (argsAV P f.params.toList ls) Heap.none fun r _=>r = .d (.bool true)) :
  Calls P fid args w fun e W'=>∃v,e = .returned v∧s.post enc P f false true false false w args v W':=by
 have hW':=hW
 obtain ⟨p,q,hA,hV,rfl,hfz,hnd⟩:=hW
 rw [hvars] at hV
 obtain ⟨rfl,rfl⟩:=trodVars_none hV
 obtain ⟨⟨ls,h1,h2⟩,h3⟩:=S5 hl hok (fun j t v g1 g2=>hval j t v (by simpa using g1) (by simpa using g2)) hA
 have hlen:ds.length=f.params.size:=by
  have:=(_root_.Go.trodAll_length hA).2
  simpa using this
 refine (hlaw ls h1 _ w args.toList ⟨fun b x hb=>(by cases hb),fun b x hb=>(by cases hb),fun b hb=>hb⟩ h2).mono fun e W' hh=>?_
 obtain ⟨r,H',F',v,rfl,hv,_,hst,rfl⟩:=hh
 cases hv; next hv =>
 cases hv
 obtain ⟨pa,h4⟩:=h3 W' hst.below
 have hs:=hspec ds hlen
 refine ⟨_,rfl,ds,[],p++[],[],pa,[],hW',?_,?_,?_,hst.below.frame _,fun h=>by cases h⟩
 ·rw [List.append_nil,hs,hres]
  exact trodAll_mk1 (shut_bool htb _)
 ·rw [List.append_nil,hs]
  exact h4
 ·rw [List.append_nil,hs,hvars]
  rfl
end
abbrev i64 (n:Int):AV:=.d (.int .i64 n)
abbrev u64 (n:Int):AV:=.d (.int .u64 n)
abbrev bv (b:Bool):AV:=.d (.bool b)
def Fit (n:Int):Prop:=-9223372036854775808≤n∧n≤9223372036854775807
instance (n:Int):Decidable (Fit n):=by unfold Fit; exact inferInstance
theorem ACJ {n:Int} (h:(Lit.int .i64 n).wf=true):Fit n:=by
 simp only [Lit.wf,Bool.and_eq_true,decide_eq_true_eq,IntKind.min,IntKind.max,IntKind.signed,IntKind.bits] at h
 unfold Fit
 constructor
 ·have:=h.1; simp at this; omega
 ·have:=h.2; simp at this; omega
theorem Pe {n:Int} (h:Fit n):IntKind.i64.wrap n=n:=by rw [IntKind.wrap_i64]; unfold Fit at h; omega
theorem Ey {n:Int} (h:0≤n∧n≤18446744073709551615):IntKind.u64.wrap n=n:=by rw [IntKind.wrap_u64]; omega
theorem D0 {n:Nat} {t:TM} {H:Heap}:(St.mk n t H).n=n:=(rfl)
theorem CV {n:Nat} {t:TM} {H:Heap}:(St.mk n t H).t=t:=(rfl)
theorem BP {n:Nat} {t:TM} {H:Heap}:(St.mk n t H).H=H:=(rfl)
theorem Ce {n:Nat} {r:List ARes} {b:ACode}:(AFunc.mk n r b).n=n:=(rfl)
theorem Bo {n:Nat} {r:List ARes} {b:ACode}:(AFunc.mk n r b).results=r:=(rfl)
theorem BN {n:Nat} {r:List ARes} {b:ACode}:(AFunc.mk n r b).body=b:=(rfl)
theorem Ag {α β:Type} {a : α} {b : β}:(Prod.mk a b).fst=a:=(rfl)
theorem Ao {α β:Type} {a : α} {b : β}:(Prod.mk a b).snd=b:=(rfl)
theorem Dg {i:Nat} {v:AV} {l:List (Nat×AV)} {n:Nat}:Et ((i,v)::l) n=bif i == n then v else Et l n:=rfl
theorem CS {n:Nat}:Et [] n = .undef:=rfl
def N0 (g:Option Nat) (x:Option Blk) (off:Nat) (K:AV→Prop):Prop:=match x with
 | some (.box _ cells)=>match g with
  | none=>VC (off<Af cells) (K (nth cells off))
  | some n=>VC (off+n≤Af cells) (K (.agg (seg cells off n)))
 | _=>False
theorem BX {g:Option Nat} {b off:Nat} {H:Heap} {K:AV→Prop}:FI g (.ptr b off) H K=N0 g (H b) off K:=rfl
theorem CZ {t:TypeId} {cells:List AV} {off:Nat} {K:AV→Prop}:N0 none (some (.box t cells)) off K=VC (off<Af cells) (K (nth cells off)):=rfl
theorem Dx {n:Nat} {t:TypeId} {cells:List AV} {off:Nat} {K:AV→Prop}:N0 (some n) (some (.box t cells)) off K=VC (off+n≤Af cells) (K (.agg (seg cells off n))):=rfl
def IQ (j:IntKind) (a b:Int):Int:=j.wrap (BitVec.ofInt j.bits a &&& BitVec.ofInt j.bits b).toNat
def Hx (j:IntKind) (a b:Int):Int:=j.wrap (BitVec.ofInt j.bits a ||| BitVec.ofInt j.bits b).toNat
def Ys (j:IntKind) (a b:Int):Int:=j.wrap (BitVec.ofInt j.bits a ^^^ BitVec.ofInt j.bits b).toNat
def O0 (P:Program) (Q:Out→St→Prop) (g:Option Nat) (p:AV) (d:Option Nat) (l:List AO) (k:List Item) (s:St):Prop:=match p with
 | .ptr b off=>Hf P Q g (.ptr b off) d l k s
 | _=>False
section
variable {P:Program} {Q:Out→St→Prop} {k:List Item} {s:St} {d:Option Nat} {l:List AO}
theorem CM {j:IntKind} {a b:Int}:Ei P Q .and (.d (.int j a)) (.d (.int j b)) d l k s=AQ P Q l k (AL s d (.d (.int j (IQ j a b))) s.H):=Yd
theorem Dd {j:IntKind} {a b:Int}:Ei P Q .or (.d (.int j a)) (.d (.int j b)) d l k s=AQ P Q l k (AL s d (.d (.int j (Hx j a b))) s.H):=ARq
theorem DT {j:IntKind} {a b:Int}:Ei P Q .xor (.d (.int j a)) (.d (.int j b)) d l k s=AQ P Q l k (AL s d (.d (.int j (Ys j a b))) s.H):=ALP
theorem EA {c w:Bool} {op:AOp} (h1:c=true→HZ P Q (.d (.bool c)) w d op l k s) (h2:c=false→HZ P Q (.d (.bool c)) w d op l k s):HZ P Q (.d (.bool c)) w d op l k s:=by
 cases hc:c
 ·exact hc▸h2 hc
 ·exact hc▸h1 hc
theorem BJ {c:Bool} {a b:ACode} (h1:c=true→JO P Q (.d (.bool c)) a b k s) (h2:c=false→JO P Q (.d (.bool c)) a b k s):JO P Q (.d (.bool c)) a b k s:=by
 cases hc:c
 ·exact hc▸h2 hc
 ·exact hc▸h1 hc
theorem EC {c:Bool} {x y:AV} (h1:c=true→JF P Q (.d (.bool c)) x y d l k s) (h2:c=false→JF P Q (.d (.bool c)) x y d l k s):JF P Q (.d (.bool c)) x y d l k s:=by
 cases hc:c
 ·exact hc▸h2 hc
 ·exact hc▸h1 hc
theorem Ae {p X:Prop} (h1:p) (h2:p→X):VC p X:=⟨h1,h2 h1⟩
theorem AJ {f:FuncId} {args:List AV} {r:AV} (h:DataW P f args r) (hk:AQ P Q l k (AL s d r s.H)):I6 P Q f args d l k s :=
 OK h (LendL.refl _) hk
theorem JN {f:FuncId} {args args':List AV} {r:AV} (h:DataW P f args' r) (hl:LendL s.H args args') (hs:JI r=true) (hk:AQ P Q l k (AL s d r s.H)):I6 P Q f args d l k s :=
 Sz h hl hs hk
theorem Eb {f:FuncId} {args:List AV} {r:AV} (h:DataW P f args r) (hk:AQ P Q l k (AL s d r s.H)):Lz P Q f args d l k s :=
 ⟨args,r,LendL.refl _,.inr (.inl (LendL.refl _)),h,hk⟩
theorem Lw {f:FuncId} {args args':List AV} {r:AV} (h:NewW P f args' r) (hl:LendL s.H args args') (hk:AQ P Q l k (AL s d r s.H)):I6 P Q f args d l k s :=
 S7 h hl hk
theorem En {f:FuncId} {args:List AV} {K:AV→Heap→Prop} (h:CallW P f args s.H K) (hk:∀r H',K r H'→AQ P Q l k (AL s d r H')):I6 P Q f args d l k s :=
 CallW.mono h hk
theorem Dh {H:Heap} {b:Nat} {x y:Option Blk}:upd (upd H b x) b y=upd H b y:=by
 funext k; simp only [AR]; split <;> rfl
def Jd (x:Blk) (sz len:Nat) (d:Option Nat) (l:List AO) (k:List Item) (s:St) (P:Program) (Q:Out→St→Prop):Prop:=∀b,s.H b=none→AQ P Q l k (AL s d (.own b sz 0 len len) (upd s.H b (some x)))
def O6 (c:Option (List AV)) (e:TypeId) (sz len:Nat) (d:Option Nat) (l:List AO) (k:List Item) (s:St) (P:Program) (Q:Out→St→Prop):Prop:=match c with
 | some cs=>Aw s.H cs fun ds H'=>Jd (.row e sz len (Al sz len ds)) sz len d l k ⟨s.n,s.t,H'⟩ P Q
 | none=>False
theorem AVM {s:St} {H':Heap} {d:Option Nat} {v:AV} {H:Heap}:AL ⟨s.n,s.t,H'⟩ d v H=AL s d v H:=by cases d <;> rfl
theorem C0 {e:TypeId} {sz len:Nat} {z:List AV} {ps:List (Nat×Opd)}:AQ P Q (⟨d,none,.buildSlice e sz len z ps⟩::l) k s=O6 (Aq (Ar z len) (Am s.t sz ps)) e sz len d l k s P Q:=by
 rw [HA]
 simp only [AY,O6,Jd,AVM]
 cases Aq (Ar z len) (Am s.t sz ps) <;> rfl
theorem DQ {cs:List AV} {e:TypeId} {sz len:Nat}:O6 (some cs) e sz len d l k s P Q=Aw s.H cs fun ds H'=>Jd (.row e sz len (Al sz len ds)) sz len d l k ⟨s.n,s.t,H'⟩ P Q:=rfl
def ND (c:Option (List AV)) (e:TypeId) (sz len:Nat) (d:Option Nat) (l:List AO) (k:List Item) (s:St) (P:Program) (Q:Out→St→Prop):Prop:=(IM s.H→(IK sz len c).isSome=true) ∧
    ∀b,s.H b=none→∀xs,IK sz len c=some xs→AQ P Q l k (AL s d (.own b sz 0 len len) (upd s.H b (some (.row e sz len xs))))
theorem B0 {e:TypeId} {sz len:Nat} {z:List AV} {ps:List (Nat×Opd)}:AQ P Q (⟨d,none,.buildSliceD e sz len z ps⟩::l) k s=ND (Aq (Ar z len) (Am s.t sz ps)) e sz len d l k s P Q:=rfl
theorem AMj {cs:List AV} {e:TypeId} {sz len:Nat} {ds:List D} (h:E7 cs=some ds):ND (some cs) e sz len d l k s P Q=Jd (.row e sz len (Al sz len ds)) sz len d l k s P Q:=by
 have e:IK sz len (some cs)=some (Al sz len ds):=by simp only [IK,h]
 unfold ND Jd
 rw [e]
 exact propext ⟨fun h b hb=>h.2 b hb _ rfl,fun h=>⟨fun _=>rfl,fun b hb xs hx=>by cases hx; exact h b hb⟩⟩
theorem As {x:Blk} {sz len:Nat} (h:∀b,s.H b=none→AQ P Q l k (AL s d (.own b sz 0 len len) (upd s.H b (some x)))):Jd x sz len d l k s P Q:=h
def Lq (xs:List (List D)) (i:Nat) (g:Option Nat) (j:Nat) (d:Option Nat) (l:List AO) (k:List Item) (s:St) (P:Program) (Q:Out→St→Prop):Prop:=∃el,xs[i]? = some el∧(match g with
 | none=>VC (j<el.length) (AQ P Q l k (AL s d (nth (mapD el) j) s.H))
 | some n=>VC (j+n≤el.length) (AQ P Q l k (AL s d (.agg (seg (mapD el) j n)) s.H)))
def M7 (g:Option Nat) (x:Option Blk) (sz i j:Nat) (d:Option Nat) (l:List AO) (k:List Item) (s:St) (P:Program) (Q:Out→St→Prop):Prop:=match x with
 | some (.row _ sz' _ xs)=>VC (sz=sz') (Lq xs i g j d l k s P Q)
 | _=>False
theorem D3 {g:Option Nat} {b sz i j:Nat}:Hf P Q g (.eptr b sz i j) d l k s=M7 g (s.H b) sz i j d l k s P Q:=by
 simp only [Hf,FI,M7,Lq,Jl,VC]
 cases s.H b with
 | none=>rfl
 | some x =>
  cases x with
  | box t cells=>rfl
  | obj o ts us=>rfl
  | row t sz' cap xs =>
   dsimp only
   refine propext (and_congr_right fun _=>⟨fun ⟨_,el,h1,h2⟩=>⟨el,by simpa using h1,by cases g <;> exact h2⟩,fun ⟨el,h1,h2⟩=>⟨by omega,el,by simpa using h1,by cases g <;> exact h2⟩⟩)
theorem Ct {g:Option Nat} {t:TypeId} {sz cap i j:Nat} {xs:List (List D)}:M7 g (some (.row t sz cap xs)) sz i j d l k s P Q=Lq xs i g j d l k s P Q:=by simp [M7,VC]
theorem D5 {xs:List (List D)} {i j:Nat} (el:List D) (h:xs[i]? = some el) (hj:j<el.length) (hk:AQ P Q l k (AL s d (nth (mapD el) j) s.H)):Lq xs i none j d l k s P Q:=⟨el,h,hj,hk⟩
theorem D8 {xs:List (List D)} {i j n:Nat} (el:List D) (h:xs[i]? = some el) (hj:j+n≤el.length) (hk:AQ P Q l k (AL s d (.agg (seg (mapD el) j n)) s.H)):Lq xs i (some n) j d l k s P Q:=⟨el,h,hj,hk⟩
theorem Ah {xs:List (List D)} {i:Int} (el:List D) (h0:0≤i) (h:xs[i.toNat]? = some el) (hk:AQ P Q l k (AL s d (.dptr el 0) s.H)):Ph P Q xs i d l k s:=⟨h0,el,h,hk⟩
def IC (e:TypeId) (sz bytes:Nat) (z:List AV) (v x:AV) (d:Option Nat) (l:List AO) (k:List Item) (s:St) (P:Program) (Q:Out→St→Prop):Prop:=G0 s.H x fun sz' ys=>(ys=[]∧z.length=sz∧match v with
 | .nilsl n=>AQ P Q l k (AL s d (.nilsl n) s.H)
 | .own b n off len cap=>AQ P Q l k (AL s d (.own b n off len cap) s.H)
 | _=>False)∨VC (sz'=sz∧ys≠[]∧z.length=sz) (
 match v with
 | .nilsl _=>VC (ys.length*bytes≤140737488355328∧ys.length≤maxLen) (∀b,s.H b=none→∀cap,AQ P Q l k (AL s d (.own b sz 0 ys.length cap) (upd s.H b (some (.row e sz cap ys)))))
 | .own b sz'' off len cap=>match s.H b with
  | some (.row e' sz''' cap'' xs)=>VC (e'=e∧sz''=sz∧sz'''=sz∧off=0∧cap=cap''∧len=xs.length∧(xs.length+ys.length)*bytes≤140737488355328∧xs.length+ys.length≤maxLen)
    (∀b' cap',upd s.H b none b'=none→AQ P Q l k (AL s d (.own b' sz 0 (len+ys.length) cap') (upd (upd s.H b none) b' (some (.row e sz cap' (xs++ys))))))
  | _=>False
 | _=>False)
theorem C2 {e:TypeId} {sz bytes:Nat} {z:List AV} {v x:Opd}:AQ P Q (⟨d,none,.append e sz bytes z v x⟩::l) k s=IC e sz bytes z (ev s.t v) (ev s.t x) d l k s P Q:=rfl
theorem N4 {e t:TypeId} {sz bytes n c len capc capx:Nat} {z:List AV} {ys:List (List D)} (hx:s.H c=some (.row t sz capc ys)) (hlen:len=ys.length) (hne:ys≠[]) (hz:z.length=sz) (hb:ys.length*bytes≤140737488355328∧ys.length≤maxLen)
  (hk:∀b,s.H b=none→∀cap,AQ P Q l k (AL s d (.own b sz 0 ys.length cap) (upd s.H b (some (.row e sz cap ys))))):IC e sz bytes z (.nilsl n) (.own c sz 0 len capx) d l k s P Q:=by
 simp only [IC,G0,hx]
 exact ⟨⟨trivial,trivial,hlen⟩,.inr ⟨⟨trivial,hne,hz⟩,hb,hk⟩⟩
theorem PG {e t:TypeId} {sz bytes b c len cap lenb capc capx:Nat} {z:List AV} {xs ys:List (List D)} (hb:s.H b=some (.row e sz cap xs)) (hx:s.H c=some (.row t sz capc ys)) (hlb:lenb=xs.length) (hlen:len=ys.length) (hne:ys≠[]) (hz:z.length=sz) (hbd:(xs.length+ys.length)*bytes≤140737488355328∧xs.length+ys.length≤maxLen)
  (hk:∀b' cap',upd s.H b none b'=none→AQ P Q l k (AL s d (.own b' sz 0 (lenb+ys.length) cap') (upd (upd s.H b none) b' (some (.row e sz cap' (xs++ys)))))):IC e sz bytes z (.own b sz 0 lenb cap) (.own c sz 0 len capx) d l k s P Q:=by
 simp only [IC,G0,hx,hb]
 exact ⟨⟨trivial,trivial,hlen⟩,.inr ⟨⟨trivial,hne,hz⟩,⟨trivial,trivial,trivial,trivial,trivial,hlb,hbd⟩,hk⟩⟩
theorem Zi {e:TypeId} {sz sz' bytes b n off len cap:Nat} {z:List AV} (hz:z.length=sz) (hk:AQ P Q l k (AL s d (.own b n off len cap) s.H)):IC e sz bytes z (.own b n off len cap) (.d (.sl sz' [])) d l k s P Q:=by
 simp only [IC,G0]
 exact .inl ⟨trivial,hz,hk⟩
theorem ATK {e:TypeId} {sz bytes b len cap lenb:Nat} {z:List AV} {xs ys:List (List D)} (hb:s.H b=some (.row e sz cap xs)) (hlb:lenb=xs.length) (hne:ys≠[]) (hz:z.length=sz) (hbd:(xs.length+ys.length)*bytes≤140737488355328∧xs.length+ys.length≤maxLen)
  (hk:∀b' cap',upd s.H b none b'=none→AQ P Q l k (AL s d (.own b' sz 0 (lenb+ys.length) cap') (upd (upd s.H b none) b' (some (.row e sz cap' (xs++ys)))))):IC e sz bytes z (.own b sz 0 lenb cap) (.d (.sl sz ys)) d l k s P Q:=by
 simp only [IC,G0,hb]
 exact .inr ⟨⟨trivial,hne,hz⟩,⟨trivial,trivial,trivial,trivial,trivial,hlb,hbd⟩,hk⟩
theorem AE {H:Heap} {j b:Nat} {x:Option Blk} (h:¬j=b):upd H j x b=H b:=by rw [AR,if_neg h]
theorem upd_eq {H:Heap} {b:Nat} {x:Option Blk}:upd H b x b=x:=by rw [AR,if_pos rfl]
theorem AI {H:Heap} {b k:Nat} {x:Blk} (hb:H k=none) (h:H b=some x):¬k=b∧¬b=k:=by
 refine ⟨fun e=>?_,fun e=>?_⟩
 ·subst e; rw [hb] at h; cases h
 ·subst e; rw [hb] at h; cases h
theorem Jy {cs:List AV} {e:TypeId} {sz len:Nat} {ds:List D} (h:E7 cs=some ds) (hk:∀b,s.H b=none→AQ P Q l k (AL s d (.own b sz 0 len len) (upd s.H b (some (.row e sz len (Al sz len ds)))))):ND (some cs) e sz len d l k s P Q:=by
 rw [AMj h]; exact hk
def On (sz:Nat) (x:AV) (lo hi:Option (Option Int)) (d:Option Nat) (l:List AO) (k:List Item) (s:St) (P:Program) (Q:Out→St→Prop):Prop:=Jw sz x lo hi fun v=>AQ P Q l k (AL s d v s.H)
theorem C7 {sz:Nat} {x:Opd} {lo hi:Option Opd}:AQ P Q (⟨d,none,.slice sz x lo hi⟩::l) k s=On sz (ev s.t x) (Gp (Ax s.t lo)) (Gp (Ax s.t hi)) d l k s P Q:=rfl
theorem BL {sz:Nat} {xs:List (List D)} {lo hi:Option Int}:On sz (.d (.sl sz xs)) (some lo) (some hi) d l k s P Q=VC (0≤lo.getD 0∧lo.getD 0≤hi.getD xs.length∧hi.getD xs.length≤xs.length) (AQ P Q l k (AL s d (.d (.sl sz ((xs.take (hi.getD xs.length).toNat).drop (lo.getD 0).toNat))) s.H)):=by
 simp [On,Jw,VC]
def Ko (n:Nat) (v:AV) (b sz i j:Nat) (d:Option Nat) (l:List AO) (k:List Item) (s:St) (P:Program) (Q:Out→St→Prop):Prop:=Aw s.H (Eu v) fun ds H'=>match H' b with
 | some (.row t sz' cap xs)=>VC (sz=sz') (∃el,xs[i]? = some el∧VC (j+n≤el.length) (AQ P Q l k (AL s d .void (upd H' b (some (.row t sz cap (xs.set i (Gc el j ds))))))))
 | _=>False
theorem Bw {n b sz i j:Nat} {v:AV}:Mc P Q n (.eptr b sz i j) v d l k s=VC (EV n v=true) (Ko n v b sz i j d l k s P Q):=by
 simp only [Mc,Jq,Ko,Jl,VC]
 refine propext (and_congr_right fun _=>?_)
 refine iff_of_eq (congrArg _ ?_)
 funext ds H'
 cases H' b with
 | none=>rfl
 | some x =>
  cases x with
  | box t cells=>rfl
  | obj o ts us=>rfl
  | row t sz' cap xs =>
   dsimp only
   refine propext (and_congr_right fun _=>⟨fun ⟨_,el,h1,h2⟩=>⟨el,by simpa using h1,h2⟩,fun ⟨el,h1,h2⟩=>⟨by omega,el,by simpa using h1,h2⟩⟩)
theorem NO {x:D} {b sz i j cap:Nat} {t:TypeId} {xs:List (List D)} {el:List D} (hb:s.H b=some (.row t sz cap xs)) (h:xs[i]? = some el) (hj:j<el.length) (hk:AQ P Q l k (AL s d .void (upd s.H b (some (.row t sz cap (xs.set i (Gc el j [x]))))))):Ko 1 (.d x) b sz i j d l k s P Q:=by
 simp only [Ko,Eu,Aw,A1,A2,hb]
 exact ⟨trivial,el,h,hj,hk⟩
def Oq (P:Program) (Q:Out→St→Prop) (n:Nat) (p v:AV) (keep:List Nat) (d:Option Nat) (l:List AO) (k:List Item) (s:St):Prop:=match p with
 | .ptr b off=>VC (Ay s.t (.ptr b off) keep) (VC (EV n v=true) (match s.H b with
  | some (.box e cells)=>VC (off+n≤Af cells) (AQ P Q l k (AL s d .void (upd s.H b (some (.box e (setSeg cells off (Eu v)))))))
  | _=>False))
 | _=>False
theorem DK {n:Nat} {p v:Opd} {keep:List Nat}:AQ P Q (⟨d,none,.storeK n p v keep⟩::l) k s=Oq P Q n (ev s.t p) (ev s.t v) keep d l k s:=rfl
theorem WW {n b off:Nat} {v:AV} {keep:List Nat} {e:TypeId} {cells:List AV} (hb:s.H b=some (.box e cells)) (h1:Ay s.t (.ptr b off) keep) (h2:EV n v=true) (h3:off+n≤Af cells) (hk:AQ P Q l k (AL s d .void (upd s.H b (some (.box e (setSeg cells off (Eu v))))))):Oq P Q n (.ptr b off) v keep d l k s:=by
 simp only [Oq,hb]
 exact ⟨h1,h2,h3,hk⟩
def ME (P:Program) (Q:Out→St→Prop) (neg:Bool) (v:AV) (d:Option Nat) (l:List AO) (k:List Item) (s:St):Prop:=match v with
 | .nilsl _=>AQ P Q l k (AL s d (.d (.bool (!neg))) s.H)
 | .own _ _ _ _ _=>AQ P Q l k (AL s d (.d (.bool neg)) s.H)
 | .d (.sl _ xs)=>AQ P Q l k (AL s d (.d (.bool neg)) s.H)∧(xs=[]→AQ P Q l k (AL s d (.d (.bool (!neg))) s.H))
 | _=>False
theorem DL {neg:Bool} {x:Opd}:AQ P Q (⟨d,none,.isNil neg x⟩::l) k s=ME P Q neg (ev s.t x) d l k s:=rfl
theorem Bj {neg:Bool} {sz:Nat}:ME P Q neg (.nilsl sz) d l k s=AQ P Q l k (AL s d (.d (.bool (!neg))) s.H):=rfl
theorem Dt {neg:Bool} {b sz off len cap:Nat}:ME P Q neg (.own b sz off len cap) d l k s=AQ P Q l k (AL s d (.d (.bool neg)) s.H):=rfl
theorem AA0 {neg:Bool} {sz:Nat} {xs:List (List D)} (h1:AQ P Q l k (AL s d (.d (.bool neg)) s.H)) (h2:xs=[]→AQ P Q l k (AL s d (.d (.bool (!neg))) s.H)):ME P Q neg (.d (.sl sz xs)) d l k s:=⟨h1,h2⟩
theorem Ch {g:Option Nat} {i:Nat}:AQ P Q (⟨d,none,.loadP g i⟩::l) k s=O0 P Q g (s.t i) d l k s:=by
 rw [HA]
 simp only [AY,O0]
 cases s.t i <;> rfl
theorem BT {g:Option Nat} {b off:Nat}:O0 P Q g (.ptr b off) d l k s=Hf P Q g (.ptr b off) d l k s:=rfl
def Ll (f:FuncId) (args:List AV) (keep:List Nat) (d:Option Nat) (l:List AO) (k:List Item) (s:St) (P:Program) (Q:Out→St→Prop):Prop:=CallW P f args s.H fun v H'=>IY s.t s.H H' keep∧AQ P Q l k (AL s d v H')
theorem DF {f:FuncId} {args:List Opd} {keep:List Nat}:AQ P Q (⟨d,none,.callS f args keep⟩::l) k s=Ll f (Aj s.t args) keep d l k s P Q:=rfl
def Nx (g:AV) (args:List AV) (keep:List Nat) (d:Option Nat) (l:List AO) (k:List Item) (s:St) (P:Program) (Q:Out→St→Prop):Prop:=match g with
 | .fn f caps=>Ll f (args++caps) keep d l k s P Q
 | _=>False
theorem CP {g:Opd} {args:List Opd} {keep:List Nat}:AQ P Q (⟨d,none,.callvS g args keep⟩::l) k s=Nx (ev s.t g) (Aj s.t args) keep d l k s P Q:=by
 simp only [HA,AY,Nx,Ll]
 cases ev s.t g <;> rfl
theorem Bc {f:FuncId} {caps args:List AV} {keep:List Nat}:Nx (.fn f caps) args keep d l k s P Q=Ll f (args++caps) keep d l k s P Q:=rfl
theorem Qa {f:FuncId} {args:List AV} {keep:List Nat} {K:AV→Heap→Prop} (h:CallW P f args s.H K) (hk:∀r H',K r H'→IY s.t s.H H' keep∧AQ P Q l k (AL s d r H')):Ll f args keep d l k s P Q :=
 CallW.mono h hk
def Ni (e:TypeId) (sz bytes:Nat) (z:List AV) (x:AV) (d:Option Nat) (l:List AO) (k:List Item) (s:St) (P:Program) (Q:Out→St→Prop):Prop:=match x with
 | .d (.int _ n)=>match E7 z with
  | some ds=>VC (0≤n∧n*bytes≤281474976710656∧n≤9223372036854775807) (Jd (.row e sz n.toNat (List.replicate n.toNat ds)) sz n.toNat d l k s P Q)
  | none=>False
 | _=>False
theorem Dk {e:TypeId} {sz bytes:Nat} {z:List AV} {x:Opd}:AQ P Q (⟨d,none,.make e sz bytes z x⟩::l) k s=Ni e sz bytes z (ev s.t x) d l k s P Q:=rfl
theorem AOR {e:TypeId} {sz bytes:Nat} {x:D} {j:IntKind} {n:Nat} (hb:(n:Int)*bytes≤281474976710656) (hn:(n:Int)≤9223372036854775807) (hk:∀b,s.H b=none→AQ P Q l k (AL s d (.own b sz 0 n n) (upd s.H b (some (.row e sz n (List.replicate n [x])))))):Ni e sz bytes [.d x] (.d (.int j n)) d l k s P Q:=by
 simp only [Ni,E7,Int.toNat_natCast]
 exact ⟨⟨by omega,hb,hn⟩,hk⟩
theorem AK {x:Blk} (h:∀b,s.H b=none→AQ P Q l k (AL s d (.ptr b 0) (upd s.H b (some x)))):PH P Q x d l k s:=h
theorem EB {H:Heap} {b k:Nat} {x:Blk}:upd H b (some x) k=none↔¬b=k∧¬k=b∧H k=none:=by
 rw [AR]
 by_cases h:b=k
 ·simp [h]
 ·exact ⟨fun e=>⟨h,fun e'=>h e'.symm,by simpa [h] using e⟩,fun e=>by simpa [h] using e.2.2⟩
theorem Heap.none_get (k:Nat):Heap.none k = .none:=rfl
theorem KO {α:Type} {I : α→Prop} {mk : α→St} {μ : α→Nat} {x : α} {R:Out→St→Prop} {s':St} (y : α) (h1:I y) (h2 : μ y < μ x) (h3:Abst s' (mk y)):Ho I mk μ x R .normal s':=⟨y,h1,h2,h3⟩
def Ab:List (Nat×Blk)→Heap
 | []=>Heap.none
 | (b,x)::l=>upd (Ab l) b (some x)
theorem Aa {k:Nat}:Ab [] k = .none:=rfl
theorem Ap {b k:Nat} {x:Blk} {l:List (Nat×Blk)}:Ab ((b,x)::l) k=if k=b then some x else Ab l k:=by
 simp only [Ab,AR]
 by_cases h:b=k
 ·subst h; simp
 ·have h':¬k=b:=fun e=>h e.symm
  simp [h,h']
theorem ED {b k:Nat} {x:Blk} {l:List (Nat×Blk)}:Ab ((b,x)::l) k=none↔¬b=k∧¬k=b∧Ab l k=none:=EB
theorem JD {H:Heap} {l:List (Nat×Blk)} (h:AS H l) (k:Nat):Ab l k=none∨Ab l k=H k:=by
 induction l with
 | nil=>exact .inl rfl
 | cons p l ih =>
  obtain ⟨b,x⟩:=p
  rw [Ap]
  by_cases e:k=b
  ·subst e; rw [if_pos rfl]; exact .inr h.1.symm
  ·rw [if_neg e]; exact ih h.2
theorem D9 {α:Type} (I : α→Prop) (n:Nat) (tl : α→List (Nat×AV)) (hl : α→List (Nat×Blk)) (μ : α→Nat) {b:ACode} (x0 : α) (h0:I x0) (hn:n=s.n) (ha:AM s.t (tl x0)) (hb:AS s.H (hl x0))
  (round:∀x,I x→FD P (Ho I (fun x=>⟨n,Et (tl x),Ab (hl x)⟩) μ x (Ej P Q k)) b [] ⟨n,Et (tl x),Ab (hl x)⟩):Kt P Q b k s :=
 LM I (fun x=>⟨n,Et (tl x),Ab (hl x)⟩) μ x0 h0 (HS hn ha (JD hb)) round
theorem Ad {α:Type} {I : α→Prop} {n:Nat} {tl : α→List (Nat×AV)} {hl : α→List (Nat×Blk)} {μ : α→Nat} {x : α} {R:Out→St→Prop} {s':St} (y : α) (h1:I y) (h2 : μ y < μ x) (hn:n=s'.n) (ha:AM s'.t (tl y)) (hb:AS s'.H (hl y)):Ho I (fun x=>⟨n,Et (tl x),Ab (hl x)⟩) μ x R .normal s' :=
 ⟨y,h1,h2,HS hn ha (JD hb)⟩
theorem CK {n:Nat} {t:TM} {x:List AV}:HD n t [] x=t:=by cases x <;> rfl
theorem DP {n p:Nat} {t:TM} {ps:List Nat} {v:AV} {x:List AV}:HD n t (p::ps) (v::x)=HD n (if p<n then JP t p v else t) ps x:=rfl
theorem O2 {α:Type} {g:Opd} {ps:List Nat} {asg body:ACode} {f:FuncId} {caps:List AV} {bl:List (Nat×Blk)} {xs:List (List AV)} (tl:List (Nat×AV)) (I:List (List AV)→α→Prop) (hl : α→List (Nat×Blk)) (y0 : α)
  (hit:Ii P f caps bl xs) (hg:ev s.t g = .fn f caps) (hs:JH asg=true) (hx:∀x∈xs,x.length=ps.length) (ht:AM s.t tl) (hA:∀pre y,I pre y→∀p∈bl,p∈hl y) (h0:I [] y0) (h1:AS s.H (hl y0))
  (round:∀pre x post y,xs=pre++x::post→I pre y→FD P (Kh I hl (pre++[x]) s.n s.t (Ej P Q k)) (.seq asg body) [] ⟨s.n,HD s.n (Et tl) ps x,Ab (hl y)⟩)
  (done:∀y,I xs y→Ej P Q k .normal ⟨s.n,s.t,Ab (hl y)⟩):Ot P Q g ps asg body k s :=
 ASG tl I (fun y=>Ab (hl y)) hl hit hg hs hx ht hA (fun _ _ h=>JD h) y0 h0 h1 round done
theorem AH {H:Heap} {x y:AV} (h:x=y):LendV H x y:=h▸.refl x
end
def Az (l:List Int):List (List D):=l.map fun n=>[.int .i64 n]
theorem rowI_len {l:List Int}:(Az l).length=l.length:=List.length_map ..
theorem Ly {l:List Int} {i:Nat} {n:Int} (h:l[i]? = some n):(Az l)[i]? = some [.int .i64 n]:=by simp [Az,h]
theorem QE {l:List Int} {i:Nat} (h:i<l.length):(Az l)[((i:Int)).toNat]? = some [.int .i64 l[i]]:=by
 rw [Int.toNat_natCast]; exact Ly (List.getElem?_eq_getElem h)
abbrev HE (l:List Int):AV:=.d (.sl 1 (Az l))
def M2 (l:List Int):Prop:=∀(i:Nat) (h:i<l.length),Fit l[i]
theorem AP {i:Nat} (h:i<9223372036854775807):IntKind.i64.wrap ((i:Int)+1)=((i+1:Nat):Int):=by rw [IntKind.wrap_i64]; omega
section
variable {P:Program} {n:Nat} {t:TypeId} {l:List D}
theorem typedL_cons {ts:List TypeId} {ls:List (List D)} (h:TypedL P n (t::ts) ls):∃l r,ls=l::r∧Eq P n t l∧TypedL P n ts r:=by
 cases ls with
 | nil=>exact absurd h id
 | cons l r=>exact ⟨l,r,rfl,h.1,h.2⟩
theorem typedL_nil {ls:List (List D)} (h:TypedL P n [] ls):ls=[]:=by
 cases ls with
 | nil=>rfl
 | cons l r=>exact absurd h id
theorem typed_bool (h:Eq P (n+1) t l) (ht:P.underlying t=some .bool):∃b,l=[.bool b]∧G2 P t l=bv b:=by
 rw [Eq,ht] at h
 obtain ⟨b,rfl⟩:=h
 exact ⟨b,rfl,by simp [G2,ht,LK]⟩
theorem typed_int (h:Eq P (n+1) t l) (ht:P.underlying t=some (.int .i64)):∃z,l=[.int .i64 z]∧Fit z∧G2 P t l=i64 z:=by
 rw [Eq,ht] at h
 obtain ⟨z,rfl,h⟩:=h
 exact ⟨z,rfl,ACJ h,by simp [G2,ht,LK]⟩
theorem QR {e:TypeId} (h:Eq P (n+1) t l) (ht:P.underlying t=some (.slice e)):∃xs,l=[.sl (P.cellsOf e) xs]∧xs.length≤maxLen∧(∀el∈xs,Eq P n e el)∧G2 P t l = .d (.sl (P.cellsOf e) xs):=by
 rw [Eq,ht] at h
 obtain ⟨xs,rfl,h1,h2⟩:=h
 exact ⟨xs,rfl,h1,h2,by simp [G2,ht,LK]⟩
theorem Wq {e:TypeId} {xs:List (List D)} (h:∀el∈xs,Eq P (n+1) e el) (he:P.underlying e=some (.int .i64)):∃zs,xs=Az zs∧M2 zs:=by
 induction xs with
 | nil=>exact ⟨[],rfl,fun i h=>absurd h (Nat.not_lt_zero _)⟩
 | cons x xs ih =>
  obtain ⟨z,rfl,hz,_⟩:=typed_int (h x (List.mem_cons_self ..)) he
  obtain ⟨zs,rfl,h2⟩:=ih fun el h'=>h el (List.mem_cons_of_mem _ h')
  refine ⟨z::zs,rfl,fun i hi=>?_⟩
  cases i with
  | zero=>exact hz
  | succ i=>exact h2 i (by simpa using hi)
theorem typed_ints {e:TypeId} (h:Eq P (n+2) t l) (ht:P.underlying t=some (.slice e)) (he:P.underlying e=some (.int .i64)) (hc:P.cellsOf e=1):∃zs,M2 zs∧zs.length≤9223372036854775807∧G2 P t l=HE zs:=by
 obtain ⟨xs,rfl,h1,h2,h3⟩:=QR h ht
 obtain ⟨zs,rfl,h4⟩:=Wq h2 he
 refine ⟨zs,h4,?_,by rw [h3,hc]⟩
 rw [rowI_len] at h1
 exact h1
theorem SH:∀{fs:List Field} {ls:List (List D)},ls.length=fs.length→(∀(j:Nat) f x,fs[j]? = some f→ls[j]? = some x→Eq P n f.type x)→TypedL P n (fs.map (·.type)) ls
 | [],[],_,_=>trivial
 | [],_::_,h,_=>by simp at h
 | _::_,[],h,_=>by simp at h
 | f::fs,x::ls,h,k=>⟨k 0 f x rfl rfl,SH (by simpa using h) fun j f x h1 h2=>k (j+1) f x (by simpa using h1) (by simpa using h2)⟩
theorem Kf {fs:Array Field} (h:Eq P (n+1) t l) (ht:P.underlying t=some (.struct fs)):∃ls,l=ls.flatten∧TypedL P n (fs.toList.map (·.type)) ls∧G2 P t l = .agg (mapD l):=by
 rw [Eq,ht] at h
 obtain ⟨ls,rfl,h1,h2⟩:=h
 exact ⟨ls,rfl,SH (by simpa using h1) (fun j f x g1 g2=>h2 j f x (by simpa using g1) g2),by simp [G2,ht]⟩
theorem GY {H:Heap}:LendL H [] []:=LendL.refl _
theorem FE {H:Heap} {x y:AV} {xs ys:List AV} (h:LendV H x y) (t:LendL H xs ys):LendL H (x::xs) (y::ys):=by
 refine ⟨congrArg (· + 1) t.1,fun j u v h1 h2=>?_⟩
 cases j with
 | zero=>cases h1; cases h2; exact h
 | succ j=>exact t.2 j u v h1 h2
theorem Lf {H:Heap} {b sz cap cap' len:Nat} {e:TypeId} {xs:List (List D)} (h:H b=some (.row e sz cap' xs)) (hl:len=xs.length):LendV H (.own b sz 0 len cap) (.d (.sl sz xs)):=by
 subst hl; exact .own b sz cap e cap' xs h
theorem DataW.law {f:FuncId} {args:List AV} (h:DataW P f args (bv true)):CallW P f args Heap.none fun r _=>r = .d (.bool true) :=
 CallW.mono h fun r H' hr=>by cases hr; rfl
end
def A0 (z sz c cap:Nat):List (List D)→AV
 | []=>.nilsl z
 | x::xs=>.own c sz 0 (x::xs).length cap
def Ai (t:TypeId) (sz c cap:Nat):List (List D)→List (Nat×Blk)
 | []=>[]
 | x::xs=>[(c,.row t sz cap (x::xs))]
def AT (l:List (Nat×Blk)):List Nat:=l.map (·.1)
theorem Ex {z sz c cap:Nat} {xs:List (List D)} (h:xs≠[]):A0 z sz c cap xs = .own c sz 0 xs.length cap:=by
 cases xs with
 | nil=>exact absurd rfl h
 | cons x xs=>rfl
theorem F9 {t:TypeId} {sz c cap:Nat} {xs:List (List D)} (h:xs≠[]):Ai t sz c cap xs=[(c,.row t sz cap xs)]:=by
 cases xs with
 | nil=>exact absurd rfl h
 | cons x xs=>rfl
theorem K9 {z sz c cap:Nat}:A0 z sz c cap [] = .nilsl z:=rfl
theorem Kg {t:TypeId} {sz c cap:Nat}:Ai t sz c cap []=[]:=rfl
theorem Dr {z sz c cap:Nat} {xs:List (List D)}:Jb (A0 z sz c cap xs)=some (.d (.int .i64 xs.length)):=by cases xs <;> rfl
theorem Cj {sz:Nat} {xs:List (List D)}:Jb (.d (.sl sz xs))=some (.d (.int .i64 xs.length)):=rfl
theorem Cl {sz:Nat}:Jb (.nilsl sz)=some (.d (.int .i64 0)):=rfl
theorem C5 {b sz off len cap:Nat}:Jb (.own b sz off len cap)=some (.d (.int .i64 len)):=rfl
theorem Ba {z sz c cap:Nat} {xs:List (List D)}:EV 1 (A0 z sz c cap xs)=true:=by cases xs <;> rfl
theorem B1 {z sz c cap:Nat} {xs:List (List D)}:Eu (A0 z sz c cap xs)=[A0 z sz c cap xs]:=by cases xs <;> rfl
theorem Ds (n:Nat) (xs:List AV):EV n (.agg xs)=(Af xs == n):=rfl
theorem CC (xs:List AV):Eu (.agg xs)=xs:=rfl
theorem DB (n:Nat) (x:D):EV n (.d x)=(n == 1):=by simp [EV,HV]
theorem CI (x:D):Eu (.d x)=[.d x]:=rfl
theorem CG (n:Nat)  : EV n .nilp=(n == 1):=by simp [EV,HV]
theorem Cc  : Eu .nilp=[.nilp]:=rfl
theorem DI (n:Nat) (sz:Nat):EV n (.nilsl sz)=(n == 1):=by simp [EV,HV]
theorem Dz (sz:Nat):Eu (.nilsl sz)=[.nilsl sz]:=rfl
theorem Du (n:Nat)  : EV n .nilfn=(n == 1):=by simp [EV,HV]
theorem Db  : Eu .nilfn=[.nilfn]:=rfl
theorem C6 (n:Nat) (b o:Nat):EV n (.ptr b o)=(n == 1):=by simp [EV,HV]
theorem Cm (b o:Nat):Eu (.ptr b o)=[.ptr b o]:=rfl
theorem CY (n:Nat) (b sz i j:Nat):EV n (.eptr b sz i j)=(n == 1):=by simp [EV,HV]
theorem BW (b sz i j:Nat):Eu (.eptr b sz i j)=[.eptr b sz i j]:=rfl
theorem CT (n:Nat) (el:List D) (o:Nat):EV n (.dptr el o)=(n == 1):=by simp [EV,HV]
theorem B9 (el:List D) (o:Nat):Eu (.dptr el o)=[.dptr el o]:=rfl
theorem Cw (n:Nat) (b sz off len cap:Nat):EV n (.own b sz off len cap)=(n == 1):=by simp [EV,HV]
theorem DS (b sz off len cap:Nat):Eu (.own b sz off len cap)=[.own b sz off len cap]:=rfl
theorem Cd (n:Nat) (f:FuncId) (caps:List AV):EV n (.fn f caps)=(n == 1):=by simp [EV,HV]
theorem C1 (f:FuncId) (caps:List AV):Eu (.fn f caps)=[.fn f caps]:=rfl
theorem Jz {H:Heap} {t:TypeId} {z sz c cap:Nat} {xs:List (List D)} (h:AS H (Ai t sz c cap xs)):LendV H (A0 z sz c cap xs) (.d (.sl sz xs)):=by
 cases xs with
 | nil=>exact .nilsl _ _
 | cons x xs=>exact .own c sz cap t cap (x::xs) h.1
theorem LZ {H:Heap} {t:TypeId} {z sz c cap:Nat} {xs:List (List D)} (h:AS H (Ai t sz c cap xs)) (hs:∀el∈xs,∀d∈el,Gr d=true):NewV H (A0 z sz c cap xs) (.d (.sl sz xs)):=by
 cases xs with
 | nil=>exact .nilsl _ _
 | cons x xs=>exact .own c sz cap t cap (x::xs) h.1 hs
theorem EF {H:Heap} {xs ys:List (Nat×Blk)}:AS H (xs++ys)↔AS H xs∧AS H ys:=by
 induction xs with
 | nil=>simp [AS]
 | cons p xs ih=>obtain ⟨b,x⟩:=p; simp only [List.cons_append,AS,ih,and_assoc]
theorem LB {H:Heap} {xs ys:List (Nat×Blk)} (h:AS H xs) (hs:∀p∈ys,p∈xs):AS H ys:=E5.2 fun p hp=>E5.1 h p (hs p hp)
theorem EQ:∀{l:List (Nat×Blk)},(AT l).Nodup→AS (Ab l) l
 | [],_=>trivial
 | (b,x)::l,h=>by
  simp only [AT,List.map_cons,List.nodup_cons] at h
  refine ⟨by rw [Ap,if_pos rfl],?_⟩
  refine E5.2 fun p hp=>?_
  rw [Ap,if_neg (fun e=>h.1 (by rw [←e]; exact List.mem_map_of_mem hp))]
  exact E5.1 (EQ (l:=l) h.2) p hp
theorem HK {H:Heap} {b:Nat} {x:Blk} {l:List (Nat×Blk)} (hb:H b=none) (h:AS H l):AS (upd H b (some x)) ((b,x)::l):=⟨upd_eq,An hb h⟩
theorem PV {H:Heap} {b:Nat} {l:List (Nat×Blk)} (hb:H b=none) (h:AS H l):b∉AT l:=fun hm=>by
 obtain ⟨p,hp,e⟩:=List.mem_map.1 hm
 have:=E5.1 h p hp
 rw [e,hb] at this; cases this
theorem IB {H:Heap} {b:Nat} {x:Blk} {l:List (Nat×Blk)} (hb:H b=none) (h:AS H l) (hn:(AT l).Nodup):(AT ((b,x)::l)).Nodup:=by
 simp only [AT,List.map_cons,List.nodup_cons]
 exact ⟨PV hb h,hn⟩
theorem N6 {H:Heap} {b:Nat} {x x':Blk} {l:List (Nat×Blk)} (h:AS H ((b,x)::l)) (hn:(AT ((b,x)::l)).Nodup):AS (upd H b (some x')) ((b,x')::l):=by
 simp only [AT,List.map_cons,List.nodup_cons] at hn
 refine ⟨upd_eq,E5.2 fun p hp=>?_⟩
 rw [AE (fun e=>hn.1 (by rw [e]; exact List.mem_map_of_mem hp))]
 exact E5.1 h.2 p hp
theorem J7 {H:Heap} {b:Nat} {y:Option Blk} {l:List (Nat×Blk)} (h:AS H l) (hn:b∉AT l):AS (upd H b y) l :=
 E5.2 fun p hp=>by
  rw [AE (fun e=>hn (by rw [e]; exact List.mem_map_of_mem hp))]
  exact E5.1 h p hp
section
variable {P:Program} {Q:Out→St→Prop} {k:List Item} {s:St} {d:Option Nat} {l:List AO}
theorem Ff {e t:TypeId} {sz bytes z0 c cap bs capc capx:Nat} {z:List AV} {xs:List (List D)} {y:List D} (rest:List (Nat×Blk)) (hz:z.length=sz) (hall:AS s.H (Ai e sz c cap xs++rest)) (hnd:(AT (Ai e sz c cap xs++rest)).Nodup)
  (hbs:s.H bs=some (.row t sz capc [y])) (hb:(xs.length+1)*bytes≤140737488355328) (hb2:xs.length+1≤9223372036854775807)
  (hk:∀H' c' cap',AS H' (Ai e sz c' cap' (xs++[y])++rest)→(AT (Ai e sz c' cap' (xs++[y])++rest)).Nodup→AQ P Q l k (AL s d (.own c' sz 0 (xs.length+1) cap') H')) :
  IC e sz bytes z (A0 z0 sz c cap xs) (.own bs sz 0 1 capx) d l k s P Q:=by
 by_cases h0:xs=[]
 ·subst h0
  refine N4 (ys:=[y]) (t:=t) (capc:=capc) hbs rfl (by simp) hz ⟨by simpa using hb,by simp [maxLen]⟩ (fun b hb' cap'=>?_)
  have hr:AS s.H rest:=hall
  exact hk (upd s.H b (some (.row e sz cap' [y]))) b cap' (HK hb' hr) (IB hb' hr hnd)
 ·rw [Ex h0]
  rw [F9 h0] at hall hnd
  refine PG (xs:=xs) (ys:=[y]) (t:=t) (capc:=capc) hall.1 hbs rfl rfl (by simp) hz ⟨hb,hb2⟩ (fun b' cap' hb'=>?_)
  simp only [List.cons_append,List.nil_append,AT,List.map_cons,List.nodup_cons] at hnd
  have hr:AS (upd s.H c none) rest:=J7 hall.2 hnd.1
  have hne:xs++[y]≠[]:=by simp
  exact hk (upd (upd s.H c none) b' (some (.row e sz cap' (xs++[y])))) b' cap' (by rw [F9 hne]; exact HK hb' hr) (by rw [F9 hne]; exact IB hb' hr hnd.2)
theorem OV {α β:Type} {f : α→β} {l:List α} {pre post:List β} {x : β} (h:l.map f=pre++x::post):∃hl:pre.length<l.length,x=f l[pre.length]∧pre=(l.take pre.length).map f:=by
 have hlen:=congrArg List.length h
 simp only [List.length_map,List.length_append,List.length_cons] at hlen
 have hl:pre.length<l.length:=by omega
 refine ⟨hl,?_,?_⟩
 ·have:=congrArg (fun m=>m[pre.length]?) h
  simp only [List.getElem?_map,List.getElem?_eq_getElem hl,Option.map_some,List.getElem?_append_right (Nat.le_refl _),Nat.sub_self,List.getElem?_cons_zero,Option.some.injEq] at this
  exact this.symm
 ·have:=congrArg (List.take pre.length) h
  rw [←List.map_take,List.take_left' rfl] at this
  exact this.symm
end
section
variable {P:Program}
theorem AAL {f:FuncId} {args args':List AV} {r:AV} {H Hr Hk:Heap} {K:AV→Heap→Prop} (h:DataW P f args' r) (g1:∀k,Hr k=none∨Hr k=H k) (g2:∀k,Hk k=none∨Hk k=H k∧Hr k=none) (hl:LendL Hr args args') (hk:K r Hk):CallW P f args H K:=by
 intro F w vs hh hv
 have g1k:∀b x,Hr b=some x→H b=some x:=fun b x hb=>by
  rcases g1 b with e | e
  ·rw [e] at hb; cases hb
  ·rw [←e]; exact hb
 have g2k:∀k x,Hk k=some x→H k=some x∧Hr k=none:=fun k x hx=>by
  rcases g2 k with e | ⟨e,e'⟩
  ·rw [e] at hx; cases hx
  ·exact ⟨by rw [←e]; exact hx,e'⟩
 have hrel:HRel P F Hr w:=⟨fun b x hb=>hh.at_ b x (g1k b x hb),fun b x hb=>hh.apart b x (g1k b x hb),hh.old⟩
 have hrow:∀k,HH Hr k→∃x,H k=some x:=fun k ⟨t,sz,cap,xs,e⟩=>⟨_,g1k k _ e⟩
 have hold:∀k,F k∨HH Hr k→k<w.heap.size:=by
  rintro k (hk | hk)
  ·exact hh.old k hk
  ·obtain ⟨x,hx⟩:=hrow k hk
   exact (hh.at_ k x hx).lt
 refine (h.run (F:=fun k=>F k∨HH Hr k) hold (hl.sound hrel hv)).mono fun e w' hr=>?_
 obtain ⟨F',v,rfl,h1,h2,h3⟩:=hr
 have hkeep:∀k,k<w.heap.size→w'.heap[k]? = w.heap[k]?:=fun k hk=>h3.keep k hk rfl
 refine ⟨r,Hk,F',v,rfl,h1,⟨fun b x hb=>?_,fun b x hb hf=>?_,h2⟩,⟨h3.os,h3.tape,h3.output,h3.size,fun k hk _=>hkeep k hk,fun k hk=>?_,fun k hk=>h3.mono k (.inl hk),fun k hk=>?_⟩,hk⟩
 ·have hb':=(g2k b x hb).1
  exact (hh.at_ b x hb').mono (hkeep b (hh.at_ b x hb').lt) (fun k hk=>h3.mono k (.inl hk)) (fun k hk=>hkeep k (hh.old k hk))
 ·obtain ⟨hb1,hb2⟩:=g2k b x hb
  rcases h3.new b hf with (e | ⟨t,sz,cap,xs,e⟩) | e | e
  ·exact hh.apart b x hb1 e
  ·rw [hb2] at e; cases e
  ·exact e rfl
  ·have:=(hh.at_ b x hb1).lt
   omega
 ·refine .inl fun e=>?_
  cases hx:Hk k with
  | none=>exact hk hx
  | some x=>rw [(g2k k x hx).1] at e; cases e
 ·rcases h3.new k hk with (e | e) | e | e
  ·exact .inl e
  ·obtain ⟨x,hx⟩:=hrow k e
   exact .inr (.inl (by rw [hx]; simp))
  ·exact absurd rfl e
  ·exact .inr (.inr e)
theorem NewV.free {F G:Nat→Prop} {w:World} {H:Heap} {x y:AV} (h:NewV H x y):∀{v:Value},VR P F w x v→VR P G w x v:=by
 induction h with
 | scal x hs=>exact fun hv=>PA hv hs
 | nilsl sz sz'=>intro v hv; cases hv; (first | exact .nilsl _)
 | own b sz cap t cap' xs h hs=>intro v hv; cases hv; exact .own _ _ _ _ _ (by assumption)
 | agg xs ys hl _ ih =>
  intro v hv
  cases hv
  next cs h3 h1 h2 =>
  exact .agg _ _ h1 (fun j x v g1 g2=>by
   have hj:j<ys.length:=by rw [←hl]; exact (List.getElem?_eq_some_iff.1 g1).1
   exact ih j x _ g1 (List.getElem?_eq_getElem hj) (h2 j x v g1 g2)) (by assumption)
 | tup xs ys hl _ ih =>
  intro v hv
  cases hv
  next cs h1 h2 =>
  exact .tup _ _ h1 (fun j x v g1 g2=>by
   have hj:j<ys.length:=by rw [←hl]; exact (List.getElem?_eq_some_iff.1 g1).1
   exact ih j x _ g1 (List.getElem?_eq_getElem hj) (h2 j x v g1 g2))
def ABB (x:Option Blk):Prop:=∃t sz cap xs,x=some (.row t sz cap xs)∧∀el∈xs,∀d∈el,Gr d=true
theorem NewV.into {H H':Heap} (hH:∀b,ABB (H b)→H' b=H b) {x y:AV} (h:NewV H x y):NewV H' x y:=by
 induction h with
 | scal x hs=>exact .scal x hs
 | nilsl sz sz'=>exact .nilsl sz sz'
 | own b sz cap t cap' xs h hs=>exact .own b sz cap t cap' xs (by rw [hH b ⟨t,sz,cap',xs,h,hs⟩]; exact h) hs
 | agg xs ys hl _ ih=>exact .agg xs ys hl ih
 | tup xs ys hl _ ih=>exact .tup xs ys hl ih
variable {Q:Out→St→Prop} {k:List Item} {s:St} {d:Option Nat} {l:List AO}
theorem Rc {f:FuncId} {args args':List AV} {r:AV} {Hr Hk:Heap} (h:DataW P f args' r) (hl:LendL Hr args args') (g1:∀k,Hr k=none∨Hr k=s.H k) (g2:∀k,Hk k=none∨Hk k=s.H k∧Hr k=none) (hk:AQ P Q l k (AL s d r Hk)):I6 P Q f args d l k s :=
 AAL h g1 g2 hl hk
end
end Go.Proofs.YtbihahpaalcjjaaGreat.Abs
