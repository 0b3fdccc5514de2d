/- Contracts of the machine and the contracts of one law (joined by kmerge.py). No claim stands here. -/
import Derived.Below
import Derived.Carry
import Derived.ChangeCalls
import Derived.ChangeOld
import Derived.IntWalk
import Derived.KernelRfl
import Derived.Laws.Append
import Derived.Laws.AppendOwn
import Derived.Laws.Cells
import Derived.Laws.CopyRow
import Derived.Laws.Entries
import Derived.Laws.MakeOwn
import Derived.Laws.NewFold
import Derived.Laws.Rows
import Derived.Laws.StructEq
import Derived.OpenShut
import Derived.Orders
import Derived.OrdersIn
import Derived.ProofKit
import Derived.RangeFuncLeaves
import Derived.RangeFuncSeq
import Derived.SizedLaws
import Derived.TacticsIn
import Derived.WalkKit
import Derived.Test.YtmhmmomnfbfkiaaMbd
set_option maxRecDepth 100000
set_option linter.unusedSimpArgs false
set_option linter.unusedVariables false
namespace Go.Proofs.Ytmhmmomnfbfkiaa.Abs
open Go Go.RowKit Go.Proofs
attribute [local go_sem] B8 Bd Dh DC Cs C9 Bb Al Ax DE DU BV CI DK Dm CQ BM DF Du B2 CO Cd DM DH DL Bg De C7 EJ CF EF DR B3 EL D3 Cf CB EC CP Da Bj C2 CK Co Bc DD Cq Bm Be Dr C8 Ck Bq CE Ca Cu Cm DS Ba CR Bv BS D7 DQ CJ Bt EK Cn DO Cb BW BI DA B1 BJ C3 Bn BB CG EI Dg D2 EA Df Cr Bi Cl Db DW EH Ce Bo Dj By D5 Dc EG Cw Di D8 C5 CN DI CH Bk BF BY BG A8 Bs C6 CL AH ev Ah Ai Aw BK A6 Cg CM DJ BX Aq As Bu Bf CC Bp CX Dn Ci Bw Do Dv BU DX B7 Cc Ch BZ B0 B9 Dt D9 Dq C4 A9 Ae setSeg nth seg mapD Au A7 AQ BC Cx DZ Av Af cond_true cond_false D6 BO BH BE BL EM D1 List.cons_append List.nil_append Bool.not_true Bool.not_false Bool.and_true Bool.and_self Nat.lt_add_left_iff_pos Nat.zero_add Nat.add_zero List.drop_succ_cons List.drop_zero List.take_succ_cons List.take_zero beq_self_eq_true Bool.false_eq_true CU Cj BQ Bx ED Dy DV D0 Bz A0 and_self and_true true_and CT Ds CZ Cp Cv BP Cz Ct Dw Dz C0 CV Dk EB DB DT CW CS Az A5 BA Ao Dx CD Br EE BN Bh Cy Dd BT DN CA List.length_cons List.length_nil Nat.min_def Int.cast_ofNat_Int Int.natCast_zero Int.natCast_one decide_true decide_false List.getElem?_cons_zero List.getElem?_cons_succ Dp Bl CY C1 DG DP
structure Seg (β:Type) where
 f:Int
 t:Int
 v : β
section
variable {β:Type}
def FwdB (val:Int→β) (lo hi:Int):List (Seg β)→Prop
 | []=>lo=hi
 | r::R=>r.f=lo∧r.f≤r.t∧(∀x,r.f≤x→x≤r.t→val x=r.v)∧(∀s,R.head? = some s→r.v≠s.v)∧FwdB val (r.t+1) hi R
theorem FwdB.le {val:Int→β}:∀{R:List (Seg β)} {lo hi:Int},FwdB val lo hi R→lo≤hi
 | [],lo,hi,h=>by have:lo=hi:=h; omega
 | r::R,lo,hi,h=>by
  obtain ⟨h1,h2,_,_,h5⟩:=h
  have:=FwdB.le h5
  omega
theorem FwdB.len {val:Int→β}:∀{R:List (Seg β)} {lo hi:Int},FwdB val lo hi R→(R.length:Int)≤hi-lo
 | [],lo,hi,h=>by have:lo=hi:=h; simp; omega
 | r::R,lo,hi,h=>by
  obtain ⟨h1,h2,_,_,h5⟩:=h
  have:=FwdB.len h5
  simp -implicitDefEqProofs only [List.length_cons]
  omega
theorem FwdB.canon {val:Int→β} {hi:Int}:∀{R S:List (Seg β)} {lo:Int},FwdB val lo hi R→FwdB val lo hi S→R=S
 | [],[],_,_,_=>rfl
 | [],s::S,lo,h,k=>by
  have:lo=hi:=h
  obtain ⟨k1,k2,_,_,k5⟩:=k
  have:=k5.le
  omega
 | r::R,[],lo,h,k=>by
  have:lo=hi:=k
  obtain ⟨k1,k2,_,_,k5⟩:=h
  have:=k5.le
  omega
 | r::R,s::S,lo,h,k=>by
  obtain ⟨h1,h2,h3,h4,h5⟩:=h
  obtain ⟨k1,k2,k3,k4,k5⟩:=k
  have hh:=h5.le
  have kk:=k5.le
  have ev:r.v=s.v:=by rw [←h3 lo (by omega) (by omega),←k3 lo (by omega) (by omega)]
  have key:∀{A:List (Seg β)} {a b:Seg β},FwdB val (a.t+1) hi A→b.t+1≤hi→a.f=lo→b.f=lo→a.f≤a.t→(∀x,b.f≤x→x≤b.t→val x=b.v)→(∀q,A.head? = some q→a.v≠q.v)→a.v=b.v→¬a.t<b.t:=by
   intro A a b hA hb ha hb2 haa hbv hne hab hlt
   cases A with
   | nil=>have:a.t+1=hi:=hA; omega
   | cons q A =>
    obtain ⟨q1,q2,q3,_,_⟩:=hA
    have e1:=q3 q.f (Int.le_refl _) q2
    have e2:=hbv q.f (by omega) (by omega)
    exact hne q rfl (by rw [hab,←e2,e1])
  have et:r.t=s.t:=by
   have n1:=key h5 kk h1 k1 h2 k3 h4 ev
   have n2:=key k5 hh k1 h1 k2 h3 k4 ev.symm
   omega
  have ers:r=s:=by
   obtain ⟨rf,rt,rv⟩:=r
   obtain ⟨sf,st,sv⟩:=s
   simp -implicitDefEqProofs only at h1 k1 et ev
   rw [h1,k1,et,ev]
  rw [ers]
  rw [et] at h5
  exact congrArg _ (FwdB.canon h5 k5)
theorem FwdB.congr {val val':Int→β} {hi:Int}:∀{R:List (Seg β)} {lo:Int},(∀x,lo≤x→x<hi→val x=val' x)→FwdB val lo hi R→FwdB val' lo hi R
 | [],lo,_,h=>h
 | r::R,lo,hv,h=>by
  obtain ⟨h1,h2,h3,h4,h5⟩:=h
  have hl:=h5.le
  exact ⟨h1,h2,fun x a b=>by rw [←hv x (by omega) (by omega)]; exact h3 x a b,h4,FwdB.congr (fun x a b=>hv x (by omega) b) h5⟩
theorem FwdB.nth {val:Int→β} {hi:Int}:∀{R:List (Seg β)} {lo:Int},FwdB val lo hi R→∀(i:Nat) r,R[i]? = some r→lo+i≤r.f∧r.f≤r.t∧r.t<hi∧(∀x,r.f≤x→x≤r.t→val x=r.v)∧(∀s,R[i+1]? = some s→s.f=r.t+1∧r.v≠s.v)∧(R[i+1]? = none→r.t+1=hi)∧(i=0→r.f=lo)
 | [],lo,_,i,r,hr=>by simp at hr
 | q::R,lo,h,0,r,hr=>by
  obtain ⟨h1,h2,h3,h4,h5⟩:=h
  have hl:=h5.le
  simp -implicitDefEqProofs only [List.getElem?_cons_zero,Option.some.injEq] at hr
  subst hr
  refine ⟨by omega,h2,by omega,h3,fun s hs=>?_,fun hs=>?_,fun _=>h1⟩
  ·cases R with
   | nil=>simp at hs
   | cons a R =>
    simp -implicitDefEqProofs only [List.getElem?_cons_succ,List.getElem?_cons_zero,Option.some.injEq] at hs
    subst hs
    exact ⟨h5.1,h4 a rfl⟩
  ·cases R with
   | nil=>exact h5
   | cons a R=>simp at hs
 | q::R,lo,h,i+1,r,hr=>by
  obtain ⟨h1,h2,h3,h4,h5⟩:=h
  have hl:=h5.le
  obtain ⟨g1,g2,g3,g4,g5,g6,g7⟩:=FwdB.nth h5 i r (by simpa using hr)
  exact ⟨by omega,g2,g3,g4,by simpa using g5,by simpa using g6,fun h=>by omega⟩
theorem FwdB.apart {val:Int→β} {hi:Int}:∀{R:List (Seg β)} {lo:Int},FwdB val lo hi R→∀(i j:Nat) r s,i<j→R[i]? = some r→R[j]? = some s→r.t<s.f
 | [],lo,_,i,j,r,s,_,hr,_=>by simp at hr
 | q::R,lo,h,0,0,r,s,hij,_,_=>by omega
 | q::R,lo,h,0,j+1,r,s,_,hr,hs=>by
  obtain ⟨h1,h2,h3,h4,h5⟩:=h
  simp -implicitDefEqProofs only [List.getElem?_cons_zero,Option.some.injEq] at hr
  subst hr
  have:=(FwdB.nth h5 j s (by simpa using hs)).1
  omega
 | q::R,lo,h,i+1,0,r,s,hij,_,_=>by omega
 | q::R,lo,h,i+1,j+1,r,s,hij,hr,hs=>FwdB.apart h.2.2.2.2 i j r s (by omega) (by simpa using hr) (by simpa using hs)
theorem FwdB.find {val:Int→β} {hi d:Int}:∀{R:List (Seg β)} {lo:Int},FwdB val lo hi R→lo≤d→d<hi→∃(i:Nat) (r:Seg β),R[i]? = some r∧r.f≤d∧d≤r.t
 | [],lo,h,h1,h2=>by have:lo=hi:=h; omega
 | q::R,lo,h,h1,h2=>by
  obtain ⟨g1,g2,g3,g4,g5⟩:=h
  by_cases c:d≤q.t
  ·exact ⟨0,q,rfl,by omega,c⟩
  ·obtain ⟨i,r,k1,k2,k3⟩:=FwdB.find g5 (by omega) h2
   exact ⟨i+1,r,by simpa using k1,k2,k3⟩
theorem FwdB.setLast {val:Int→β} {hi x:Int} {s:Seg β}:∀{A:List (Seg β)} {lo:Int},FwdB val lo hi (A++[s])→s.f≤x→(∀y,s.f≤y→y≤x→val y=s.v)→FwdB val lo (x+1) (A++[⟨s.f,x,s.v⟩])
 | [],lo,h,h1,h2=>by
  obtain ⟨g1,g2,g3,g4,g5⟩:=h
  exact ⟨g1,h1,h2,fun s hs=>by simp at hs,rfl⟩
 | a::A,lo,h,h1,h2=>by
  obtain ⟨g1,g2,g3,g4,g5⟩:=h
  refine ⟨g1,g2,g3,fun q hq=>?_,FwdB.setLast g5 h1 h2⟩
  cases A with
  | nil =>
   have hq':(⟨s.f,x,s.v⟩:Seg β)=q:=by simpa using hq
   subst hq'
   exact g4 s rfl
  | cons b A=>exact g4 q hq
theorem FwdB.push {val:Int→β} {hi:Int} {r:Seg β}:∀{A:List (Seg β)} {lo:Int},FwdB val lo hi A→r.f=hi→r.f≤r.t→(∀x,r.f≤x→x≤r.t→val x=r.v)→(∀s,A.getLast? = some s→s.v≠r.v)→FwdB val lo (r.t+1) (A++[r])
 | [],lo,h,h1,h2,h3,h4=>by
  have:lo=hi:=h
  exact ⟨by omega,h2,h3,fun s hs=>by simp at hs,rfl⟩
 | a::A,lo,h,h1,h2,h3,h4=>by
  obtain ⟨g1,g2,g3,g4,g5⟩:=h
  refine ⟨g1,g2,g3,fun q hq=>?_,FwdB.push g5 h1 h2 h3 fun s hs=>?_⟩
  ·cases A with
   | nil =>
    have hq':r=q:=by simpa using hq
    subst hq'
    exact h4 a rfl
   | cons b A=>exact g4 q hq
  ·cases A with
   | nil=>simp at hs
   | cons b A=>exact h4 s (by rw [List.getLast?_cons_cons]; exact hs)
open Classical in
noncomputable def KB (acc:List (Seg β)) (d:Int) (v : β):List (Seg β):=match acc.getLast? with
 | none=>[⟨d,d,v⟩]
 | some s=>if s.v=v then acc.dropLast++[⟨s.f,d-1,s.v⟩] else acc.dropLast++[⟨s.f,d-1,s.v⟩]++[⟨d,d,v⟩]
noncomputable def GJ (val:Int→β) (ds:List Int):Nat→List (Seg β)
 | 0=>[]
 | k+1=>match ds[k]? with
  | some d=>KB (GJ val ds k) d (val d)
  | none=>GJ val ds k
def Lc (acc:List (Seg β)) (x:Int):List (Seg β):=match acc.getLast? with
 | none=>[]
 | some s=>acc.dropLast++[⟨s.f,x,s.v⟩]
theorem FwdOK.nth2 {val:Int→Int} {hi:Int}:∀{R:List Run} {lo:Int},FwdOK val lo hi R→∀(i:Nat) r,R[i]? = some r→lo≤r.f∧r.f≤r.t∧r.t<hi∧(∀x,r.f≤x→x≤r.t→val x=r.v)∧(∀s,R[i+1]? = some s→s.f=r.t+1)∧(R[i+1]? = none→r.t+1=hi)∧(i=0→r.f=lo)
 | [],lo,_,i,r,hr=>by simp at hr
 | q::R,lo,h,0,r,hr=>by
  obtain ⟨h1,h2,h3,h4,h5⟩:=h
  have hl:=h5.le
  simp -implicitDefEqProofs only [List.getElem?_cons_zero,Option.some.injEq] at hr
  subst hr
  refine ⟨by omega,h2,by omega,h3,fun s hs=>?_,fun hs=>?_,fun _=>h1⟩
  ·cases R with
   | nil=>simp at hs
   | cons a R =>
    simp -implicitDefEqProofs only [List.getElem?_cons_succ,List.getElem?_cons_zero,Option.some.injEq] at hs
    subst hs
    exact h5.1
  ·cases R with
   | nil=>exact h5
   | cons a R=>simp at hs
 | q::R,lo,h,i+1,r,hr=>by
  obtain ⟨h1,h2,h3,h4,h5⟩:=h
  have hl:=h5.le
  obtain ⟨g1,g2,g3,g4,g5,g6,g7⟩:=FwdOK.nth2 h5 i r (by simpa using hr)
  exact ⟨by omega,g2,g3,g4,by simpa using g5,by simpa using g6,fun h=>by omega⟩
theorem O2 {val:Int→β} {sv:Int→Int} {lo hi:Int} {R:List Run} (h:FwdOK sv lo hi R) (hv:∀d e,lo≤d→d<hi→lo≤e→e<hi→sv d=sv e→val d=val e):∀(k:Nat) r,R[k]? = some r→∃A s,GJ val (R.map (·.f)) (k+1)=A++[s]∧s.v=val r.f∧s.f≤r.f∧∀x,r.f≤x→x≤r.t→FwdB val lo (x+1) (A++[⟨s.f,x,s.v⟩])
 | 0,r,hr=>by
  obtain ⟨h1,h2,h3,h4,h5,h6,h7⟩:=h.nth2 0 r hr
  refine ⟨[],⟨r.f,r.f,val r.f⟩,?_,rfl,Int.le_refl _,fun x hx hx2=>⟨h7 rfl,hx,fun y a b=>?_,fun s hs=>by simp at hs,rfl⟩⟩
  ·simp [GJ,hr,KB]
  ·have a':r.f≤y:=a
   have b':y≤x:=b
   exact hv y r.f (by omega) (by omega) (by omega) (by omega) (by rw [h4 y a' (by omega),h4 r.f (by omega) h2])
 | k+1,r,hr=>by
  obtain ⟨h1,h2,h3,h4,h5,h6,h7⟩:=h.nth2 (k+1) r hr
  have hk:k<R.length:=by
   have:=(List.getElem?_eq_some_iff.1 hr).1
   omega
  obtain ⟨g1,g2,g3,g4,g5,g6,g7⟩:=h.nth2 k R[k] (List.getElem?_eq_getElem hk)
  obtain ⟨A,s,e1,e2,e3,e4⟩:=O2 h hv k R[k] (List.getElem?_eq_getElem hk)
  have hf:=g5 r hr
  have hall:=e4 (r.f-1) (by omega) (by omega)
  rw [show r.f-1+1=r.f by omega] at hall
  have hstep:GJ val (R.map (·.f)) (k+1+1)=KB (A++[s]) r.f (val r.f):=by
   rw [GJ,List.getElem?_map,hr,←e1]; rfl
  have hconst:∀y,r.f≤y→y≤r.t→val y=val r.f:=fun y a b=>hv y r.f (by omega) (by omega) (by omega) (by omega) (by rw [h4 y a b,h4 r.f (by omega) h2])
  by_cases c:s.v=val r.f
  ·refine ⟨A,⟨s.f,r.f-1,s.v⟩,?_,c,by show s.f≤r.f; omega,fun x hx hx2=>?_⟩
   ·rw [hstep,KB]
    simp -implicitDefEqProofs only [List.getLast?_append,List.getLast?_singleton,Option.some_or,List.dropLast_concat,if_pos c]
   ·refine FwdB.setLast (s:=⟨s.f,r.f-1,s.v⟩) hall (by show s.f≤x; omega) fun y a b=>?_
    simp -implicitDefEqProofs only at a
    by_cases hy:y<r.f
    ·have hlast:(A++[(⟨s.f,r.f-1,s.v⟩:Seg β)])[A.length]? = some ⟨s.f,r.f-1,s.v⟩:=by simp
     exact (hall.nth _ _ hlast).2.2.2.1 y a (by show y≤r.f-1; omega)
    ·rw [hconst y (by omega) (by omega)]; exact c.symm
  ·refine ⟨A++[⟨s.f,r.f-1,s.v⟩],⟨r.f,r.f,val r.f⟩,?_,rfl,Int.le_refl _,fun x hx hx2=>?_⟩
   ·rw [hstep,KB]
    simp -implicitDefEqProofs only [List.getLast?_append,List.getLast?_singleton,Option.some_or,List.dropLast_concat,if_neg c]
   ·refine FwdB.push (r:=⟨r.f,x,val r.f⟩) hall rfl hx (fun y a b=>hconst y a (by simp -implicitDefEqProofs only at b; omega)) fun q hq=>?_
    simp -implicitDefEqProofs only [List.getLast?_append,List.getLast?_singleton,Option.some_or,Option.some.injEq] at hq
    subst hq
    exact c
theorem AO1 {val:Int→β} {sv:Int→Int} {lo hi:Int} {R:List Run} (h:FwdOK sv lo hi R) (hlt:lo<hi) (hv:∀d e,lo≤d→d<hi→lo≤e→e<hi→sv d=sv e→val d=val e):FwdB val lo hi (Lc (GJ val (R.map (·.f)) R.length) (hi-1)):=by
 cases hR:R with
 | nil=>rw [hR] at h; have:lo=hi:=h; omega
 | cons a S =>
  rw [←hR]
  have hk:R.length-1<R.length:=by rw [hR]; simp
  obtain ⟨A,s,e1,e2,e3,e4⟩:=O2 h hv (R.length-1) _ (List.getElem?_eq_getElem hk)
  obtain ⟨h1,h2,h3,h4,h5,h6,h7⟩:=h.nth2 (R.length-1) _ (List.getElem?_eq_getElem hk)
  rw [show R.length-1+1=R.length by omega] at e1 h6
  have h6:=h6 (List.getElem?_eq_none (Nat.le_refl _))
  rw [e1,Lc]
  simp -implicitDefEqProofs only [List.getLast?_append,List.getLast?_singleton,Option.some_or,List.dropLast_concat]
  have:=e4 (hi-1) (by omega) (by omega)
  rwa [show hi-1+1=hi by omega] at this
end
abbrev JJ (l:List Run):List (List AV):=l.map fun r=>[r.av]
theorem OX {l:List Run} {i:Nat} (h:i<l.length):(Ew l)[((i:Int)).toNat]? = some [.int .i64 l[i].f,.int .i64 l[i].t,.int .i64 l[i].v]:=Jt h
theorem Vn {b:Nat} {l:List Run} (hl:l.length≤1000000):L6 Try.prog QJ [.ptr b 0] [(b,.box 119 [Gm l])] (JJ l):=by
 intro y H J X hA hS hY h0
 refine Aj APW (by simp) ?_
 have hb:H b=some (.box 119 [Gm l]):=(hA [] H h0).1
 simp -implicitDefEqProofs -proj only [go_sem,seval,hb,rowR_len]
 refine Qp (fun x:Nat×Heap=>x.1≤l.length∧J (JJ (l.take x.1)) x.2) (fun x=>⟨16,Fq [(0,.yld y),(5,Gm l),(6,i64 l.length),(7,i64 x.1)],x.2⟩) (fun x=>l.length-x.1) (0,H) ⟨Nat.zero_le _,h0⟩ (Ng rfl ?_ (fun k=>.inr rfl)) ?_
 ·simp -implicitDefEqProofs -proj only [go_sem,seval,AJ]
 rintro ⟨i,H1⟩ ⟨hi,hj⟩
 simp -implicitDefEqProofs only [] at hi hj
 by_cases h:i<l.length
 ·have hel:=OX h
  have hxs:JJ l=JJ (l.take i)++[(l[i]).av]::JJ (l.drop (i+1)):=by
   rw [←List.map_cons (f:=fun r:Run=>[r.av]),←List.map_append,←List.drop_eq_getElem_cons h,List.take_append_drop]
  have htk:JJ (l.take i)++[[(l[i]).av]]=JJ (l.take (i+1)):=by simp -implicitDefEqProofs only [JJ]; rw [List.take_succ_eq_append_getElem h,List.map_append]; rfl
  generalize l[i]=r at *
  simp -implicitDefEqProofs -proj only [go_sem,seval,decide_eq_true (show (i:Int)<l.length by omega)]
  refine Ag _ (by omega) hel ?_
  simp -implicitDefEqProofs -proj only [go_sem,seval]
  refine AI (fun b4 hb4=>?_)
  simp -implicitDefEqProofs -proj only [go_sem,seval]
  refine APf (hY _ _ _ _ hxs (hS _ _ b4 _ hj hb4)) ?_
  rintro v H2 (⟨rfl,hj2⟩ | ⟨rfl,hx⟩)
  ·rw [htk] at hj2
   simp -implicitDefEqProofs -proj only [go_sem,seval]
   refine APd (i+1,H2) ⟨by show i+1≤l.length; omega,hj2⟩ (by show l.length-(i+1)<l.length-i; omega) (Ng rfl ?_ (fun k=>.inr rfl))
   simp -implicitDefEqProofs -proj only [go_sem,seval,AJ,AU (show i<9223372036854775807 by omega)]
  ·simp -implicitDefEqProofs -proj only [go_sem,seval]
   exact .inr hx
 ·have hi':i=l.length:=by omega
  subst hi'
  rw [List.take_length] at hj
  simp -implicitDefEqProofs -proj only [go_sem,seval,decide_eq_false (show ¬(l.length:Int)<l.length by omega)]
  exact .inl hj
theorem AJI {H:Heap} {l:List Run}:CallW Try.prog Yp [Gm l] H fun r H'=>∃b,r = .fn QJ [.ptr b 0]∧H b=none∧H'=upd H b (some (.box 119 [Gm l])):=by
 refine Aj ZH (by simp) ?_
 simp -implicitDefEqProofs -proj only [go_sem,seval]
 refine AI (fun b hb=>?_)
 simp -implicitDefEqProofs -proj only [go_sem,seval]
 exact ⟨b,rfl,hb,rfl⟩
theorem AEk {H:Heap} {l:List Run}:CallW Try.prog XM [Hm l] H fun r H'=>∃b,r = .fn QJ [.ptr b 0]∧H b=none∧H' b=some (.box 119 [Gm l])∧∀k x,H k=some x→H' k=some x:=by
 refine Aj AFb (by simp) ?_
 simp -implicitDefEqProofs -proj only [go_sem,seval]
 refine AI (fun b1 hb1=>?_)
 simp -implicitDefEqProofs -proj only [go_sem,seval]
 refine Fm AJI ?_
 rintro r H' ⟨b,rfl,hb,rfl⟩
 simp -implicitDefEqProofs -proj only [go_sem,seval]
 have hb':upd H b1 (some (.box 121 [Gm l])) b=none:=hb
 have hne:¬b1=b:=fun e=>by rw [AQ,if_pos e] at hb'; cases hb'
 refine ⟨b,rfl,by rw [AF hne] at hb'; exact hb',by rw [if_pos rfl],fun k x hk=>?_⟩
 rw [AF hne] at hb'
 obtain ⟨n1,n2⟩:=AK hb1 hk
 obtain ⟨n3,n4⟩:=AK hb' hk
 simp -implicitDefEqProofs -proj only [go_sem,seval,n1,n3,hk]
def Nz:List Run→AV
 | []=>.tup [i64 0,i64 0,bv false]
 | r::R=>.tup [i64 r.f,i64 ((r::R).getLast (by simp)).t,bv true]
theorem ANu {R:List Run} (hl:R.length≤1000000):DataW Try.prog AHO [Hm R] (Nz R):=by
 refine Aj Wm (by simp) ?_
 simp -implicitDefEqProofs -proj only [go_sem,seval]
 refine AI (fun b hb=>?_)
 by_cases h:R=[]
 ·subst h
  simp -implicitDefEqProofs -proj only [go_sem,seval,rowR_len]
  exact AM rfl
 ·have hlen:0<R.length:=List.length_pos_iff.2 h
  have hw:IntKind.i64.wrap ((R.length:Int)-1)=((R.length-1:Nat):Int):=by rw [IntKind.wrap_i64]; omega
  have e0:=OX (l:=R) (i:=0) hlen
  have e1:=OX (l:=R) (i:=R.length-1) (by omega)
  simp -implicitDefEqProofs -proj only [go_sem,seval,rowR_len,decide_eq_false (show ¬(R.length:Int)=0 by omega),hw]
  refine Ag _ (by omega) e0 ?_
  simp -implicitDefEqProofs -proj only [go_sem,seval,rowR_len,hw]
  refine Ag _ (by omega) e1 ?_
  simp -implicitDefEqProofs -proj only [go_sem,seval]
  obtain ⟨r,R',rfl⟩:=List.exists_cons_of_ne_nil h
  refine AM ?_
  simp [Nz,List.getLast_eq_getElem]
theorem AKI {R:List Run} {r:Run}:∃q,(E6 R r).getLast? = some q∧q.v=r.v∧q.t=r.t:=by
 unfold E6
 split
 ·next q hq =>
  split
  ·next hv=>exact ⟨{ q with t:=r.t },by rw [List.getLast?_append]; rfl,hv,rfl⟩
  ·exact ⟨r,by rw [List.getLast?_append]; rfl,rfl,rfl⟩
 ·exact ⟨r,rfl,rfl,rfl⟩
theorem Uz {f:Int} {l:List Int} {i:Nat}:∃q,(Gh f l (i+1)).getLast? = some q∧q.v=l.getD i 0∧q.t=f+i:=AKI
theorem FwdOK.out {val:Int→Int} {hi x:Int}:∀{R:List Run} {lo:Int},FwdOK val lo hi R→(x<lo∨hi≤x)→Mw R x=none
 | [],lo,h,_=>rfl
 | r::R,lo,h,h1=>by
  obtain ⟨g1,g2,g3,g4,g5⟩:=h
  have:=g5.le
  rw [Sh]
  by_cases ht:r.t<x
  ·rw [if_pos ht]; exact FwdOK.out g5 (.inr (by omega))
  ·rw [if_neg ht,if_neg (by omega)]
theorem FwdOK.ends {val:Int→Int} {hi:Int}:∀{R:List Run} {lo:Int} (hr:R≠[]),FwdOK val lo hi R→(R.head hr).f=lo∧(R.getLast hr).t=hi-1
 | [r],lo,_,h=>⟨h.1,by have:r.t+1=hi:=h.2.2.2.2; show r.t=hi-1; omega⟩
 | r::s::R,lo,_,h=>⟨h.1,(FwdOK.ends (R:=s::R) (by simp) h.2.2.2.2).2⟩
theorem FwdOK.congr {val val':Int→Int} {hi:Int}:∀{R:List Run} {lo:Int},(∀x,lo≤x→x<hi→val x=val' x)→FwdOK val lo hi R→FwdOK val' lo hi R
 | [],_,_,h=>h
 | r::R,lo,he,h=>by
  obtain ⟨g1,g2,g3,g4,g5⟩:=h
  have:=g5.le
  exact ⟨g1,g2,fun x h1 h2=>by rw [←he x (by omega) (by omega)]; exact g3 x h1 h2,g4,FwdOK.congr (fun x h1 h2=>he x (by omega) h2) g5⟩
theorem FwdOK.putRun {val:Int→Int} {hi t v:Int} (ht:hi≤t) (hv:∀x,hi≤x→x≤t→val x=v):∀{R:List Run} {lo:Int},FwdOK val lo hi R→FwdOK val lo (t+1) (E6 R ⟨hi,t,v⟩)
 | [],lo,h=>by
  have:lo=hi:=h
  subst this
  exact ⟨rfl,ht,hv,fun s h=>(by cases h),rfl⟩
 | [r],lo,h=>by
  obtain ⟨h1,h2,h3,h4,h5⟩:=h
  have h5:r.t+1=hi:=h5
  unfold E6
  simp -implicitDefEqProofs only [List.getLast?_singleton]
  split
  ·next he =>
   refine ⟨h1,by show r.f≤t; omega,fun x x1 x2=>?_,fun s h=>(by cases h),rfl⟩
   by_cases hx:hi≤x
   ·rw [hv x hx x2]; exact he.symm
   ·exact h3 x x1 (by omega)
  ·next he =>
   refine ⟨h1,h2,h3,fun s h=>?_,⟨h5.symm,ht,hv,fun s h=>(by cases h),rfl⟩⟩
   cases h; exact he
 | r::s::R,lo,h=>by
  obtain ⟨h1,h2,h3,h4,h5⟩:=h
  rw [PU (by simp)]
  refine ⟨h1,h2,h3,fun q hq=>?_,FwdOK.putRun ht hv h5⟩
  rw [TX hq]
  exact h4 s rfl
theorem FwdOK.canon {val:Int→Int} {hi:Int}:∀{R S:List Run} {lo:Int},FwdOK val lo hi R→FwdOK val lo hi S→R=S
 | [],[],_,_,_=>rfl
 | [],s::S,lo,h,k=>by
  have:lo=hi:=h
  obtain ⟨k1,k2,_,_,k5⟩:=k
  have:=k5.le
  omega
 | r::R,[],lo,h,k=>by
  have:lo=hi:=k
  obtain ⟨k1,k2,_,_,k5⟩:=h
  have:=k5.le
  omega
 | r::R,s::S,lo,h,k=>by
  obtain ⟨h1,h2,h3,h4,h5⟩:=h
  obtain ⟨k1,k2,k3,k4,k5⟩:=k
  have hh:=h5.le
  have kk:=k5.le
  have ev:r.v=s.v:=by rw [←h3 lo (by omega) (by omega),←k3 lo (by omega) (by omega)]
  have key:∀{A:List Run} {a b:Run},FwdOK val (a.t+1) hi A→b.t+1≤hi→a.f=lo→b.f=lo→a.f≤a.t→(∀x,b.f≤x→x≤b.t→val x=b.v)→(∀q,A.head? = some q→a.v≠q.v)→a.v=b.v→¬a.t<b.t:=by
   intro A a b hA hb ha hb2 haa hbv hne hab hlt
   cases A with
   | nil=>have:a.t+1=hi:=hA; omega
   | cons q A =>
    obtain ⟨q1,q2,q3,_,_⟩:=hA
    have e1:=q3 q.f (Int.le_refl _) q2
    have e2:=hbv q.f (by omega) (by omega)
    exact hne q rfl (by rw [hab,←e2,e1])
  have et:r.t=s.t:=by
   have n1:=key h5 kk h1 k1 h2 k3 h4 ev
   have n2:=key k5 hh k1 h1 k2 h3 k4 ev.symm
   omega
  have ers:r=s:=by
   obtain ⟨rf,rt,rv⟩:=r
   obtain ⟨sf,st,sv⟩:=s
   simp -implicitDefEqProofs only at h1 k1 et ev
   subst h1; subst et; subst ev; rw [k1]
  rw [ers]
  rw [et] at h5
  exact congrArg _ (FwdOK.canon h5 k5)
def Hs (f:Int) (l:List Int):Int→Int:=fun x=>l.getD (x-f).toNat 0
theorem I0 (f:Int) (l:List Int):FwdOK (Hs f l) f (f+l.length) (EP f l):=UQ f l l.length
theorem PQ {val:Int→Int} {f:Int} {l:List Int} {R:List Run} (h:FwdOK val f (f+l.length) R) (hv:∀(i:Nat) (hi:i<l.length),val (f+i)=l[i]):R=EP f l:=by
 refine FwdOK.canon (h.congr fun x h1 h2=>?_) (I0 f l)
 obtain ⟨i,rfl⟩:∃i:Nat,x=f+i:=⟨(x-f).toNat,by omega⟩
 have hi:i<l.length:=by omega
 rw [hv i hi,Hs,show (f+(i:Int)-f).toNat=i by omega]
 simp [hi]
def Fl (R:List Run) (hi:Int) (i:Nat):Int:=match R[i]? with
 | some r=>r.f
 | none=>hi
theorem FwdOK.nth {val:Int→Int} {hi:Int}:∀{R:List Run} {lo:Int},FwdOK val lo hi R→∀(i:Nat) r,R[i]? = some r→r.f=Fl R hi i∧r.f≤r.t∧Fl R hi (i+1)=r.t+1∧r.t+1≤hi∧lo≤r.f∧∀x,r.f≤x→x≤r.t→val x=r.v:=by
 intro R
 induction R with
 | nil=>intro lo _ i r h; simp at h
 | cons q R ih =>
  intro lo h i r hi'
  obtain ⟨g1,g2,g3,g4,g5⟩:=h
  have hle:=g5.le
  cases i with
  | zero =>
   simp -implicitDefEqProofs only [List.getElem?_cons_zero,Option.some.injEq] at hi'
   subst hi'
   refine ⟨rfl,g2,?_,hle,by omega,g3⟩
   unfold Fl
   cases R with
   | nil=>exact g5.symm
   | cons s R=>exact g5.1
  | succ i =>
   obtain ⟨e1,e2,e3,e4,e5,e6⟩:=ih g5 i r (by simpa using hi')
   exact ⟨by rw [e1]; simp [Fl],e2,by rw [←e3]; simp [Fl],e4,by omega,e6⟩
theorem OR {val:Int→Int} {hi:Int} {R:List Run} {lo:Int} (h:FwdOK val lo hi R):Fl R hi 0=lo:=by
 cases R with
 | nil=>exact h.symm
 | cons r R=>exact h.1
theorem Qc {R:List Run} {hi:Int} {i:Nat} (h:R[i]? = none):Fl R hi i=hi:=by unfold Fl; rw [h]
theorem Xp {va vb:Int→Int} {fa ha fb hb:Int} {A B:List Run} (hA:FwdOK va fa ha A) (hB:FwdOK vb fb hb B) (g:Int→Int→Int):∀(n i k:Nat) (R:List Run),A.length+B.length≤n+i+k →
  FwdOK (fun x=>g (va x) (vb x)) (max fa fb) (max (Fl A ha i) (Fl B hb k)) R→(max (Fl A ha i) (Fl B hb k)=max fa fb∨(max (Fl A ha i) (Fl B hb k)≤ha∧max (Fl A ha i) (Fl B hb k)≤hb)) →
  FwdOK (fun x=>g (va x) (vb x)) (max fa fb) (max (max fa fb) (min ha hb)) (GR g A B n i k R):=by
 have fin:∀(i k:Nat) (R:List Run),(A[i]? = none∨B[k]? = none)→FwdOK (fun x=>g (va x) (vb x)) (max fa fb) (max (Fl A ha i) (Fl B hb k)) R →
   (max (Fl A ha i) (Fl B hb k)=max fa fb∨(max (Fl A ha i) (Fl B hb k)≤ha∧max (Fl A ha i) (Fl B hb k)≤hb))→FwdOK (fun x=>g (va x) (vb x)) (max fa fb) (max (max fa fb) (min ha hb)) R:=by
  intro i k R h hR hm
  have hle:=hR.le
  have:max (max fa fb) (min ha hb)=max (Fl A ha i) (Fl B hb k):=by
   rcases h with h | h
   ·have:=Qc (hi:=ha) h; omega
   ·have:=Qc (hi:=hb) h; omega
  rw [this]
  exact hR
 intro n
 induction n with
 | zero =>
  intro i k R hn hR hm
  rw [GR]
  refine fin i k R ?_ hR hm
  by_cases h:A.length≤i
  ·exact .inl (List.getElem?_eq_none h)
  ·exact .inr (List.getElem?_eq_none (by omega))
 | succ n ih =>
  intro i k R hn hR hm
  rw [GR]
  split
  ·next x y hx hy =>
   obtain ⟨a1,a2,a3,a4,a5,a6⟩:=hA.nth i x hx
   obtain ⟨b1,b2,b3,b4,b5,b6⟩:=hB.nth k y hy
   have hf:max x.f y.f=max (Fl A ha i) (Fl B hb k):=by rw [a1,b1]
   have ei:Fl A ha (if x.t≤y.t then i+1 else i)=if x.t≤y.t then x.t+1 else x.f:=by split <;> simp [a3,a1]
   have ek:Fl B hb (if y.t≤x.t then k+1 else k)=if y.t≤x.t then y.t+1 else y.f:=by split <;> simp [b3,b1]
   refine ih _ _ _ (by split <;> split <;> omega) ?_ ?_
   ·rw [ei,ek]
    by_cases hft:max x.f y.f≤min x.t y.t
    ·rw [if_pos hft]
     have e:max (if x.t≤y.t then x.t+1 else x.f) (if y.t≤x.t then y.t+1 else y.f)=min x.t y.t+1:=by split <;> split <;> omega
     rw [e]
     rw [←hf] at hR
     exact FwdOK.putRun (val:=fun x=>g (va x) (vb x)) (v:=g x.v y.v) hft (fun z h1 h2=>by show g (va z) (vb z)=_; rw [a6 z (by omega) (by omega),b6 z (by omega) (by omega)]) hR
    ·rw [if_neg hft]
     have e:max (if x.t≤y.t then x.t+1 else x.f) (if y.t≤x.t then y.t+1 else y.f)=max x.f y.f:=by split <;> split <;> omega
     rw [e,hf]
     exact hR
   ·rw [ei,ek]
    by_cases hft:max x.f y.f≤min x.t y.t
    ·right
     constructor <;> split <;> split <;> omega
    ·have e:max (if x.t≤y.t then x.t+1 else x.f) (if y.t≤x.t then y.t+1 else y.f)=max x.f y.f:=by split <;> split <;> omega
     rw [e,hf]
     exact hm
  ·next h =>
   refine fin i k R ?_ hR hm
   cases hx:A[i]? with
   | none=>exact .inl rfl
   | some x =>
    cases hy:B[k]? with
    | none=>exact .inr rfl
    | some y=>exact absurd hy (h x y hx)
theorem Tj {a:Nat} (h:a<18446744073709551616):(BitVec.ofInt 64 (a:Int)).toNat=a:=by
 rw [BitVec.toNat_ofInt]
 have:(a:Int) % ((2 ^ 64:Nat):Int)=a:=Int.emod_eq_of_lt (by omega) (by simp; omega)
 rw [this,Int.toNat_natCast]
theorem Lh {a b:Nat} (ha:a<18446744073709551616) (hb:b<18446744073709551616):MC .u64 (a:Int) (b:Int)=((a ||| b:Nat):Int):=by
 have h:a ||| b<2 ^ 64:=Nat.or_lt_two_pow (by simpa using ha) (by simpa using hb)
 rw [MC,IntKind.wrap_u64,show IntKind.u64.bits=64 from rfl,BitVec.toNat_or,Tj ha,Tj hb]
 have:a ||| b<18446744073709551616:=by simpa using h
 omega
def OS (i:Int):Nat:=if 0≤i∧i<8 then 2 ^ i.toNat else 0
def NX (i:Int):Nat:=if 0≤i∧i<8 then 256*2 ^ i.toNat else 0
theorem FwdOK.len {val:Int→Int} {hi:Int}:∀{R:List Run} {lo:Int},FwdOK val lo hi R→(R.length:Int)≤hi-lo
 | [],lo,h=>by have:lo=hi:=h; simp; omega
 | r::R,lo,⟨g1,g2,g3,g4,g5⟩=>by
  have:=g5.len
  simp -implicitDefEqProofs only [List.length_cons]
  omega
def JW (val:Int→Int) (a b more:Int):Int→Int:=fun x=>MC .u64 (val x) (if a≤x∧x≤b then more else 0)
def Gc (ss:List SumX) (d:Int):Nat→Nat
 | 0=>0
 | i+1=>Gc ss d i ||| (match ss[i]? with | some s=>if s.f≤d∧d≤s.t then 2 ^ i else 0 | none=>0)
def Gg (ss:List SumX) (ps:List PartX) (d:Int):Nat→Nat
 | 0=>Gc ss d ss.length
 | i+1=>Gg ss ps d i ||| (match ps[i]? with | some s=>if s.f≤d∧d≤s.t then 256*2 ^ i else 0 | none=>0)
def G0 (c:CoreX) (d:Int):Nat:=Gg c.ss c.ps d c.ps.length
theorem NG {ss:List SumX} {d:Int}:∀i:Nat,Gc ss d i<2 ^ i
 | 0=>by simp [Gc]
 | i+1=>by
  have h:=NG (ss:=ss) (d:=d) i
  have hp:2 ^ i<2 ^ (i+1):=Nat.pow_lt_pow_right (by omega) (by omega)
  rw [Gc]
  refine Nat.or_lt_two_pow (by omega) ?_
  split
  ·split <;> omega
  ·omega
theorem PJ {ss:List SumX} {ps:List PartX} {d:Int} (h8:ss.length≤8):∀i:Nat,Gg ss ps d i<2 ^ (8+i)
 | 0=>by
  have h:=NG (ss:=ss) (d:=d) ss.length
  have:2 ^ ss.length≤2 ^ 8:=Nat.pow_le_pow_right (by omega) h8
  rw [Gg]
  show _<2 ^ 8
  omega
 | i+1=>by
  have h:=PJ (ps:=ps) (d:=d) h8 i
  have hp:2 ^ (8+i)<2 ^ (8+i+1):=Nat.pow_lt_pow_right (by omega) (by omega)
  have he:256*2 ^ i=2 ^ (8+i):=by rw [Nat.pow_add]
  rw [Gg]
  refine Nat.or_lt_two_pow (by show _<2 ^ (8+i+1); omega) ?_
  show _<2 ^ (8+i+1)
  split
  ·split
   ·rw [he]; exact hp
   ·exact Nat.two_pow_pos _
  ·exact Nat.two_pow_pos _
theorem OO {i:Nat} (h:i≤8):2 ^ i≤256:=Nat.pow_le_pow_right (n:=2) (by omega) h
theorem UJ {i:Nat} (h:i≤8):2 ^ (8+i)≤65536:=Nat.pow_le_pow_right (show 0<2 by omega) (show 8+i≤16 by omega)
theorem AAO {i:Nat} (h:i<8):IntKind.u64.wrap (1*2 ^ (if i≤64 then i else 64))=((2 ^ i:Nat):Int):=by
 obtain h | h | h | h | h | h | h | h:i=0∨i=1∨i=2∨i=3∨i=4∨i=5∨i=6∨i=7:=by omega
 all_goals subst h; rfl
theorem WH {i:Nat} (h:i<8):IntKind.u64.wrap (256*2 ^ (if i≤64 then i else 64))=((256*2 ^ i:Nat):Int):=by
 obtain h | h | h | h | h | h | h | h:i=0∨i=1∨i=2∨i=3∨i=4∨i=5∨i=6∨i=7:=by omega
 all_goals subst h; rfl
theorem AH8 {i:Nat} (h:i<8):OS (i:Int)=2 ^ i:=by unfold OS; rw [if_pos (by omega),Int.toNat_natCast]
theorem AGl {i:Nat} (h:i<8):NX (i:Int)=256*2 ^ i:=by unfold NX; rw [if_pos (by omega),Int.toNat_natCast]
theorem ACO {ss:List SumX} {i:Nat} (h:i<ss.length) (h8:ss.length≤8):(fun d=>((Gc ss d (i+1):Nat):Int))=JW (fun d=>((Gc ss d i:Nat):Int)) ss[i].f ss[i].t ((OS (i:Int):Nat):Int):=by
 funext d
 have h1:=NG (ss:=ss) (d:=d) i
 have h2:=OO (i:=i) (by omega)
 rw [JW,Gc,List.getElem?_eq_getElem h,AH8 (by omega)]
 simp -implicitDefEqProofs only []
 by_cases hd:ss[i].f≤d∧d≤ss[i].t
 ·rw [if_pos hd,if_pos hd,Lh (by omega) (by omega)]
 ·rw [if_neg hd,if_neg hd,show (0:Int)=((0:Nat):Int) from rfl,Lh (by omega) (by omega)]
theorem AQC {ss:List SumX} {ps:List PartX} {i:Nat} (h:i<ps.length) (h8:ss.length≤8) (h9:ps.length≤8):(fun d=>((Gg ss ps d (i+1):Nat):Int))=JW (fun d=>((Gg ss ps d i:Nat):Int)) ps[i].f ps[i].t ((NX (i:Int):Nat):Int):=by
 funext d
 have h1:=PJ (ps:=ps) (d:=d) h8 i
 have h2:=UJ (i:=i) (by omega)
 have h3:=OO (i:=i) (by omega)
 rw [JW,Gg,List.getElem?_eq_getElem h,AGl (by omega)]
 simp -implicitDefEqProofs only []
 by_cases hd:ps[i].f≤d∧d≤ps[i].t
 ·rw [if_pos hd,if_pos hd,Lh (by omega) (by omega)]
 ·rw [if_neg hd,if_neg hd,show (0:Int)=((0:Nat):Int) from rfl,Lh (by omega) (by omega)]
def J3 (c:CoreX):List Int:=(List.range (c.t+1-c.f).toNat).map fun (i:Nat)=>((G0 c (c.f+i):Nat):Int)
def Jc (c:CoreX):List Run:=EP c.f (J3 c)
theorem QD {c:CoreX}:(J3 c).length=(c.t+1-c.f).toNat:=by simp [J3]
theorem AIf {c:CoreX} {day:Int} (h7:c.ss.length≤8) (h8:c.ps.length≤8):DataW Try.prog AT2 [F9 c,i64 day] (u64 ((G0 c day:Nat):Int)):=by
 obtain ⟨cur,f,t,ms,ss,ps⟩:=c
 simp -implicitDefEqProofs only [] at h7 h8
 unfold G0
 simp -implicitDefEqProofs only []
 refine Aj AN1 (by simp) ?_
 simp -implicitDefEqProofs -proj only [go_sem,seval]
 refine AI (fun b2 hb2=>?_)
 simp -implicitDefEqProofs -proj only [go_sem,seval,HW]
 refine EN (fun i:Nat=>i≤ss.length) 59 (fun i=>[(1,i64 day),(2,.ptr b2 0),(5,u64 ((Gc ss day i:Nat):Int)),(11,.d (.sl 3 (GL ss))),(12,i64 ss.length),(13,i64 i)]) (fun _=>[(b2,Ea ⟨cur,f,t,ms,ss,ps⟩)]) (fun i=>ss.length-i) 0 (Nat.zero_le _) rfl ?_ ?_ ?_
 ·simp -implicitDefEqProofs -proj only [go_sem,seval,AJ,Gc]
  try rfl
 ·simp -implicitDefEqProofs -proj only [go_sem,seval,AZ]
 ·rintro i hi
  have hk:AZ (Ac [(b2,Ea ⟨cur,f,t,ms,ss,ps⟩)]) [(b2,Ea ⟨cur,f,t,ms,ss,ps⟩)]:=EV (by simp [AP])
  have k2:=hk.1
  by_cases h:i<ss.length
  ·have hel:=Mn h
   have h1:=NG (ss:=ss) (d:=day) i
   have h2:=OO (i:=i) (by omega)
   have hstep:Gc ss day (i+1)=Gc ss day i ||| (if ss[i].f≤day∧day≤ss[i].t then 2 ^ i else 0):=by rw [Gc,List.getElem?_eq_getElem h]
   have hw1:IntKind.u64.wrap (i:Int)=i:=by rw [IntKind.wrap_u64]; omega
   have hw2:=AAO (i:=i) (by omega)
   have hor:MC .u64 ((Gc ss day i:Nat):Int) ((2 ^ i:Nat):Int)=((Gc ss day i ||| 2 ^ i:Nat):Int):=Lh (by omega) (by omega)
   generalize ss[i]=s at *
   generalize Gc ss day i=A at *
   generalize hpw:2 ^ i=p at *
   simp -implicitDefEqProofs -proj only [go_sem,seval,decide_eq_true (show (i:Int)<ss.length by omega)]
   refine Ag _ (by omega) hel ?_
   simp -implicitDefEqProofs -proj only [go_sem,seval]
   refine AI (fun b5 hb5=>?_)
   replace hb5:Ac [(b2,Ea ⟨cur,f,t,ms,ss,ps⟩)] b5=none:=hb5
   obtain ⟨m1,m2⟩:=AK hb5 k2
   by_cases c1:s.f≤day
   ·by_cases c2:day≤s.t
    ·rw [if_pos ⟨c1,c2⟩] at hstep
     simp -implicitDefEqProofs -proj only [go_sem,seval,m1,m2,decide_eq_true c1,decide_eq_true c2,hw1,Int.toNat_natCast,hw2,hor]
     (repeat' (with_reducible refine Ak ?_ (fun h=>?_); (focus first | decide | omega); clear h; try simp -implicitDefEqProofs -proj only [go_sem,seval,Int.toNat_natCast,hw1,hw2,hor]))
     refine AY (i+1) (by omega) (by show ss.length-(i+1)<ss.length-i; omega) rfl ?_ (Ap hb5 hk)
     simp -implicitDefEqProofs -proj only [go_sem,seval,AJ,hstep,AU (show i<9223372036854775807 by omega)]
    ·rw [if_neg (fun k=>c2 k.2),Nat.or_zero] at hstep
     simp -implicitDefEqProofs -proj only [go_sem,seval,m1,m2,decide_eq_true c1,decide_eq_false c2]
     refine AY (i+1) (by omega) (by show ss.length-(i+1)<ss.length-i; omega) rfl ?_ (Ap hb5 hk)
     simp -implicitDefEqProofs -proj only [go_sem,seval,AJ,hstep,AU (show i<9223372036854775807 by omega)]
   ·rw [if_neg (fun k=>c1 k.1),Nat.or_zero] at hstep
    simp -implicitDefEqProofs -proj only [go_sem,seval,m1,m2,decide_eq_false c1]
    refine AY (i+1) (by omega) (by show ss.length-(i+1)<ss.length-i; omega) rfl ?_ (Ap hb5 hk)
    simp -implicitDefEqProofs -proj only [go_sem,seval,AJ,hstep,AU (show i<9223372036854775807 by omega)]
  ·have hi':i=ss.length:=by omega
   subst hi'
   simp -implicitDefEqProofs -proj only [go_sem,seval,k2,HG,decide_eq_false (show ¬(ss.length:Int)<ss.length by omega)]
   refine EN (fun i:Nat=>i≤ps.length) 59 (fun i=>[(1,i64 day),(5,u64 ((Gg ss ps day i:Nat):Int)),(35,.d (.sl 9 (Fw ps))),(36,i64 ps.length),(37,i64 i)]) (fun _=>[(b2,Ea ⟨cur,f,t,ms,ss,ps⟩)]) (fun i=>ps.length-i) 0 (Nat.zero_le _) rfl ?_ ?_ ?_
   ·simp -implicitDefEqProofs -proj only [go_sem,seval,AJ,Gg]
    try rfl
   ·exact hk
   ·rintro i hi
    have k2:=hk.1
    by_cases h:i<ps.length
    ·have hel:=L2 h
     have h1:=PJ (ps:=ps) (d:=day) h7 i
     have h2:=UJ (i:=i) (by omega)
     have hstep:Gg ss ps day (i+1)=Gg ss ps day i ||| (if ps[i].f≤day∧day≤ps[i].t then 256*2 ^ i else 0):=by rw [Gg,List.getElem?_eq_getElem h]
     have hw1:IntKind.u64.wrap (i:Int)=i:=by rw [IntKind.wrap_u64]; omega
     have hw2:=WH (i:=i) (by omega)
     have hp8:=OO (i:=i) (by omega)
     have hor:MC .u64 ((Gg ss ps day i:Nat):Int) ((256*2 ^ i:Nat):Int)=((Gg ss ps day i ||| 256*2 ^ i:Nat):Int):=Lh (by omega) (by omega)
     generalize ps[i]=s at *
     generalize Gg ss ps day i=A at *
     generalize hpw:256*2 ^ i=p at *
     simp -implicitDefEqProofs -proj only [go_sem,seval,decide_eq_true (show (i:Int)<ps.length by omega)]
     refine Ag _ (by omega) hel ?_
     simp -implicitDefEqProofs -proj only [go_sem,seval]
     refine AI (fun b5 hb5=>?_)
     replace hb5:Ac [(b2,Ea ⟨cur,f,t,ms,ss,ps⟩)] b5=none:=hb5
     obtain ⟨m1,m2⟩:=AK hb5 k2
     by_cases c1:s.f≤day
     ·by_cases c2:day≤s.t
      ·rw [if_pos ⟨c1,c2⟩] at hstep
       simp -implicitDefEqProofs -proj only [go_sem,seval,m1,m2,decide_eq_true c1,decide_eq_true c2,hw1,Int.toNat_natCast,hw2,hor]
       (repeat' (with_reducible refine Ak ?_ (fun h=>?_); (focus first | decide | omega); clear h; try simp -implicitDefEqProofs -proj only [go_sem,seval,Int.toNat_natCast,hw1,hw2,hor]))
       refine AY (i+1) (by omega) (by show ps.length-(i+1)<ps.length-i; omega) rfl ?_ (Ap hb5 hk)
       simp -implicitDefEqProofs -proj only [go_sem,seval,AJ,hstep,AU (show i<9223372036854775807 by omega)]
      ·rw [if_neg (fun k=>c2 k.2),Nat.or_zero] at hstep
       simp -implicitDefEqProofs -proj only [go_sem,seval,m1,m2,decide_eq_true c1,decide_eq_false c2]
       refine AY (i+1) (by omega) (by show ps.length-(i+1)<ps.length-i; omega) rfl ?_ (Ap hb5 hk)
       simp -implicitDefEqProofs -proj only [go_sem,seval,AJ,hstep,AU (show i<9223372036854775807 by omega)]
     ·rw [if_neg (fun k=>c1 k.1),Nat.or_zero] at hstep
      simp -implicitDefEqProofs -proj only [go_sem,seval,m1,m2,decide_eq_false c1]
      refine AY (i+1) (by omega) (by show ps.length-(i+1)<ps.length-i; omega) rfl ?_ (Ap hb5 hk)
      simp -implicitDefEqProofs -proj only [go_sem,seval,AJ,hstep,AU (show i<9223372036854775807 by omega)]
    ·have hi':i=ps.length:=by omega
     subst hi'
     simp -implicitDefEqProofs -proj only [go_sem,seval,decide_eq_false (show ¬(ps.length:Int)<ps.length by omega)]
     exact AM rfl
theorem UR {c:CoreX} (hft:c.f≤c.t):FwdOK (fun d=>((G0 c d:Nat):Int)) c.f (c.t+1) (Jc c):=by
 have h:=I0 c.f (J3 c)
 rw [QD,show c.f+(((c.t+1-c.f).toNat:Nat):Int)=c.t+1 by omega] at h
 refine h.congr fun x h1 h2=>?_
 unfold Hs
 rw [List.getD_eq_getElem?_getD,List.getElem?_eq_getElem (by rw [QD]; omega)]
 simp -implicitDefEqProofs only [J3,List.getElem_map,List.getElem_range,Option.getD_some]
 rw [show c.f+(((x-c.f).toNat:Nat):Int)=x by omega]
def E9 (val:Int→Int) (f:Int):Nat→List Int
 | 0=>[]
 | i+1=>if val (f+1+i)=val (f+i) then E9 val f i else E9 val f i++[f+1+i]
theorem UV {val val':Int→Int} {f:Int}:∀{n:Nat},(∀i:Nat,i≤n→val (f+i)=val' (f+i))→E9 val f n=E9 val' f n
 | 0,_=>rfl
 | n+1,h=>by
  rw [E9,E9,UV (n:=n) (fun i hi=>h i (by omega))]
  have h1:=h n (by omega)
  have h2:=h (n+1) (by omega)
  rw [show f+((n+1:Nat):Int)=f+1+n by omega] at h2
  rw [h1,h2]
theorem SG {f:Int} {l:List Int}:∀{i:Nat},i<l.length→(Gh f l (i+1)).map (·.f)=f::E9 (Hs f l) f i
 | 0,h=>by simp [Gh,E6,E9]
 | i+1,h=>by
  have ih:=SG (i:=i) (f:=f) (l:=l) (by omega)
  obtain ⟨q,h1,h2,h3⟩:=Uz (f:=f) (l:=l) (i:=i)
  have hne:Gh f l (i+1)≠[]:=fun e=>by rw [e] at h1; simp at h1
  have hv:Hs f l (f+i)=q.v:=by unfold Hs; rw [h2,show (f+(i:Int)-f).toNat=i by omega]
  have hv2:Hs f l (f+1+i)=l.getD (i+1) 0:=by unfold Hs; rw [show (f+1+(i:Int)-f).toNat=i+1 by omega]
  rw [Gh,E9,hv,hv2]
  generalize Gh f l (i+1)=R at *
  rw [E6,h1]
  simp -implicitDefEqProofs only []
  by_cases he:q.v=l.getD (i+1) 0
  ·rw [if_pos he,if_pos he.symm,←ih]
   obtain ⟨dl,hd⟩:=List.getLast?_eq_some_iff.1 h1
   subst hd
   simp
  ·rw [if_neg he,if_neg (fun e=>he e.symm),List.map_append,ih]
   simp -implicitDefEqProofs only [List.map_cons,List.map_nil,List.cons_append]
   rw [show f+((i+1:Nat):Int)=f+1+i by omega]
theorem AAi {c:CoreX} (hft:c.f≤c.t):(Jc c).map (·.f)=c.f::E9 (fun d=>((G0 c d:Nat):Int)) c.f (c.t-c.f).toNat:=by
 have hl:=@QD c
 have h:=SG (f:=c.f) (l:=J3 c) (i:=(c.t-c.f).toNat) (by omega)
 unfold Jc EP
 rw [show (J3 c).length=(c.t-c.f).toNat+1 by omega,h]
 congr 1
 refine UV fun i hi=>?_
 unfold Hs
 rw [show (c.f+(i:Int)-c.f).toNat=i by omega,List.getD_eq_getElem?_getD,List.getElem?_eq_getElem (by omega)]
 simp [J3]
theorem Sm {val:Int→Int} {f a b m:Int}:∀n:Nat,(E9 (JW val a b m) f n).length≤(E9 val f n).length+(if a≤f+n then 1 else 0)+(if b<f+n then 1 else 0)
 | 0=>by simp [E9]
 | n+1=>by
  have ih:=Sm (val:=val) (f:=f) (a:=a) (b:=b) (m:=m) n
  rw [E9,E9]
  have e:f+((n+1:Nat):Int)=f+1+n:=by omega
  rw [e]
  by_cases h1:JW val a b m (f+1+n)=JW val a b m (f+n)
  ·rw [if_pos h1]
   split <;> (try rw [List.length_append,List.length_singleton]) <;> split <;> split <;> split at ih <;> split at ih <;> omega
  ·rw [if_neg h1,List.length_append,List.length_singleton]
   by_cases h2:val (f+1+n)=val (f+n)
   ·rw [if_pos h2]
    have h3:(if a≤f+1+n∧f+1+n≤b then m else 0)≠(if a≤f+n∧f+n≤b then m else 0):=fun k=>h1 (by unfold JW; rw [h2,k])
    have h4:¬(a≤f+1+n∧f+1+n≤b∧a≤f+n∧f+n≤b):=fun k=>h3 (by rw [if_pos ⟨k.1,k.2.1⟩,if_pos ⟨k.2.2.1,k.2.2.2⟩])
    have h5:¬(¬(a≤f+1+n∧f+1+n≤b)∧¬(a≤f+n∧f+n≤b)):=fun k=>h3 (by rw [if_neg k.1,if_neg k.2])
    split <;> split <;> split at ih <;> split at ih <;> omega
   ·rw [if_neg h2,List.length_append,List.length_singleton]
    split <;> split <;> split at ih <;> split at ih <;> omega
theorem T7 {val:Int→Int} {f a b m:Int} (n:Nat):(E9 (JW val a b m) f n).length≤(E9 val f n).length+2:=by
 have:=Sm (val:=val) (f:=f) (a:=a) (b:=b) (m:=m) n
 split at this <;> split at this <;> omega
theorem Rq {v f:Int}:∀n:Nat,E9 (fun _=>v) f n=[]
 | 0=>rfl
 | n+1=>by rw [E9,if_pos rfl,Rq]
theorem TR {ss:List SumX} {f:Int} {n:Nat} (h8:ss.length≤8):∀i:Nat,i≤ss.length→(E9 (fun d=>((Gc ss d i:Nat):Int)) f n).length≤2*i
 | 0,_=>by
  show (E9 (fun _=>((0:Nat):Int)) f n).length≤0
  rw [Rq]; simp
 | i+1,h=>by
  have ih:=TR (ss:=ss) (f:=f) (n:=n) h8 i (by omega)
  rw [ACO (by omega) h8]
  have:=T7 (val:=fun d=>((Gc ss d i:Nat):Int)) (f:=f) (a:=(ss[i]'(by omega)).f) (b:=(ss[i]'(by omega)).t) (m:=((OS (i:Int):Nat):Int)) n
  omega
theorem Ta {ss:List SumX} {ps:List PartX} {f:Int} {n:Nat} (h8:ss.length≤8) (h9:ps.length≤8):∀i:Nat,i≤ps.length→(E9 (fun d=>((Gg ss ps d i:Nat):Int)) f n).length≤2*(ss.length+i)
 | 0,_=>TR h8 ss.length (Nat.le_refl _)
 | i+1,h=>by
  have ih:=Ta (ss:=ss) (ps:=ps) (f:=f) (n:=n) h8 h9 i (by omega)
  rw [AQC (by omega) h8 h9]
  have:=T7 (val:=fun d=>((Gg ss ps d i:Nat):Int)) (f:=f) (a:=(ps[i]'(by omega)).f) (b:=(ps[i]'(by omega)).t) (m:=((NX (i:Int):Nat):Int)) n
  omega
theorem AMh {c:CoreX} (h8:c.ss.length≤8) (h9:c.ps.length≤8) (n:Nat):(E9 (fun d=>((G0 c d:Nat):Int)) c.f n).length≤2*(c.ss.length+c.ps.length):=Ta h8 h9 c.ps.length (Nat.le_refl _)
structure Grp where
 f:Int
 v:Int
 w:Int
 r:Int
 c:Int
 deriving DecidableEq
def FT (w r:Int) (a:Run):List Run→Nat
 | []=>0
 | b::l=>if b.f-a.f=w∧b.v-a.v=r then FT w r b l+1 else 0
theorem Sq {w r:Int}:∀{l:List Run} {a:Run},FT w r a l≤l.length
 | [],a=>Nat.le_refl _
 | b::l,a=>by
  rw [FT]
  split
  ·have:=@Sq w r l b
   simp -implicitDefEqProofs only [List.length_cons]; omega
  ·omega
def Eh (a:Run):List Run→Grp×Nat
 | []=>(⟨a.f,a.v,0,0,1⟩,1)
 | b::l=>(⟨a.f,a.v,b.f-a.f,b.v-a.v,((FT (b.f-a.f) (b.v-a.v) a (b::l)+1:Nat):Int)⟩,FT (b.f-a.f) (b.v-a.v) a (b::l)+1)
theorem KM {a:Run} {l:List Run}:1≤(Eh a l).2∧(Eh a l).2≤l.length+1∧(Eh a l).1.c=(Eh a l).2:=by
 cases l with
 | nil=>exact ⟨Nat.le_refl _,Nat.le_refl _,rfl⟩
 | cons b l =>
  have:=@Sq (b.f-a.f) (b.v-a.v) (b::l) a
  exact ⟨by show 1≤FT _ _ _ _+1; omega,by show FT _ _ _ _+1≤_; omega,rfl⟩
def LI:Nat→List Run→List Grp
 | 0,_=>[]
 | _+1,[]=>[]
 | n+1,a::l=>(Eh a l).1::LI n ((a::l).drop (Eh a l).2)
def Gr (R:List Run):List Grp:=LI R.length R
theorem Pw:∀{n:Nat} {R:List Run},R.length≤n→LI n R=LI R.length R
 | 0,[],_=>rfl
 | n+1,[],_=>rfl
 | n+1,a::l,h=>by
  obtain ⟨h1,h2,_⟩:=@KM a l
  have hl:((a::l).drop (Eh a l).2).length≤l.length:=by rw [List.length_drop]; simp -implicitDefEqProofs only [List.length_cons]; omega
  simp -implicitDefEqProofs only [List.length_cons] at h
  rw [List.length_cons,LI,LI,Pw (n:=n) (by omega),Pw (n:=l.length) hl]
theorem Mv {a:Run} {l:List Run}:Gr (a::l)=(Eh a l).1::Gr ((a::l).drop (Eh a l).2):=by
 obtain ⟨h1,h2,_⟩:=@KM a l
 have hl:((a::l).drop (Eh a l).2).length≤l.length:=by rw [List.length_drop]; simp -implicitDefEqProofs only [List.length_cons]; omega
 unfold Gr
 rw [List.length_cons,LI,Pw (n:=l.length) hl]
theorem RK:Gr []=[]:=rfl
theorem Rd:∀{n:Nat} {R:List Run},R.length≤n→(Gr R).length≤R.length
 | _,[],_=>Nat.le_refl _
 | 0,a::l,h=>absurd h (by simp)
 | n+1,a::l,h=>by
  obtain ⟨h1,h2,_⟩:=@KM a l
  simp -implicitDefEqProofs only [List.length_cons] at h
  have hl:((a::l).drop (Eh a l).2).length≤l.length:=by rw [List.length_drop]; simp -implicitDefEqProofs only [List.length_cons]; omega
  have:=Rd (n:=n) (R:=(a::l).drop (Eh a l).2) (by omega)
  rw [Mv]
  simp -implicitDefEqProofs only [List.length_cons]
  omega
def IE (g:Grp) (q:Int):Int:=if g.w<1 then g.v else g.v+min ((q-g.f).tdiv g.w) (g.c-1)*g.r
def Gb:List Grp→Int→Option Int
 | [],_=>none
 | g::G,q=>match Gb G q with
  | some v=>some v
  | none=>if g.f≤q then some (IE g q) else none
theorem Rx {w r:Int}:∀{l:List Run} {a:Run} (j:Nat),j<FT w r a l→∃h:j<l.length,l[j].f=a.f+(j+1)*w∧l[j].v=a.v+(j+1)*r
 | [],a,j,h=>absurd h (Nat.not_lt_zero _)
 | b::l,a,j,h=>by
  rw [FT] at h
  split at h
  ·next hc =>
   cases j with
   | zero=>exact ⟨by simp,by simp -implicitDefEqProofs only [List.getElem_cons_zero]; omega,by simp -implicitDefEqProofs only [List.getElem_cons_zero]; omega⟩
   | succ j =>
    obtain ⟨g1,g2,g3⟩:=Rx (w:=w) (r:=r) (l:=l) (a:=b) j (by omega)
    refine ⟨by simpa using g1,?_,?_⟩
    ·simp -implicitDefEqProofs only [List.getElem_cons_succ]
     rw [g2,show (((j+1:Nat):Int)+1)*w=((j:Int)+1)*w+w by rw [Int.add_mul ((j+1:Nat):Int),Int.one_mul]; rfl]
     omega
    ·simp -implicitDefEqProofs only [List.getElem_cons_succ]
     rw [g3,show (((j+1:Nat):Int)+1)*r=((j:Int)+1)*r+r by rw [Int.add_mul ((j+1:Nat):Int),Int.one_mul]; rfl]
     omega
  ·omega
theorem PW {a:Run} {l:List Run} (j:Nat) (hj:j<(Eh a l).2):∃h:j<(a::l).length,(a::l)[j].f=(Eh a l).1.f+j*(Eh a l).1.w∧(a::l)[j].v=(Eh a l).1.v+j*(Eh a l).1.r:=by
 cases l with
 | nil =>
  have:j=0:=by simp -implicitDefEqProofs only [Eh] at hj; omega
  subst this
  exact ⟨by simp,by simp [Eh],by simp [Eh]⟩
 | cons b l =>
  cases j with
  | zero=>exact ⟨by simp,by simp [Eh],by simp [Eh]⟩
  | succ j =>
   simp -implicitDefEqProofs only [Eh] at hj
   obtain ⟨g1,g2,g3⟩:=Rx (w:=b.f-a.f) (r:=b.v-a.v) (l:=b::l) (a:=a) j (by omega)
   exact ⟨by simpa using g1,by simpa [Eh] using g2,by simpa [Eh] using g3⟩
theorem Tb {val:Int→Int} {lo hi:Int} {a:Run} {l:List Run} (h:FwdOK val lo hi (a::l)):(l=[]∧(Eh a l).1.w=0∧(Eh a l).1.r=0∧(Eh a l).2=1)∨(l≠[]∧1≤(Eh a l).1.w∧(Eh a l).1.r≠0∧2≤(Eh a l).2):=by
 cases l with
 | nil=>exact .inl ⟨rfl,rfl,rfl,rfl⟩
 | cons b l =>
  obtain ⟨g1,g2,g3,g4,g5⟩:=h
  refine .inr ⟨by simp,?_,?_,?_⟩
  ·show 1≤b.f-a.f
   have:=g5.1
   omega
  ·show b.v-a.v≠0
   have:=g4 b (by simp)
   omega
  ·show 2≤FT _ _ _ _+1
   rw [FT,if_pos ⟨rfl,rfl⟩]
   omega
theorem FwdOK.drop {val:Int→Int} {hi:Int}:∀{R:List Run} {lo:Int} (k:Nat),FwdOK val lo hi R→k≤R.length→∃m,FwdOK val m hi (R.drop k)∧lo+k≤m∧(∀q,lo≤q→q<m→∃(j:Nat) (h:j<R.length),j<k∧R[j].f≤q∧q≤R[j].t∧val q=R[j].v∧(∀(h2:j+1<R.length),q<R[j+1].f))
 | R,lo,0,h,_=>⟨lo,h,by omega,fun q h1 h2=>by omega⟩
 | [],lo,k+1,h,hk=>absurd hk (by simp)
 | a::R,lo,k+1,⟨g1,g2,g3,g4,g5⟩,hk=>by
  obtain ⟨m,k1,k2,k3⟩:=FwdOK.drop k g5 (by simpa using hk)
  refine ⟨m,k1,by omega,fun q h1 h2=>?_⟩
  by_cases hq:q≤a.t
  ·refine ⟨0,by simp,by omega,by simpa using (by omega),by simpa using hq,by simpa using g3 q (by omega) hq,fun h3=>?_⟩
   cases R with
   | nil=>simp at h3
   | cons b R =>
    have:=g5.1
    simp -implicitDefEqProofs only [List.getElem_cons_succ,List.getElem_cons_zero]
    omega
  ·obtain ⟨j,j1,j2,j3,j4,j5,j6⟩:=k3 q (by omega) h2
   exact ⟨j+1,by simpa using j1,by omega,by simpa using j3,by simpa using j4,by simpa using j5,fun h3=>by simpa using j6 (by simpa using h3)⟩
theorem AIO {x w:Int} {j:Nat} (hw:1≤w) (h0:(j:Int)*w≤x):(j:Int)≤x.tdiv w∧(x<(j+1)*w→x.tdiv w=j):=by
 have hx:0≤x:=Int.le_trans (Int.mul_nonneg (by omega) (by omega)) h0
 rw [Int.tdiv_eq_ediv_of_nonneg hx]
 refine ⟨Int.le_ediv_of_mul_le (by omega) h0,fun h1=>?_⟩
 have h2:=Int.le_ediv_of_mul_le (show 0<w by omega) h0
 have h3:=Int.ediv_lt_of_lt_mul (show 0<w by omega) h1
 omega
theorem SR {val:Int→Int} {hi:Int}:∀(n:Nat) {R:List Run} {lo:Int},R.length≤n→FwdOK val lo hi R→∀q,(q<lo→Gb (Gr R) q=none)∧(lo≤q→q<hi→Gb (Gr R) q=some (val q))
 | _,[],lo,_,h,q=>⟨fun _=>rfl,fun h1 h2=>by have:lo=hi:=h; omega⟩
 | 0,a::l,lo,hn,h,q=>absurd hn (by simp)
 | n+1,a::l,lo,hn,h,q=>by
  obtain ⟨h1,h2,hc⟩:=@KM a l
  simp -implicitDefEqProofs only [List.length_cons] at hn
  obtain ⟨m,k1,k2,k3⟩:=FwdOK.drop (Eh a l).2 h (by simp -implicitDefEqProofs only [List.length_cons]; omega)
  have hl:((a::l).drop (Eh a l).2).length≤n:=by rw [List.length_drop]; simp -implicitDefEqProofs only [List.length_cons]; omega
  obtain ⟨i1,i2⟩:=SR n hl k1 q
  have hgf:(Eh a l).1.f=lo:=by
   have:=h.1
   cases l <;> exact this
  have hgv:(Eh a l).1.v=a.v:=by cases l <;> rfl
  rw [Mv,Gb,hgf]
  refine ⟨fun hq=>?_,fun hq hq2=>?_⟩
  ·rw [i1 (by omega)]
   simp -implicitDefEqProofs only []
   rw [if_neg (by omega)]
  ·by_cases hm:m≤q
   ·rw [i2 hm hq2]
   ·rw [i1 (by omega)]
    simp -implicitDefEqProofs only []
    rw [if_pos hq]
    congr 1
    obtain ⟨j,j1,j2,j3,j4,j5,j6⟩:=k3 q hq (by omega)
    obtain ⟨e1,e2,e3⟩:=PW (a:=a) (l:=l) j j2
    rw [j5,e3]
    unfold IE
    rcases Tb h with ⟨w0,w1,w2,w3⟩ | ⟨w0,w1,w2,w3⟩
    ·rw [if_pos (by omega),w2,Int.mul_zero,Int.add_zero]
    ·rw [if_neg (by omega),hc,hgf]
     rw [hgf] at e2
     congr 2
     obtain ⟨d1,d2⟩:=AIO (x:=q-lo) (w:=(Eh a l).1.w) (j:=j) w1 (by omega)
     by_cases hj:j+1<(Eh a l).2
     ·obtain ⟨f1,f2,f3⟩:=PW (a:=a) (l:=l) (j+1) hj
      have:=j6 (by omega)
      rw [f2,hgf,show (((j+1:Nat):Int))=(j:Int)+1 from rfl] at this
      rw [d2 (by omega)]
      omega
     ·omega
def IJ (r:Run):Prop:=r.v < -2305843009213693952∨2305843009213693952<r.v
instance (r:Run):Decidable (IJ r):=by unfold IJ; exact inferInstance
theorem AKj (r:Run):DataW Try.prog AVF [r.av] (bv (decide (IJ r))):=by
 refine Aj ABR (by simp) ?_
 simp -implicitDefEqProofs -proj only [go_sem,seval]
 refine AI (fun b hb=>?_)
 by_cases h1:r.v < -2305843009213693952
 ·simp -implicitDefEqProofs -proj only [go_sem,seval,decide_eq_true h1]
  exact AM (by rw [decide_eq_true (show IJ r from .inl h1)])
 ·by_cases h2:2305843009213693952<r.v
  ·simp -implicitDefEqProofs -proj only [go_sem,seval,decide_eq_false h1,decide_eq_true h2]
   exact AM (by rw [decide_eq_true (show IJ r from .inr h2)])
  ·simp -implicitDefEqProofs -proj only [go_sem,seval,decide_eq_false h1,decide_eq_false h2]
   exact AM (by rw [decide_eq_false (show ¬IJ r by unfold IJ; omega)])
def K4 (p:Run→Bool) (l:List Run):Int:=match l.findIdx? p with
 | some i=>i
 | none=>-1
theorem AVK {l:List Run} {f:FuncId} {p:Run→Bool} (hf:∀r:Run,DataW Try.prog f [r.av] (bv (p r))) (hl:l.length≤1000000):DataW Try.prog WM [Gm l,.fn f []] (i64 (K4 p l)):=by
 refine Aj ATJ (by simp) ?_
 simp -implicitDefEqProofs -proj only [go_sem,seval,rowR_len]
 refine EN (fun i:Nat=>i≤l.length∧∀(j:Nat) (h:j<l.length),j<i→p l[j]=false) 19 (fun i=>[(0,Gm l),(1,.fn f []),(7,i64 l.length),(8,i64 i)]) (fun _=>[]) (fun i=>l.length-i) 0 ⟨Nat.zero_le _,fun j _ h=>absurd h (Nat.not_lt_zero _)⟩ rfl ?_ ?_ ?_
 ·simp -implicitDefEqProofs -proj only [go_sem,seval,AJ]
 ·trivial
 ·rintro i ⟨hi,hs⟩
  by_cases h:i<l.length
  ·have hel:=Jt h
   have hff:=hf l[i]
   have hstep:p l[i]=false→∀(j:Nat) (h:j<l.length),j<i+1→p l[j]=false:=by
    intro e j h1 h2
    by_cases hj:j=i
    ·subst hj; exact e
    ·exact hs j h1 (by omega)
   have hfound:p l[i]=true→K4 p l=i:=by
    intro e
    unfold K4
    rw [List.findIdx?_eq_some_iff_getElem.2 ⟨h,e,fun j hj=>by simpa using hs j (by omega) hj⟩]
   generalize l[i]=r at *
   simp -implicitDefEqProofs -proj only [go_sem,seval,decide_eq_true (show (i:Int)<l.length by omega)]
   refine Ag _ (by omega) hel ?_
   simp -implicitDefEqProofs -proj only [go_sem,seval]
   refine AL hff ?_
   cases hp:p r
   ·simp -implicitDefEqProofs -proj only [go_sem,seval]
    refine AY (i+1) ⟨by omega,hstep hp⟩ (by omega) rfl ?_ trivial
    simp -implicitDefEqProofs -proj only [go_sem,seval,AJ,AU (show i<9223372036854775807 by omega)]
   ·simp -implicitDefEqProofs -proj only [go_sem,seval]
    exact AM (by rw [hfound hp])
  ·have hi':i=l.length:=by omega
   subst hi'
   simp -implicitDefEqProofs -proj only [go_sem,seval,decide_eq_false (show ¬(l.length:Int)<l.length by omega)]
   have:K4 p l = -1:=by
    unfold K4
    rw [List.findIdx?_eq_none_iff.2 fun x hx=>?_]
    obtain ⟨j,hj,rfl⟩:=List.getElem_of_mem hx
    exact hs j hj hj
   exact AM (by rw [this])
theorem ARa {l:List Run} {f:FuncId} {p:Run→Bool} (hf:∀r:Run,DataW Try.prog f [r.av] (bv (p r))) (hl:l.length≤1000000):DataW Try.prog ANT [Gm l,.fn f []] (bv (l.any p)):=by
 refine Aj Vh (by simp) ?_
 have h:=AVK hf hl
 simp -implicitDefEqProofs -proj only [go_sem,seval]
 refine AL h ?_
 have hd:decide (0≤K4 p l)=l.any p:=by
  unfold K4
  cases hh:l.findIdx? p with
  | none =>
   have:=List.findIdx?_eq_none_iff.1 hh
   simp -implicitDefEqProofs only []
   rw [show l.any p=false from List.any_eq_false.2 fun x hx=>by rw [this x hx]; simp]
   decide
  | some i =>
   obtain ⟨h1,h2,_⟩:=List.findIdx?_eq_some_iff_getElem.1 hh
   rw [show l.any p=true from List.any_eq_true.2 ⟨_,List.getElem_mem h1,h2⟩]
   simp
 simp -implicitDefEqProofs -proj only [go_sem,seval,hd]
 exact AM rfl
structure SeqX where
 c:Nat
 cap:Nat
 R:List Run
theorem Nk {c cap:Nat} {R:List Run}:(SeqX.mk c cap R).c=c:=(rfl)
theorem Np {c cap:Nat} {R:List Run}:(SeqX.mk c cap R).cap=cap:=(rfl)
theorem Kr {c cap:Nat} {R:List Run}:(SeqX.mk c cap R).R=R:=(rfl)
def LL (b2:Nat) (rest:List (Nat×Blk)) (y:SeqX):List (Nat×Blk):=BD 147 3 y.c y.cap (Ew y.R)++((b2,.box 119 [EU 0 3 y.c y.cap (Ew y.R)])::rest)
theorem AF5 {H:Heap} {f:FuncId} {caps:List AV} {bl:List (Nat×Blk)} {l:List Run} (hit:L6 Try.prog f caps bl (JJ l)) (rest:List (Nat×Blk)) (hbl:∀p∈bl,p∈rest) (hrest:AZ H rest) (hnd:(AP rest).Nodup) (hl:l.length≤1000000) :
  CallW Try.prog Yh [.nilsl 0,.fn f caps] H fun r H'=>∃c cap,r=EU 0 3 c cap (Ew l)∧AZ H' (BD 147 3 c cap (Ew l)++rest)∧(AP (BD 147 3 c cap (Ew l)++rest)).Nodup:=by
 refine Aj ADg (by simp) ?_
 simp -implicitDefEqProofs -proj only [go_sem,seval]
 refine AI (fun b2 hb2=>?_)
 have a2:=HU (x:=.box 119 [.nilsl 0]) hb2 hrest
 have n2:=HT (x:=.box 119 [.nilsl 0]) hb2 hrest hnd
 simp -implicitDefEqProofs -proj only [go_sem,seval]
 refine ASz [(2,.ptr b2 0)] (fun pre y=>y.R=l.take pre.length∧(AP (LL b2 rest y)).Nodup) (LL b2 rest) ⟨0,0,[]⟩ hit (by simp -implicitDefEqProofs -proj only [go_sem,seval]) rfl (by simp) (by simp -implicitDefEqProofs -proj only [go_sem,seval,AJ]) ?_ ⟨by simp,n2⟩ a2 ?_ ?_
 ·intro pre y _ p hp
  exact List.mem_append.2 (.inr (List.mem_cons_of_mem _ (hbl p hp)))
 ·rintro pre v post ⟨c,cap,R⟩ hxs ⟨hR,hn⟩
  obtain ⟨hlt,rfl,hpre⟩:=ARL hxs
  have hall:=EV hn
  simp -implicitDefEqProofs only [Kr] at hR
  have hRl:R.length=pre.length:=by rw [hR,List.length_take]; omega
  obtain ⟨H1,hH⟩:∃H1,Ac (LL b2 rest ⟨c,cap,R⟩)=H1:=⟨_,rfl⟩
  rw [hH] at hall ⊢
  simp -implicitDefEqProofs only [LL,Nk,Np,Kr] at hall hn
  obtain ⟨hrow,h2,_⟩:=EQ.1 hall
  have htk:l.take (pre.length+1)=R++[l[pre.length]]:=by rw [List.take_succ_eq_append_getElem hlt,hR]
  generalize l[pre.length]=r at *
  simp -implicitDefEqProofs -proj only [go_sem,seval]
  refine AI (fun b6 hb6=>?_)
  replace hb6:H1 b6=none:=hb6
  obtain ⟨p1,p2⟩:=AK hb6 h2
  simp -implicitDefEqProofs -proj only [go_sem,seval,p1,h2]
  refine EO (fun bs hs'=>?_)
  replace hs':upd H1 b6 _ bs=none:=hs'
  simp -implicitDefEqProofs -proj only [go_sem,seval]
  refine FX (xs:=Ew R) (y:=r.el) (t:=147) (capc:=1) ((b2,.box 119 [EU 0 3 c cap (Ew R)])::rest) rfl (Ap hs' (Ap hb6 hall)) hn (by simp -implicitDefEqProofs -proj only [go_sem,seval]; rfl) (by rw [rowR_len]; omega) (by rw [rowR_len]; omega) (fun H' c' cap' ha hk=>?_)
  obtain ⟨hrow',hbox⟩:=EQ.1 ha
  simp -implicitDefEqProofs -proj only [go_sem,seval,hbox.1]
  rw [TW] at hrow' hk ha
  refine AFI ⟨c',cap',R++[r]⟩ ⟨by simp -implicitDefEqProofs only [Kr,List.length_append,List.length_singleton]; exact htk.symm,?_⟩ ?_
  ·simpa only [AP,LL,Nk,Np,Kr,List.map_append,List.map_cons,List.map_nil] using hk
  ·have hne:Ew (R++[r])≠[]:=by simp [Ew]
   refine EQ.2 ⟨?_,?_⟩
   ·refine Fk hrow' ?_
    simp -implicitDefEqProofs only [AP,List.map_append,List.nodup_append,List.map_cons,List.map_nil,List.mem_cons] at hk
    exact fun hm=>hk.2.2 _ hm _ (.inl rfl) rfl
   ·have:=UM (x':=.box 119 [.own c' 3 0 ((Ew R).length+1) cap']) hbox (by simp -implicitDefEqProofs only [AP,List.map_append,List.nodup_append] at hk ⊢; exact hk.2.1)
    simp -implicitDefEqProofs only [Nk,Np,Kr,Eg hne,show (Ew (R++[r])).length=(Ew R).length+1 by simp [Ew]]
    exact this
 ·rintro ⟨c,cap,R⟩ ⟨hR,hn⟩
  have hall:=EV hn
  simp -implicitDefEqProofs only [Kr] at hR
  obtain ⟨H1,hH⟩:∃H1,Ac (LL b2 rest ⟨c,cap,R⟩)=H1:=⟨_,rfl⟩
  rw [hH] at hall ⊢
  simp -implicitDefEqProofs only [LL,Nk,Np,Kr] at hall hn
  obtain ⟨hrow,h2,hr2⟩:=EQ.1 hall
  rw [List.length_map,List.take_length] at hR
  subst hR
  simp -implicitDefEqProofs -proj only [go_sem,seval,h2]
  refine ⟨c,cap,rfl,EQ.2 ⟨hrow,hr2⟩,?_⟩
  simp -implicitDefEqProofs only [AP,List.map_append,List.nodup_append,List.map_cons,List.nodup_cons,List.mem_cons] at hn ⊢
  exact ⟨hn.1,hn.2.1.2,fun a ha b hb=>hn.2.2 a ha b (.inr hb)⟩
theorem NZ {k:Nat}:∀{l:List (Nat×Blk)},Ac l k≠none→k∈AP l
 | [],h=>absurd rfl h
 | (b,x)::l,h=>by
  rw [Av] at h
  by_cases e:k=b
  ·exact List.mem_cons.2 (.inl e)
  ·rw [if_neg e] at h
   exact List.mem_cons_of_mem _ (NZ h)
theorem AE1 {H:Heap} {f:FuncId} {caps:List AV} {bl:List (Nat×Blk)} {l:List Run} (hit:L6 Try.prog f caps bl (JJ l)) (rest:List (Nat×Blk)) (hbl:∀p∈bl,p∈rest) (hrest:AZ H rest) (hnd:(AP rest).Nodup) (hl:l.length≤1000000) :
  CallW Try.prog Zj [.fn f caps] H fun r H'=>r=Gm l∧AZ H' rest:=by
 have hA:=CallW.froze (v:=Gm l) (K:=fun H'=>AZ H' rest) (CallW.mono (AF5 hit rest hbl hrest hnd hl) fun r H' ⟨c,cap,hr,ha,hk⟩=>by
  subst hr
  have hk1:(AP (BD 147 3 c cap (Ew l))).Nodup:=by simp -implicitDefEqProofs only [AP,List.map_append,List.nodup_append] at hk; exact hk.1
  refine ⟨Ac (BD 147 3 c cap (Ew l)),Ac rest,J1 (EQ.1 ha).1,fun k=>?_,KL (EV hk1) Q7,EV hnd⟩
  rcases J1 (EQ.1 ha).2 k with e | e
  ·exact .inl e
  ·by_cases hr:Ac rest k=none
   ·exact .inl hr
   ·refine .inr ⟨e,?_⟩
    by_cases e1:Ac (BD 147 3 c cap (Ew l)) k=none
    ·exact e1
    ·simp -implicitDefEqProofs only [AP,List.map_append,List.nodup_append] at hk
     exact absurd rfl (hk.2.2 k (NZ e1) k (NZ hr)))
 refine Aj AMu (by simp) ?_
 simp -implicitDefEqProofs -proj only [go_sem,seval]
 refine Fm hA ?_
 rintro r H' ⟨rfl,h⟩
 simp -implicitDefEqProofs -proj only [go_sem,seval]
 exact h
def Grp.el (g:Grp):List D:=[.int .i64 g.f,.int .i64 g.v,.int .i64 g.w,.int .i64 g.r,.int .i64 g.c]
abbrev Grp.av (g:Grp):AV:=.agg [i64 g.f,i64 g.v,i64 g.w,i64 g.r,i64 g.c]
def If (r:Run):Prop:=(0≤r.f∧r.f≤3000)∧(-2305843009213693952≤r.v∧r.v≤2305843009213693952)
theorem Pd {w r:Int} {S:List Run} {c:Nat} (h0:0<c) (h:c<S.length):FT w r (S[c-1]'(by omega)) (S.drop c)=if S[c].f-(S[c-1]'(by omega)).f=w∧S[c].v-(S[c-1]'(by omega)).v=r then FT w r S[c] (S.drop (c+1))+1 else 0:=by
 rw [List.drop_eq_getElem_cons h,FT]
theorem UH {S:List Run} (h:1<S.length):Eh (S[0]'(by omega)) (S.drop 1)=(⟨(S[0]'(by omega)).f,(S[0]'(by omega)).v,S[1].f-(S[0]'(by omega)).f,S[1].v-(S[0]'(by omega)).v,((FT (S[1].f-(S[0]'(by omega)).f) (S[1].v-(S[0]'(by omega)).v) (S[0]'(by omega)) (S.drop 1)+1:Nat):Int)⟩,FT (S[1].f-(S[0]'(by omega)).f) (S[1].v-(S[0]'(by omega)).v) (S[0]'(by omega)) (S.drop 1)+1):=by
 match S,h with
 | a::b::l,_=>rfl
set_option maxRecDepth 20000 in
theorem AGJ {S:List Run} (h0:0<S.length) (hb:∀r∈S,If r) (hl:S.length≤3000):DataW Try.prog AGc [Gm S] (.tup [(Eh S[0] (S.drop 1)).1.av,i64 (Eh S[0] (S.drop 1)).2]):=by
 refine Aj AOW (by simp) ?_
 have e0:=Jt h0
 have b0:=hb _ (List.getElem_mem h0)
 by_cases h1:S.length=1
 ·have hg:Eh S[0] (S.drop 1)=(⟨S[0].f,S[0].v,0,0,1⟩,1):=by rw [List.drop_eq_nil_of_le (by omega)]; rfl
  rw [hg]
  generalize S[0]=a at *
  simp -implicitDefEqProofs -proj only [go_sem,seval]
  refine AI (fun b2 hb2=>?_)
  simp -implicitDefEqProofs -proj only [go_sem,seval]
  refine Ag _ (by omega) (i:=0) e0 ?_
  simp -implicitDefEqProofs -proj only [go_sem,seval]
  refine Ag _ (by omega) (i:=0) e0 ?_
  simp -implicitDefEqProofs -proj only [go_sem,seval]
  refine AI (fun b4 hb4=>?_)
  replace hb4:upd Heap.none b2 _ b4=none:=hb4
  obtain ⟨n1,n2⟩:=AK hb4 AN
  simp -implicitDefEqProofs -proj only [go_sem,seval,n1,n2,rowR_len,decide_eq_true (show (S.length:Int)=1 by omega)]
  exact AM rfl
 ·have h1':1<S.length:=by omega
  have e1:=Jt h1'
  have b1:=hb _ (List.getElem_mem h1')
  have hg:=UH h1'
  obtain ⟨n,hn⟩:∃n,(Eh S[0] (S.drop 1)).2=n:=⟨_,rfl⟩
  have hn1:FT (S[1].f-S[0].f) (S[1].v-S[0].v) S[0] (S.drop 1)+1=n:=by rw [←hn,hg]
  have hg1:(Eh S[0] (S.drop 1)).1=⟨S[0].f,S[0].v,S[1].f-S[0].f,S[1].v-S[0].v,(n:Int)⟩:=by rw [hg,hn1]
  rw [hn,hg1]
  obtain ⟨w,hw⟩:∃w,S[1].f-S[0].f=w:=⟨_,rfl⟩
  obtain ⟨r,hr⟩:∃r,S[1].v-S[0].v=r:=⟨_,rfl⟩
  have ww:IntKind.i64.wrap (S[1].f-S[0].f)=w:=by unfold If at b0 b1; rw [IntKind.wrap_i64]; omega
  have wr:IntKind.i64.wrap (S[1].v-S[0].v)=r:=by unfold If at b0 b1; rw [IntKind.wrap_i64]; omega
  rw [hw,hr] at hn1 ⊢
  obtain ⟨a,ha⟩:∃a,S[0]=a:=⟨_,rfl⟩
  obtain ⟨b,hbb⟩:∃b,S[1]=b:=⟨_,rfl⟩
  have hn1':FT w r (S[1-1]'(by omega)) (S.drop 1)+1=n:=hn1
  rw [ha] at e0 ww wr ⊢
  rw [hbb] at e1 ww wr
  clear hg hg1 hw hr hn b0 b1
  simp -implicitDefEqProofs -proj only [go_sem,seval]
  refine AI (fun b2 hb2=>?_)
  simp -implicitDefEqProofs -proj only [go_sem,seval]
  refine Ag _ (by omega) (i:=0) e0 ?_
  simp -implicitDefEqProofs -proj only [go_sem,seval]
  refine Ag _ (by omega) (i:=0) e0 ?_
  simp -implicitDefEqProofs -proj only [go_sem,seval]
  refine AI (fun b4 hb4=>?_)
  replace hb4:upd Heap.none b2 _ b4=none:=hb4
  obtain ⟨n1,n2⟩:=AK hb4 AN
  simp -implicitDefEqProofs -proj only [go_sem,seval,n1,n2,rowR_len,decide_eq_false (show ¬(S.length:Int)=1 by omega)]
  refine Ag _ (by omega) (i:=1) e1 ?_
  simp -implicitDefEqProofs -proj only [go_sem,seval]
  refine Ag _ (by omega) (i:=0) e0 ?_
  simp -implicitDefEqProofs -proj only [go_sem,seval]
  refine Ag _ (by omega) (i:=1) e1 ?_
  simp -implicitDefEqProofs -proj only [go_sem,seval]
  refine Ag _ (by omega) (i:=0) e0 ?_
  simp -implicitDefEqProofs -proj only [go_sem,seval,n1,n2,ww,wr]
  refine EN (fun c:Nat=>1≤c∧∃h:c≤S.length,c+FT w r (S[c-1]'(by omega)) (S.drop c)=n) 81 (fun _=>[(0,Gm S),(2,.ptr b2 0),(4,.ptr b4 0)]) (fun c=>[(b4,.box 66 [i64 a.f,i64 a.v,i64 w,i64 r,i64 c]),(b2,.box 66 [i64 0,i64 0,i64 0,i64 0,i64 0])]) (fun c=>S.length-c) 1 ⟨Nat.le_refl _,by omega,by omega⟩ rfl ?_ ?_ ?_
  ·simp -implicitDefEqProofs -proj only [go_sem,seval,AJ]
  ·simp -implicitDefEqProofs -proj only [go_sem,seval,AZ,n1,n2]
  ·rintro c ⟨hc1,hc2,hcn⟩
   have hk:AZ (Ac [(b4,.box 66 [i64 a.f,i64 a.v,i64 w,i64 r,i64 c]),(b2,.box 66 [i64 0,i64 0,i64 0,i64 0,i64 0])]) [(b4,.box 66 [i64 a.f,i64 a.v,i64 w,i64 r,i64 c]),(b2,.box 66 [i64 0,i64 0,i64 0,i64 0,i64 0])]:=EV (by simp [AP,n1])
   obtain ⟨H,hH⟩:∃H,Ac [(b4,.box 66 [i64 a.f,i64 a.v,i64 w,i64 r,i64 c]),(b2,.box 66 [i64 0,i64 0,i64 0,i64 0,i64 0])]=H:=⟨_,rfl⟩
   rw [hH] at hk
   obtain ⟨k4,k2,_⟩:=id hk
   rw [hH]
   by_cases hc:c<S.length
   ·have ep:=Jt (l:=S) (i:=c-1) (by omega)
    have es:=Jt hc
    have hstep:=Pd (w:=w) (r:=r) (S:=S) (by omega) hc
    have bp:=hb _ (List.getElem_mem (show c-1<S.length by omega))
    have bs:=hb _ (List.getElem_mem hc)
    have wc:IntKind.i64.wrap ((c:Int)-1)=((c-1:Nat):Int):=by rw [IntKind.wrap_i64]; omega
    have hnext:∀(m:Nat),m=c+1→(S[m-1]? = some S[c]):=fun m hm=>by subst hm; simp [hc]
    rw [hstep] at hcn
    have hS:∀(h:c+1≤S.length),S[c+1-1]'(by omega)=S[c]:=fun _=>rfl
    have hin:∀x,FT w r S[c] (S.drop (c+1))=x→c+1+x=n→(1≤c+1∧∃h:c+1≤S.length,c+1+FT w r (S[c+1-1]'(by omega)) (S.drop (c+1))=n):=fun x hx hxn=>⟨by omega,by omega,by show c+1+FT w r S[c] (S.drop (c+1))=n; rw [hx]; exact hxn⟩
    generalize FT w r S[c] (S.drop (c+1))=x at *
    unfold If at bp bs
    have w1:IntKind.i64.wrap (S[c].f-S[c-1].f)=S[c].f-S[c-1].f:=by rw [IntKind.wrap_i64]; omega
    have w2:IntKind.i64.wrap (S[c].v-S[c-1].v)=S[c].v-S[c-1].v:=by rw [IntKind.wrap_i64]; omega
    clear bp bs hnext hS hstep
    generalize S[c]=s at *
    generalize S[c-1]=p at *
    simp -implicitDefEqProofs -proj only [go_sem,seval,k4,k2,rowR_len,decide_eq_true (show (c:Int)<S.length by omega),wc]
    refine Ag _ (by omega) ep ?_
    simp -implicitDefEqProofs -proj only [go_sem,seval,k4,k2]
    refine Ag _ (by omega) es ?_
    simp -implicitDefEqProofs -proj only [go_sem,seval]
    refine AI (fun b5 hb5=>?_)
    replace hb5:H b5=none:=hb5
    obtain ⟨m1,m2⟩:=AK hb5 k4
    obtain ⟨m3,m4⟩:=AK hb5 k2
    simp -implicitDefEqProofs -proj only [go_sem,seval]
    refine AI (fun b6 hb6=>?_)
    replace hb6:upd H b5 _ b6=none:=hb6
    obtain ⟨m5,m6⟩:=AK hb6 AN
    have hb6':H b6=none:=by rw [AF m6] at hb6; exact hb6
    obtain ⟨m7,m8⟩:=AK hb6' k4
    obtain ⟨m9,m10⟩:=AK hb6' k2
    by_cases c1:s.f-p.f=w
    ·by_cases c2:s.v-p.v=r
     ·rw [if_pos ⟨c1,c2⟩] at hcn
      simp -implicitDefEqProofs -proj only [go_sem,seval,k4,k2,m1,m3,m5,m6,m7,m9,w1,w2,decide_eq_true c1,decide_eq_true c2]
      refine AY (c+1) (hin _ rfl (by omega)) (by omega) rfl ?_ ?_
      ·simp -implicitDefEqProofs -proj only [go_sem,seval,AJ]
      ·simp -implicitDefEqProofs -proj only [go_sem,seval,AZ,AU (show c<9223372036854775807 by omega),k2,n1,n2,m3,m9]
     ·rw [if_neg (fun h=>c2 h.2)] at hcn
      simp -implicitDefEqProofs -proj only [go_sem,seval,k4,k2,m1,m3,m5,m6,m7,m9,w1,w2,decide_eq_true c1,decide_eq_false c2]
      obtain rfl:c=n:=by omega
      simp -implicitDefEqProofs -proj only [go_sem,seval,if_neg (show ¬(0:Nat)=1 by decide),k4,k2,m1,m3,m5,m6,m7,m9,n1,n2,AN,not_false_eq_true]
      exact AM rfl
    ·rw [if_neg (fun h=>c1 h.1)] at hcn
     simp -implicitDefEqProofs -proj only [go_sem,seval,k4,k2,m1,m3,m5,m6,m7,m9,w1,w2,decide_eq_false c1]
     obtain rfl:c=n:=by omega
     simp -implicitDefEqProofs -proj only [go_sem,seval,if_neg (show ¬(0:Nat)=1 by decide),k4,k2,m1,m3,m5,m6,m7,m9,n1,n2,AN,not_false_eq_true]
     exact AM rfl
   ·have:S.drop c=[]:=List.drop_eq_nil_of_le (by omega)
    rw [this] at hcn
    rw [show FT w r (S[c-1]'(by omega)) []=0 from rfl] at hcn
    simp -implicitDefEqProofs -proj only [go_sem,seval,k4,k2,rowR_len,decide_eq_false (show ¬(c:Int)<S.length by omega),n1,n2,not_false_eq_true]
    obtain rfl:c=n:=by omega
    exact AM rfl
def ET (l:List Grp):List (List D):=l.map Grp.el
theorem Gp {l:List Grp}:(ET l).length=l.length:=List.length_map ..
theorem Jr {l:List Grp} {i:Nat} (h:i<l.length):(ET l)[((i:Int)).toNat]? = some [.int .i64 l[i].f,.int .i64 l[i].v,.int .i64 l[i].w,.int .i64 l[i].r,.int .i64 l[i].c]:=by
 rw [Int.toNat_natCast]; simp [ET,h,Grp.el]
theorem TD {l:List Grp}:∀el∈ET l,∀d∈el,Hi d=true:=by
 intro el he d hd
 obtain ⟨r,_,rfl⟩:=List.mem_map.1 he
 simp -implicitDefEqProofs only [Grp.el,List.mem_cons,List.not_mem_nil,or_false] at hd
 rcases hd with rfl | rfl | rfl | rfl | rfl <;> rfl
theorem Mu {l:List Grp} {g:Grp}:ET l++[g.el]=ET (l++[g]):=by simp [ET]
abbrev FW (l:List Grp):AV:=.d (.sl 5 (ET l))
abbrev Fg (m:Int) (G:List Grp):AV:=.agg [i64 m,FW G]
theorem AIE {l:List Run} {n:Nat}:(Ew l).drop n=Ew (l.drop n):=List.map_drop.symm
def It (R:List Run):Prop:=∃h:R≠[],(R.head h).f=0∧(R.getLast h).t≤2000∧∀r∈R,¬IJ r
noncomputable instance (R:List Run):Decidable (It R):=Classical.propDecidable _
def Oa:List Run→Int
 | []=>0
 | r::R=>((r::R).getLast (by simp)).t
noncomputable def KS (R:List Run):AV:=if It R then .tup [Fg (Oa R) (Gr R),bv true] else .tup [Fg 0 [],bv false]
theorem Q4 {S:List Run} (h:0<S.length):Gr S=(Eh S[0] (S.drop 1)).1::Gr (S.drop (Eh S[0] (S.drop 1)).2):=by
 match S,h with
 | a::l,_=>exact Mv
theorem JE {H:Heap} {m:Int} {G:List Grp} {v:AV} (h:NewV H v (FW G)):NewV H (.agg [i64 m,v]) (Fg m G):=by
 refine .agg _ _ rfl fun j x y h1 h2=>?_
 match j with
 | 0=>cases h1; cases h2; exact .scal _ rfl
 | 1=>cases h1; cases h2; exact h
 | j+2=>cases h1
theorem JC {H:Heap} {x y:AV} {b:Bool} (h:NewV H x y):NewV H (.tup [x,bv b]) (.tup [y,bv b]):=by
 refine .tup _ _ rfl fun j u v h1 h2=>?_
 match j with
 | 0=>cases h1; cases h2; exact h
 | 1=>cases h1; cases h2; exact .scal _ rfl
 | j+2=>cases h1
structure OfX where
 S:List Run
 c:Nat
 cap:Nat
 G:List Grp
theorem Iz {S:List Run} {c cap:Nat} {G:List Grp}:(OfX.mk S c cap G).S=S:=(rfl)
theorem Le {S:List Run} {c cap:Nat} {G:List Grp}:(OfX.mk S c cap G).c=c:=(rfl)
theorem Lt {S:List Run} {c cap:Nat} {G:List Grp}:(OfX.mk S c cap G).cap=cap:=(rfl)
theorem I7 {S:List Run} {c cap:Nat} {G:List Grp}:(OfX.mk S c cap G).G=G:=(rfl)
def Kx (b8 b2:Nat) (m:Int) (y:OfX):List (Nat×Blk):=BD 66 5 y.c y.cap (ET y.G)++[(b8,.box 58 [i64 m,EU 5 5 y.c y.cap (ET y.G)]),(b2,.box 58 [i64 0,.nilsl 5])]
set_option maxRecDepth 20000 in
theorem Xi {R:List Run} (hlR:R.length≤1000000) (hok:It R→(∀r∈R,If r)∧R.length≤3000):NewW Try.prog TU [Hm R] (KS R):=by
 have hspan:=ANu hlR
 refine Aj AH5 (by simp) ?_
 simp -implicitDefEqProofs -proj only [go_sem,seval]
 refine AI (fun b1 hb1=>?_)
 simp -implicitDefEqProofs -proj only [go_sem,seval]
 refine AI (fun b2 hb2=>?_)
 replace hb2:upd Heap.none b1 _ b2=none:=hb2
 obtain ⟨n1,n2⟩:=AK hb2 AN
 simp -implicitDefEqProofs -proj only [go_sem,seval,n1,n2]
 refine AL hspan ?_
 cases hRe:R with
 | nil =>
  have:¬It []:=fun ⟨h,_⟩=>h rfl
  rw [KS,if_neg this]
  simp -implicitDefEqProofs -proj only [go_sem,seval,Nz,n1,n2]
  exact JC (JE (.nilsl _ _))
 | cons a l =>
  rw [←hRe]
  have hne:R≠[]:=by rw [hRe]; simp
  have hsv:Nz R = .tup [i64 (R.head hne).f,i64 (R.getLast hne).t,bv true]:=by subst hRe; rfl
  have hlt:Oa R=(R.getLast hne).t:=by subst hRe; rfl
  rw [hsv]
  by_cases h0:(R.head hne).f=0
  rotate_left
  ·have:¬It R:=fun ⟨_,h,_⟩=>h0 h
   rw [KS,if_neg this]
   simp -implicitDefEqProofs -proj only [go_sem,seval,n1,n2,decide_eq_false h0]
   exact JC (JE (.nilsl _ _))
  by_cases h1:2000<(R.getLast hne).t
  ·have:¬It R:=fun ⟨_,_,h,_⟩=>by omega
   rw [KS,if_neg this]
   simp -implicitDefEqProofs -proj only [go_sem,seval,n1,n2,decide_eq_true h0,decide_eq_true h1]
   exact JC (JE (.nilsl _ _))
  simp -implicitDefEqProofs -proj only [go_sem,seval,n1,n2,decide_eq_true h0,decide_eq_false h1]
  refine Fm AEk ?_
  rintro r H6 ⟨bv',rfl,hbv,hv,hkeep⟩
  have k2:H6 b2=some (.box 58 [i64 0,.nilsl 5]):=hkeep _ _ AN
  have hnb:¬bv'=b2:=fun e=>by subst e; rw [k2] at hv; cases hv
  simp -implicitDefEqProofs -proj only [go_sem,seval]
  refine Fm (AE1 (Vn (b:=bv') hlR) [(bv',.box 119 [Gm R]),(b2,.box 58 [i64 0,.nilsl 5])] (by simp) ⟨hv,k2,trivial⟩ (by simp [AP,hnb]) hlR) ?_
  rintro r H7 ⟨rfl,hr⟩
  obtain ⟨_,k2',_⟩:=hr
  simp -implicitDefEqProofs -proj only [go_sem,seval]
  refine AL (ARa (fun r=>AKj r) hlR) ?_
  by_cases hany:(R.any fun r=>decide (IJ r))=true
  ·have:¬It R:=fun ⟨_,_,_,h⟩=>by
    obtain ⟨r,hr,hb⟩:=List.any_eq_true.1 hany
    exact h r hr (by simpa using hb)
   rw [KS,if_neg this,hany]
   simp -implicitDefEqProofs -proj only [go_sem,seval,k2']
   exact JC (JE (.nilsl _ _))
  ·have hokR:It R:=⟨hne,h0,by omega,fun r hr hb=>hany (List.any_eq_true.2 ⟨r,hr,by simpa using hb⟩)⟩
   obtain ⟨hro,hl3⟩:=hok hokR
   rw [KS,if_pos hokR,hlt,show (R.any fun r=>decide (IJ r))=false by simpa using hany]
   generalize (R.getLast hne).t=m at *
   simp -implicitDefEqProofs -proj only [go_sem,seval,k2']
   refine AI (fun b8 hb8=>?_)
   replace hb8:H7 b8=none:=hb8
   obtain ⟨m1,m2⟩:=AK hb8 k2'
   simp -implicitDefEqProofs -proj only [go_sem,seval,m1,m2,k2']
   refine EN (fun y:OfX=>Gr R=y.G++Gr y.S∧(∀r∈y.S,If r)∧y.S.length≤3000∧y.G.length+y.S.length≤3000∧(AP (Kx b8 b2 m y)).Nodup) 54 (fun y=>[(2,.ptr b2 0),(8,.ptr b8 0),(7,Gm y.S)]) (Kx b8 b2 m) (fun y=>y.S.length) ⟨R,0,0,[]⟩ ⟨rfl,hro,hl3,by simpa using hl3,by simp [AP,Kx,I7,ET,J9,m1]⟩ rfl ?_ ?_ ?_
   ·simp -implicitDefEqProofs -proj only [go_sem,seval,AJ,Iz]
   ·simp -implicitDefEqProofs -proj only [go_sem,seval,AZ,Kx,I7,Le,Lt,ET,List.map_nil,J9,JX,m1,k2']
   ·rintro ⟨S,c,cap,G⟩ ⟨hG,hSo,hSl,hGl,hn⟩
    simp -implicitDefEqProofs only [Iz,I7] at hG hSo hSl hGl
    have hall:=EV hn
    obtain ⟨H,hH⟩:∃H,Ac (Kx b8 b2 m ⟨S,c,cap,G⟩)=H:=⟨_,rfl⟩
    rw [hH] at hall
    simp -implicitDefEqProofs only [Kx,Iz,Le,Lt,I7] at hall hn
    obtain ⟨hrow,h8,h2,_⟩:=EQ.1 hall
    by_cases hS:0<S.length
    ·have hgrp:=AGJ hS hSo hSl
     have hstep:=Q4 hS
     obtain ⟨q1,q2,q3⟩:=@KM S[0] (S.drop 1)
     rw [List.length_drop] at q2
     generalize (Eh S[0] (S.drop 1)).2=n at *
     generalize (Eh S[0] (S.drop 1)).1=g at *
     simp -implicitDefEqProofs -proj only [go_sem,seval,Iz,Le,Lt,I7,hH,rowR_len,decide_eq_true (show 0<(S.length:Int) by omega)]
     refine AL hgrp ?_
     simp -implicitDefEqProofs -proj only [go_sem,seval]
     refine AI (fun b9 hb9=>?_)
     replace hb9:H b9=none:=hb9
     obtain ⟨p1,p2⟩:=AK hb9 h8
     obtain ⟨p3,p4⟩:=AK hb9 h2
     simp -implicitDefEqProofs -proj only [go_sem,seval,p1,p3,h8,h2]
     refine EO (fun bs hs'=>?_)
     replace hs':upd H b9 _ bs=none:=hs'
     simp -implicitDefEqProofs -proj only [go_sem,seval]
     refine FX (xs:=ET G) (y:=g.el) (t:=66) (capc:=1) [(b8,.box 58 [i64 m,EU 5 5 c cap (ET G)]),(b2,.box 58 [i64 0,.nilsl 5])] rfl (Ap hs' (Ap hb9 hall)) hn (by simp -implicitDefEqProofs -proj only [go_sem,seval]; rfl) (by rw [Gp]; omega) (by rw [Gp]; omega) (fun H' c' cap' ha hk=>?_)
     obtain ⟨hrow',hbox⟩:=EQ.1 ha
     simp -implicitDefEqProofs -proj only [go_sem,seval,hbox.1,BN,rowR_len,Ai,E4,Option.getD_none,Option.getD_some,Int.toNat_natCast]
     refine Ak (by omega) (fun _=>?_)
     rw [Mu] at hrow' hk ha
     rw [show (Ew S).take S.length=Ew S from List.take_of_length_le (by rw [rowR_len]; omega),AIE]
     refine AY ⟨S.drop n,c',cap',G++[g]⟩ ⟨by simp -implicitDefEqProofs only [Iz,I7]; rw [hG,hstep]; simp,fun r hr=>hSo r (List.mem_of_mem_drop hr),by simp -implicitDefEqProofs only [Iz,List.length_drop]; omega,by simp -implicitDefEqProofs only [Iz,I7,List.length_drop,List.length_append,List.length_singleton]; omega,?_⟩ (by show (S.drop n).length<S.length; rw [List.length_drop]; omega) rfl ?_ ?_
     ·simpa only [AP,Kx,Iz,Le,Lt,I7,List.map_append,List.map_cons,List.map_nil] using hk
     ·simp -implicitDefEqProofs -proj only [go_sem,seval,AJ,Iz]
     ·have hne2:ET (G++[g])≠[]:=by simp [ET]
      refine EQ.2 ⟨?_,?_⟩
      ·refine Fk hrow' ?_
       simp -implicitDefEqProofs only [AP,List.map_append,List.nodup_append,List.map_cons,List.map_nil,List.mem_cons] at hk
       exact fun hm=>hk.2.2 _ hm _ (.inl rfl) rfl
      ·have:=UM (x':=.box 58 [i64 m,.own c' 5 0 ((ET G).length+1) cap']) hbox (by simp -implicitDefEqProofs only [AP,List.map_append,List.nodup_append] at hk ⊢; exact hk.2.1)
       simp -implicitDefEqProofs only [Iz,Le,Lt,I7,Eg hne2,show (ET (G++[g])).length=(ET G).length+1 by simp [ET]]
       exact this
    ·have hS0:S=[]:=List.length_eq_zero_iff.1 (by omega)
     subst hS0
     rw [RK,List.append_nil] at hG
     obtain ⟨x1,x2⟩:¬b8=b2∧¬b2=b8:=⟨m1,m2⟩
     simp -implicitDefEqProofs -proj only [go_sem,seval,Iz,Le,Lt,I7,hH,rowR_len,decide_eq_false (show ¬0<((([]:List Run).length:Nat):Int) by simp),h8,h2,m1,m2]
     rw [hG]
     refine JC (JE (KL (Fk hrow ?_) TD))
     simp -implicitDefEqProofs only [AP,List.map_append,List.nodup_append,List.map_cons,List.map_nil,List.mem_cons] at hn
     exact fun hm=>hn.2.2 _ hm _ (.inr (.inl rfl)) rfl
structure GrpOK (g:Grp):Prop where
 f:0≤g.f∧g.f≤3000
 w:0≤g.w∧g.w≤3000
 c:1≤g.c∧g.c≤3001
 v : -2305843009213693952≤g.v∧g.v≤2305843009213693952
 r:∀j:Int,0≤j→j≤g.c-1→-4611686018427387904≤j*g.r∧j*g.r≤4611686018427387904
theorem AAt {val:Int→Int} {lo hi:Int} {a:Run} {l:List Run} (h:FwdOK val lo hi (a::l)) (hb:∀r∈a::l,If r) (hl:l.length≤3000):GrpOK (Eh a l).1:=by
 obtain ⟨h1,h2,h3⟩:=@KM a l
 have ha:=hb a (List.mem_cons_self ..)
 refine ⟨?_,?_,by omega,?_,?_⟩
 ·have:(Eh a l).1.f=a.f:=by cases l <;> rfl
  rw [this]; exact ha.1
 ·rcases Tb h with ⟨w0,w1,w2,w3⟩ | ⟨w0,w1,w2,w3⟩
  ·omega
  ·refine ⟨by omega,?_⟩
   cases l with
   | nil=>exact absurd rfl w0
   | cons b l =>
    have hbb:=(hb b (by simp)).1
    show b.f-a.f≤3000
    have:=ha.1
    omega
 ·have:(Eh a l).1.v=a.v:=by cases l <;> rfl
  rw [this]; exact ha.2
 ·intro j hj0 hj
  obtain ⟨n,rfl⟩:=Int.eq_ofNat_of_zero_le hj0
  obtain ⟨g1,g2,g3⟩:=PW (a:=a) (l:=l) n (by omega)
  have hbn:=(hb _ (List.getElem_mem g1)).2
  have:(Eh a l).1.v=a.v:=by cases l <;> rfl
  rw [g3,this] at hbn
  have:=ha.2
  omega
theorem Sl {val:Int→Int} {hi:Int}:∀(n:Nat) {R:List Run} {lo:Int},R.length≤n→FwdOK val lo hi R→(∀r∈R,If r)→R.length≤3000→∀g∈Gr R,GrpOK g
 | _,[],lo,_,h,hb,hl,g,hg=>by cases hg
 | 0,a::l,lo,hn,h,hb,hl,g,hg=>absurd hn (by simp)
 | n+1,a::l,lo,hn,h,hb,hl,g,hg=>by
  obtain ⟨h1,h2,hc⟩:=@KM a l
  simp -implicitDefEqProofs only [List.length_cons] at hn hl
  obtain ⟨m,k1,k2,k3⟩:=FwdOK.drop (Eh a l).2 h (by simp -implicitDefEqProofs only [List.length_cons]; omega)
  have hl':((a::l).drop (Eh a l).2).length≤l.length:=by rw [List.length_drop]; simp -implicitDefEqProofs only [List.length_cons]; omega
  rw [Mv] at hg
  rcases List.mem_cons.1 hg with rfl | hg
  ·exact AAt h hb (by omega)
  ·exact Sl n (by omega) k1 (fun r hr=>hb r (List.mem_of_mem_drop hr)) (by omega) g hg
theorem TV {q:Int}:∀{L M:List Grp},Gb (L++M) q=match Gb M q with
  | some v=>some v
  | none=>Gb L q
 | [],M=>by simp -implicitDefEqProofs only [List.nil_append,Gb]; cases Gb M q <;> rfl
 | g::L,M=>by
  rw [List.cons_append,Gb,TV]
  cases Gb M q <;> rfl
theorem Sn {q:Int} {L:List Grp} {g:Grp}:Gb (L++[g]) q=if g.f≤q then some (IE g q) else Gb L q:=by
 rw [TV]
 simp -implicitDefEqProofs only [Gb]
 by_cases h:g.f≤q
 ·rw [if_pos h,if_pos h]
 ·rw [if_neg h,if_neg h]
theorem Qi {g:Grp} {q:Int} (h:GrpOK g) (hw:¬g.w<1) (hq:g.f≤q):0≤(q-g.f).tdiv g.w∧(q-g.f).tdiv g.w≤q-g.f:=by
 have:=h.w
 rw [Int.tdiv_eq_ediv_of_nonneg (by omega)]
 exact ⟨Int.ediv_nonneg (by omega) (by omega),Int.ediv_le_self _ (by omega)⟩
set_option maxRecDepth 20000 in
theorem APr {m q:Int} {G:List Grp} (hG:∀g∈G,GrpOK g) (hl:G.length≤3001) (hq:Fit q) (hm:m≤3000):DataW Try.prog R8 [Fg m G,i64 q] (Es (if q<0∨m<q then none else Gb G q)):=by
 refine Aj ALc (by simp) ?_
 simp -implicitDefEqProofs -proj only [go_sem,seval]
 refine AI (fun b2 hb2=>?_)
 by_cases h1:q<0
 ·rw [if_pos (.inl h1)]
  simp -implicitDefEqProofs -proj only [go_sem,seval,decide_eq_true h1]
  exact AM rfl
 by_cases h2:m<q
 ·rw [if_pos (.inr h2)]
  simp -implicitDefEqProofs -proj only [go_sem,seval,decide_eq_false h1,decide_eq_true h2]
  exact AM rfl
 rw [if_neg (by omega)]
 have hwl:IntKind.i64.wrap ((G.length:Int)-1)=(G.length:Int)-1:=by rw [IntKind.wrap_i64]; omega
 simp -implicitDefEqProofs -proj only [go_sem,seval,decide_eq_false h1,decide_eq_false h2,Gp,hwl]
 refine EN (fun n:Nat=>n≤G.length∧Gb G q=Gb (G.take n) q) 63 (fun n=>[(1,i64 q),(2,.ptr b2 0),(6,i64 ((n:Int)-1))]) (fun _=>[(b2,.box 58 [i64 m,FW G])]) (fun n=>n) G.length ⟨Nat.le_refl _,by rw [List.take_length]⟩ rfl ?_ ?_ ?_
 ·simp -implicitDefEqProofs -proj only [go_sem,seval,AJ]
 ·simp -implicitDefEqProofs -proj only [go_sem,seval,AZ]
 ·rintro n ⟨hn,hat⟩
  have hk:AZ (Ac [(b2,.box 58 [i64 m,FW G])]) [(b2,.box 58 [i64 m,FW G])]:=EV (by simp [AP])
  have k2:=hk.1
  by_cases h0:n=0
  ·subst h0
   rw [List.take_zero] at hat
   rw [hat]
   simp -implicitDefEqProofs -proj only [go_sem,seval,k2,decide_eq_false (show ¬(0:Int)≤0-1 by omega),decide_eq_true (show (0:Int)-1<0 by omega)]
   exact AM rfl
  ·obtain ⟨j,rfl⟩:∃j,n=j+1:=⟨n-1,by omega⟩
   have hj:j<G.length:=by omega
   have hel:=Jr hj
   have hgok:=hG _ (List.getElem_mem hj)
   have hts:G.take (j+1)=G.take j++[G[j]]:=List.take_succ_eq_append_getElem hj
   rw [hts,Sn] at hat
   generalize G[j]=g at *
   have e1:(((j+1:Nat):Int))-1=j:=by omega
   have w1:IntKind.i64.wrap ((j:Int)-1)=(j:Int)-1:=by rw [IntKind.wrap_i64]; omega
   simp -implicitDefEqProofs -proj only [go_sem,seval,k2,e1,decide_eq_true (show (0:Int)≤j by omega)]
   refine Ag _ (by omega) hel ?_
   by_cases hf:q<g.f
   ·rw [if_neg (by omega)] at hat
    simp -implicitDefEqProofs -proj only [go_sem,seval,decide_eq_true hf,w1]
    refine AY j ⟨by omega,hat⟩ (by omega) rfl ?_ hk
    simp -implicitDefEqProofs -proj only [go_sem,seval,AJ]
   ·rw [if_pos (by omega)] at hat
    rw [hat]
    simp -implicitDefEqProofs -proj only [go_sem,seval,k2,decide_eq_false hf,decide_eq_false (show ¬(j:Int)<0 by omega)]
    refine Ag _ (by omega) hel ?_
    simp -implicitDefEqProofs -proj only [go_sem,seval]
    refine AI (fun b7 hb7=>?_)
    unfold IE
    by_cases hw:g.w<1
    ·rw [if_pos hw]
     simp -implicitDefEqProofs -proj only [go_sem,seval,decide_eq_true hw]
     exact AM rfl
    ·rw [if_neg hw]
     obtain ⟨q1,q2⟩:=Qi (q:=q) hgok hw (by omega)
     have gf:=hgok.f
     have gw:=hgok.w
     have gc:=hgok.c
     have gv:=hgok.v
     have gr:=hgok.r (min ((q-g.f).tdiv g.w) (g.c-1)) (by omega) (by omega)
     unfold Fit at hq
     have w2:IntKind.i64.wrap (q-g.f)=q-g.f:=by rw [IntKind.wrap_i64]; omega
     have w3:IntKind.i64.wrap (g.c-1)=g.c-1:=by rw [IntKind.wrap_i64]; omega
     have w4:IntKind.i64.wrap ((q-g.f).tdiv g.w)=(q-g.f).tdiv g.w:=by rw [IntKind.wrap_i64]; omega
     have w5:IntKind.i64.wrap (min ((q-g.f).tdiv g.w) (g.c-1)*g.r)=min ((q-g.f).tdiv g.w) (g.c-1)*g.r:=by rw [IntKind.wrap_i64]; omega
     have w6:IntKind.i64.wrap (g.v+min ((q-g.f).tdiv g.w) (g.c-1)*g.r)=g.v+min ((q-g.f).tdiv g.w) (g.c-1)*g.r:=by rw [IntKind.wrap_i64]; omega
     simp -implicitDefEqProofs -proj only [go_sem,seval,decide_eq_false hw,w2,w3,w4,w5,w6]
     refine Ak (by omega) (fun _=>?_)
     exact AM rfl
theorem SN (p q:Grp):(decide (p.f=q.f)&&(decide (p.v=q.v)&&(decide (p.w=q.w)&&(decide (p.r=q.r)&&decide (p.c=q.c)))))=decide (p=q):=by
 obtain ⟨a,b,c,d,e⟩:=p
 obtain ⟨a',b',c',d',e'⟩:=q
 simp -implicitDefEqProofs only [Grp.mk.injEq]
 rw [←Bool.decide_and,←Bool.decide_and,←Bool.decide_and,←Bool.decide_and]
theorem ABb {a b:List Grp} (ha:a.length≤1000000) (hb:b.length≤1000000):DataW Try.prog AQ6 [FW a,FW b] (bv (decide (a=b))):=by
 refine Aj AEe (by simp) ?_
 by_cases hl:a.length=b.length
 ·simp -implicitDefEqProofs -proj only [go_sem,seval,Gp,decide_eq_true (show (a.length:Int)=b.length by omega)]
  refine EN (fun i:Nat=>i≤a.length∧∀(j:Nat) (h:j<a.length) (h':j<b.length),j<i→a[j]=b[j]) 26 (fun i=>[(0,FW a),(1,FW b),(12,i64 a.length),(13,i64 i)]) (fun _=>[]) (fun i=>a.length-i) 0 ⟨Nat.zero_le _,fun j _ _ h=>absurd h (Nat.not_lt_zero _)⟩ rfl ?_ ?_ ?_
  ·simp -implicitDefEqProofs -proj only [go_sem,seval,AJ,Gp]
  ·trivial
  ·rintro i ⟨hi,hs⟩
   by_cases h:i<a.length
   ·have h':i<b.length:=by omega
    have e1:=Jr h
    have e2:=Jr h'
    have hd:=SN a[i] b[i]
    have hgo:a[i]=b[i]→∀(j:Nat) (h:j<a.length) (h':j<b.length),j<i+1→a[j]=b[j]:=by
     intro e j h1 h2 h3
     by_cases hj:j=i
     ·subst hj; exact e
     ·exact hs j h1 h2 (by omega)
    have hno:a[i]≠b[i]→a≠b:=fun hne e=>hne (by subst e; rfl)
    generalize a[i]=p at *
    generalize b[i]=q at *
    simp -implicitDefEqProofs -proj only [go_sem,seval,decide_eq_true (show (i:Int)<a.length by omega)]
    refine Ag _ (by omega) e1 ?_
    simp -implicitDefEqProofs -proj only [go_sem,seval]
    refine Ag _ (by omega) e2 ?_
    by_cases hpq:p=q
    ·rw [decide_eq_true hpq] at hd
     simp -implicitDefEqProofs -proj only [go_sem,seval,hd]
     (repeat' first
  | ((with_reducible first | refine FG (fun h=>?_) (fun h=>?_) | refine FI (fun h=>?_) (fun h=>?_) | refine FJ (fun h=>?_) (fun h=>?_)) <;> (simp -implicitDefEqProofs -proj only [go_sem,seval,h,hd]; try (revert h; intro _)))
  | ((with_reducible first | refine AI (fun _ hb=>?_) | refine EO (fun _ hb=>?_)); simp -implicitDefEqProofs only [E8,FK,Af,Heap.none_get,and_true,true_and] at hb; simp -implicitDefEqProofs -proj only [go_sem,seval,hd]; try (revert hb; intro _))
  | ((with_reducible first | refine Ed _ rfl (by simp) ?_ | refine En _ rfl (by simp) ?_); simp -implicitDefEqProofs -proj only [go_sem,seval,hd])
  | (with_reducible refine Ak ?_ (fun h=>?_); first | ((focus first | decide | omega); try clear h; try simp -implicitDefEqProofs -proj only [go_sem,seval,hd]) | (rotate_left; try clear h; try simp -implicitDefEqProofs -proj only [go_sem,seval,hd]; rotate_right)))
     refine AY (i+1) ⟨by omega,hgo hpq⟩ (by omega) rfl ?_ trivial
     simp -implicitDefEqProofs -proj only [go_sem,seval,AJ,AU (show i<9223372036854775807 by omega)]
    ·rw [decide_eq_false hpq] at hd
     simp -implicitDefEqProofs -proj only [go_sem,seval,hd]
     (repeat' first
  | ((with_reducible first | refine FG (fun h=>?_) (fun h=>?_) | refine FI (fun h=>?_) (fun h=>?_) | refine FJ (fun h=>?_) (fun h=>?_)) <;> (simp -implicitDefEqProofs -proj only [go_sem,seval,h,hd]; try (revert h; intro _)))
  | ((with_reducible first | refine AI (fun _ hb=>?_) | refine EO (fun _ hb=>?_)); simp -implicitDefEqProofs only [E8,FK,Af,Heap.none_get,and_true,true_and] at hb; simp -implicitDefEqProofs -proj only [go_sem,seval,hd]; try (revert hb; intro _))
  | ((with_reducible first | refine Ed _ rfl (by simp) ?_ | refine En _ rfl (by simp) ?_); simp -implicitDefEqProofs -proj only [go_sem,seval,hd])
  | (with_reducible refine Ak ?_ (fun h=>?_); first | ((focus first | decide | omega); try clear h; try simp -implicitDefEqProofs -proj only [go_sem,seval,hd]) | (rotate_left; try clear h; try simp -implicitDefEqProofs -proj only [go_sem,seval,hd]; rotate_right)))
     exact AM (by rw [decide_eq_false (hno hpq)])
   ·have hi':i=a.length:=by omega
    subst hi'
    have heq:a=b:=List.ext_getElem hl fun j h1 h2=>hs j h1 h2 h1
    simp -implicitDefEqProofs -proj only [go_sem,seval,decide_eq_false (show ¬(a.length:Int)<a.length by omega)]
    exact AM (by rw [decide_eq_true heq])
 ·simp -implicitDefEqProofs -proj only [go_sem,seval,Gp,decide_eq_false (show ¬(a.length:Int)=b.length by omega)]
  exact AM (by rw [decide_eq_false (fun e=>hl (by rw [e]))])
theorem SC {m n:Int} {a b:List Grp} (ha:a.length≤1000000) (hb:b.length≤1000000):DataW Try.prog Ou [Fg m a,Fg n b] (bv (decide (m=n∧a=b))):=by
 refine Aj AIq (by simp) ?_
 simp -implicitDefEqProofs -proj only [go_sem,seval]
 refine AI (fun b2 hb2=>?_)
 simp -implicitDefEqProofs -proj only [go_sem,seval]
 refine AI (fun b3 hb3=>?_)
 replace hb3:upd Heap.none b2 _ b3=none:=hb3
 obtain ⟨n1,n2⟩:=AK hb3 AN
 by_cases h:m=n
 ·simp -implicitDefEqProofs -proj only [go_sem,seval,n1,n2,decide_eq_true h]
  refine AL (ABb ha hb) ?_
  simp -implicitDefEqProofs -proj only [go_sem,seval]
  exact AM (congrArg bv (decide_eq_decide.2 ⟨fun e=>⟨h,e⟩,fun e=>e.2⟩))
 ·simp -implicitDefEqProofs -proj only [go_sem,seval,n1,n2,decide_eq_false h]
  exact AM (by rw [decide_eq_false (fun e=>h e.1)])
theorem R3 {m n:Int} {a b:List Grp} (ha:a.length≤1000000) (hb:b.length≤1000000):DataW Try.prog AAp [Fg m a,Fg n b] (bv (decide (m=n∧a=b))):=by
 refine Aj AKR (by simp) ?_
 simp -implicitDefEqProofs -proj only [go_sem,seval]
 refine AI (fun b2 hb2=>?_)
 simp -implicitDefEqProofs -proj only [go_sem,seval]
 refine AI (fun b3 hb3=>?_)
 replace hb3:upd Heap.none b2 _ b3=none:=hb3
 obtain ⟨n1,n2⟩:=AK hb3 AN
 by_cases hm:m=n
 rotate_left
 ·simp -implicitDefEqProofs -proj only [go_sem,seval,n1,n2,decide_eq_false hm]
  exact AM (by rw [decide_eq_false (fun e=>hm e.1)])
 by_cases hl:a.length=b.length
 rotate_left
 ·simp -implicitDefEqProofs -proj only [go_sem,seval,n1,n2,decide_eq_true hm,Gp,decide_eq_false (show ¬(a.length:Int)=b.length by omega)]
  exact AM (by rw [decide_eq_false (fun e=>hl (by rw [e.2]))])
 simp -implicitDefEqProofs -proj only [go_sem,seval,n1,n2,decide_eq_true hm,Gp,decide_eq_true (show (a.length:Int)=b.length by omega)]
 refine EN (fun i:Nat=>i≤a.length∧∀(j:Nat) (h:j<a.length) (h':j<b.length),j<i→a[j]=b[j]) 38 (fun i=>[(2,.ptr b2 0),(3,.ptr b3 0),(22,i64 a.length),(23,i64 i)]) (fun _=>[(b3,.box 58 [i64 n,FW b]),(b2,.box 58 [i64 m,FW a])]) (fun i=>a.length-i) 0 ⟨Nat.zero_le _,fun j _ _ h=>absurd h (Nat.not_lt_zero _)⟩ rfl ?_ ?_ ?_
 ·simp -implicitDefEqProofs -proj only [go_sem,seval,AJ,Gp]
 ·simp -implicitDefEqProofs -proj only [go_sem,seval,AZ,n1,n2]
 ·rintro i ⟨hi,hs⟩
  have hk:AZ (Ac [(b3,.box 58 [i64 n,FW b]),(b2,.box 58 [i64 m,FW a])]) [(b3,.box 58 [i64 n,FW b]),(b2,.box 58 [i64 m,FW a])]:=EV (by simp [AP,n1])
  obtain ⟨k3,k2,_⟩:=id hk
  by_cases h:i<a.length
  ·have h':i<b.length:=by omega
   have e1:=Jr h
   have e2:=Jr h'
   have hd:=SN a[i] b[i]
   have hgo:a[i]=b[i]→∀(j:Nat) (h:j<a.length) (h':j<b.length),j<i+1→a[j]=b[j]:=by
    intro e j h1 h2 h3
    by_cases hj:j=i
    ·subst hj; exact e
    ·exact hs j h1 h2 (by omega)
   have hno:a[i]≠b[i]→a≠b:=fun hne e=>hne (by subst e; rfl)
   generalize a[i]=p at *
   generalize b[i]=q at *
   simp -implicitDefEqProofs -proj only [go_sem,seval,k3,k2,n2,decide_eq_true (show (i:Int)<a.length by omega)]
   refine Ag _ (by omega) e1 ?_
   simp -implicitDefEqProofs -proj only [go_sem,seval,k3,k2,n1,n2]
   refine Ag _ (by omega) e2 ?_
   by_cases hpq:p=q
   ·rw [decide_eq_true hpq] at hd
    simp -implicitDefEqProofs -proj only [go_sem,seval,hd]
    (repeat' first
  | ((with_reducible first | refine FG (fun h=>?_) (fun h=>?_) | refine FI (fun h=>?_) (fun h=>?_) | refine FJ (fun h=>?_) (fun h=>?_)) <;> (simp -implicitDefEqProofs -proj only [go_sem,seval,h,hd]; try (revert h; intro _)))
  | ((with_reducible first | refine AI (fun _ hb=>?_) | refine EO (fun _ hb=>?_)); simp -implicitDefEqProofs only [E8,FK,Af,Heap.none_get,and_true,true_and] at hb; simp -implicitDefEqProofs -proj only [go_sem,seval,hd]; try (revert hb; intro _))
  | ((with_reducible first | refine Ed _ rfl (by simp) ?_ | refine En _ rfl (by simp) ?_); simp -implicitDefEqProofs -proj only [go_sem,seval,hd])
  | (with_reducible refine Ak ?_ (fun h=>?_); first | ((focus first | decide | omega); try clear h; try simp -implicitDefEqProofs -proj only [go_sem,seval,hd]) | (rotate_left; try clear h; try simp -implicitDefEqProofs -proj only [go_sem,seval,hd]; rotate_right)))
    refine AY (i+1) ⟨by omega,hgo hpq⟩ (by omega) rfl ?_ hk
    simp -implicitDefEqProofs -proj only [go_sem,seval,AJ,AU (show i<9223372036854775807 by omega)]
   ·rw [decide_eq_false hpq] at hd
    simp -implicitDefEqProofs -proj only [go_sem,seval,hd]
    (repeat' first
  | ((with_reducible first | refine FG (fun h=>?_) (fun h=>?_) | refine FI (fun h=>?_) (fun h=>?_) | refine FJ (fun h=>?_) (fun h=>?_)) <;> (simp -implicitDefEqProofs -proj only [go_sem,seval,h,hd]; try (revert h; intro _)))
  | ((with_reducible first | refine AI (fun _ hb=>?_) | refine EO (fun _ hb=>?_)); simp -implicitDefEqProofs only [E8,FK,Af,Heap.none_get,and_true,true_and] at hb; simp -implicitDefEqProofs -proj only [go_sem,seval,hd]; try (revert hb; intro _))
  | ((with_reducible first | refine Ed _ rfl (by simp) ?_ | refine En _ rfl (by simp) ?_); simp -implicitDefEqProofs -proj only [go_sem,seval,hd])
  | (with_reducible refine Ak ?_ (fun h=>?_); first | ((focus first | decide | omega); try clear h; try simp -implicitDefEqProofs -proj only [go_sem,seval,hd]) | (rotate_left; try clear h; try simp -implicitDefEqProofs -proj only [go_sem,seval,hd]; rotate_right)))
    exact AM (by rw [decide_eq_false (fun e=>hno hpq e.2)])
  ·have hi':i=a.length:=by omega
   subst hi'
   have heq:a=b:=List.ext_getElem hl fun j h1 h2=>hs j h1 h2 h1
   simp -implicitDefEqProofs -proj only [go_sem,seval,decide_eq_false (show ¬(a.length:Int)<a.length by omega)]
   exact AM (by rw [decide_eq_true ⟨hm,heq⟩])
theorem FwdOK.mem_val {val:Int→Int} {hi:Int}:∀{R:List Run} {lo:Int},FwdOK val lo hi R→∀r∈R,lo≤r.f∧r.f≤r.t∧r.t<hi∧val r.f=r.v
 | a::R,lo,⟨g1,g2,g3,g4,g5⟩,r,hr=>by
  have hle:=g5.le
  rcases List.mem_cons.1 hr with rfl | hr
  ·exact ⟨by omega,g2,by omega,g3 _ (by omega) g2⟩
  ·obtain ⟨h1,h2,h3,h4⟩:=FwdOK.mem_val g5 r hr
   exact ⟨by omega,h2,h3,h4⟩
theorem FwdOK.val_mem {val:Int→Int} {lo hi:Int} {R:List Run} (h:FwdOK val lo hi R) {x:Int} (h1:lo≤x) (h2:x<hi):∃r∈R,r.v=val x:=by
 obtain ⟨m,k1,k2,k3⟩:=FwdOK.drop R.length h (Nat.le_refl _)
 rw [List.drop_length] at k1
 have:m=hi:=k1
 obtain ⟨j,j1,j2,j3,j4,j5,j6⟩:=k3 x h1 (by omega)
 exact ⟨_,List.getElem_mem j1,j5.symm⟩
def F4 (v:Int):Prop:=-2305843009213693952≤v∧v≤2305843009213693952
instance (v:Int):Decidable (F4 v):=by unfold F4; exact inferInstance
theorem MD {f:Int} {l:List Int} {i:Nat} (h:i<l.length):Hs f l (f+(i:Int))=l[i]:=by
 unfold Hs
 rw [show (f+(i:Int)-f).toNat=i by omega]
 simp [h]
theorem Mc {f:Int} {l:List Int}:EP f l=[]↔l=[]:=by
 constructor
 ·intro h
  have:=I0 f l
  rw [h] at this
  have e:f=f+l.length:=this
  exact List.length_eq_zero_iff.1 (by omega)
 ·rintro rfl; rfl
theorem NL {f:Int} {l:List Int} (h:EP f l≠[]):((EP f l).head h).f=f∧((EP f l).getLast h).t=f+l.length-1:=(I0 f l).ends h
theorem ABM {f:Int} {l:List Int} (h:l≠[]):Oa (EP f l)=f+l.length-1:=by
 have hne:EP f l≠[]:=fun e=>h (Mc.1 e)
 have:=(NL hne).2
 rw [←this]
 generalize EP f l=R at *
 cases R with
 | nil=>exact absurd rfl hne
 | cons a R=>rfl
theorem SY {f:Int} {l:List Int}:It (EP f l)↔l≠[]∧f=0∧f+l.length-1≤2000∧∀v∈l,F4 v:=by
 have hF:=I0 f l
 constructor
 ·rintro ⟨h,h1,h2,h3⟩
  obtain ⟨e1,e2⟩:=NL h
  refine ⟨fun e=>h (Mc.2 e),by omega,by omega,fun v hv=>?_⟩
  obtain ⟨i,hi,rfl⟩:=List.getElem_of_mem hv
  obtain ⟨r,hr,hrv⟩:=hF.val_mem (x:=f+i) (by omega) (by omega)
  rw [MD hi] at hrv
  have:=h3 r hr
  unfold IJ at this
  unfold F4
  omega
 ·rintro ⟨h,h1,h2,h3⟩
  have hne:EP f l≠[]:=fun e=>h (Mc.1 e)
  obtain ⟨e1,e2⟩:=NL hne
  refine ⟨hne,by omega,by omega,fun r hr=>?_⟩
  obtain ⟨g1,g2,g3,g4⟩:=hF.mem_val r hr
  have:r.v∈l:=by
   rw [←g4]
   have hi:(r.f-f).toNat<l.length:=by omega
   have:=MD (f:=f) hi
   rw [show f+(((r.f-f).toNat:Nat):Int)=r.f by omega] at this
   rw [this]
   exact List.getElem_mem hi
  have:=h3 _ this
  unfold F4 at this
  unfold IJ
  omega
theorem KY {l:List Int} (h:It (EP 0 l)):(∀r∈EP 0 l,If r)∧(EP 0 l).length≤3000:=by
 obtain ⟨h1,h2,h3,h4⟩:=SY.1 h
 have hF:=I0 0 l
 refine ⟨fun r hr=>?_,?_⟩
 ·obtain ⟨g1,g2,g3,g4⟩:=hF.mem_val r hr
  obtain ⟨_,_,_,hb⟩:=h
  have:=hb r hr
  unfold IJ at this
  exact ⟨by omega,by omega⟩
 ·have:=Ll (from':=0) (l:=l) l.length
  show (Gh 0 l l.length).length≤3000
  omega
def ER (l:List Int):Prop:=l≠[]∧l.length≤2001∧∀v∈l,F4 v
noncomputable instance (l:List Int):Decidable (ER l):=Classical.propDecidable _
theorem KI {l:List Int}:It (EP 0 l)↔ER l:=by
 rw [SY]
 constructor
 ·rintro ⟨h1,h2,h3,h4⟩; exact ⟨h1,by omega,h4⟩
 ·rintro ⟨h1,h2,h3⟩; exact ⟨h1,rfl,by omega,h3⟩
abbrev Ef (l:List Int):List Grp:=Gr (EP 0 l)
theorem Nf {l:List Int} {i:Nat} (h:i<l.length):Gb (Ef l) i=some l[i]:=by
 have:=(SR _ (Nat.le_refl _) (I0 0 l) (i:Int)).2 (by omega) (by omega)
 rw [←MD (f:=0) h,Int.zero_add]
 exact this
theorem Rv {l:List Int} (h:ER l):∀g∈Ef l,GrpOK g:=by
 obtain ⟨h1,h2⟩:=KY (KI.2 h)
 exact Sl _ (Nat.le_refl _) (I0 0 l) h1 h2
theorem JQ {l:List Int}:(Ef l).length≤l.length:=Nat.le_trans (Rd (Nat.le_refl _)) (Ll l.length)
theorem Ul {l:List Int} (h:l≠[]):∃hh:0<(Ef l).length,(Ef l)[0].f=0:=by
 have hne:EP 0 l≠[]:=fun e=>h (Mc.1 e)
 have he:=(NL hne).1
 unfold Ef
 generalize EP 0 l=R at *
 cases R with
 | nil=>exact absurd rfl hne
 | cons a R =>
  rw [Mv]
  refine ⟨by simp,?_⟩
  simp -implicitDefEqProofs only [List.getElem_cons_zero]
  have:(Eh a R).1.f=a.f:=by cases R <;> rfl
  rw [this]
  exact he
abbrev FV (l:List Int):AV:=Fg ((l.length:Int)-1) (Ef l)
theorem Z7 {l:List Int}:KS (EP 0 l)=if ER l then .tup [FV l,bv true] else .tup [Fg 0 [],bv false]:=by
 unfold KS
 by_cases h:ER l
 ·rw [if_pos h,if_pos (KI.2 h),ABM h.1,Int.zero_add]
 ·rw [if_neg h,if_neg (fun e=>h (KI.1 e))]
theorem PP {l:List Int} (hl:l.length≤999999):NewW Try.prog TU [Hm (EP 0 l)] (if ER l then .tup [FV l,bv true] else .tup [Fg 0 [],bv false]):=by
 have:=Xi (R:=EP 0 l) (Nat.le_trans (Ll l.length) (by omega)) KY
 rwa [Z7] at this
theorem AI7 {l:List Int} (h:ER l) {i:Nat} (hi:i<l.length):DataW Try.prog R8 [FV l,i64 i] (.tup [i64 l[i],bv true]):=by
 have h1:=h.2.1
 have:=APr (m:=(l.length:Int)-1) (q:=(i:Int)) (Rv h) (Nat.le_trans JQ (by omega)) (by unfold Fit; omega) (by omega)
 rwa [if_neg (by omega),Nf hi] at this
structure BackY where
 i:Nat
 c:Nat
 cap:Nat
theorem Ik {i c cap:Nat}:(BackY.mk i c cap).i=i:=(rfl)
theorem JI {i c cap:Nat}:(BackY.mk i c cap).c=c:=(rfl)
theorem I3 {i c cap:Nat}:(BackY.mk i c cap).cap=cap:=(rfl)
def NK (b1 b2:Nat) (l:List Int) (y:BackY):List (Nat×Blk):=BD 3 1 y.c y.cap (Ad (l.take y.i))++[(b2,.box 121 [.nilsl 3]),(b1,.box 58 [i64 ((l.length:Int)-1),FW (Ef l)])]
set_option maxRecDepth 20000 in
theorem PS {l:List Int} (h:ER l):DataW Try.prog APA [FV l] (.tup [Hm (EP 0 l),bv true]):=by
 obtain ⟨hne,h1,h2⟩:=id h
 have hn0:0<l.length:=List.length_pos_iff.2 hne
 have hgl:=JQ (l:=l)
 obtain ⟨hg0,hgf⟩:=Ul hne
 have hel0:=Jr hg0
 rw [hgf] at hel0
 have hof:=AC8 (from':=0) (l:=l) (by omega) (by omega)
 have hwl:IntKind.i64.wrap ((l.length:Int)-1+1)=(l.length:Int):=by rw [IntKind.wrap_i64]; omega
 refine Aj ALi (by simp) ?_
 simp -implicitDefEqProofs -proj only [go_sem,seval]
 refine AI (fun b1 hb1=>?_)
 simp -implicitDefEqProofs -proj only [go_sem,seval]
 refine AI (fun b2 hb2=>?_)
 have a1:=HU (x:=.box 58 [i64 ((l.length:Int)-1),FW (Ef l)]) hb1 (l:=[]) trivial
 have k1:=HT (x:=.box 58 [i64 ((l.length:Int)-1),FW (Ef l)]) hb1 (l:=[]) trivial List.nodup_nil
 have a2:=HU (x:=.box 121 [.nilsl 3]) hb2 a1
 have k2:=HT (x:=.box 121 [.nilsl 3]) hb2 a1 k1
 replace hb2:upd Heap.none b1 _ b2=none:=hb2
 obtain ⟨n1,n2⟩:=AK hb2 AN
 simp -implicitDefEqProofs -proj only [go_sem,seval,n1,n2,Gp,decide_eq_false (show ¬(l.length:Int)-1<0 by omega),decide_eq_false (show ¬2000<(l.length:Int)-1 by omega),decide_eq_false (show ¬((Ef l).length:Int)=0 by omega),hwl,decide_eq_false (show ¬(l.length:Int)<(Ef l).length by omega)]
 refine Ag _ (by omega) (i:=0) hel0 ?_
 simp -implicitDefEqProofs -proj only [go_sem,seval,n1,n2,hwl,decide_eq_true (rfl:(0:Int)=0)]
 refine EN (fun y:BackY=>y.i≤l.length∧(AP (NK b1 b2 l y)).Nodup) 59 (fun y=>[(1,.ptr b1 0),(2,.ptr b2 0),(4,EU 0 1 y.c y.cap (Ad (l.take y.i))),(42,i64 l.length),(43,i64 y.i)]) (NK b1 b2 l) (fun y=>l.length-y.i) ⟨0,0,0⟩ ⟨Nat.zero_le _,k2⟩ rfl ?_ ?_ ?_
 ·simp -implicitDefEqProofs -proj only [go_sem,seval,AJ,Ik,JI,I3]
  rfl
 ·simp -implicitDefEqProofs -proj only [go_sem,seval]
  exact a2
 ·rintro ⟨i,c,cap⟩ ⟨hi,hn⟩
  simp -implicitDefEqProofs only [Ik] at hi
  have hall:=EV hn
  obtain ⟨H,hH⟩:∃H,Ac (NK b1 b2 l ⟨i,c,cap⟩)=H:=⟨_,rfl⟩
  rw [hH] at hall
  simp -implicitDefEqProofs only [NK,Ik,JI,I3] at hall hn
  obtain ⟨hrow,e2,e1,_⟩:=EQ.1 hall
  by_cases hlt:i<l.length
  ·have hat:=AI7 h hlt
   have htk:l.take (i+1)=l.take i++[l[i]]:=List.take_succ_eq_append_getElem hlt
   have hl1:(Ad (l.take i)).length=i:=by rw [Ei,List.length_take]; omega
   have hl2:(Ad (l.take (i+1))).length=i+1:=by rw [Ei,List.length_take]; omega
   have hne2:Ad (l.take (i+1))≠[]:=by intro e; rw [e] at hl2; simp at hl2
   generalize l[i]=v at *
   simp -implicitDefEqProofs -proj only [go_sem,seval,Ik,JI,I3,hH,e1,decide_eq_true (show (i:Int)<l.length by omega)]
   refine AL hat ?_
   simp -implicitDefEqProofs -proj only [go_sem,seval]
   refine EO (fun bs hs'=>?_)
   replace hs':H bs=none:=hs'
   simp -implicitDefEqProofs -proj only [go_sem,seval]
   refine FX (xs:=Ad (l.take i)) (y:=[.int .i64 v]) (t:=3) (capc:=1) [(b2,.box 121 [.nilsl 3]),(b1,.box 58 [i64 ((l.length:Int)-1),FW (Ef l)])] rfl (Ap hs' hall) hn (by simp -implicitDefEqProofs -proj only [go_sem,seval]) (by rw [hl1]; omega) (by rw [hl1]; omega) (fun H' c' cap' ha hk=>?_)
   rw [show Ad (l.take i)++[[.int .i64 v]]=Ad (l.take (i+1)) by rw [htk]; simp [Ad]] at ha hk
   simp -implicitDefEqProofs -proj only [go_sem,seval]
   refine AY ⟨i+1,c',cap'⟩ ⟨by show i+1≤l.length; omega,hk⟩ (by show l.length-(i+1)<l.length-i; omega) rfl ?_ ha
   simp -implicitDefEqProofs -proj only [go_sem,seval,AJ,Ik,JI,I3,AU (show i<9223372036854775807 by omega),Eg hne2,hl1,hl2]
  ·have hi':i=l.length:=by omega
   subst hi'
   rw [List.take_length] at hrow
   simp -implicitDefEqProofs -proj only [go_sem,seval,Ik,JI,I3,hH,decide_eq_false (show ¬(l.length:Int)<l.length by omega),List.take_length]
   refine MN hof (GA (.refl _) (GA (Id hrow) Hl)) ?_
   simp -implicitDefEqProofs -proj only [go_sem,seval,e2]
   exact AM rfl
theorem Uq {l:List Int} (h:ER l):DataW Try.prog APZ [FV l] (bv true):=by
 have h1:=PS h
 have h2:=(PP (l:=l) (by have:=h.2.1; omega)).data
 rw [if_pos h] at h2
 have hgl:=JQ (l:=l)
 have h3:=SC (m:=(l.length:Int)-1) (n:=(l.length:Int)-1) (a:=Ef l) (b:=Ef l) (by have:=h.2.1; omega) (by have:=h.2.1; omega)
 rw [decide_eq_true ⟨rfl,rfl⟩] at h3
 generalize EP 0 l=R at *
 refine Aj ACl (by simp) ?_
 simp -implicitDefEqProofs -proj only [go_sem,seval]
 refine AI (fun b1 hb1=>?_)
 simp -implicitDefEqProofs -proj only [go_sem,seval]
 refine AL h1 ?_
 simp -implicitDefEqProofs -proj only [go_sem,seval]
 refine AI (fun b3 hb3=>?_)
 replace hb3:upd Heap.none b1 _ b3=none:=hb3
 obtain ⟨n1,n2⟩:=AK hb3 AN
 simp -implicitDefEqProofs -proj only [go_sem,seval,n1,n2]
 refine AL h2 ?_
 simp -implicitDefEqProofs -proj only [go_sem,seval,n1,n2]
 refine AI (fun b5 hb5=>?_)
 replace hb5:upd (upd Heap.none b1 _) b3 _ b5=none:=hb5
 obtain ⟨n3,n4⟩:=AK hb5 AN
 obtain ⟨n5,n6⟩:=AK hb5 (by rw [AF n1]; exact AN)
 simp -implicitDefEqProofs -proj only [go_sem,seval,n1,n2,n3,n4,n5,n6]
 refine AL h3 ?_
 simp -implicitDefEqProofs -proj only [go_sem,seval]
 exact AM rfl
theorem Kf {c:CoreX} {d:Int} {m:Nat} {mx:Int}:(Hq c d m mx).length=(mx+1).toNat:=by simp [Hq]
theorem AMY {c:CoreX} {d:Int} {m:Nat} {mx:Int} {q:Nat} (h:q<(mx+1).toNat):(Hq c d m mx)[q]'(by rw [Kf]; exact h)=HV c d m q:=by simp [Hq]
theorem HL {c:CoreX} {d:Int} {k:Nat}:(Eb c d k).length=k:=by simp [Eb]
theorem M4 {c:CoreX} {d:Int} {k m:Nat} (h:m<k) (hm:m<c.ms.length):(Eb c d k)[m]'(by rw [HL]; exact h)=Hq c d m c.ms[m].mx:=by
 simp [Eb,hm]
theorem AVk {c:CoreX} {d:Int} {k:Nat} (hm:k<c.ms.length):Eb c d (k+1)=Eb c d k++[Hq c d k c.ms[k].mx]:=by
 simp [Eb,List.range_succ,hm]
theorem Qt {c:CoreX} (h:fitsC c) (d:Int) {m:Nat} (hm:m<c.ms.length):ER (Hq c d m c.ms[m].mx):=by
 have hb:=(fitsC.bnd h.good).mx m hm
 refine ⟨fun e=>?_,by rw [Kf]; omega,fun v hv=>?_⟩
 ·have:=congrArg List.length e
  rw [Kf] at this
  simp at this
  omega
 ·obtain ⟨q,hq,rfl⟩:=List.mem_map.1 hv
  have hq:=List.mem_range.1 hq
  have:=PE h d hm (q:=q) (by omega) (by omega) (Nat.le_refl c.ps.length)
  unfold F4 HV
  omega
theorem Mo {c:CoreX} (h:fitsC c) (d:Int):∀l∈Eb c d c.ms.length,ER l:=by
 intro l hl
 obtain ⟨i,hi,rfl⟩:=List.getElem_of_mem hl
 rw [HL] at hi
 rw [M4 hi hi]
 exact Qt h d hi
theorem RT {i k:Nat}:(2 ^ i).testBit k=decide (k=i):=by
 rw [Nat.testBit_two_pow]
 exact decide_eq_decide.2 eq_comm
theorem ZN {i k:Nat}:(256*2 ^ i).testBit k=decide (k=8+i):=by
 rw [show 256*2 ^ i=2 ^ (8+i) by rw [Nat.pow_add],RT]
theorem Pj {ss:List SumX} {d:Int} {k:Nat}:∀{i:Nat},i≤ss.length→((Gc ss d i).testBit k=true↔k<i∧∃s,ss[k]? = some s∧FQ d s.f s.t)
 | 0,_=>by simp [Gc]
 | i+1,h=>by
  have ih:=Pj (ss:=ss) (d:=d) (k:=k) (i:=i) (by omega)
  rw [Gc,Nat.testBit_or,Bool.or_eq_true,ih,List.getElem?_eq_getElem (show i<ss.length by omega)]
  simp -implicitDefEqProofs only []
  by_cases hd:ss[i].f≤d∧d≤ss[i].t
  ·rw [if_pos hd,RT,decide_eq_true_eq]
   constructor
   ·rintro (⟨h1,h2⟩ | rfl)
    ·exact ⟨by omega,h2⟩
    ·exact ⟨by omega,_,List.getElem?_eq_getElem (by omega),hd⟩
   ·rintro ⟨h1,h2⟩
    by_cases hk:k=i
    ·exact .inr hk
    ·exact .inl ⟨by omega,h2⟩
  ·rw [if_neg hd]
   simp -implicitDefEqProofs only [Nat.zero_testBit,Bool.false_eq_true,or_false]
   constructor
   ·rintro ⟨h1,h2⟩; exact ⟨by omega,h2⟩
   ·rintro ⟨h1,s,h2,h3⟩
    refine ⟨?_,s,h2,h3⟩
    by_cases hk:k=i
    ·subst hk
     rw [List.getElem?_eq_getElem (by omega)] at h2
     rw [←Option.some.inj h2] at h3
     exact absurd h3 hd
    ·omega
theorem O4 {ss:List SumX} {ps:List PartX} {d:Int} {k:Nat}:∀{i:Nat},i≤ps.length→((Gg ss ps d i).testBit k=true↔(Gc ss d ss.length).testBit k=true∨8≤k∧k<8+i∧∃s,ps[k-8]? = some s∧FQ d s.f s.t)
 | 0,_=>by
  rw [Gg]
  exact ⟨.inl,fun h=>h.elim id (fun k=>absurd k.2.1 (by omega))⟩
 | i+1,h=>by
  have ih:=O4 (ss:=ss) (ps:=ps) (d:=d) (k:=k) (i:=i) (by omega)
  rw [Gg,Nat.testBit_or,Bool.or_eq_true,ih,List.getElem?_eq_getElem (show i<ps.length by omega)]
  simp -implicitDefEqProofs only []
  by_cases hd:ps[i].f≤d∧d≤ps[i].t
  ·rw [if_pos hd,ZN,decide_eq_true_eq]
   constructor
   ·rintro ((h1 | ⟨h1,h2,h3⟩) | rfl)
    ·exact .inl h1
    ·exact .inr ⟨h1,by omega,h3⟩
    ·exact .inr ⟨by omega,by omega,_,by rw [show 8+i-8=i by omega]; exact List.getElem?_eq_getElem (by omega),hd⟩
   ·rintro (h1 | ⟨h1,h2,h3⟩)
    ·exact .inl (.inl h1)
    ·by_cases hk:k=8+i
     ·exact .inr hk
     ·exact .inl (.inr ⟨h1,by omega,h3⟩)
  ·rw [if_neg hd]
   simp -implicitDefEqProofs only [Nat.zero_testBit,Bool.false_eq_true,or_false]
   constructor
   ·rintro (h1 | ⟨h1,h2,h3⟩)
    ·exact .inl h1
    ·exact .inr ⟨h1,by omega,h3⟩
   ·rintro (h1 | ⟨h1,h2,s,h3,h4⟩)
    ·exact .inl h1
    ·refine .inr ⟨h1,?_,s,h3,h4⟩
     by_cases hk:k=8+i
     ·subst hk
      rw [show 8+i-8=i by omega,List.getElem?_eq_getElem (by omega)] at h3
      rw [←Option.some.inj h3] at h4
      exact absurd h4 hd
     ·omega
theorem Rr {c:CoreX} {d:Int} {j:Nat} (h8:c.ss.length≤8) (hj:j<c.ss.length):((G0 c d).testBit j=true↔FQ d c.ss[j].f c.ss[j].t):=by
 unfold G0
 rw [O4 (Nat.le_refl _),Pj (Nat.le_refl _)]
 constructor
 ·rintro (⟨_,s,h2,h3⟩ | ⟨h1,_⟩)
  ·rw [List.getElem?_eq_getElem hj] at h2
   cases h2
   exact h3
  ·omega
 ·intro h
  exact .inl ⟨hj,_,List.getElem?_eq_getElem hj,h⟩
theorem Tu {c:CoreX} {d:Int} {j:Nat} (h8:c.ss.length≤8) (hj:j<c.ps.length):((G0 c d).testBit (8+j)=true↔FQ d c.ps[j].f c.ps[j].t):=by
 unfold G0
 rw [O4 (Nat.le_refl _),Pj (Nat.le_refl _),show 8+j-8=j by omega,List.getElem?_eq_getElem hj]
 constructor
 ·rintro (⟨h1,_⟩ | ⟨_,_,s,h2,h3⟩)
  ·omega
  ·cases h2; exact h3
 ·intro h
  exact .inr ⟨by omega,by omega,_,rfl,h⟩
theorem AO6 {c:CoreX} {d e:Int} (h8:c.ss.length≤8) (h:G0 c d=G0 c e):Eo c d=Eo c e:=by
 have h1:∀(j:Nat) (hj:j<c.ss.length),FQ d c.ss[j].f c.ss[j].t↔FQ e c.ss[j].f c.ss[j].t:=fun j hj=>by rw [←Rr h8 hj,←Rr h8 hj,h]
 have h2:∀(j:Nat) (hj:j<c.ps.length),FQ d c.ps[j].f c.ps[j].t↔FQ e c.ps[j].f c.ps[j].t:=fun j hj=>by rw [←Tu h8 hj,←Tu h8 hj,h]
 have e1:GF c d=GF c e:=HH fun j hj=>by
  unfold G6
  rw [List.getElem?_eq_getElem hj]
  simp -implicitDefEqProofs only [h1 j hj]
 have e2:∀m,Fi c d m=Fi c e m:=fun m=>HH fun j hj=>by
  unfold FR
  rw [List.getElem?_eq_getElem hj]
  simp -implicitDefEqProofs only [h2 j hj]
 have e3:∀m q,HV c d m q=HV c e m q:=fun m q=>HH fun j hj=>by
  unfold GG
  rw [List.getElem?_eq_getElem hj]
  simp -implicitDefEqProofs only [h2 j hj]
 unfold Eo Ir Eb Hq
 simp -implicitDefEqProofs only [e1,e3,show Fi c d=Fi c e from funext e2]
theorem UE {c:CoreX} (h8:c.ss.length≤8):∀d e,c.f≤d→d<c.t+1→c.f≤e→e<c.t+1→((G0 c d:Nat):Int)=((G0 c e:Nat):Int)→Eo c d=Eo c e :=
 fun d e _ _ _ _ h=>AO6 h8 (by omega)
def J4 (ps:List PartX) (d:Int) (b:List Int) (j:Nat):Int:=match ps[j]? with
 | some x=>if FQ d x.f x.t then pv x (bq b x.me) else 0
 | none=>0
def IT (c:CoreX) (d:Int) (b:List Int):Int:=GF c d+sg (J4 c.ps d b) c.ps.length
theorem Qb {l:List Int} {x:Int}:(l++[x]).sum=l.sum+x:=by simp
theorem SI {ss:List SumX} {d:Int}:∀i:Nat,(HR ss d i).sum=sg (G6 ss d) i
 | 0=>rfl
 | i+1=>by
  have ih:=SI (ss:=ss) (d:=d) i
  rw [HR,sg,G6]
  cases e:ss[i]? with
  | none=>simp -implicitDefEqProofs only []; omega
  | some s =>
   simp -implicitDefEqProofs only []
   split
   ·rw [Qb]; omega
   ·omega
theorem SM {ss:List SumX} {ps:List PartX} {d:Int} {b:List Int}:∀(i:Nat) (l:List Int),GE ss ps d b i=some l→l.sum=sg (G6 ss d) ss.length+sg (J4 ps d b) i
 | 0,l,h=>by
  rw [GE] at h
  cases h
  rw [SI]; simp [sg]
 | i+1,l,h=>by
  rw [GE] at h
  rw [sg,J4]
  cases e:GE ss ps d b i with
  | none=>rw [e] at h; cases h
  | some m =>
   have ih:=SM i m e
   rw [e] at h
   cases e2:ps[i]? with
   | none=>rw [e2] at h; cases h; simp -implicitDefEqProofs only []; omega
   | some x =>
    rw [e2] at h
    simp -implicitDefEqProofs only [] at h ⊢
    by_cases hw:FQ d x.f x.t
    ·rw [if_pos hw] at h ⊢
     cases e3:Hw x (bq b x.me) with
     | none=>rw [e3] at h; cases h
     | some n =>
      rw [e3] at h
      cases h
      have:pv x (bq b x.me)=n:=by unfold pv; rw [e3]; rfl
      rw [Qb,this]; omega
    ·rw [if_neg hw] at h ⊢
     cases h
     omega
theorem YF {c:CoreX} {d:Int} {m:Nat}:HV c d m 0=0:=by
 unfold HV
 have h:sg (GG c.ps d m 0) c.ps.length=sg (fun _=>0) c.ps.length:=HH fun j _=>by
  unfold GG
  split
  ·split
   ·exact Int.sub_self _
   ·rfl
  ·rfl
 rw [h,Lv]
theorem Py {c:CoreX} (hme:∀x∈c.ps,0≤x.me∧x.me<(c.ms.length:Int)) (d:Int) (b:List Int):IT c d b=Ir c d+sg (fun m=>HV c d m (bq b m)) c.ms.length:=by
 unfold IT Ir
 have h1:sg (fun m=>HV c d m (bq b m)) c.ms.length=sg (fun j=>sg (fun m=>GG c.ps d m (bq b m) j) c.ms.length) c.ps.length:=by
  unfold HV
  exact N7 (g:=fun m j=>GG c.ps d m (bq b m) j) c.ps.length
 have h2:sg (Fi c d) c.ms.length=sg (fun j=>sg (fun m=>FR c.ps d m j) c.ms.length) c.ps.length:=by
  unfold Fi
  exact N7 (g:=fun m j=>FR c.ps d m j) c.ps.length
 have h3:sg (J4 c.ps d b) c.ps.length=sg (fun j=>sg (fun m=>FR c.ps d m j) c.ms.length+sg (fun m=>GG c.ps d m (bq b m) j) c.ms.length) c.ps.length:=by
  refine HH fun j hj=>?_
  rw [←M2]
  unfold J4 FR GG
  rw [List.getElem?_eq_getElem hj]
  simp -implicitDefEqProofs only []
  obtain ⟨k1,k2⟩:=hme _ (List.getElem_mem hj)
  generalize c.ps[j]=x at *
  by_cases hw:FQ d x.f x.t
  ·rw [if_pos hw]
   have:sg (fun m:Nat=>(if x.me=(m:Int)∧FQ d x.f x.t then pv x 0 else 0)+(if x.me=(m:Int)∧FQ d x.f x.t then pv x (bq b m)-pv x 0 else 0)) c.ms.length=sg (fun m:Nat=>if m=x.me.toNat then pv x (bq b x.me) else 0) c.ms.length:=by
    refine HH fun m hm=>?_
    by_cases e:x.me=(m:Int)
    ·rw [if_pos ⟨e,hw⟩,if_pos ⟨e,hw⟩,if_pos (by omega),←e]; omega
    ·rw [if_neg (fun k=>e k.1),if_neg (fun k=>e k.1),if_neg (by omega)]; rfl
   rw [this,OB,if_pos (by omega)]
  ·rw [if_neg hw]
   have h0:sg (fun m:Nat=>(if x.me=(m:Int)∧FQ d x.f x.t then pv x 0 else 0)+(if x.me=(m:Int)∧FQ d x.f x.t then pv x (bq b m)-pv x 0 else 0)) c.ms.length=sg (fun _=>0) c.ms.length:=HH fun m hm=>by
    rw [if_neg (fun k=>hw k.2),if_neg (fun k=>hw k.2)]; rfl
   rw [h0,Lv]
 rw [h3,M2,←h1,←h2]
 omega
theorem AOX {n:Nat} {m:Nat}:bq (List.replicate n 0) (m:Int)=0:=by
 unfold bq
 rw [Int.toNat_natCast,List.getD_eq_getElem?_getD,List.getElem?_replicate]
 split <;> rfl
theorem ARE {c:CoreX} (hme:∀x∈c.ps,0≤x.me∧x.me<(c.ms.length:Int)) (d:Int) (n:Nat):IT c d (List.replicate n 0)=Ir c d:=by
 rw [Py hme,show sg (fun m:Nat=>HV c d m (bq (List.replicate n 0) m)) c.ms.length=sg (fun _=>0) c.ms.length from HH fun m _=>by rw [AOX,YF],Lv]
 omega
theorem Tv:∀{l:List Int} {a:Int},(∀v∈l,0≤v)→0≤a→a+l.sum≤9223372036854775807→Ij a l=some (a+l.sum)
 | [],a,_,_,_=>by simp [Ij]
 | x::l,a,h,h1,h2=>by
  have hx:=h x (List.mem_cons_self ..)
  have hs:0≤l.sum:=by
   have:∀l:List Int,(∀v∈l,0≤v)→0≤l.sum:=by
    intro l
    induction l with
    | nil=>intro _; simp
    | cons y l ih =>
     intro hl
     have:=ih fun v hv=>hl v (List.mem_cons_of_mem _ hv)
     have:=hl y (List.mem_cons_self ..)
     simp -implicitDefEqProofs only [List.sum_cons]; omega
   exact this l fun v hv=>h v (List.mem_cons_of_mem _ hv)
  simp -implicitDefEqProofs only [List.sum_cons] at h2 ⊢
  rw [Ij,if_pos (by unfold Fit; omega),Tv (fun v hv=>h v (List.mem_cons_of_mem _ hv)) (by omega) (by omega)]
  congr 1
  omega
theorem OU {ss:List SumX} {d:Int} (hs:∀s∈ss,0≤s.a):∀i,∀v∈HR ss d i,0≤v
 | 0,v,h=>by cases h
 | i+1,v,h=>by
  rw [HR] at h
  cases e:ss[i]? with
  | none=>rw [e] at h; exact OU hs i v h
  | some s =>
   rw [e] at h
   simp -implicitDefEqProofs only [] at h
   split at h
   ·rcases List.mem_append.1 h with h | h
    ·exact OU hs i v h
    ·rw [List.mem_singleton] at h
     subst h
     exact hs _ (List.mem_of_getElem? e)
   ·exact OU hs i v h
theorem Sr {c:CoreX} {d:Int} {b:List Int} (hf:fitsC c) (hb:Jp c b):∀i:Nat,i≤c.ps.length→∃l,GE c.ss c.ps d b i=some l∧∀v∈l,0≤v
 | 0,_=>⟨_,rfl,OU (fun s hs=>((fitsC.bnd hf.good).amt s hs).1) _⟩
 | i+1,hi=>by
  obtain ⟨l,h1,h2⟩:=Sr hf hb (d:=d) i (by omega)
  rw [GE,h1,List.getElem?_eq_getElem (show i<c.ps.length by omega)]
  simp -implicitDefEqProofs only []
  have hx:=List.getElem_mem (show i<c.ps.length by omega)
  obtain ⟨m1,m2⟩:=(fitsC.bnd hf.good).me _ hx
  generalize c.ps[i]'(by omega)=x at *
  split
  ·obtain ⟨hb1,hb2⟩:=hb
   have hm:x.me.toNat<c.ms.length:=by omega
   have hq:=hb2 x.me.toNat (by omega) hm
   have hbq:bq b x.me=b[x.me.toNat]:=by unfold bq; rw [List.getD_eq_getElem?_getD,List.getElem?_eq_getElem (by omega),Option.getD_some]
   have hmx:F8 c.ms x.me=c.ms[x.me.toNat].mx:=by unfold F8; rw [List.getElem?_eq_getElem hm]
   obtain ⟨k1,k2,k3,k4⟩:=MA hf hx (q:=bq b x.me) (by omega) (by omega)
   rw [k1]
   simp -implicitDefEqProofs only []
   refine ⟨_,rfl,fun v hv=>?_⟩
   rcases List.mem_append.1 hv with hv | hv
   ·exact h2 v hv
   ·rw [List.mem_singleton] at hv
    omega
  ·exact ⟨l,rfl,h2⟩
theorem RG {c:CoreX} (hf:fitsC c) {d:Int} {b:List Int} (hb:Jp c b) (j:Nat):0≤J4 c.ps d b j∧J4 c.ps d b j≤Hv c j:=by
 have hp:=MF (c:=c) j
 unfold Hv at *
 unfold J4
 cases e:c.ps[j]? with
 | none=>exact ⟨Int.le_refl _,Int.le_refl _⟩
 | some x =>
  have hx:=List.mem_of_getElem? e
  rw [e] at hp
  simp -implicitDefEqProofs only [] at hp ⊢
  split
  ·obtain ⟨m1,m2⟩:=(fitsC.bnd hf.good).me _ hx
   obtain ⟨hb1,hb2⟩:=hb
   have hm:x.me.toNat<c.ms.length:=by omega
   have hq:=hb2 x.me.toNat (by omega) hm
   have hbq:bq b x.me=b[x.me.toNat]:=by unfold bq; rw [List.getD_eq_getElem?_getD,List.getElem?_eq_getElem (by omega),Option.getD_some]
   have hmx:F8 c.ms x.me=c.ms[x.me.toNat].mx:=by unfold F8; rw [List.getElem?_eq_getElem hm]
   obtain ⟨k1,k2,k3,k4⟩:=MA hf hx (q:=bq b x.me) (by omega) (by omega)
   omega
  ·omega
theorem Tr {c:CoreX} (hf:fitsC c) {d:Int} {b:List Int} (hb:Jp c b):0≤IT c d b∧IT c d b≤1152921504606846976:=by
 have h1:=hf.tot c.ps.length (Nat.le_refl _)
 have h2:=KU (n:=c.ps.length) fun j _=>(RG hf (d:=d) hb j).1
 have h3:=Kk (n:=c.ps.length) fun j _=>(RG hf (d:=d) hb j).2
 have h4:=KU (n:=c.ss.length) fun j _=>(Nt hf.good d j).1
 have h5:=Kk (n:=c.ss.length) fun j _=>(Nt hf.good d j).2
 unfold GQ at h1
 unfold IT GF
 omega
theorem ADP {c:CoreX} (hf:fitsC c) {d:Int} {b:List Int} (hb:Jp c b):∃l,NT c d b=some l∧Ij 0 l=some (IT c d b):=by
 obtain ⟨l,h1,h2⟩:=Sr hf hb (d:=d) c.ps.length (Nat.le_refl _)
 have hs:=SM _ _ h1
 have hc:=Tr hf (d:=d) hb
 have he:l.sum=IT c d b:=hs
 refine ⟨l,h1,?_⟩
 rw [Tv h2 (Int.le_refl 0) (by omega),he]
 congr 1
 omega
def HP (l:List Int):List D:=[.int .i64 ((l.length:Int)-1),.sl 5 (ET (Ef l))]
def Ay (ls:List (List Int)):List (List D):=ls.map HP
abbrev Ee (ls:List (List Int)):AV:=.d (.sl 2 (Ay ls))
theorem FS {ls:List (List Int)}:(Ay ls).length=ls.length:=List.length_map ..
theorem JB {ls:List (List Int)} {i:Nat} (h:i<ls.length):(Ay ls)[((i:Int)).toNat]? = some [.int .i64 ((ls[i].length:Int)-1),.sl 5 (ET (Ef ls[i]))]:=by
 rw [Int.toNat_natCast]; simp [Ay,h,HP]
theorem ASY {ls:List (List Int)} {l:List Int}:Ay ls++[[.int .i64 ((l.length:Int)-1),.sl 5 (ET (Ef l))]]=Ay (ls++[l]):=by simp [Ay,HP]
def Kc (s:Seg D4):List D:=[.int .i64 s.f,.int .i64 s.t,.int .i64 s.v.1,.sl 2 (Ay s.v.2)]
def Em (S:List (Seg D4)):List (List D):=S.map Kc
abbrev JY (s:Seg D4):AV:=.agg [i64 s.f,i64 s.t,i64 s.v.1,Ee s.v.2]
abbrev MW (S:List (Seg D4)):AV:=.d (.sl 4 (Em S))
theorem Ic {S:List (Seg D4)}:(Em S).length=S.length:=List.length_map ..
theorem PD {S:List (Seg D4)} {i:Nat} (h:i<S.length):(Em S)[((i:Int)).toNat]? = some [.int .i64 S[i].f,.int .i64 S[i].t,.int .i64 S[i].v.1,.sl 2 (Ay S[i].v.2)]:=by
 rw [Int.toNat_natCast]; simp [Em,h,Kc]
theorem L8 {S:List (Seg D4)} {i:Nat} {s:Seg D4} (h:S[i]? = some s):(Em S)[i]? = some [.int .i64 s.f,.int .i64 s.t,.int .i64 s.v.1,.sl 2 (Ay s.v.2)]:=by
 simp [Em,h,Kc]
theorem Tk {A:List (Seg D4)} {s:Seg D4} {x:Int}:(Em (A++[s])).set A.length [.int .i64 s.f,.int .i64 x,.int .i64 s.v.1,.sl 2 (Ay s.v.2)]=Em (A++[⟨s.f,x,s.v⟩]):=by
 simp [Em,Kc,List.set_append]
abbrev E7 (cur:ByteArray) (f t:Int) (ms:List MeterX) (S:List (Seg D4)):AV:=.agg [.d (.str cur),i64 f,i64 t,.d (.sl 5 (AX ms)),MW S]
theorem OP {H:Heap} {f t x:Int} {v:AV} {ls:List (List Int)} (h:LendV H v (Ee ls)):LendV H (.agg [i64 f,i64 t,i64 x,v]) (.agg [i64 f,i64 t,i64 x,Ee ls]):=by
 refine .agg _ _ rfl fun j u v e1 e2=>?_
 match j with
 | 0=>cases e1; cases e2; exact .refl _
 | 1=>cases e1; cases e2; exact .refl _
 | 2=>cases e1; cases e2; exact .refl _
 | 3=>cases e1; cases e2; exact h
 | j+4=>cases e1
theorem OV {H:Heap} {cur:ByteArray} {f t:Int} {v w:AV} {ms:List MeterX} {S:List (Seg D4)} (h:LendV H v (.d (.sl 5 (AX ms)))) (h2:LendV H w (MW S)):LendV H (.agg [.d (.str cur),i64 f,i64 t,v,w]) (E7 cur f t ms S):=by
 refine .agg _ _ rfl fun j u v e1 e2=>?_
 match j with
 | 0=>cases e1; cases e2; exact .refl _
 | 1=>cases e1; cases e2; exact .refl _
 | 2=>cases e1; cases e2; exact .refl _
 | 3=>cases e1; cases e2; exact h
 | 4=>cases e1; cases e2; exact h2
 | j+5=>cases e1
theorem AVS {a b:List Int} (hl:a.length=b.length) (h:Ef a=Ef b):a=b:=by
 refine List.ext_getElem hl fun i h1 h2=>?_
 have e1:=Nf h1
 have e2:=Nf h2
 rw [h,e2] at e1
 exact (Option.some.inj e1).symm
theorem RU {a b:List Int}:((a.length:Int)-1=(b.length:Int)-1∧Ef a=Ef b)↔a=b :=
 ⟨fun h=>AVS (by omega) h.2,fun h=>by rw [h]; exact ⟨rfl,rfl⟩⟩
noncomputable def Fv (c:CoreX):List (Seg D4):=Lc (GJ (Eo c) ((Jc c).map (·.f)) (Jc c).length) c.t
theorem ABD {c:CoreX} (hg:goodC c):FwdB (Eo c) c.f (c.t+1) (Fv c):=by
 obtain ⟨_,⟨a3,_⟩,_,_,h8,_⟩:=hg.hd
 have:=AO1 (UR a3) (by omega) (UE h8)
 rwa [show c.t+1-1=c.t by omega] at this
theorem ALq {q:Nat}:CallW Try.prog UU [.nilsl q,i64 0,i64 0,.fn Iu []] Heap.none fun _ _=>True:=by
 have hw1:IntKind.i64.wrap (0+1)=1:=by decide
 refine Aj TT (by simp) ?_
 simp -implicitDefEqProofs -proj only [go_sem,seval,hw1]
 refine EN (fun x:Nat=>x=0) 53 (fun x=>[(2,i64 0),(8,i64 1)]) (fun x=>[]) (fun x=>x) 0 rfl rfl ?_ trivial ?_
 ·simp -implicitDefEqProofs -proj only [go_sem,seval,AJ]
  try trivial
 rintro x rfl
 simp -implicitDefEqProofs -proj only [go_sem,seval,show (IntKind.i64.wrap 1)=1 by decide]
 try trivial
theorem ALg {q:Nat}:CallW Try.prog U4 [.nilsl q,i64 0,.fn Iu []] Heap.none fun _ _=>True:=by
 refine Aj Q2 (by simp) ?_
 simp -implicitDefEqProofs -proj only [go_sem,seval]
 refine EN (fun x:Nat=>x=0) 63 (fun x=>[(0,.nilsl q),(1,i64 0),(2,.fn Iu []),(6,i64 20),(7,i64 0),(8,i64 20)]) (fun x=>[]) (fun x=>x) 0 rfl rfl ?_ trivial ?_
 ·simp -implicitDefEqProofs -proj only [go_sem,seval,AJ]
  try trivial
 rintro x rfl
 simp -implicitDefEqProofs -proj only [go_sem,seval]
 refine Fm (IL ALq (fun k=>.inl rfl)) (fun r H' hk=>?_)
 simp -implicitDefEqProofs -proj only [go_sem,seval]
 refine EN (fun x:Nat=>x=0) 63 (fun x=>[(1,i64 0),(6,i64 20)]) (fun x=>[]) (fun x=>x) 0 rfl rfl ?_ trivial ?_
 ·simp -implicitDefEqProofs -proj only [go_sem,seval,AJ]
  try trivial
 rintro x rfl
 simp -implicitDefEqProofs -proj only [go_sem,seval]
 try trivial
theorem AKN {q:Nat}:CallW Try.prog SJ [.nilsl q,.fn Iu []] Heap.none fun _ _=>True:=by
 refine Aj Uj (by simp) ?_
 simp -implicitDefEqProofs -proj only [go_sem,seval]
 refine Fm (IL ALg (fun k=>.inl rfl)) (fun r H' hk=>?_)
 simp -implicitDefEqProofs -proj only [go_sem,seval]
 try trivial
theorem AOR {q:Nat}:CallW Try.prog Rf [.nilsl q,.fn MZ []] Heap.none fun r _=>r = .nilsl q:=by
 refine Aj TO (by simp) ?_
 simp -implicitDefEqProofs -proj only [go_sem,seval]
 try rfl
theorem YN {a b:List MeterX} (h:a++b=[]):ES a b=[]:=by
 have:=NN a b
 rw [←List.length_append,h] at this
 exact List.eq_nil_of_length_eq_zero (by simpa using this)
theorem Mm {H:Heap} {c:Nat} {x:Blk} (h:H c=some x) (k:Nat):Ac [(c,x)] k=none∨Ac [(c,x)] k=H k:=by
 rw [Av]
 by_cases e:k=c
 ·rw [if_pos e]; subst e; exact .inr h.symm
 ·rw [if_neg e]; exact .inl rfl
theorem Qx {cu cu':ByteArray} {f t f' t':Int} {A B:List MeterX} {S S':List (Seg D4)} (hA:A.length≤8) (hB:B.length≤8):DataW Try.prog AHg [E7 cu f t A S,E7 cu' f' t' B S'] (.d (.sl 5 (AX (ES A B)))):=by
 refine Aj ALE (by simp) ?_
 simp -implicitDefEqProofs -proj only [go_sem,seval]
 refine AI (fun b1 hb1=>?_)
 simp -implicitDefEqProofs -proj only [go_sem,seval]
 refine AI (fun b2 hb2=>?_)
 replace hb2:upd Heap.none b1 _ b2=none:=hb2
 obtain ⟨n1,n2⟩:=AK hb2 AN
 simp -implicitDefEqProofs -proj only [go_sem,seval,n1,n2]
 refine EO (fun b3 hb3=>?_)
 simp -implicitDefEqProofs -proj only [go_sem,seval,n1,n2]
 refine Fm (IL (AHz (A:=A) (B:=B) (a:=b3) (ca:=2) (ta:=22) (by omega) (by omega)) (Mm (by simp -implicitDefEqProofs -proj only [go_sem,seval]))) (fun r H' hk=>?_)
 obtain ⟨H1,hc,hsub,_⟩:=hk
 rcases hc with ⟨h0,q,rfl⟩ | ⟨b,cap,rfl,hb⟩
 ·simp -implicitDefEqProofs -proj only [go_sem,seval]
  refine Fm (IL AKN (fun k=>.inl rfl)) (fun r H2 hk2=>?_)
  simp -implicitDefEqProofs -proj only [go_sem,seval]
  refine Fm (IL AOR (fun k=>.inl rfl)) (fun r H3 hk3=>?_)
  obtain ⟨_,rfl,_⟩:=hk3
  simp -implicitDefEqProofs -proj only [go_sem,seval]
  rw [YN h0]
  exact .nilsl _ _
 ·replace hb:=hsub b _ hb
  simp -implicitDefEqProofs -proj only [go_sem,seval]
  refine Fm (Vy hb rfl (by rw [List.length_append]; omega)) (fun r H2 hk2=>?_)
  obtain ⟨hb2',_⟩:=hk2
  simp -implicitDefEqProofs -proj only [go_sem,seval]
  refine Fm (IL (AMI (S:=Hu (A++B)) (c:=b) (cp:=cap) (n:=(A++B).length) (QF _).symm (by rw [QF,List.length_append]; omega)) (Mm hb2')) (fun r H3 hk3=>?_)
  obtain ⟨H4,⟨rfl,hb4⟩,hsub4,_⟩:=hk3
  replace hb4:=hsub4 b _ hb4
  simp -implicitDefEqProofs -proj only [go_sem,seval]
  have e:(IO (Hu (A++B))).length=(AX (ES A B)).length:=by rw [Gf]; rfl
  rw [e]
  exact .own _ _ _ _ _ _ hb4
def Ga (l:List Int) (i:Nat):List Int:=(Gh 0 l i).map (·.f)
theorem AHN {l:List Int} {i:Nat} (h:i<l.length):Ga l (i+1)=if i=0∨l.getD (i-1) 0≠l[i] then Ga l i++[(i:Int)] else Ga l i:=by
 unfold Ga
 rw [Gh,E6]
 have hx:l.getD i 0=l[i]:=by simp [h]
 rw [hx]
 cases i with
 | zero =>
  rw [if_pos (.inl rfl)]
  simp [Gh]
 | succ i =>
  obtain ⟨q,h1,h2,h3⟩:=@Uz 0 l i
  rw [h1]
  simp -implicitDefEqProofs only [Nat.add_sub_cancel]
  rw [h2]
  by_cases hv:l.getD i 0=l[i+1]
  ·rw [if_pos hv,if_neg (fun h=>h.elim (by omega) (fun e=>e hv))]
   have hne:Gh 0 l (i+1)≠[]:=OL
   conv=>rhs; rw [←List.dropLast_concat_getLast hne]
   rw [List.getLast?_eq_some_getLast hne] at h1
   cases h1
   simp
  ·rw [if_neg hv,if_pos (.inr hv)]
   simp
structure RX where
 i:Nat
 c:Nat
 cap:Nat
theorem JF {i c cap:Nat}:(RX.mk i c cap).i=i:=(rfl)
theorem Jn {i c cap:Nat}:(RX.mk i c cap).c=c:=(rfl)
theorem Jh {i c cap:Nat}:(RX.mk i c cap).cap=cap:=(rfl)
structure RY where
 i:Nat
 d:Nat
 dap:Nat
 G:List Grp
theorem HE {i d dap:Nat} {G:List Grp}:(RY.mk i d dap G).i=i:=(rfl)
theorem Ih {i d dap:Nat} {G:List Grp}:(RY.mk i d dap G).d=d:=(rfl)
theorem Ii {i d dap:Nat} {G:List Grp}:(RY.mk i d dap G).dap=dap:=(rfl)
theorem GW {i d dap:Nat} {G:List Grp}:(RY.mk i d dap G).G=G:=(rfl)
def Lz (b2:Nat) (l:List Int) (y:RX):List (Nat×Blk):=BD 3 1 y.c y.cap (Ad (Ga l y.i))++[(b2,.box 58 [i64 0,.nilsl 5])]
def I4 (b7 b2 c cap:Nat) (l ST:List Int) (y:RY):List (Nat×Blk):=BD 66 5 y.d y.dap (ET y.G)++[(b7,.box 58 [i64 ((l.length:Int)-1),EU 5 5 y.d y.dap (ET y.G)]),(b2,.box 58 [i64 0,.nilsl 5]),(c,.row 3 1 cap (Ad ST))]
theorem Ss {a:Nat} {A B:List Nat} (h:(a::(A++B)).Nodup):(A++a::B).Nodup:=(List.perm_middle.nodup_iff).2 h
theorem Na {a:Nat} {A B:List Nat} (h:(A++a::B).Nodup):(A++B).Nodup:=(List.nodup_cons.1 ((List.perm_middle.nodup_iff).1 h)).2
set_option maxRecDepth 20000 in
set_option maxHeartbeats 1000000 in
theorem Pa {l:List Int} (hfl:Jb l) (hl:l.length≤3000):NewW Try.prog Uy [Fu l] (if ER l then .tup [FV l,bv true] else .tup [Fg 0 [],bv false]):=by
 refine Aj ACW (by simp) ?_
 simp -implicitDefEqProofs -proj only [go_sem,seval]
 refine AI (fun b2 hb2=>?_)
 by_cases h0:l.length=0
 ·have:¬ER l:=fun h=>h.1 (List.length_eq_zero_iff.1 h0)
  rw [if_neg this]
  simp -implicitDefEqProofs -proj only [go_sem,seval,Ei,decide_eq_true (show (l.length:Int)=0 by omega)]
  exact JC (JE (.nilsl _ _))
 by_cases h1:2001<(l.length:Int)
 ·have:¬ER l:=fun h=>by have:=h.2.1; omega
  rw [if_neg this]
  simp -implicitDefEqProofs -proj only [go_sem,seval,Ei,decide_eq_false (show ¬(l.length:Int)=0 by omega),decide_eq_true h1]
  exact JC (JE (.nilsl _ _))
 have a2:=HU (x:=.box 58 [i64 0,.nilsl 5]) hb2 (l:=[]) trivial
 have n2:=HT (x:=.box 58 [i64 0,.nilsl 5]) hb2 (l:=[]) trivial List.nodup_nil
 simp -implicitDefEqProofs -proj only [go_sem,seval,Ei,decide_eq_false (show ¬(l.length:Int)=0 by omega),decide_eq_false h1]
 refine EN (fun y:RX=>y.i≤l.length∧(∀(j:Nat) (h:j<l.length),j<y.i→F4 l[j])∧(AP (Lz b2 l y)).Nodup) 165 (fun y=>[(0,Fu l),(2,.ptr b2 0),(4,EU 0 1 y.c y.cap (Ad (Ga l y.i))),(19,Fu l),(20,i64 l.length),(21,i64 y.i)]) (Lz b2 l) (fun y=>l.length-y.i) ⟨0,0,0⟩ ⟨Nat.zero_le _,fun j _ h=>absurd h (Nat.not_lt_zero _),n2⟩ rfl ?_ ?_ ?_
 ·simp -implicitDefEqProofs -proj only [go_sem,seval,AJ,JF,Jn,Jh]
  rfl
 ·simp -implicitDefEqProofs -proj only [go_sem,seval]
  exact a2
 ·rintro ⟨i,c,cap⟩ ⟨hi,hsm,hn⟩
  simp -implicitDefEqProofs only [JF] at hi hsm
  have hall:=EV hn
  obtain ⟨H,hH⟩:∃H,Ac (Lz b2 l ⟨i,c,cap⟩)=H:=⟨_,rfl⟩
  rw [hH] at hall
  simp -implicitDefEqProofs only [Lz,JF,Jn,Jh] at hall hn
  obtain ⟨hrow,k2,_⟩:=EQ.1 hall
  by_cases h:i<l.length
  ·have hel:=Lo h
   have hst:=AHN h
   have hsl:(Ga l i).length≤i:=by unfold Ga; rw [List.length_map]; exact Ll i
   have hstep:F4 l[i]→∀(j:Nat) (h:j<l.length),j<i+1→F4 l[j]:=by
    intro e j h1 h2
    by_cases hj:j=i
    ·subst hj; exact e
    ·exact hsm j h1 (by omega)
   have hno:¬F4 l[i]→¬ER l:=fun e k=>e (k.2.2 _ (List.getElem_mem h))
   have hprev:0<i→(Ad l)[((i-1:Nat):Int).toNat]? = some [.int .i64 (l.getD (i-1) 0)]:=fun hp=>by
    rw [Int.toNat_natCast]
    exact Kp (by rw [List.getD_eq_getElem?_getD,List.getElem?_eq_getElem (by omega)]; rfl)
   have w1:IntKind.i64.wrap ((i:Int)-1)=(i:Int)-1:=by rw [IntKind.wrap_i64]; omega
   generalize l[i]=x at *
   generalize l.getD (i-1) 0=p at *
   unfold F4 at hstep hno
   simp -implicitDefEqProofs -proj only [go_sem,seval,JF,Jn,Jh,hH,decide_eq_true (show (i:Int)<l.length by omega)]
   refine Ag _ (by omega) hel ?_
   by_cases c1:2305843009213693952<x
   ·rw [if_neg (hno (by omega))]
    simp -implicitDefEqProofs -proj only [go_sem,seval,k2,decide_eq_true c1]
    exact JC (JE (.nilsl _ _))
   by_cases c2:x < -2305843009213693952
   ·rw [if_neg (hno (by omega))]
    simp -implicitDefEqProofs -proj only [go_sem,seval,k2,decide_eq_false c1,decide_eq_true c2]
    exact JC (JE (.nilsl _ _))
   by_cases hi0:i=0
   ·rw [if_pos (.inl hi0)] at hst
    simp -implicitDefEqProofs -proj only [go_sem,seval,k2,decide_eq_false c1,decide_eq_false c2,decide_eq_true (show (i:Int)=0 by omega)]
    refine EO (fun bs hs'=>?_)
    replace hs':H bs=none:=hs'
    simp -implicitDefEqProofs -proj only [go_sem,seval]
    refine FX (xs:=Ad (Ga l i)) (y:=[.int .i64 (i:Int)]) (t:=3) (capc:=1) [(b2,.box 58 [i64 0,.nilsl 5])] rfl (Ap hs' hall) hn (by simp -implicitDefEqProofs -proj only [go_sem,seval]) (by rw [Ei]; omega) (by rw [Ei]; omega) (fun H' c' cap' ha hk=>?_)
    rw [show Ad (Ga l i)++[[.int .i64 (i:Int)]]=Ad (Ga l (i+1)) by rw [hst]; simp [Ad]] at ha hk
    have hne:Ad (Ga l (i+1))≠[]:=by rw [hst]; simp [Ad]
    have hl2:(Ad (Ga l (i+1))).length=(Ad (Ga l i)).length+1:=by rw [hst]; simp [Ad]
    simp -implicitDefEqProofs -proj only [go_sem,seval]
    refine AY ⟨i+1,c',cap'⟩ ⟨by show i+1≤l.length; omega,hstep (by omega),hk⟩ (by show l.length-(i+1)<l.length-i; omega) rfl ?_ ha
    simp -implicitDefEqProofs -proj only [go_sem,seval,AJ,JF,Jn,Jh,AU (show i<9223372036854775807 by omega),Eg hne,hl2]
   ·have hp:=hprev (by omega)
    simp -implicitDefEqProofs -proj only [go_sem,seval,k2,decide_eq_false c1,decide_eq_false c2,decide_eq_false (show ¬(i:Int)=0 by omega),w1]
    refine Ag _ (by omega) (i:=(i:Int)-1) (by rw [show (i:Int)-1=((i-1:Nat):Int) by omega]; exact hp) ?_
    by_cases hpx:p=x
    ·rw [if_neg (fun h=>h.elim hi0 (fun e=>e hpx))] at hst
     simp -implicitDefEqProofs -proj only [go_sem,seval,decide_eq_true hpx]
     refine AY ⟨i+1,c,cap⟩ ⟨by show i+1≤l.length; omega,hstep (by omega),by simp -implicitDefEqProofs only [Lz,JF,Jn,Jh,hst]; exact hn⟩ (by show l.length-(i+1)<l.length-i; omega) rfl ?_ (by simp -implicitDefEqProofs only [Lz,JF,Jn,Jh,hst]; exact hall)
     simp -implicitDefEqProofs -proj only [go_sem,seval,AJ,JF,Jn,Jh,hst,AU (show i<9223372036854775807 by omega)]
    ·rw [if_pos (.inr hpx)] at hst
     simp -implicitDefEqProofs -proj only [go_sem,seval,decide_eq_false hpx]
     refine EO (fun bs hs'=>?_)
     replace hs':H bs=none:=hs'
     simp -implicitDefEqProofs -proj only [go_sem,seval]
     refine FX (xs:=Ad (Ga l i)) (y:=[.int .i64 (i:Int)]) (t:=3) (capc:=1) [(b2,.box 58 [i64 0,.nilsl 5])] rfl (Ap hs' hall) hn (by simp -implicitDefEqProofs -proj only [go_sem,seval]) (by rw [Ei]; omega) (by rw [Ei]; omega) (fun H' c' cap' ha hk=>?_)
     rw [show Ad (Ga l i)++[[.int .i64 (i:Int)]]=Ad (Ga l (i+1)) by rw [hst]; simp [Ad]] at ha hk
     have hne:Ad (Ga l (i+1))≠[]:=by rw [hst]; simp [Ad]
     have hl2:(Ad (Ga l (i+1))).length=(Ad (Ga l i)).length+1:=by rw [hst]; simp [Ad]
     simp -implicitDefEqProofs -proj only [go_sem,seval]
     refine AY ⟨i+1,c',cap'⟩ ⟨by show i+1≤l.length; omega,hstep (by omega),hk⟩ (by show l.length-(i+1)<l.length-i; omega) rfl ?_ ha
     simp -implicitDefEqProofs -proj only [go_sem,seval,AJ,JF,Jn,Jh,AU (show i<9223372036854775807 by omega),Eg hne,hl2]
  ·have hi':i=l.length:=by omega
   subst hi'
   have hcur:ER l:=⟨fun e=>h0 (by rw [e]; rfl),by omega,fun v hv=>by obtain ⟨j,hj,rfl⟩:=List.getElem_of_mem hv; exact hsm j hj hj⟩
   rw [if_pos hcur]
   have hwl:IntKind.i64.wrap ((l.length:Int)-1)=(l.length:Int)-1:=by rw [IntKind.wrap_i64]; omega
   obtain ⟨hro,hRl⟩:=KY (KI.2 hcur)
   have hmem:=(I0 0 l).mem_val
   have hR0:0<(EP 0 l).length:=List.length_pos_iff.2 (fun e=>hcur.1 (Mc.1 e))
   have hST:Ga l l.length=(EP 0 l).map (·.f):=rfl
   have hget:∀(j:Nat) (h:j<(EP 0 l).length),0≤(EP 0 l)[j].f∧(Ad l)[(EP 0 l)[j].f.toNat]? = some [.int .i64 (EP 0 l)[j].v]:=fun j h=>by
    obtain ⟨m1,m2,m3,m4⟩:=hmem _ (List.getElem_mem h)
    refine ⟨m1,Kp ?_⟩
    have hi:(EP 0 l)[j].f.toNat<l.length:=by omega
    have:=MD (f:=0) hi
    rw [Int.zero_add,show (((EP 0 l)[j].f.toNat:Nat):Int)=(EP 0 l)[j].f by omega,m4] at this
    rw [List.getElem?_eq_getElem hi,this]
   obtain ⟨ST,hSTe⟩:∃ST,Ga l l.length=ST:=⟨_,rfl⟩
   rw [hSTe] at hST hrow hn
   have hcv:FV l=Fg ((l.length:Int)-1) (Gr (EP 0 l)):=rfl
   rw [hcv]
   generalize EP 0 l=R at *
   have hSTl:ST.length=R.length:=by rw [hST,List.length_map]
   have hSTn:∀(j:Nat) (h:j<R.length),(Ad ST)[j]? = some [.int .i64 R[j].f]:=fun j h=>Kp (by rw [hST]; simp [h])
   have hSTne:Ad ST≠[]:=fun e=>by have:=congrArg List.length e; rw [Ei,hSTl,List.length_nil] at this; omega
   rw [FA hSTne] at hrow hn
   have kc:=hrow.1
   have hcb:¬c=b2:=by
    simp -implicitDefEqProofs only [AP,List.map_append,List.map_cons,List.map_nil,List.nodup_append,List.mem_singleton] at hn
    exact hn.2.2 c rfl b2 rfl
   simp -implicitDefEqProofs -proj only [go_sem,seval,JF,Jn,Jh,hH,hSTe,k2,Ei,hwl,decide_eq_false (show ¬(l.length:Int)<l.length by omega),Eg hSTne]
   refine AI (fun b7 hb7=>?_)
   replace hb7:H b7=none:=hb7
   obtain ⟨m1,m2⟩:=AK hb7 k2
   obtain ⟨m3,m4⟩:=AK hb7 kc
   simp -implicitDefEqProofs -proj only [go_sem,seval,m1,m2,m3,m4,k2,kc]
   refine EN (fun y:RY=>y.i≤R.length∧Gr R=y.G++Gr (R.drop y.i)∧y.G.length≤y.i∧(AP (I4 b7 b2 c cap l ST y)).Nodup) 165 (fun y=>[(0,Fu l),(2,.ptr b2 0),(4,.own c 1 0 ST.length cap),(7,.ptr b7 0),(8,i64 y.i)]) (I4 b7 b2 c cap l ST) (fun y=>R.length-y.i) ⟨0,0,0,[]⟩ ⟨Nat.zero_le _,rfl,Nat.le_refl _,by simp [AP,I4,GW,ET,J9,m1,m3,show ¬b2=c from fun e=>hcb e.symm]⟩ rfl ?_ ?_ ?_
   ·simp -implicitDefEqProofs -proj only [go_sem,seval,AJ,HE]
   ·simp -implicitDefEqProofs -proj only [go_sem,seval,AZ,I4,GW,Ih,Ii,ET,List.map_nil,J9,JX,m1,m3,k2,kc]
   ·rintro ⟨i,d,dap,G⟩ ⟨hi,hG,hGl,hn'⟩
    simp -implicitDefEqProofs only [HE,GW] at hi hG hGl
    have hall':=EV hn'
    obtain ⟨H1,hH1⟩:∃H1,Ac (I4 b7 b2 c cap l ST ⟨i,d,dap,G⟩)=H1:=⟨_,rfl⟩
    rw [hH1] at hall'
    simp -implicitDefEqProofs only [I4,HE,Ih,Ii,GW] at hall' hn'
    obtain ⟨hrow1,j7,j2,jc,_⟩:=EQ.1 hall'
    by_cases hlt:i<R.length
    ·obtain ⟨S,hSe⟩:∃S,R.drop i=S:=⟨_,rfl⟩
     have hSl:S.length=R.length-i:=by rw [←hSe,List.length_drop]
     have hSj:∀(j:Nat) (h:j<S.length),S[j]=R[i+j]'(by omega):=fun j h=>by subst hSe; simp
     have hSs:∀(j:Nat) (h:j<S.length),(Ad ST)[i+j]? = some [.int .i64 S[j].f]:=fun j h=>by rw [hSj j h]; exact hSTn _ _
     have hSg:∀(j:Nat) (h:j<S.length),0≤S[j].f∧(Ad l)[S[j].f.toNat]? = some [.int .i64 S[j].v]:=fun j h=>by rw [hSj j h]; exact hget _ _
     have hSo:∀(j:Nat) (h:j<S.length),If S[j]:=fun j h=>by rw [hSj j h]; exact hro _ (List.getElem_mem _)
     have hS0:0<S.length:=by omega
     have hstep:=Q4 hS0
     rw [hSe] at hG
     have es:=hSs 0 hS0
     rw [Nat.add_zero] at es
     obtain ⟨ef0,ev⟩:=hSg 0 hS0
     have ho0:=hSo 0 hS0
     have hdr:∀n,S.drop n=R.drop (i+n):=fun n=>by rw [←hSe,List.drop_drop]
     have hw1:IntKind.i64.wrap ((i:Int)+1)=((i+1:Nat):Int):=by rw [IntKind.wrap_i64]; omega
     have hmid:∀(b9:Nat) (x:Blk),H1 b9=none→(AP (BD 66 5 d dap (ET G)++[(b9,x),(b7,.box 58 [i64 ((l.length:Int)-1),EU 5 5 d dap (ET G)]),(b2,.box 58 [i64 0,.nilsl 5]),(c,.row 3 1 cap (Ad ST))])).Nodup:=fun b9 x hb=>by
      have:=HT (x:=x) hb hall' hn'
      simp -implicitDefEqProofs only [AP,List.map_append,List.map_cons] at this ⊢
      exact Ss this
     simp -implicitDefEqProofs -proj only [go_sem,seval,HE,Ih,Ii,GW,hH1,Ei,hSTl,decide_eq_true (show (i:Int)<R.length by omega)]
     (repeat' (with_reducible refine Ak ?_ (fun h=>?_); (focus first | decide | omega); clear h; try simp -implicitDefEqProofs -proj only [go_sem,seval,hSTl]))
     simp -implicitDefEqProofs -proj only [go_sem,seval,jc]
     refine Ed _ (by rw [Int.toNat_natCast]; exact es) (by simp) ?_
     simp -implicitDefEqProofs -proj only [go_sem,seval,jc]
     refine Ed _ (by rw [Int.toNat_natCast]; exact es) (by simp) ?_
     simp -implicitDefEqProofs -proj only [go_sem,seval]
     refine Ag _ ef0 ev ?_
     simp -implicitDefEqProofs -proj only [go_sem,seval]
     refine AI (fun b9 hb9=>?_)
     replace hb9:H1 b9=none:=hb9
     obtain ⟨p1,p2⟩:=AK hb9 j7
     obtain ⟨p3,p4⟩:=AK hb9 j2
     obtain ⟨p5,p6⟩:=AK hb9 jc
     by_cases hi1:i+1<R.length
     ·have hS1:1<S.length:=by omega
      have hgq:=UH hS1
      obtain ⟨w,hw⟩:∃w,S[1].f-S[0].f=w:=⟨_,rfl⟩
      obtain ⟨r,hr⟩:∃r,S[1].v-S[0].v=r:=⟨_,rfl⟩
      rw [hw,hr] at hgq
      obtain ⟨n,hn9⟩:∃n,FT w r S[0] (S.drop 1)+1=n:=⟨_,rfl⟩
      rw [hn9] at hgq
      have hgle:=@KM S[0] (S.drop 1)
      rw [hgq] at hstep hgle
      simp -implicitDefEqProofs only [List.length_drop] at hgle
      have hc2:2+FT w r S[1] (S.drop 2)=n:=by
       have this:FT w r S[0] (S.drop 1)=if S[1].f-S[0].f=w∧S[1].v-S[0].v=r then FT w r S[1] (S.drop 2)+1 else 0:=Pd (w:=w) (r:=r) (S:=S) (c:=1) (by omega) hS1
       rw [if_pos ⟨hw,hr⟩] at this
       omega
      have es1:=hSs 1 hS1
      obtain ⟨ef1,ev1⟩:=hSg 1 hS1
      have ho1:=hSo 1 hS1
      unfold If at ho0 ho1
      have wW:IntKind.i64.wrap (S[1].f-S[0].f)=w:=by rw [IntKind.wrap_i64]; omega
      have wR:IntKind.i64.wrap (S[1].v-S[0].v)=r:=by rw [IntKind.wrap_i64]; omega
      simp -implicitDefEqProofs -proj only [go_sem,seval,p1,p2,p3,p4,p5,p6,j7,j2,jc,Ei,hSTl,hw1,decide_eq_true (show ((i+1:Nat):Int)<R.length by omega)]
      (repeat' (with_reducible refine Ak ?_ (fun h=>?_); (focus first | decide | omega); clear h; try simp -implicitDefEqProofs -proj only [go_sem,seval,hSTl]))
      try simp -implicitDefEqProofs -proj only [go_sem,seval,p1,p2,p3,p4,p5,p6,jc]
      refine Ed _ (by rw [Int.toNat_natCast]; exact es1) (by simp) ?_
      simp -implicitDefEqProofs -proj only [go_sem,seval,p1,p2,p3,p4,p5,p6,jc]
      refine Ed _ (by rw [Int.toNat_natCast]; exact es) (by simp) ?_
      simp -implicitDefEqProofs -proj only [go_sem,seval,p1,p2,p3,p4,p5,p6,jc,wW,hw1]
      (repeat' (with_reducible refine Ak ?_ (fun h=>?_); (focus first | decide | omega); clear h; try simp -implicitDefEqProofs -proj only [go_sem,seval,hSTl]))
      try simp -implicitDefEqProofs -proj only [go_sem,seval,p1,p2,p3,p4,p5,p6,jc]
      refine Ed _ (by rw [Int.toNat_natCast]; exact es1) (by simp) ?_
      simp -implicitDefEqProofs -proj only [go_sem,seval]
      refine Ag _ ef1 ev1 ?_
      simp -implicitDefEqProofs -proj only [go_sem,seval,wR,p1,p2,p3,p4,p5,p6]
      have hin:AZ H1 (BD 66 5 d dap (ET G)++[(b7,.box 58 [i64 ((l.length:Int)-1),EU 5 5 d dap (ET G)]),(b2,.box 58 [i64 0,.nilsl 5]),(c,.row 3 1 cap (Ad ST))]):=hall'
      refine EN (fun k:Nat=>2≤k∧i+k≤R.length∧∃h:k≤S.length∧1≤k,k+FT w r (S[k-1]'(by omega)) (S.drop k)=n∧(S[k-1]'(by omega)).f=S[0].f+((k:Int)-1)*w) 165 (fun _=>[(0,Fu l),(2,.ptr b2 0),(4,.own c 1 0 R.length cap),(7,.ptr b7 0),(8,i64 i),(9,.ptr b9 0)]) (fun k=>BD 66 5 d dap (ET G)++[(b9,.box 66 [i64 S[0].f,i64 S[0].v,i64 w,i64 r,i64 k]),(b7,.box 58 [i64 ((l.length:Int)-1),EU 5 5 d dap (ET G)]),(b2,.box 58 [i64 0,.nilsl 5]),(c,.row 3 1 cap (Ad ST))]) (fun k=>R.length-k) 2 ⟨Nat.le_refl _,by omega,⟨by omega,by omega⟩,hc2,by show S[1].f=S[0].f+(((2:Nat):Int)-1)*w; omega⟩ rfl ?_ ?_ ?_
      ·simp -implicitDefEqProofs -proj only [go_sem,seval,AJ]
      ·refine EQ.2 ⟨?_,?_⟩
       ·refine Fk hrow1 ?_ <;> exact Ln hb9 hrow1
       ·simp -implicitDefEqProofs -proj only [go_sem,seval,AZ,p1,p2,p3,p4,p5,p6,j7,j2,jc]
      ·rintro k ⟨hk2,hik,⟨hk3,hk1⟩,hkn,hkf⟩
       have hndk:=hmid b9 (.box 66 [i64 S[0].f,i64 S[0].v,i64 w,i64 r,i64 k]) hb9
       have hallk:=EV hndk
       obtain ⟨H2,hH2⟩:∃H2,Ac (BD 66 5 d dap (ET G)++[(b9,.box 66 [i64 S[0].f,i64 S[0].v,i64 w,i64 r,i64 k]),(b7,.box 58 [i64 ((l.length:Int)-1),EU 5 5 d dap (ET G)]),(b2,.box 58 [i64 0,.nilsl 5]),(c,.row 3 1 cap (Ad ST))])=H2:=⟨_,rfl⟩
       rw [hH2] at hallk
       obtain ⟨hrow2,i9,i7,i2,ic,_⟩:=EQ.1 hallk
       have hwk:IntKind.i64.wrap ((i:Int)+k)=((i+k:Nat):Int):=by rw [IntKind.wrap_i64]; omega
       by_cases hlk:i+k<R.length
       ·have hSk:k<S.length:=by omega
        have esk:=hSs k hSk
        have esp:=hSs (k-1) (by omega)
        rw [show i+(k-1)=i+k-1 by omega] at esp
        obtain ⟨efk,evk⟩:=hSg k hSk
        obtain ⟨efp,evp⟩:=hSg (k-1) (by omega)
        have hok:=hSo k hSk
        have hop:=hSo (k-1) (by omega)
        have hrl:=Pd (w:=w) (r:=r) (S:=S) (c:=k) (by omega) hSk
        rw [hrl] at hkn
        unfold If at hok hop
        have hkw:(k:Int)*w=((k:Int)-1)*w+w:=by rw [Int.sub_mul]; omega
        have wk1:IntKind.i64.wrap ((k:Int)*w)=(k:Int)*w:=by rw [IntKind.wrap_i64]; omega
        have wk2:IntKind.i64.wrap (S[0].f+(k:Int)*w)=S[0].f+(k:Int)*w:=by rw [IntKind.wrap_i64]; omega
        have wk3:IntKind.i64.wrap ((S[k-1]'(by omega)).v+r)=(S[k-1]'(by omega)).v+r:=by rw [IntKind.wrap_i64]; omega
        have wk4:IntKind.i64.wrap (((i+k:Nat):Int)-1)=((i+k-1:Nat):Int):=by rw [IntKind.wrap_i64]; omega
        have hnext:S[k].f-(S[k-1]'(by omega)).f=w→k+(FT w r S[k] (S.drop (k+1))+1)=n→(2≤k+1∧i+(k+1)≤R.length∧∃h:k+1≤S.length∧1≤k+1,k+1+FT w r (S[k+1-1]'(by omega)) (S.drop (k+1))=n∧(S[k+1-1]'(by omega)).f=S[0].f+(((k+1:Nat):Int)-1)*w):=fun e1 e2=>⟨by omega,by omega,⟨by omega,by omega⟩,by show k+1+FT w r S[k] (S.drop (k+1))=n; omega,by show S[k].f=S[0].f+(((k+1:Nat):Int)-1)*w; rw [show ((k+1:Nat):Int)-1=(k:Int) by omega,hkw]; omega⟩
        simp -implicitDefEqProofs -proj only [go_sem,seval,hH2,i9,i7,i2,ic,Ei,hSTl,hwk,decide_eq_true (show ((i+k:Nat):Int)<R.length by omega)]
        (repeat' (with_reducible refine Ak ?_ (fun h=>?_); (focus first | decide | omega); clear h; try simp -implicitDefEqProofs -proj only [go_sem,seval,hSTl]))
        try simp -implicitDefEqProofs -proj only [go_sem,seval,ic,i9,hwk]
        refine Ed _ (by rw [Int.toNat_natCast]; exact esk) (by simp) ?_
        by_cases t1:S[k].f=S[0].f+(k:Int)*w
        rotate_left
        ·rw [if_neg (fun h=>t1 (by omega))] at hkn
         have hkn':n=k:=by omega
         subst hkn'
         simp -implicitDefEqProofs -proj only [go_sem,seval,i9,i7,i2,ic,wk1,wk2,decide_eq_false t1,if_neg (show ¬(4:Nat)=5 by decide)]
         refine EO (fun bs hs'=>?_)
         replace hs':H2 bs=none:=hs'
         simp -implicitDefEqProofs -proj only [go_sem,seval]
         refine FX (xs:=ET G) (y:=[.int .i64 S[0].f,.int .i64 S[0].v,.int .i64 w,.int .i64 r,.int .i64 n]) (t:=66) (capc:=1) [(b9,.box 66 [i64 S[0].f,i64 S[0].v,i64 w,i64 r,i64 n]),(b7,.box 58 [i64 ((l.length:Int)-1),EU 5 5 d dap (ET G)]),(b2,.box 58 [i64 0,.nilsl 5]),(c,.row 3 1 cap (Ad ST))] rfl (Ap hs' hallk) hndk (by simp -implicitDefEqProofs -proj only [go_sem,seval]) (by rw [Gp]; omega) (by rw [Gp]; omega) (fun H' d' dap' ha hk=>?_)
         rw [show ET G++[[.int .i64 S[0].f,.int .i64 S[0].v,.int .i64 w,.int .i64 r,.int .i64 n]]=ET (G++[(⟨S[0].f,S[0].v,w,r,(n:Int)⟩:Grp)]) from Mu (g:=(⟨S[0].f,S[0].v,w,r,(n:Int)⟩:Grp))] at ha hk
         have hne2:ET (G++[(⟨S[0].f,S[0].v,w,r,(n:Int)⟩:Grp)])≠[]:=by simp [ET]
         obtain ⟨hrow',q9,q7,q2,qc,_⟩:=EQ.1 ha
         have hwc:IntKind.i64.wrap ((i:Int)+(n:Int))=((i+n:Nat):Int):=by rw [IntKind.wrap_i64]; omega
         simp -implicitDefEqProofs -proj only [go_sem,seval,q9,q7,p1,p2,hwc]
         refine AY ⟨i+n,d',dap',G++[(⟨S[0].f,S[0].v,w,r,(n:Int)⟩:Grp)]⟩ ⟨by show i+n≤R.length; omega,by simp -implicitDefEqProofs only [HE,GW]; rw [hG,hstep,hdr]; simp,by simp -implicitDefEqProofs only [HE,GW,List.length_append,List.length_singleton]; omega,?_⟩ (by show R.length-(i+n)<R.length-i; omega) rfl ?_ ?_
         ·simp -implicitDefEqProofs only [AP,I4,Ih,Ii,GW,List.map_append,List.map_cons,List.map_nil] at hk ⊢
          exact Na hk
         ·simp -implicitDefEqProofs -proj only [go_sem,seval,AJ,HE,hSTl]
         ·refine EQ.2 ⟨Fk hrow' ?_,?_⟩
          ·simp -implicitDefEqProofs only [AP,List.map_append,List.nodup_append,List.map_cons,List.map_nil,List.mem_cons] at hk
           exact fun hm=>hk.2.2 _ hm _ (.inr (.inl rfl)) rfl
          ·have hnk:¬b7=b2∧¬b7=c:=⟨m1,m3⟩
           simp -implicitDefEqProofs -proj only [go_sem,seval,AZ,Ih,Ii,GW,q2,qc,m1,m3,Eg hne2,show (ET (G++[(⟨S[0].f,S[0].v,w,r,(n:Int)⟩:Grp)])).length=(ET G).length+1 by simp [ET]]
        simp -implicitDefEqProofs -proj only [go_sem,seval,i9,i7,i2,ic,wk1,wk2,hwk,hSTl,Ei,decide_eq_true t1]
        (repeat' (with_reducible refine Ak ?_ (fun h=>?_); (focus first | decide | omega); clear h; try simp -implicitDefEqProofs -proj only [go_sem,seval,hSTl]))
        try simp -implicitDefEqProofs -proj only [go_sem,seval,ic,i9,hwk]
        refine Ed _ (by rw [Int.toNat_natCast]; exact esk) (by simp) ?_
        simp -implicitDefEqProofs -proj only [go_sem,seval,i9,ic,hwk]
        refine Ag _ efk evk ?_
        simp -implicitDefEqProofs -proj only [go_sem,seval,i9,ic,hwk,wk4,hSTl]
        (repeat' (with_reducible refine Ak ?_ (fun h=>?_); (focus first | decide | omega); clear h; try simp -implicitDefEqProofs -proj only [go_sem,seval,hSTl]))
        try simp -implicitDefEqProofs -proj only [go_sem,seval,ic,i9,hwk,wk4]
        refine Ed _ (by rw [Int.toNat_natCast]; exact esp) (by simp) ?_
        simp -implicitDefEqProofs -proj only [go_sem,seval,i9,ic]
        refine Ag _ efp evp ?_
        by_cases t2:S[k].v=(S[k-1]'(by omega)).v+r
        rotate_left
        ·rw [if_neg (fun h=>t2 (by omega))] at hkn
         have hkn':n=k:=by omega
         subst hkn'
         simp -implicitDefEqProofs -proj only [go_sem,seval,i9,i7,i2,ic,wk3,decide_eq_false t2,if_neg (show ¬(4:Nat)=5 by decide)]
         refine EO (fun bs hs'=>?_)
         replace hs':H2 bs=none:=hs'
         simp -implicitDefEqProofs -proj only [go_sem,seval]
         refine FX (xs:=ET G) (y:=[.int .i64 S[0].f,.int .i64 S[0].v,.int .i64 w,.int .i64 r,.int .i64 n]) (t:=66) (capc:=1) [(b9,.box 66 [i64 S[0].f,i64 S[0].v,i64 w,i64 r,i64 n]),(b7,.box 58 [i64 ((l.length:Int)-1),EU 5 5 d dap (ET G)]),(b2,.box 58 [i64 0,.nilsl 5]),(c,.row 3 1 cap (Ad ST))] rfl (Ap hs' hallk) hndk (by simp -implicitDefEqProofs -proj only [go_sem,seval]) (by rw [Gp]; omega) (by rw [Gp]; omega) (fun H' d' dap' ha hk=>?_)
         rw [show ET G++[[.int .i64 S[0].f,.int .i64 S[0].v,.int .i64 w,.int .i64 r,.int .i64 n]]=ET (G++[(⟨S[0].f,S[0].v,w,r,(n:Int)⟩:Grp)]) from Mu (g:=(⟨S[0].f,S[0].v,w,r,(n:Int)⟩:Grp))] at ha hk
         have hne2:ET (G++[(⟨S[0].f,S[0].v,w,r,(n:Int)⟩:Grp)])≠[]:=by simp [ET]
         obtain ⟨hrow',q9,q7,q2,qc,_⟩:=EQ.1 ha
         have hwc:IntKind.i64.wrap ((i:Int)+(n:Int))=((i+n:Nat):Int):=by rw [IntKind.wrap_i64]; omega
         simp -implicitDefEqProofs -proj only [go_sem,seval,q9,q7,p1,p2,hwc]
         refine AY ⟨i+n,d',dap',G++[(⟨S[0].f,S[0].v,w,r,(n:Int)⟩:Grp)]⟩ ⟨by show i+n≤R.length; omega,by simp -implicitDefEqProofs only [HE,GW]; rw [hG,hstep,hdr]; simp,by simp -implicitDefEqProofs only [HE,GW,List.length_append,List.length_singleton]; omega,?_⟩ (by show R.length-(i+n)<R.length-i; omega) rfl ?_ ?_
         ·simp -implicitDefEqProofs only [AP,I4,Ih,Ii,GW,List.map_append,List.map_cons,List.map_nil] at hk ⊢
          exact Na hk
         ·simp -implicitDefEqProofs -proj only [go_sem,seval,AJ,HE,hSTl]
         ·refine EQ.2 ⟨Fk hrow' ?_,?_⟩
          ·simp -implicitDefEqProofs only [AP,List.map_append,List.nodup_append,List.map_cons,List.map_nil,List.mem_cons] at hk
           exact fun hm=>hk.2.2 _ hm _ (.inr (.inl rfl)) rfl
          ·have hnk:¬b7=b2∧¬b7=c:=⟨m1,m3⟩
           simp -implicitDefEqProofs -proj only [go_sem,seval,AZ,Ih,Ii,GW,q2,qc,m1,m3,Eg hne2,show (ET (G++[(⟨S[0].f,S[0].v,w,r,(n:Int)⟩:Grp)])).length=(ET G).length+1 by simp [ET]]
        ·rw [if_pos ⟨by omega,by omega⟩] at hkn
         simp -implicitDefEqProofs -proj only [go_sem,seval,i9,i7,i2,ic,wk3,decide_eq_true t2]
         refine AY (k+1) (hnext (by omega) hkn) (by omega) rfl ?_ ?_
         ·simp -implicitDefEqProofs -proj only [go_sem,seval,AJ]
         ·refine EQ.2 ⟨Fk hrow2 ?_,?_⟩
          ·exact Ln hb9 hrow1
          ·simp -implicitDefEqProofs -proj only [go_sem,seval,AZ,i7,i2,ic,p1,p2,p3,p4,p5,p6,AU (show k<9223372036854775807 by omega)]
       ·have:S.drop k=[]:=List.drop_eq_nil_of_le (by omega)
        rw [this] at hkn
        have hkn':n=k:=by have:FT w r (S[k-1]'(by omega)) []=0:=rfl; omega
        subst hkn'
        simp -implicitDefEqProofs -proj only [go_sem,seval,hH2,i9,i7,i2,ic,Ei,hSTl,hwk,decide_eq_false (show ¬((i+n:Nat):Int)<R.length by omega)]
        refine EO (fun bs hs'=>?_)
        replace hs':H2 bs=none:=hs'
        simp -implicitDefEqProofs -proj only [go_sem,seval]
        refine FX (xs:=ET G) (y:=[.int .i64 S[0].f,.int .i64 S[0].v,.int .i64 w,.int .i64 r,.int .i64 n]) (t:=66) (capc:=1) [(b9,.box 66 [i64 S[0].f,i64 S[0].v,i64 w,i64 r,i64 n]),(b7,.box 58 [i64 ((l.length:Int)-1),EU 5 5 d dap (ET G)]),(b2,.box 58 [i64 0,.nilsl 5]),(c,.row 3 1 cap (Ad ST))] rfl (Ap hs' hallk) hndk (by simp -implicitDefEqProofs -proj only [go_sem,seval]) (by rw [Gp]; omega) (by rw [Gp]; omega) (fun H' d' dap' ha hk=>?_)
        rw [show ET G++[[.int .i64 S[0].f,.int .i64 S[0].v,.int .i64 w,.int .i64 r,.int .i64 n]]=ET (G++[(⟨S[0].f,S[0].v,w,r,(n:Int)⟩:Grp)]) from Mu (g:=(⟨S[0].f,S[0].v,w,r,(n:Int)⟩:Grp))] at ha hk
        have hne2:ET (G++[(⟨S[0].f,S[0].v,w,r,(n:Int)⟩:Grp)])≠[]:=by simp [ET]
        obtain ⟨hrow',q9,q7,q2,qc,_⟩:=EQ.1 ha
        have hwc:IntKind.i64.wrap ((i:Int)+(n:Int))=((i+n:Nat):Int):=by rw [IntKind.wrap_i64]; omega
        simp -implicitDefEqProofs -proj only [go_sem,seval,q9,q7,p1,p2,hwc]
        refine AY ⟨i+n,d',dap',G++[(⟨S[0].f,S[0].v,w,r,(n:Int)⟩:Grp)]⟩ ⟨by show i+n≤R.length; omega,by simp -implicitDefEqProofs only [HE,GW]; rw [hG,hstep,hdr]; simp,by simp -implicitDefEqProofs only [HE,GW,List.length_append,List.length_singleton]; omega,?_⟩ (by show R.length-(i+n)<R.length-i; omega) rfl ?_ ?_
        ·simp -implicitDefEqProofs only [AP,I4,Ih,Ii,GW,List.map_append,List.map_cons,List.map_nil] at hk ⊢
         exact Na hk
        ·simp -implicitDefEqProofs -proj only [go_sem,seval,AJ,HE,hSTl]
        ·refine EQ.2 ⟨Fk hrow' ?_,?_⟩
         ·simp -implicitDefEqProofs only [AP,List.map_append,List.nodup_append,List.map_cons,List.map_nil,List.mem_cons] at hk
          exact fun hm=>hk.2.2 _ hm _ (.inr (.inl rfl)) rfl
         ·have hnk:¬b7=b2∧¬b7=c:=⟨m1,m3⟩
          simp -implicitDefEqProofs -proj only [go_sem,seval,AZ,Ih,Ii,GW,q2,qc,m1,m3,Eg hne2,show (ET (G++[(⟨S[0].f,S[0].v,w,r,(n:Int)⟩:Grp)])).length=(ET G).length+1 by simp [ET]]
     ·have hgq:Eh S[0] (S.drop 1)=(⟨S[0].f,S[0].v,0,0,1⟩,1):=by rw [List.drop_eq_nil_of_le (by omega)]; rfl
      rw [hgq] at hstep
      simp -implicitDefEqProofs -proj only [go_sem,seval,p1,p2,p3,p4,p5,p6,j7,j2,jc,Ei,hSTl,hw1,decide_eq_false (show ¬((i+1:Nat):Int)<R.length by omega)]
      refine EO (fun bs hs'=>?_)
      replace hs':upd H1 b9 _ bs=none:=hs'
      simp -implicitDefEqProofs -proj only [go_sem,seval]
      refine FX (xs:=ET G) (y:=[.int .i64 S[0].f,.int .i64 S[0].v,.int .i64 0,.int .i64 0,.int .i64 1]) (t:=66) (capc:=1) [(b9,.box 66 [i64 S[0].f,i64 S[0].v,i64 0,i64 0,i64 1]),(b7,.box 58 [i64 ((l.length:Int)-1),EU 5 5 d dap (ET G)]),(b2,.box 58 [i64 0,.nilsl 5]),(c,.row 3 1 cap (Ad ST))] rfl (Ap hs' (EQ.2 ⟨Ap hb9 hrow1,AN,Ap hb9 (EQ.1 hall').2⟩)) (hmid b9 _ hb9) (by simp -implicitDefEqProofs -proj only [go_sem,seval]) (by rw [Gp]; omega) (by rw [Gp]; omega) (fun H' d' dap' ha hk=>?_)
      rw [show ET G++[[.int .i64 S[0].f,.int .i64 S[0].v,.int .i64 0,.int .i64 0,.int .i64 1]]=ET (G++[(⟨S[0].f,S[0].v,0,0,1⟩:Grp)]) from Mu (g:=(⟨S[0].f,S[0].v,0,0,1⟩:Grp))] at ha hk
      have hne2:ET (G++[(⟨S[0].f,S[0].v,0,0,1⟩:Grp)])≠[]:=by simp [ET]
      obtain ⟨hrow',q9,q7,q2,qc,_⟩:=EQ.1 ha
      have hwc:IntKind.i64.wrap ((i:Int)+1)=((i+1:Nat):Int):=by rw [IntKind.wrap_i64]; omega
      simp -implicitDefEqProofs -proj only [go_sem,seval,q9,q7,p1,p2,hwc]
      refine AY ⟨i+1,d',dap',G++[(⟨S[0].f,S[0].v,0,0,1⟩:Grp)]⟩ ⟨by show i+1≤R.length; omega,by simp -implicitDefEqProofs only [HE,GW]; rw [hG,hstep,hdr]; simp,by simp -implicitDefEqProofs only [HE,GW,List.length_append,List.length_singleton]; omega,?_⟩ (by show R.length-(i+1)<R.length-i; omega) rfl ?_ ?_
      ·simp -implicitDefEqProofs only [AP,I4,Ih,Ii,GW,List.map_append,List.map_cons,List.map_nil] at hk ⊢
       exact Na hk
      ·simp -implicitDefEqProofs -proj only [go_sem,seval,AJ,HE,hSTl]
      ·refine EQ.2 ⟨Fk hrow' ?_,?_⟩
       ·simp -implicitDefEqProofs only [AP,List.map_append,List.nodup_append,List.map_cons,List.map_nil,List.mem_cons] at hk
        exact fun hm=>hk.2.2 _ hm _ (.inr (.inl rfl)) rfl
       ·have hnk:¬b7=b2∧¬b7=c:=⟨m1,m3⟩
        simp -implicitDefEqProofs -proj only [go_sem,seval,AZ,Ih,Ii,GW,q2,qc,m1,m3,Eg hne2,show (ET (G++[(⟨S[0].f,S[0].v,0,0,1⟩:Grp)])).length=(ET G).length+1 by simp [ET]]
    ·have hi'':i=R.length:=by omega
     subst hi''
     rw [List.drop_length,RK,List.append_nil] at hG
     simp -implicitDefEqProofs -proj only [go_sem,seval,HE,Ih,Ii,GW,hH1,Ei,hSTl,decide_eq_false (show ¬(R.length:Int)<R.length by omega),j7,j2,m1,m2]
     rw [hG]
     refine JC (JE (KL (Fk hrow1 ?_) TD))
     simp -implicitDefEqProofs only [AP,List.map_append,List.nodup_append,List.map_cons,List.map_nil,List.mem_cons] at hn'
     exact fun hm=>hn'.2.2 _ hm _ (.inr (.inl rfl)) rfl
theorem AHv {l:List Int} (hfl:Jb l) (hl:l.length≤3000):DataW Try.prog Uy [Fu l] (if ER l then .tup [FV l,bv true] else .tup [Fg 0 [],bv false]):=(Pa hfl hl).data
def qL (c:CoreX) (d:Int) (m:Nat) (mx:Int) (j k:Nat):List Int:=(List.range (mx+1).toNat).map fun (q:Nat)=>sg (GG c.ps d m q) (if q<k then j+1 else j)
theorem V1 {c:CoreX} {d:Int} {m:Nat} {mx:Int} {j k:Nat}:(qL c d m mx j k).length=(mx+1).toNat:=by simp [qL]
theorem AEr {c:CoreX} {d:Int} {m:Nat} {mx:Int} {j:Nat}:qL c d m mx j (mx+1).toNat=qL c d m mx (j+1) 0:=by
 unfold qL
 refine List.map_congr_left fun q hq=>?_
 rw [if_pos (List.mem_range.1 hq),if_neg (Nat.not_lt_zero _)]
theorem AIZ {c:CoreX} {d:Int} {m:Nat} {mx:Int}:qL c d m mx 0 0=List.replicate (mx+1).toNat 0:=by
 unfold qL
 refine List.ext_getElem (by simp) fun i h1 h2=>?_
 simp [sg]
theorem Xl {c:CoreX} {d:Int} {m:Nat} {mx:Int}:qL c d m mx c.ps.length 0=Hq c d m mx:=by
 unfold qL Hq HV
 refine List.map_congr_left fun q hq=>?_
 rw [if_neg (Nat.not_lt_zero _)]
theorem WF {c:CoreX} {d:Int} {m:Nat} {mx:Int} {j k:Nat} (h:k<(mx+1).toNat):(qL c d m mx j k)[k]? = some (sg (GG c.ps d m k) j):=by
 simp [qL,h]
theorem AGn {c:CoreX} {d:Int} {m:Nat} {mx:Int} {j k:Nat} (h:k<(mx+1).toNat):(qL c d m mx j k).set k (sg (GG c.ps d m k) (j+1))=qL c d m mx j (k+1):=by
 refine List.ext_getElem (by simp [qL]) fun i h1 h2=>?_
 have hi:i<(mx+1).toNat:=by rw [V1] at h2; exact h2
 rw [List.getElem_set]
 by_cases e:k=i
 ·subst e; simp [qL]
 ·rw [if_neg e]
  simp -implicitDefEqProofs only [qL,List.getElem_map,List.getElem_range]
  by_cases h3:i<k
  ·rw [if_pos h3,if_pos (by omega)]
  ·rw [if_neg h3,if_neg (by omega)]
theorem AOf {ps:List PartX} {d q:Int} {m j:Nat} {x:PartX} (h:ps[j]? = some x) (hn:¬(x.me=m∧FQ d x.f x.t)):GG ps d m q j=0:=by
 unfold GG; rw [h]; simp -implicitDefEqProofs only []; rw [if_neg hn]
theorem AUe {ps:List PartX} {d q:Int} {m j:Nat} {x:PartX} (h:ps[j]? = some x) (hn:x.me=m∧FQ d x.f x.t):GG ps d m q j=pv x q-pv x 0:=by
 unfold GG; rw [h]; simp -implicitDefEqProofs only []; rw [if_pos hn]
theorem AMs {ps:List PartX} {d:Int} {m j:Nat} {x:PartX} (h:ps[j]? = some x) (hn:¬(x.me=m∧FQ d x.f x.t)):FR ps d m j=0:=by
 unfold FR; rw [h]; simp -implicitDefEqProofs only []; rw [if_neg hn]
theorem ADt {ps:List PartX} {d:Int} {m j:Nat} {x:PartX} (h:ps[j]? = some x) (hn:x.me=m∧FQ d x.f x.t):FR ps d m j=pv x 0:=by
 unfold FR; rw [h]; simp -implicitDefEqProofs only []; rw [if_pos hn]
theorem AII {c:CoreX} {d:Int} {m:Nat} {mx:Int} {j:Nat} {x:PartX} (h:c.ps[j]? = some x) (hn:¬(x.me=m∧FQ d x.f x.t)):qL c d m mx (j+1) 0=qL c d m mx j 0:=by
 unfold qL
 refine List.map_congr_left fun q hq=>?_
 rw [if_neg (Nat.not_lt_zero _),if_neg (Nat.not_lt_zero _),sg,AOf h hn,Int.add_zero]
theorem AGA {l:List Int} {i:Nat} {x:Int}:(Ad l).set i [.int .i64 x]=Ad (l.set i x):=by simp [Ad,List.map_set]
structure DY where
 i:Nat
 c:Nat
 cap:Nat
theorem EZ {i c cap:Nat}:(DY.mk i c cap).i=i:=(rfl)
theorem FF {i c cap:Nat}:(DY.mk i c cap).c=c:=(rfl)
theorem FH {i c cap:Nat}:(DY.mk i c cap).cap=cap:=(rfl)
abbrev Gy (d x:Int) (v:AV):Blk:=.box 46 [i64 d,i64 d,i64 x,v]
def JS (b2 b4 b5:Nat) (c:CoreX) (d:Int) (y:DY):List (Nat×Blk):=BD 58 2 y.c y.cap (Ay (Eb c d y.i))++[(b5,Gy d (GF c d+sg (Fi c d) y.i) (EU 2 2 y.c y.cap (Ay (Eb c d y.i)))),(b2,Ea c),(b4,Gy 0 0 (.nilsl 2))]
def GZ (b2 b4 b5 b10:Nat) (c:CoreX) (d:Int) (y:DY) (mx:Int) (fx:Int) (j k:Nat):List (Nat×Blk):=(b10,.row 3 1 (mx+1).toNat (Ad (qL c d y.i mx j k)))::(BD 58 2 y.c y.cap (Ay (Eb c d y.i))++[(b5,Gy d fx (EU 2 2 y.c y.cap (Ay (Eb c d y.i)))),(b2,Ea c),(b4,Gy 0 0 (.nilsl 2))])
theorem ABa {c:CoreX} {d:Int} (hc:c.Fit) (hf:fitsC c) (hd:Fit d):DataW Try.prog AFM [F9 c,i64 d] (JY ⟨d,d,Eo c d⟩):=by
 obtain ⟨_,_,_,a6,a7,a8⟩:=hf.good.hd
 have hps:=hf.good.ps
 have hfp:=hc.ps
 have hmxb:=(fitsC.bnd hf.good).mx
 refine Aj AGV (by simp) ?_
 simp -implicitDefEqProofs -proj only [go_sem,seval]
 refine AI (fun b2 hb2=>?_)
 simp -implicitDefEqProofs -proj only [go_sem,seval]
 refine AI (fun b4 hb4=>?_)
 replace hb4:upd Heap.none b2 _ b4=none:=hb4
 obtain ⟨n1,n2⟩:=AK hb4 AN
 simp -implicitDefEqProofs -proj only [go_sem,seval,n1,n2]
 refine AI (fun b5 hb5=>?_)
 replace hb5:upd (upd Heap.none b2 _) b4 _ b5=none:=hb5
 obtain ⟨n3,n4⟩:=AK hb5 AN
 obtain ⟨n5,n6⟩:=AK hb5 (by rw [AF n1]; exact AN)
 simp -implicitDefEqProofs -proj only [go_sem,seval,n1,n2,n3,n4,n5,n6,HW]
 refine EN (fun i:Nat=>i≤c.ss.length) 129 (fun i=>[(1,i64 d),(2,.ptr b2 0),(4,.ptr b4 0),(5,.ptr b5 0),(24,.d (.sl 3 (GL c.ss))),(25,i64 c.ss.length),(26,i64 i)]) (fun i=>[(b5,Gy d (sg (G6 c.ss d) i) (.nilsl 2)),(b2,Ea c),(b4,Gy 0 0 (.nilsl 2))]) (fun i=>c.ss.length-i) 0 (Nat.zero_le _) rfl ?_ ?_ ?_
 ·simp -implicitDefEqProofs -proj only [go_sem,seval,AJ,HW]
 ·refine ⟨AN,?_,?_,trivial⟩
  ·show upd (upd (upd Heap.none b2 _) b4 _) b5 _ b2=_
   rw [AF n5,AF n1]; exact AN
  ·show upd (upd (upd Heap.none b2 _) b4 _) b5 _ b4=_
   rw [AF n3]; exact AN
 ·rintro i hi
  have hk:AZ (Ac [(b5,Gy d (sg (G6 c.ss d) i) (.nilsl 2)),(b2,Ea c),(b4,Gy 0 0 (.nilsl 2))]) [(b5,Gy d (sg (G6 c.ss d) i) (.nilsl 2)),(b2,Ea c),(b4,Gy 0 0 (.nilsl 2))]:=EV (by simp [AP,n1,n2,n3,n4,n5,n6])
  obtain ⟨k5,k2,k4,_⟩:=id hk
  have hb1:=Ps hf.good d hi
  by_cases h:i<c.ss.length
  ·have hel:=Mn h
   have hb2:=Ps hf.good d (show i+1≤c.ss.length by omega)
   have hstep:sg (G6 c.ss d) (i+1)=sg (G6 c.ss d) i+(if FQ d c.ss[i].f c.ss[i].t then c.ss[i].a else 0):=by
    rw [sg]; unfold G6; rw [List.getElem?_eq_getElem h]
   generalize c.ss[i]=s at *
   generalize hS:sg (G6 c.ss d) i=S at *
   generalize hS2:sg (G6 c.ss d) (i+1)=S2 at *
   simp -implicitDefEqProofs -proj only [go_sem,seval,decide_eq_true (show (i:Int)<c.ss.length by omega)]
   refine Ag _ (by omega) hel ?_
   simp -implicitDefEqProofs -proj only [go_sem,seval]
   refine AI (fun b7 hb7=>?_)
   obtain ⟨m1,m2⟩:=AK hb7 k5
   obtain ⟨m3,m4⟩:=AK hb7 k2
   obtain ⟨m5,m6⟩:=AK hb7 k4
   by_cases p1:s.f≤d
   ·by_cases p2:d≤s.t
    ·rw [if_pos ⟨p1,p2⟩] at hstep
     have w:IntKind.i64.wrap (S+s.a)=S2:=by rw [IntKind.wrap_i64]; omega
     simp -implicitDefEqProofs -proj only [go_sem,seval,m1,m2,m3,m4,m5,m6,k5,k2,k4,decide_eq_true p1,decide_eq_true p2,w]
     refine AY (i+1) (by omega) (by show c.ss.length-(i+1)<c.ss.length-i; omega) rfl ?_ ?_
     ·simp -implicitDefEqProofs -proj only [go_sem,seval,AJ,AU (show i<9223372036854775807 by omega)]
     ·rw [hS2]
      exact ⟨AN,(AF n5).trans ((AF m3).trans k2),(AF n3).trans ((AF m5).trans k4),trivial⟩
    ·rw [if_neg (fun k=>p2 k.2)] at hstep
     simp -implicitDefEqProofs -proj only [go_sem,seval,m1,m2,m3,m4,m5,m6,k5,k2,k4,decide_eq_true p1,decide_eq_false p2]
     refine AY (i+1) (by omega) (by show c.ss.length-(i+1)<c.ss.length-i; omega) rfl ?_ ?_
     ·simp -implicitDefEqProofs -proj only [go_sem,seval,AJ,AU (show i<9223372036854775807 by omega)]
     ·rw [hS2,hstep,Int.add_zero]; exact Ap hb7 hk
   ·rw [if_neg (fun k=>p1 k.1)] at hstep
    simp -implicitDefEqProofs -proj only [go_sem,seval,m1,m2,m3,m4,m5,m6,k5,k2,k4,decide_eq_false p1]
    refine AY (i+1) (by omega) (by show c.ss.length-(i+1)<c.ss.length-i; omega) rfl ?_ ?_
    ·simp -implicitDefEqProofs -proj only [go_sem,seval,AJ,AU (show i<9223372036854775807 by omega)]
    ·rw [hS2,hstep,Int.add_zero]; exact Ap hb7 hk
  ·have hi':i=c.ss.length:=by omega
   subst hi'
   simp -implicitDefEqProofs -proj only [go_sem,seval,k2,decide_eq_false (show ¬(c.ss.length:Int)<c.ss.length by omega),Fy]
   refine EN (fun y:DY=>y.i≤c.ms.length∧(AP (JS b2 b4 b5 c d y)).Nodup) 129 (fun y=>[(1,i64 d),(2,.ptr b2 0),(4,.ptr b4 0),(5,.ptr b5 0),(48,.d (.sl 5 (AX c.ms))),(49,i64 c.ms.length),(50,i64 y.i)]) (JS b2 b4 b5 c d) (fun y=>c.ms.length-y.i) ⟨0,0,0⟩ ⟨Nat.zero_le _,by simp [AP,JS,Eb,Ay,BD,n1,n2,n3,n4,n5,n6]⟩ rfl ?_ ?_ ?_
   ·simp -implicitDefEqProofs -proj only [go_sem,seval,AJ,EZ,Fy]
   ·simp -implicitDefEqProofs only [JS,EZ,Eb,List.range_zero,List.map_nil,Ay,BD,EU,sg,Int.add_zero,List.nil_append]
    exact ⟨k5,k2,k4,trivial⟩
   ·rintro ⟨i,c1,cap⟩ ⟨hi,hn⟩
    simp -implicitDefEqProofs only [EZ] at hi
    have hall:=EV hn
    obtain ⟨H,hH⟩:∃H,Ac (JS b2 b4 b5 c d ⟨i,c1,cap⟩)=H:=⟨_,rfl⟩
    rw [hH] at hall
    simp -implicitDefEqProofs only [JS,EZ,FF,FH] at hall hn
    obtain ⟨hrow,k5,k2,k4,_⟩:=EQ.1 hall
    by_cases h:i<c.ms.length
    ·have hel:=G2 h
     have hb:=hmxb i h
     have hsn:=AVk (c:=c) (d:=d) h
     have hlc:=Qt hf d h
     have hri:=fun (q:Int) (h0:0≤q) (hq:q≤c.ms[i].mx) (j:Nat) (hj:j≤c.ps.length)=>PE hf d h h0 hq hj
     have hmxx:F8 c.ms (i:Int)=c.ms[i].mx:=Qf h
     generalize c.ms[i]=m at *
     have w1:IntKind.i64.wrap (m.mx+1)=(((m.mx+1).toNat:Nat):Int):=by rw [IntKind.wrap_i64]; omega
     simp -implicitDefEqProofs -proj only [go_sem,seval,EZ,FF,FH,hH,decide_eq_true (show (i:Int)<c.ms.length by omega)]
     refine Ag _ (by omega) hel ?_
     simp -implicitDefEqProofs -proj only [go_sem,seval]
     refine AI (fun b9 hb9=>?_)
     replace hb9:H b9=none:=hb9
     simp -implicitDefEqProofs -proj only [go_sem,seval,w1]
     refine Sg (by omega) (by omega) (fun b10 hb10=>?_)
     replace hb10:upd H b9 _ b10=none:=hb10
     obtain ⟨e1,e2⟩:=AK hb10 AN
     have hb10':H b10=none:=by rw [AF e2] at hb10; exact hb10
     have hall9:=Ap (y:=some (.box 39 [.d (.str m.nm),.d (.str m.un),i64 m.mx,i64 m.ln,i64 m.co])) hb9 hall
     have hall10:=HU (x:=.row 3 1 (m.mx+1).toNat (Ad (qL c d i m.mx 0 0))) hb10 hall9
     have hn10:=HT (x:=.row 3 1 (m.mx+1).toNat (Ad (qL c d i m.mx 0 0))) hb10 hall9 hn
     have hfm0:sg (Fi c d) (i+1)=sg (Fi c d) i+sg (FR c.ps d i) c.ps.length:=by rw [sg]; rfl
     have hrep:List.replicate (m.mx+1).toNat [D.int .i64 0]=Ad (qL c d i m.mx 0 0):=by rw [AIZ]; simp [Ad]
     obtain ⟨H10,hH10⟩:∃H10,upd (upd H b9 (some (.box 39 [.d (.str m.nm),.d (.str m.un),i64 m.mx,i64 m.ln,i64 m.co]))) b10 (some (.row 3 1 (m.mx+1).toNat (Ad (qL c d i m.mx 0 0))))=H10:=⟨_,rfl⟩
     rw [hH10] at hall10
     obtain ⟨u10,u5,u2,u4,_⟩:=(⟨hall10.1,(EQ.1 hall10.2).2⟩:_∧_)
     simp -implicitDefEqProofs -proj only [go_sem,seval,hrep,hH10,u2,HG]
     refine EN (fun j:Nat=>j≤c.ps.length∧(AP (GZ b2 b4 b5 b10 c d ⟨i,c1,cap⟩ m.mx (GF c d+sg (Fi c d) i+sg (FR c.ps d i) j) j 0)).Nodup) 129 (fun j=>[(1,i64 d),(2,.ptr b2 0),(4,.ptr b4 0),(5,.ptr b5 0),(48,.d (.sl 5 (AX c.ms))),(49,i64 c.ms.length),(50,i64 i),(8,i64 i),(10,.own b10 1 0 (m.mx+1).toNat (m.mx+1).toNat),(60,.d (.sl 9 (Fw c.ps))),(61,i64 c.ps.length),(62,i64 j)]) (fun j=>GZ b2 b4 b5 b10 c d ⟨i,c1,cap⟩ m.mx (GF c d+sg (Fi c d) i+sg (FR c.ps d i) j) j 0) (fun j=>c.ps.length-j) 0 ⟨Nat.zero_le _,?_⟩ rfl ?_ ?_ ?_
     ·simpa only [GZ,EZ,FF,FH,AP,List.map_cons,List.map_append] using hn10
     ·simp -implicitDefEqProofs -proj only [go_sem,seval,AJ,HG]
     ·simpa only [GZ,EZ,FF,FH,sg,Int.add_zero] using hall10
     ·rintro j ⟨hj,hnj⟩
      have hallj:=EV hnj
      generalize hHj:Ac (GZ b2 b4 b5 b10 c d ⟨i,c1,cap⟩ m.mx (GF c d+sg (Fi c d) i+sg (FR c.ps d i) j) j 0)=Hj at *
      simp -implicitDefEqProofs only [GZ,EZ,FF,FH] at hallj hnj
      obtain ⟨v10,hr⟩:=id hallj
      obtain ⟨vrow,v5,v2,v4,_⟩:=EQ.1 hr
      have hfb:=Q5 hf d i
      have hfS:0≤GF c d∧GF c d≤1000000000000*c.ss.length:=Ps hf.good d (Nat.le_refl c.ss.length)
      have hbj:=PZ hf d i hj
      by_cases h':j<c.ps.length
      ·have helj:=L2 h'
       have hx:=List.getElem_mem h'
       have hok:=hps _ hx
       have hfx:=hfp _ hx
       have hgx:c.ps[j]? = some c.ps[j]:=List.getElem?_eq_getElem h'
       have hpb:=fun (q:Int) (h0:0≤q) (hq:q≤F8 c.ms c.ps[j].me)=>MA hf hx h0 hq
       have hbj2:=PZ hf d i (show j+1≤c.ps.length by omega)
       have hsb:sg (FR c.ps d i) (j+1)=sg (FR c.ps d i) j+FR c.ps d i j:=by rw [sg]
       generalize c.ps[j]=x at *
       simp -implicitDefEqProofs -proj only [go_sem,seval,decide_eq_true (show (j:Int)<c.ps.length by omega)]
       refine Ag _ (by omega) helj ?_
       simp -implicitDefEqProofs -proj only [go_sem,seval]
       refine AI (fun b12 hb12=>?_)
       replace hb12:Hj b12=none:=hb12
       by_cases hon:x.me=(i:Int)∧FQ d x.f x.t
       rotate_left
       ·have hqs:=AII (mx:=m.mx) hgx hon
        have hb0:=AMs hgx hon
        rw [hb0,Int.add_zero] at hsb
        have hfin:AZ (upd Hj b12 (some (.box 93 [i64 x.me,i64 x.f,i64 x.t,i64 x.al,i64 x.bl,i64 x.ki,Fc x.ts,i64 x.mo,Fe x.ad]))) (GZ b2 b4 b5 b10 c d ⟨i,c1,cap⟩ m.mx (GF c d+sg (Fi c d) i+sg (FR c.ps d i) (j+1)) (j+1) 0):=by
         simp -implicitDefEqProofs only [GZ,EZ,FF,FH,hqs,hsb]
         exact Ap hb12 hallj
        have hnj1:(AP (GZ b2 b4 b5 b10 c d ⟨i,c1,cap⟩ m.mx (GF c d+sg (Fi c d) i+sg (FR c.ps d i) (j+1)) (j+1) 0)).Nodup:=by
         simpa only [GZ,EZ,FF,FH,AP,List.map_cons,List.map_append] using hnj
        by_cases c1':x.me=(i:Int)
        ·by_cases c2:d<x.f
         ·simp -implicitDefEqProofs -proj only [go_sem,seval,decide_eq_true c1',Bool.not_true,decide_eq_true c2]
          refine AY (j+1) ⟨by omega,hnj1⟩ (by show c.ps.length-(j+1)<c.ps.length-j; omega) rfl ?_ hfin
          simp -implicitDefEqProofs -proj only [go_sem,seval,AJ,AU (show j<9223372036854775807 by omega)]
         ·have c3:x.t<d:=by unfold FQ at hon; omega
          simp -implicitDefEqProofs -proj only [go_sem,seval,decide_eq_true c1',Bool.not_true,decide_eq_false c2,decide_eq_true c3]
          refine AY (j+1) ⟨by omega,hnj1⟩ (by show c.ps.length-(j+1)<c.ps.length-j; omega) rfl ?_ hfin
          simp -implicitDefEqProofs -proj only [go_sem,seval,AJ,AU (show j<9223372036854775807 by omega)]
        ·simp -implicitDefEqProofs -proj only [go_sem,seval,decide_eq_false c1',Bool.not_false]
         refine AY (j+1) ⟨by omega,hnj1⟩ (by show c.ps.length-(j+1)<c.ps.length-j; omega) rfl ?_ hfin
         simp -implicitDefEqProofs -proj only [go_sem,seval,AJ,AU (show j<9223372036854775807 by omega)]
       obtain ⟨c1',c2',c3'⟩:=id hon
       have hb0:=ADt hgx hon
       have hmx0:F8 c.ms x.me=m.mx:=by rw [c1']; exact hmxx
       have G:=Ox hok
       have hp0:=hpb 0 (Int.le_refl 0) (by omega)
       have hcall0:=NV (q:=0) hfx (by decide) G (NU G.ts)
       rw [hp0.1,Es] at hcall0
       simp -implicitDefEqProofs -proj only [go_sem,seval,decide_eq_true c1',Bool.not_true,decide_eq_false (show ¬d<x.f by omega),decide_eq_false (show ¬x.t<d by omega)]
       refine AL hcall0 ?_
       obtain ⟨x1,x2⟩:=AK hb12 v5
       obtain ⟨x3,x4⟩:=AK hb12 v10
       have w2:IntKind.i64.wrap (GF c d+sg (Fi c d) i+sg (FR c.ps d i) j+pv x 0)=GF c d+sg (Fi c d) i+sg (FR c.ps d i) (j+1):=by rw [IntKind.wrap_i64]; omega
       have hnd2:(AP ((b12,Blk.box 93 [i64 x.me,i64 x.f,i64 x.t,i64 x.al,i64 x.bl,i64 x.ki,Fc x.ts,i64 x.mo,Fe x.ad])::GZ b2 b4 b5 b10 c d ⟨i,c1,cap⟩ m.mx (GF c d+sg (Fi c d) i+sg (FR c.ps d i) (j+1)) j 0)).Nodup:=by
        have:=HT (x:=Blk.box 93 [i64 x.me,i64 x.f,i64 x.t,i64 x.al,i64 x.bl,i64 x.ki,Fc x.ts,i64 x.mo,Fe x.ad]) hb12 hallj hnj
        simpa only [GZ,EZ,FF,FH,AP,List.map_cons,List.map_append] using this
       simp -implicitDefEqProofs -proj only [go_sem,seval,v5,x1,x2,w2]
       refine EN (fun k:Nat=>k≤(m.mx+1).toNat) 129 (fun k=>[(1,i64 d),(2,.ptr b2 0),(4,.ptr b4 0),(5,.ptr b5 0),(48,.d (.sl 5 (AX c.ms))),(49,i64 c.ms.length),(50,i64 i),(8,i64 i),(10,.own b10 1 0 (m.mx+1).toNat (m.mx+1).toNat),(60,.d (.sl 9 (Fw c.ps))),(61,i64 c.ps.length),(62,i64 j),(12,.ptr b12 0),(13,i64 (pv x 0)),(93,i64 (m.mx+1).toNat),(94,i64 k)]) (fun k=>(b12,Blk.box 93 [i64 x.me,i64 x.f,i64 x.t,i64 x.al,i64 x.bl,i64 x.ki,Fc x.ts,i64 x.mo,Fe x.ad])::GZ b2 b4 b5 b10 c d ⟨i,c1,cap⟩ m.mx (GF c d+sg (Fi c d) i+sg (FR c.ps d i) (j+1)) j k) (fun k=>(m.mx+1).toNat-k) 0 (Nat.zero_le _) rfl ?_ ?_ ?_
       ·simp -implicitDefEqProofs -proj only [go_sem,seval,AJ]
       ·simp -implicitDefEqProofs only [GZ,EZ,FF,FH]
        have hnr:b5∉AP [(b2,Ea c),(b4,Gy 0 0 (.nilsl 2))]:=by simp [AP,n3,n5]
        have hnrow:b5∉AP (BD 58 2 c1 cap (Ay (Eb c d i))):=by
         have h1:=(List.nodup_cons.1 hnj).2
         simp -implicitDefEqProofs only [AP,List.map_append,List.map_cons] at h1
         exact fun hm=>(List.nodup_append.1 h1).2.2 _ hm _ (List.mem_cons_self ..) rfl
        have hn10:¬b5=b10:=fun e=>(List.nodup_cons.1 hnj).1 (by rw [←e]; simp [AP])
        refine ⟨(AF x2).trans AN,(AF hn10).trans ((AF x3).trans v10),EQ.2 ⟨Fk (Ap hb12 vrow) hnrow,AN,Fk (Ap hb12 ⟨v2,v4,trivial⟩) hnr⟩⟩
       ·rintro k hk
        have hndk:(AP ((b12,Blk.box 93 [i64 x.me,i64 x.f,i64 x.t,i64 x.al,i64 x.bl,i64 x.ki,Fc x.ts,i64 x.mo,Fe x.ad])::GZ b2 b4 b5 b10 c d ⟨i,c1,cap⟩ m.mx (GF c d+sg (Fi c d) i+sg (FR c.ps d i) (j+1)) j k)).Nodup:=by
         simpa only [GZ,EZ,FF,FH,AP,List.map_cons,List.map_append] using hnd2
        have hallk:=EV hndk
        generalize hHk:Ac ((b12,Blk.box 93 [i64 x.me,i64 x.f,i64 x.t,i64 x.al,i64 x.bl,i64 x.ki,Fc x.ts,i64 x.mo,Fe x.ad])::GZ b2 b4 b5 b10 c d ⟨i,c1,cap⟩ m.mx (GF c d+sg (Fi c d) i+sg (FR c.ps d i) (j+1)) j k)=Hk at *
        simp -implicitDefEqProofs only [GZ,EZ,FF,FH] at hallk
        obtain ⟨y12,y10,yr⟩:=id hallk
        by_cases h'':k<(m.mx+1).toNat
        ·have hpk:=hpb k (by omega) (by omega)
         have hcallk:=NV (q:=(k:Int)) hfx (by unfold Fit; omega) G (NU G.ts)
         rw [hpk.1,Es] at hcallk
         have hrj:=hri k (by omega) (by omega) j (by omega)
         have hrj2:=hri k (by omega) (by omega) (j+1) (by omega)
         have hrs:sg (GG c.ps d i k) (j+1)=sg (GG c.ps d i k) j+(pv x k-pv x 0):=by rw [sg,AUe hgx hon]
         have hge:=Kp (WF (c:=c) (d:=d) (m:=i) (mx:=m.mx) (j:=j) h'')
         have hset:(Ad (qL c d i m.mx j k)).set k [.int .i64 (sg (GG c.ps d i k) (j+1))]=Ad (qL c d i m.mx j (k+1)):=by rw [AGA,AGn h'']
         have w3:IntKind.i64.wrap (IntKind.i64.wrap (sg (GG c.ps d i k) j+pv x k)-pv x 0)=sg (GG c.ps d i k) (j+1):=by
          rw [IntKind.wrap_i64 (sg _ _+_),IntKind.wrap_i64]; omega
         simp -implicitDefEqProofs -proj only [go_sem,seval,y12,decide_eq_true (show (k:Int)<(((m.mx+1).toNat:Nat):Int) by omega)]
         refine AL hcallk ?_
         simp -implicitDefEqProofs -proj only [go_sem,seval,Int.toNat_natCast,y12,y10]
         refine Ak ⟨by omega,by omega⟩ (fun _=>?_)
         refine Ed _ hge (by simp) ?_
         simp -implicitDefEqProofs -proj only [go_sem,seval,Int.toNat_natCast,y12,y10,w3]
         refine Ak ⟨by omega,by omega⟩ (fun _=>?_)
         refine IK y10 hge (by simp) ?_
         simp -implicitDefEqProofs -proj only [go_sem,seval,Fr,hset]
         have hne12:¬b10=b12:=x4
         have hnr:b10∉AP (BD 58 2 c1 cap (Ay (Eb c d i))++[(b5,Gy d (GF c d+sg (Fi c d) i+sg (FR c.ps d i) (j+1)) (EU 2 2 c1 cap (Ay (Eb c d i)))),(b2,Ea c),(b4,Gy 0 0 (.nilsl 2))]):=by
          have:=(List.nodup_cons.1 (List.nodup_cons.1 hndk).2).1
          simpa only [GZ,EZ,FF,FH,AP,List.map_cons,List.map_append] using this
         refine AY (k+1) (by omega) (by show (m.mx+1).toNat-(k+1)<(m.mx+1).toNat-k; omega) rfl ?_ ?_
         ·simp -implicitDefEqProofs -proj only [go_sem,seval,AJ,AU (show k<9223372036854775807 by omega)]
         ·simp -implicitDefEqProofs only [GZ,EZ,FF,FH]
          exact ⟨(AF hne12).trans y12,AN,Fk yr hnr⟩
        ·have hk':k=(m.mx+1).toNat:=by omega
         subst hk'
         simp -implicitDefEqProofs -proj only [go_sem,seval,decide_eq_false (show ¬(((m.mx+1).toNat:Nat):Int)<(((m.mx+1).toNat:Nat):Int) by omega)]
         rw [AEr] at y10
         refine AY (j+1) ⟨by omega,?_⟩ (by show c.ps.length-(j+1)<c.ps.length-j; omega) rfl ?_ ?_
         ·have:=(List.nodup_cons.1 hnd2).2
          simpa only [GZ,EZ,FF,FH,AP,List.map_cons,List.map_append] using this
         ·simp -implicitDefEqProofs -proj only [go_sem,seval,AJ,AU (show j<9223372036854775807 by omega)]
         ·simp -implicitDefEqProofs only [GZ,EZ,FF,FH]
          exact ⟨y10,yr⟩
      ·have hj':j=c.ps.length:=by omega
       subst hj'
       rw [Xl] at v10
       have hfl:Jb (Hq c d i m.mx):=fun q hq=>by
        have:=hlc.2.2 _ (List.getElem_mem hq)
        unfold F4 at this
        unfold Fit; omega
       have hof:=Pa hfl (by rw [Kf]; omega)
       rw [if_pos hlc] at hof
       simp -implicitDefEqProofs -proj only [go_sem,seval,decide_eq_false (show ¬(c.ps.length:Int)<c.ps.length by omega)]
       refine MN hof (GA (KR v10 (by rw [Ei,Kf])) Hl) ?_
       simp -implicitDefEqProofs -proj only [go_sem,seval]
       refine AI (fun b18 hb18=>?_)
       replace hb18:Hj b18=none:=hb18
       obtain ⟨z1,z2⟩:=AK hb18 v5
       simp -implicitDefEqProofs -proj only [go_sem,seval,v5,z1,z2]
       refine EO (fun bs hs=>?_)
       have hs':upd Hj b18 _ bs=none:=hs
       obtain ⟨hall',hn'⟩:AZ Hj (BD 58 2 c1 cap (Ay (Eb c d i))++[(b5,Gy d (GF c d+sg (Fi c d) i+sg (FR c.ps d i) c.ps.length) (EU 2 2 c1 cap (Ay (Eb c d i)))),(b2,Ea c),(b4,Gy 0 0 (.nilsl 2))])∧(AP (BD 58 2 c1 cap (Ay (Eb c d i))++[(b5,Gy d (GF c d+sg (Fi c d) i+sg (FR c.ps d i) c.ps.length) (EU 2 2 c1 cap (Ay (Eb c d i)))),(b2,Ea c),(b4,Gy 0 0 (.nilsl 2))])).Nodup:=⟨hr,(List.nodup_cons.1 hnj).2⟩
       obtain ⟨q1,q2⟩:=AK hs' (by rw [AF z1]; exact v5)
       simp -implicitDefEqProofs -proj only [go_sem,seval,q1,q2,z1,z2]
       refine FX (xs:=Ay (Eb c d i)) (y:=[.int .i64 (((Hq c d i m.mx).length:Int)-1),.sl 5 (ET (Ef (Hq c d i m.mx)))]) (t:=58) (capc:=1) [(b5,Gy d (GF c d+sg (Fi c d) i+sg (FR c.ps d i) c.ps.length) (EU 2 2 c1 cap (Ay (Eb c d i)))),(b2,Ea c),(b4,Gy 0 0 (.nilsl 2))] rfl (Ap hs' (Ap hb18 hall')) hn' (by simp -implicitDefEqProofs -proj only [go_sem,seval]; try rfl) (by rw [FS,HL]; omega) (by rw [FS,HL]; omega) (fun H' c2 cap2 ha hk=>?_)
       rw [ASY,←hsn] at ha hk
       obtain ⟨hrow2,g5,g2,g4,_⟩:=EQ.1 ha
       have hne:Ay (Eb c d (i+1))≠[]:=by rw [hsn]; simp [Ay]
       have hl1:(Ay (Eb c d (i+1))).length=i+1:=by rw [FS,HL]
       have hfx1:GF c d+sg (Fi c d) i+sg (FR c.ps d i) c.ps.length=GF c d+sg (Fi c d) (i+1):=by rw [hfm0]; omega
       rw [hfx1] at g5
       simp -implicitDefEqProofs -proj only [go_sem,seval,g5,FS,HL]
       have hk2:(AP (JS b2 b4 b5 c d ⟨i+1,c2,cap2⟩)).Nodup:=by simpa only [JS,EZ,FF,FH,AP,List.map_cons,List.map_append] using hk
       have hk5:b5∉AP (BD 58 2 c2 cap2 (Ay (Eb c d (i+1)))):=by
        simp -implicitDefEqProofs only [AP,List.map_append,List.map_cons] at hk
        exact fun hm=>(List.nodup_append.1 hk).2.2 _ hm _ (List.mem_cons_self ..) rfl
       refine AY ⟨i+1,c2,cap2⟩ ⟨by rw [EZ]; omega,hk2⟩ (by show c.ms.length-(i+1)<c.ms.length-i; omega) rfl ?_ ?_
       ·simp -implicitDefEqProofs -proj only [go_sem,seval,AJ,EZ,AU (show i<9223372036854775807 by omega)]
       ·simp -implicitDefEqProofs only [JS,EZ,FF,FH,Eg hne,hl1]
        exact EQ.2 ⟨Fk hrow2 hk5,AN,(AF n5).trans g2,(AF n3).trans g4,trivial⟩
    ·have hi':i=c.ms.length:=by omega
     subst hi'
     simp -implicitDefEqProofs -proj only [go_sem,seval,EZ,FF,FH,hH,k5,k4,decide_eq_false (show ¬(c.ms.length:Int)<c.ms.length by omega)]
     exact OP (Id (Fk hrow (by
      have:=hn
      simp -implicitDefEqProofs only [AP,List.map_append,List.map_cons] at this
      exact fun hm=>(List.nodup_append.1 this).2.2 _ hm _ (by simp) rfl)))
theorem ABc {a b:List (List Int)} (hl:a.length=b.length) (h:∀(i:Nat) (h1:i<a.length) (h2:i<b.length),a[i]=b[i]):a=b:=List.ext_getElem hl h
theorem LU {a b:Seg D4} (ha:∀l∈a.v.2,ER l) (hb:∀l∈b.v.2,ER l) (hla:a.v.2.length≤1000000) (hlb:b.v.2.length≤1000000):DataW Try.prog ATE [JY a,JY b] (bv (decide (a.v=b.v))):=by
 obtain ⟨af,at',x,A⟩:=a
 obtain ⟨bf,bt',y,B⟩:=b
 simp -implicitDefEqProofs only [] at ha hb hla hlb
 refine Aj Xn (by simp) ?_
 simp -implicitDefEqProofs -proj only [go_sem,seval]
 refine AI (fun b2 hb2=>?_)
 simp -implicitDefEqProofs -proj only [go_sem,seval]
 refine AI (fun b3 hb3=>?_)
 replace hb3:upd Heap.none b2 _ b3=none:=hb3
 obtain ⟨n1,n2⟩:=AK hb3 AN
 by_cases g1:x=y
 rotate_left
 ·simp -implicitDefEqProofs -proj only [go_sem,seval,n1,n2,decide_eq_false g1,Bool.not_false]
  exact AM (by rw [decide_eq_false (fun k=>g1 (Prod.mk.inj k).1)])
 by_cases g2:A.length=B.length
 rotate_left
 ·simp -implicitDefEqProofs -proj only [go_sem,seval,n1,n2,decide_eq_true g1,Bool.not_true,FS,decide_eq_false (show ¬(A.length:Int)=B.length by omega),Bool.not_false]
  exact AM (by rw [decide_eq_false (fun k=>g2 (by rw [(Prod.mk.inj k).2]))])
 simp -implicitDefEqProofs -proj only [go_sem,seval,n1,n2,decide_eq_true g1,Bool.not_true,FS,decide_eq_true (show (A.length:Int)=B.length by omega)]
 refine EN (fun i:Nat=>i≤A.length∧∀(j:Nat) (h:j<A.length) (h2:j<B.length),j<i→A[j]=B[j]) 39 (fun i=>[(2,.ptr b2 0),(3,.ptr b3 0),(22,i64 A.length),(23,i64 i)]) (fun _=>[(b3,.box 46 [i64 bf,i64 bt',i64 y,Ee B]),(b2,.box 46 [i64 af,i64 at',i64 x,Ee A])]) (fun i=>A.length-i) 0 ⟨Nat.zero_le _,fun j _ _ h=>absurd h (Nat.not_lt_zero _)⟩ rfl ?_ ?_ ?_
 ·simp -implicitDefEqProofs -proj only [go_sem,seval,AJ,FS]
 ·exact ⟨AN,(AF n1).trans AN,trivial⟩
 ·rintro i ⟨hi,hs⟩
  have hk:AZ (Ac [(b3,.box 46 [i64 bf,i64 bt',i64 y,Ee B]),(b2,.box 46 [i64 af,i64 at',i64 x,Ee A])]) [(b3,.box 46 [i64 bf,i64 bt',i64 y,Ee B]),(b2,.box 46 [i64 af,i64 at',i64 x,Ee A])]:=EV (by simp [AP,n1])
  obtain ⟨k3,k2,_⟩:=id hk
  by_cases h:i<A.length
  ·have h2:i<B.length:=by omega
   have e1:=JB h
   have e2:=JB h2
   have hca:=ha _ (List.getElem_mem h)
   have hcb:=hb _ (List.getElem_mem h2)
   have hno:A[i]≠B[i]→(x,A)≠(y,B):=fun hn k=>hn (by
    have:=(Prod.mk.inj k).2
    subst this; rfl)
   have hgo:A[i]=B[i]→∀(j:Nat) (h:j<A.length) (h2:j<B.length),j<i+1→A[j]=B[j]:=fun he j h1 h2 h3=>by
    by_cases hj:j=i
    ·subst hj; exact he
    ·exact hs j h1 h2 (by omega)
   generalize A[i]=l at *
   generalize B[i]=m at *
   have hla':(Ef l).length≤1000000:=by have:=@JQ l; have:=hca.2.1; omega
   have hlb':(Ef m).length≤1000000:=by have:=@JQ m; have:=hcb.2.1; omega
   have hcall:=R3 (m:=(l.length:Int)-1) (n:=(m.length:Int)-1) hla' hlb'
   rw [show decide ((l.length:Int)-1=(m.length:Int)-1∧Ef l=Ef m)=decide (l=m) from decide_eq_decide.2 RU] at hcall
   simp -implicitDefEqProofs -proj only [go_sem,seval,k3,k2,n1,n2,decide_eq_true (show (i:Int)<A.length by omega)]
   refine Ag _ (by omega) e1 ?_
   simp -implicitDefEqProofs -proj only [go_sem,seval,k3,k2,n1,n2]
   refine Ag _ (by omega) e2 ?_
   simp -implicitDefEqProofs -proj only [go_sem,seval,k3,k2,n1,n2]
   refine AL hcall ?_
   by_cases c:l=m
   ·simp -implicitDefEqProofs -proj only [go_sem,seval,decide_eq_true c,Bool.not_true]
    refine AY (i+1) ⟨by omega,hgo c⟩ (by show A.length-(i+1)<A.length-i; omega) rfl ?_ hk
    simp -implicitDefEqProofs -proj only [go_sem,seval,AJ,AU (show i<9223372036854775807 by omega)]
   ·simp -implicitDefEqProofs -proj only [go_sem,seval,decide_eq_false c,Bool.not_false]
    exact AM (by rw [decide_eq_false (hno c)])
  ·have hi':i=A.length:=by omega
   subst hi'
   simp -implicitDefEqProofs -proj only [go_sem,seval,decide_eq_false (show ¬(A.length:Int)<A.length by omega)]
   exact AM (by rw [decide_eq_true (show (x,A)=(y,B) by rw [g1,ABc g2 fun j h1 h2=>hs j h1 h2 h1])])
theorem ADv {l:List Int}:∀el∈Ad l,∀d∈el,Hi d=true:=by
 intro el he d hd
 obtain ⟨r,_,rfl⟩:=List.mem_map.1 he
 simp -implicitDefEqProofs only [List.mem_singleton] at hd
 subst hd; rfl
theorem ZO {l:List Int} {x:Int}:Ad l++[[.int .i64 x]]=Ad (l++[x]):=by simp [Ad]
structure BX17 where
 i:Nat
 c:Nat
 cap:Nat
theorem Hf {i c cap:Nat}:(BX17.mk i c cap).i=i:=(rfl)
theorem Jg {i c cap:Nat}:(BX17.mk i c cap).c=c:=(rfl)
theorem JV {i c cap:Nat}:(BX17.mk i c cap).cap=cap:=(rfl)
theorem RP {val:Int→Int} {f:Int}:∀n:Nat,(E9 val f n).length≤n
 | 0=>by simp [E9]
 | n+1=>by
  have:=RP (val:=val) (f:=f) n
  rw [E9]
  split
  ·omega
  ·rw [List.length_append,List.length_singleton]; omega
def I5 (b1:Nat) (x:CoreX) (val:Int→Int) (y:BX17):List (Nat×Blk):=BD 3 1 y.c y.cap (Ad (E9 val x.f y.i))++[(b1,Ea x)]
theorem AJX {c:CoreX} (hg:goodC c):NewW Try.prog ASB [F9 c] (Fu (E9 (fun d=>((G0 c d:Nat):Int)) c.f (c.t-c.f).toNat)):=by
 obtain ⟨⟨a1,a2⟩,⟨a3,a4⟩,a5,a6,a7,a8⟩:=hg.hd
 have hrh:=fun day=>AIf (c:=c) (day:=day) a7 a8
 obtain ⟨val,hval⟩:∃val:Int→Int,(fun d=>((G0 c d:Nat):Int))=val:=⟨_,rfl⟩
 have hv:∀d,((G0 c d:Nat):Int)=val d:=fun d=>congrFun hval d
 rw [hval]
 simp -implicitDefEqProofs only [hv] at hrh
 refine Aj AMo (by simp) ?_
 simp -implicitDefEqProofs -proj only [go_sem,seval]
 refine AI (fun b1 hb1=>?_)
 have w1:IntKind.i64.wrap (c.f+1)=c.f+1:=by rw [IntKind.wrap_i64]; omega
 simp -implicitDefEqProofs -proj only [go_sem,seval,w1]
 refine EN (fun y:BX17=>y.i≤(c.t-c.f).toNat∧(AP (I5 b1 c val y)).Nodup) 27 (fun y=>[(1,.ptr b1 0),(3,EU 0 1 y.c y.cap (Ad (E9 val c.f y.i))),(4,i64 (c.f+1+y.i))]) (I5 b1 c val) (fun y=>(c.t-c.f).toNat+1-y.i) ⟨0,0,0⟩ ⟨Nat.zero_le _,by simp [AP,I5,Hf,E9,Ad,BD]⟩ rfl ?_ ?_ ?_
 ·simp -implicitDefEqProofs -proj only [go_sem,seval,AJ,Hf,Int.add_zero]
  try rfl
 ·simp -implicitDefEqProofs only [I5,Hf,E9,Ad,List.map_nil,J9,List.nil_append]
  exact ⟨AN,trivial⟩
 ·rintro ⟨i,c1,cap⟩ ⟨hi,hn⟩
  simp -implicitDefEqProofs only [Hf] at hi
  have hall:=EV hn
  obtain ⟨H,hH⟩:∃H,Ac (I5 b1 c val ⟨i,c1,cap⟩)=H:=⟨_,rfl⟩
  rw [hH] at hall
  simp -implicitDefEqProofs only [I5,Hf,Jg,JV] at hall hn
  obtain ⟨hrow,k1,_⟩:=EQ.1 hall
  by_cases h:i<(c.t-c.f).toNat
  ·have hbl:=RP (val:=val) (f:=c.f) i
   have w2:IntKind.i64.wrap (c.f+1+(i:Int)-1)=c.f+i:=by rw [IntKind.wrap_i64]; omega
   have w3:IntKind.i64.wrap (c.f+1+(i:Int)+1)=c.f+1+((i+1:Nat):Int):=by rw [IntKind.wrap_i64]; omega
   have h1:=hrh (c.f+1+i)
   have h2:=hrh (c.f+i)
   have hb:E9 val c.f (i+1)=if val (c.f+1+i)=val (c.f+i) then E9 val c.f i else E9 val c.f i++[c.f+1+i]:=rfl
   generalize hG:E9 val c.f i=G at *
   simp -implicitDefEqProofs -proj only [go_sem,seval,Hf,Jg,JV,hH,hG,k1,decide_eq_true (show c.f+1+(i:Int)≤c.t by omega)]
   refine Eu h1 ?_
   simp -implicitDefEqProofs -proj only [go_sem,seval,k1,w2]
   refine AL h2 ?_
   by_cases he:val (c.f+1+i)=val (c.f+i)
   ·rw [if_pos he] at hb
    simp -implicitDefEqProofs -proj only [go_sem,seval,decide_eq_true he,w3]
    refine AY ⟨i+1,c1,cap⟩ ⟨by rw [Hf]; omega,by simpa only [I5,Hf,Jg,JV,hb] using hn⟩ (by show (c.t-c.f).toNat+1-(i+1)<(c.t-c.f).toNat+1-i; omega) rfl ?_ ?_
    ·simp -implicitDefEqProofs -proj only [go_sem,seval,AJ,Hf,Jg,JV,hb]
    ·simpa only [I5,Hf,Jg,JV,hb] using hall
   ·rw [if_neg he] at hb
    have hne:Ad (E9 val c.f (i+1))≠[]:=by rw [hb]; simp [Ad]
    have hl2:(Ad (E9 val c.f (i+1))).length=G.length+1:=by rw [Ei,hb,List.length_append,List.length_singleton]
    simp -implicitDefEqProofs -proj only [go_sem,seval,decide_eq_false he]
    refine EO (fun bs hs=>?_)
    replace hs:H bs=none:=hs
    simp -implicitDefEqProofs -proj only [go_sem,seval]
    refine FX (xs:=Ad G) (y:=[.int .i64 (c.f+1+i)]) (t:=3) (capc:=1) [(b1,Ea c)] rfl (Ap hs hall) hn (by simp -implicitDefEqProofs -proj only [go_sem,seval]; try rfl) (by rw [Ei]; omega) (by rw [Ei]; omega) (fun H' c2 cap2 ha hk=>?_)
    rw [ZO,←hb] at ha hk
    simp -implicitDefEqProofs -proj only [go_sem,seval,w3,Ei]
    refine AY ⟨i+1,c2,cap2⟩ ⟨by rw [Hf]; omega,by simpa only [I5,Hf,Jg,JV] using hk⟩ (by show (c.t-c.f).toNat+1-(i+1)<(c.t-c.f).toNat+1-i; omega) rfl ?_ ?_
    ·simp -implicitDefEqProofs -proj only [go_sem,seval,AJ,Hf,Jg,JV,Eg hne,hl2,Ei]
    ·simpa only [I5,Hf,Jg,JV] using ha
  ·have hi':i=(c.t-c.f).toNat:=by omega
   subst hi'
   simp -implicitDefEqProofs -proj only [go_sem,seval,Hf,Jg,JV,hH,k1,decide_eq_false (show ¬c.f+1+(((c.t-c.f).toNat:Nat):Int)≤c.t by omega)]
   exact KL hrow ADv
section
variable {P:Program} {Q:Out→St→Prop} {k:List Item} {s:St} {d:Option Nat} {l:List AO}
theorem R5 {e:TypeId} {sz bytes b len cap:Nat} {z:List AV} {xs ys:List (List D)} (hb:s.H b=some (.row e sz cap xs)) (hlb:len=xs.length) (hz:z.length=sz) (hbd:(xs.length+ys.length)*bytes≤140737488355328∧xs.length+ys.length≤maxLen)
  (hk:∀b' cap' H',H' b'=some (.row e sz cap' (xs++ys))→(∀k x,s.H k=some x→¬k=b→H' k=some x∧¬k=b'∧¬b'=k)→AS P Q l k (AH s d (.own b' sz 0 (len+ys.length) cap') H')):Gk e sz bytes z (.own b sz 0 len cap) (.d (.sl sz ys)) d l k s P Q:=by
 by_cases h:ys=[]
 ·subst h
  refine ASj hz ?_
  have:=hk b cap s.H (by rw [List.append_nil]; exact hb) (fun k x h1 h2=>⟨h1,h2,fun e=>h2 e.symm⟩)
  simpa using this
 ·refine AQE (len:=0) hb hlb h hz hbd (fun b' cap' hb'=>hk b' cap' _ AN (fun k x h1 h2=>?_))
  have hne:¬k=b':=by
   rintro rfl
   rw [AF (fun e=>h2 e.symm),h1] at hb'
   cases hb'
  exact ⟨by rw [AF (fun e=>hne e.symm),AF (fun e=>h2 e.symm)]; exact h1,hne,fun e=>hne e.symm⟩
end
structure MkY where
 i:Nat
 c:Nat
 cap:Nat
theorem HF {i c cap:Nat}:(MkY.mk i c cap).i=i:=(rfl)
theorem JU {i c cap:Nat}:(MkY.mk i c cap).c=c:=(rfl)
theorem Jf {i c cap:Nat}:(MkY.mk i c cap).cap=cap:=(rfl)
def Gj (b1 b2 b3 bm bd capm capd:Nat) (c:CoreX) (ds:List Int) (c1 cap:Nat) (acc:List (Seg D4)):List (Nat×Blk):=BD 46 4 c1 cap (Em acc)++[(b3,.box 30 [.d (.str c.cur),i64 c.f,i64 c.t,.own bm 5 0 c.ms.length capm,EU 4 4 c1 cap (Em acc)]),(bm,.row 39 5 capm (AX c.ms)),(bd,.row 3 1 capd (Ad ds)),(b1,Ea c),(b2,.box 30 [.d (.str ⟨⟨[]⟩⟩),i64 0,i64 0,.nilsl 5,.nilsl 4])]
theorem RF {b1 b2 b3 bm bd capm capd:Nat} {c:CoreX} {ds:List Int} {c1 cap:Nat} {A:List (Seg D4)} {s s':Seg D4}:AP (Gj b1 b2 b3 bm bd capm capd c ds c1 cap (A++[s]))=AP (Gj b1 b2 b3 bm bd capm capd c ds c1 cap (A++[s'])):=by
 have h:∀s:Seg D4,Em (A++[s])≠[]:=fun s=>by simp [Em]
 simp -implicitDefEqProofs only [Gj,FA (h s),FA (h s'),AP,List.map_append,List.map_cons,List.map_nil]
theorem UL {c:CoreX} (hc:c.Fit) (hf:fitsC c):DataW Try.prog Y0 [F9 c] (E7 c.cur c.f c.t c.ms (Fv c)):=by
 obtain ⟨⟨a1,a2⟩,⟨a3,a4⟩,a5,a6,a7,a8⟩:=hf.good.hd
 have hbr:=(AJX hf.good).data
 have hst:=AAi (c:=c) a3
 have hfw:=UR (c:=c) a3
 have hlen:=AMh (c:=c) a7 a8 (c.t-c.f).toNat
 have hday:=fun (d:Int) (hd:Fit d)=>ABa (d:=d) hc hf hd
 have hcurs:=fun d=>Mo hf d
 have hfin:Fv c=Lc (GJ (Eo c) ((Jc c).map (·.f)) (Jc c).length) c.t:=rfl
 have hadd:=O2 hfw (UE a7)
 have hRl:(Jc c).length=(E9 (fun d=>((G0 c d:Nat):Int)) c.f (c.t-c.f).toNat).length+1:=by
  have:=congrArg List.length hst
  simpa using this
 have hnth:=hfw.nth2
 rw [hfin]
 rw [hst] at hadd ⊢
 generalize Jc c=R at *
 generalize E9 (fun d=>((G0 c d:Nat):Int)) c.f (c.t-c.f).toNat=bs at *
 refine Aj Wx (by simp) ?_
 simp -implicitDefEqProofs -proj only [go_sem,seval]
 refine AI (fun b1 hb1=>?_)
 simp -implicitDefEqProofs -proj only [go_sem,seval]
 refine AI (fun b2 hb2=>?_)
 replace hb2:upd Heap.none b1 _ b2=none:=hb2
 obtain ⟨n1,n2⟩:=AK hb2 AN
 simp -implicitDefEqProofs -proj only [go_sem,seval,n1,n2]
 have A1:AZ (upd (upd Heap.none b1 (some (Ea c))) b2 (some (.box 30 [.d (.str ⟨⟨[]⟩⟩),i64 0,i64 0,.nilsl 5,.nilsl 4]))) [(b1,Ea c),(b2,.box 30 [.d (.str ⟨⟨[]⟩⟩),i64 0,i64 0,.nilsl 5,.nilsl 4])]:=⟨(AF n1).trans AN,AN,trivial⟩
 have N1:(AP [(b1,Ea c),(b2,Blk.box 30 [.d (.str ⟨⟨[]⟩⟩),i64 0,i64 0,.nilsl 5,.nilsl 4])]).Nodup:=by simp [AP,n2]
 obtain ⟨H0,hH0⟩:∃H0,upd (upd Heap.none b1 (some (Ea c))) b2 (some (.box 30 [.d (.str ⟨⟨[]⟩⟩),i64 0,i64 0,.nilsl 5,.nilsl 4]))=H0:=⟨_,rfl⟩
 rw [hH0] at A1
 rw [hH0]
 refine Kv (ds:=[]) rfl (fun b14 hb14=>?_)
 replace hb14:H0 b14=none:=hb14
 obtain ⟨k1,k2,_⟩:=id A1
 obtain ⟨m1,m2⟩:=AK hb14 k1
 obtain ⟨m3,m4⟩:=AK hb14 k2
 simp -implicitDefEqProofs -proj only [go_sem,seval]
 refine R5 (xs:=[]) (by exact AN) rfl (by rfl) (by rw [Fy]; constructor <;> simp [maxLen] <;> omega) (fun bm capm H1 hm hfr=>?_)
 obtain ⟨g1,g2,g3⟩:=hfr b1 _ ((AF m1).trans k1) m2
 obtain ⟨g4,g5,g6⟩:=hfr b2 _ ((AF m3).trans k2) m4
 simp -implicitDefEqProofs -proj only [go_sem,seval,Fy]
 refine AI (fun b3 hb3=>?_)
 replace hb3:H1 b3=none:=hb3
 obtain ⟨p1,p2⟩:=AK hb3 g1
 obtain ⟨p3,p4⟩:=AK hb3 g4
 obtain ⟨p5,p6⟩:=AK hb3 hm
 obtain ⟨H2,hH2⟩:∃H2,upd H1 b3 (some (.box 30 [.d (.str c.cur),i64 c.f,i64 c.t,.own bm 5 0 c.ms.length capm,.nilsl 4]))=H2:=⟨_,rfl⟩
 have A2:AZ H2 [(b3,.box 30 [.d (.str c.cur),i64 c.f,i64 c.t,.own bm 5 0 c.ms.length capm,.nilsl 4]),(bm,.row 39 5 capm (AX c.ms)),(b1,Ea c),(b2,.box 30 [.d (.str ⟨⟨[]⟩⟩),i64 0,i64 0,.nilsl 5,.nilsl 4])]:=by
  rw [←hH2]
  exact ⟨AN,(AF p5).trans hm,(AF p1).trans g1,(AF p3).trans g4,trivial⟩
 have N2:(AP [(b3,Blk.box 30 [.d (.str c.cur),i64 c.f,i64 c.t,.own bm 5 0 c.ms.length capm,.nilsl 4]),(bm,.row 39 5 capm (AX c.ms)),(b1,Ea c),(b2,.box 30 [.d (.str ⟨⟨[]⟩⟩),i64 0,i64 0,.nilsl 5,.nilsl 4])]).Nodup:=by
  simp [AP,p1,p3,p5,g3,g6,n2]
 obtain ⟨e3,em,e1,e2,_⟩:=id A2
 simp -implicitDefEqProofs -proj only [go_sem,seval,p1,p2,p3,p4,p5,p6,hH2,e1]
 refine Eu hbr ?_
 simp -implicitDefEqProofs -proj only [go_sem,seval]
 refine Kv (ds:=[.int .i64 c.f]) rfl (fun b21 hb21=>?_)
 replace hb21:H2 b21=none:=hb21
 have A3:=Ap (y:=some (.row 3 1 1 [[.int .i64 c.f]])) hb21 A2
 simp -implicitDefEqProofs -proj only [go_sem,seval]
 refine R5 (xs:=[[.int .i64 c.f]]) AN rfl (by rfl) (by rw [Ei]; constructor <;> simp [maxLen] <;> omega) (fun bd capd H3 hd hfr3=>?_)
 have A4:AZ H3 ((bd,.row 3 1 capd (Ad (c.f::bs)))::[(b3,.box 30 [.d (.str c.cur),i64 c.f,i64 c.t,.own bm 5 0 c.ms.length capm,.nilsl 4]),(bm,.row 39 5 capm (AX c.ms)),(b1,Ea c),(b2,.box 30 [.d (.str ⟨⟨[]⟩⟩),i64 0,i64 0,.nilsl 5,.nilsl 4])]) :=
  ⟨hd,GU.2 fun p hp=>(hfr3 p.1 p.2 (GU.1 A3 p hp) (fun e=>by
   have:=GU.1 A2 p hp
   rw [e,hb21] at this; cases this)).1⟩
 have N4:bd∉AP [(b3,Blk.box 30 [.d (.str c.cur),i64 c.f,i64 c.t,.own bm 5 0 c.ms.length capm,.nilsl 4]),(bm,.row 39 5 capm (AX c.ms)),(b1,Ea c),(b2,.box 30 [.d (.str ⟨⟨[]⟩⟩),i64 0,i64 0,.nilsl 5,.nilsl 4])]:=fun hm=>by
  obtain ⟨p,hp,e⟩:=List.mem_map.1 hm
  exact (hfr3 p.1 p.2 (GU.1 A3 p hp) (fun e=>by
   have:=GU.1 A2 p hp
   rw [e,hb21] at this; cases this)).2.1 e
 have hlR:1+bs.length=R.length:=by omega
 obtain ⟨f3,fm,f1,f2,_⟩:=id A4.2
 simp -implicitDefEqProofs -proj only [go_sem,seval,Ei,hlR]
 have hkk:∀(c1 cap:Nat),(AP (Gj b1 b2 b3 bm bd capm capd c (c.f::bs) c1 cap [])).Nodup:=fun c1 cap=>by
  exact Ss (A:=[b3,bm]) (B:=[b1,b2]) (List.nodup_cons.2 ⟨N4,N2⟩)
 refine EN (fun y:MkY=>y.i≤R.length∧(AP (Gj b1 b2 b3 bm bd capm capd c (c.f::bs) y.c y.cap (GJ (Eo c) (c.f::bs) y.i))).Nodup) 81 (fun y=>[(1,.ptr b1 0),(2,.ptr b2 0),(3,.ptr b3 0),(24,.own bd 1 0 R.length capd),(25,i64 R.length),(26,i64 y.i)]) (fun y=>Gj b1 b2 b3 bm bd capm capd c (c.f::bs) y.c y.cap (GJ (Eo c) (c.f::bs) y.i)) (fun y=>R.length-y.i) ⟨0,0,0⟩ ⟨Nat.zero_le _,hkk _ _⟩ rfl ?_ ?_ ?_
 ·simp -implicitDefEqProofs -proj only [go_sem,seval,AJ,HF,Ei,hlR]
 ·simp -implicitDefEqProofs only [Gj,HF,GJ,Em,List.map_nil,J9,JX,List.nil_append]
  exact ⟨f3,fm,A4.1,f1,f2,trivial⟩
 ·rintro ⟨i,c1,cap⟩ ⟨hi,hn⟩
  simp -implicitDefEqProofs only [HF,JU,Jf] at hi hn
  have hall:=EV hn
  obtain ⟨H,hH⟩:∃H,Ac (Gj b1 b2 b3 bm bd capm capd c (c.f::bs) c1 cap (GJ (Eo c) (c.f::bs) i))=H:=⟨_,rfl⟩
  rw [hH] at hall
  simp -implicitDefEqProofs only [Gj] at hall
  obtain ⟨hrow,h3,hm3,hd3,h1,h2,_⟩:=EQ.1 hall
  by_cases h:i<R.length
  ·have hr:=List.getElem?_eq_getElem h
   obtain ⟨r1,r2,r3,r4,r5,r6,r7⟩:=hnth i _ hr
   have hds:(c.f::bs)[i]? = some R[i].f:=by rw [←hst]; simp [h]
   have hdi:=Kp hds
   have hstep:GJ (Eo c) (c.f::bs) (i+1)=KB (GJ (Eo c) (c.f::bs) i) R[i].f (Eo c R[i].f):=by rw [GJ,hds]
   have hdy:=hday R[i].f (by unfold Fit; omega)
   have hcu:∀l∈(Eo c R[i].f).2,ER l:=hcurs R[i].f
   have hdl:(Eo c R[i].f).2.length=c.ms.length:=HL
   have hacc:∀A s,GJ (Eo c) (c.f::bs) i=A++[s]→(∀l∈s.v.2,ER l)∧s.v.2.length≤4:=fun A s e=>by
    cases i with
    | zero=>rw [GJ] at e; have:=congrArg List.length e; simp at this
    | succ i =>
     obtain ⟨A',s',e1,e2,_⟩:=hadd i R[i] (List.getElem?_eq_getElem (by omega))
     rw [e1] at e
     have:=(List.append_inj' e rfl).2
     cases this
     rw [e2]
     exact ⟨Mo hf _,by show (Eb c _ _).length≤4; rw [HL]; exact a6⟩
   have hal:(GJ (Eo c) (c.f::bs) i).length≤4000:=by
    cases i with
    | zero=>rw [GJ]; simp
    | succ i =>
     obtain ⟨A',s',e1,e2,e3,e4⟩:=hadd i R[i] (List.getElem?_eq_getElem (by omega))
     obtain ⟨_,q2,q3,_⟩:=hnth i R[i] (List.getElem?_eq_getElem (by omega))
     have:=(e4 R[i].f (Int.le_refl _) q2).len
     rw [e1]
     simp -implicitDefEqProofs only [List.length_append,List.length_singleton] at this ⊢
     omega
   generalize R[i]=r at *
   generalize hacd:GJ (Eo c) (c.f::bs) i=acc at *
   generalize Eo c r.f=v at *
   have w1:IntKind.i64.wrap (r.f-1)=r.f-1:=by rw [IntKind.wrap_i64]; omega
   simp -implicitDefEqProofs -proj only [go_sem,seval,HF,JU,Jf,hacd,hH,hd3,decide_eq_true (show (i:Int)<R.length by omega)]
   refine Ak ⟨by omega,by omega⟩ (fun _=>?_)
   rw [Int.toNat_natCast]
   refine Ed _ hdi (by simp) ?_
   simp -implicitDefEqProofs -proj only [go_sem,seval,h1]
   refine AL hdy ?_
   simp -implicitDefEqProofs -proj only [go_sem,seval]
   refine AI (fun b6 hb6=>?_)
   replace hb6:H b6=none:=hb6
   obtain ⟨y1,y2⟩:=AK hb6 h3
   have hall6:=Ap (y:=some (.box 46 [i64 r.f,i64 r.f,i64 v.1,Ee v.2])) hb6 hall
   by_cases c0:acc=[]
   ·subst c0
    have hnew:GJ (Eo c) (c.f::bs) (i+1)=[⟨r.f,r.f,v⟩]:=by rw [hstep]; rfl
    simp -implicitDefEqProofs only [Em,List.map_nil,JX,J9,List.nil_append] at h3 hall6 hn
    have hn6:(AP (BD 46 4 0 0 (Em [])++[(b3,Blk.box 30 [.d (.str c.cur),i64 c.f,i64 c.t,.own bm 5 0 c.ms.length capm,.nilsl 4]),(bm,.row 39 5 capm (AX c.ms)),(bd,.row 3 1 capd (Ad (c.f::bs))),(b1,Ea c),(b2,.box 30 [.d (.str ⟨⟨[]⟩⟩),i64 0,i64 0,.nilsl 5,.nilsl 4])])).Nodup:=hkk 0 0
    simp -implicitDefEqProofs -proj only [go_sem,seval,h3,y1,y2]
    refine EO (fun bs' hs=>?_)
    replace hs:(upd H b6 (some (.box 46 [i64 r.f,i64 r.f,i64 v.1,Ee v.2]))) bs'=none:=hs
    simp -implicitDefEqProofs -proj only [go_sem,seval]
    refine FX (c:=0) (cap:=0) (z0:=4) (xs:=Em (([]:List (Seg D4)))) (y:=[.int .i64 r.f,.int .i64 r.f,.int .i64 v.1,.sl 2 (Ay v.2)]) (t:=46) (capc:=1) [(b3,Blk.box 30 [.d (.str c.cur),i64 c.f,i64 c.t,.own bm 5 0 c.ms.length capm,.nilsl 4]),(bm,.row 39 5 capm (AX c.ms)),(bd,.row 3 1 capd (Ad (c.f::bs))),(b1,Ea c),(b2,.box 30 [.d (.str ⟨⟨[]⟩⟩),i64 0,i64 0,.nilsl 5,.nilsl 4])] rfl (Ap hs hall6) hn6 (by simp -implicitDefEqProofs -proj only [go_sem,seval]; try rfl) (by simp [Em]) (by simp [Em]) (fun H' c2 cap2 ha hk=>?_)
    rw [show Em (([]:List (Seg D4)))++[[.int .i64 r.f,.int .i64 r.f,.int .i64 v.1,.sl 2 (Ay v.2)]]=Em ([⟨r.f,r.f,v⟩]) by simp [Em,Kc]] at ha hk
    obtain ⟨hrow',q3,qm,qd,q1,q2,_⟩:=EQ.1 ha
    simp -implicitDefEqProofs -proj only [go_sem,seval,q3]
    have hne':Em ([⟨r.f,r.f,v⟩])≠[]:=by simp [Em]
    have hk2:(AP (Gj b1 b2 b3 bm bd capm capd c (c.f::bs) c2 cap2 ([⟨r.f,r.f,v⟩]))).Nodup:=by simpa only [Gj,AP,List.map_cons,List.map_append] using hk
    have hk3:b3∉AP (BD 46 4 c2 cap2 (Em ([⟨r.f,r.f,v⟩]))):=by
     simp -implicitDefEqProofs only [AP,List.map_append,List.map_cons] at hk
     exact fun hm=>(List.nodup_append.1 hk).2.2 _ hm _ (List.mem_cons_self ..) rfl
    have hkr:b3∉AP [(bm,Blk.row 39 5 capm (AX c.ms)),(bd,.row 3 1 capd (Ad (c.f::bs))),(b1,Ea c),(b2,.box 30 [.d (.str ⟨⟨[]⟩⟩),i64 0,i64 0,.nilsl 5,.nilsl 4])]:=by
     simp -implicitDefEqProofs only [AP,List.map_append,List.map_cons] at hk
     exact (List.nodup_cons.1 (List.nodup_append.1 hk).2.1).1
    refine AY ⟨i+1,c2,cap2⟩ ⟨by rw [HF]; omega,by simp -implicitDefEqProofs only [HF,JU,Jf]; rw [hnew]; exact hk2⟩ (by show R.length-(i+1)<R.length-i; omega) rfl ?_ ?_
    ·simp -implicitDefEqProofs -proj only [go_sem,seval,AJ,HF,AU (show i<9223372036854775807 by omega)]
    ·simp -implicitDefEqProofs only [HF,JU,Jf]
     rw [hnew]
     simp -implicitDefEqProofs only [Gj,Eg hne',Ic,List.length_nil,List.length_append,List.length_cons]
     exact EQ.2 ⟨Fk hrow' hk3,AN,Fk ⟨qm,qd,q1,q2,trivial⟩ hkr⟩
   ·obtain ⟨A,s,hAs⟩:∃A s,acc=A++[s]:=⟨acc.dropLast,acc.getLast c0,(List.dropLast_concat_getLast c0).symm⟩
    subst hAs
    have hne:Em (A++[s])≠[]:=by simp [Em]
    have hne1:Em (A++[⟨s.f,r.f-1,s.v⟩])≠[]:=by simp [Em]
    have hxl:(Em (A++[s])).length=A.length+1:=by rw [Ic]; simp
    have hxl1:(Em (A++[⟨s.f,r.f-1,s.v⟩])).length=A.length+1:=by rw [Ic]; simp
    obtain ⟨hsc,hsl⟩:=hacc A s rfl
    rw [FA hne] at hrow
    rw [Eg hne,hxl] at h3
    have hkc1:=hrow.1
    have hn':=hn
    simp -implicitDefEqProofs only [Gj,FA hne,AP,List.map_append,List.map_cons,List.map_nil,List.cons_append,List.nil_append] at hn'
    obtain ⟨z1,z2⟩:=AK hb6 hkc1
    obtain ⟨x1,x2,x3,x4,x5⟩:¬c1=b3∧¬c1=bm∧¬c1=bd∧¬c1=b1∧¬c1=b2:=by
     have:=(List.nodup_cons.1 hn').1
     simp -implicitDefEqProofs only [List.mem_cons,List.not_mem_nil,or_false,not_or] at this
     exact this
    have x1':¬b3=c1:=fun e=>x1 e.symm
    have w2:IntKind.i64.wrap (((A.length+1:Nat):Int)-1)=(A.length:Int):=by rw [IntKind.wrap_i64]; simp -implicitDefEqProofs only [List.length_append,List.length_singleton] at hal; omega
    have hat:=L8 (S:=A++[s]) (i:=A.length) (s:=s) (by simp)
    have hat2:=L8 (S:=A++[⟨s.f,r.f-1,s.v⟩]) (i:=A.length) (s:=⟨s.f,r.f-1,s.v⟩) (by simp)
    have hset:=Tk (A:=A) (s:=s) (x:=r.f-1)
    have hal':A.length≤4000:=by simp -implicitDefEqProofs only [List.length_append,List.length_singleton] at hal; omega
    have dz:decide (((A.length+1:Nat):Int)=0)=false:=decide_eq_false (by omega)
    have hcall:=LU (a:=⟨s.f,r.f-1,s.v⟩) (b:=⟨r.f,r.f,v⟩) hsc hcu (by show s.v.2.length≤1000000; omega) (by show v.2.length≤1000000; omega)
    simp -implicitDefEqProofs -proj only [go_sem,seval,h3,y1,y2,hxl,w2,w1,decide_eq_true (show (0:Int)<((A.length+1:Nat):Int) by omega)]
    refine Ak ⟨by omega,by omega⟩ (fun _=>?_)
    rw [Int.toNat_natCast]
    refine IK (cap:=cap) ((AF z1).trans hkc1) hat (by simp) ?_
    obtain ⟨H5,hH5⟩:∃H5,upd (upd H b6 (some (.box 46 [i64 r.f,i64 r.f,i64 v.1,Ee v.2]))) c1 (some (.row 46 4 cap (Em (A++[⟨s.f,r.f-1,s.v⟩]))))=H5:=⟨_,rfl⟩
    have hall5:AZ H5 ((b6,.box 46 [i64 r.f,i64 r.f,i64 v.1,Ee v.2])::Gj b1 b2 b3 bm bd capm capd c (c.f::bs) c1 cap (A++[⟨s.f,r.f-1,s.v⟩])):=by
     rw [←hH5]
     simp -implicitDefEqProofs only [Gj,FA hne1,Eg hne1,hxl1,List.cons_append,List.nil_append]
     have h6:=hall6
     rw [FA hne,Eg hne,hxl] at h6
     exact ⟨(AF (fun e=>z1 e.symm)).trans AN,AN,Fk h6.2 (List.nodup_cons.1 hn').1⟩
    simp -implicitDefEqProofs only [Gj,FA hne1,Eg hne1,hxl1,List.cons_append,List.nil_append] at hall5
    obtain ⟨u6,uc,u3,um,ud,u1,u2,_⟩:=id hall5
    simp -implicitDefEqProofs -proj only [go_sem,seval,Fr,hset,hH5,dz,u3,uc,u6,w2]
    refine Ak ⟨by omega,by omega⟩ (fun _=>?_)
    simp -implicitDefEqProofs -proj only [go_sem,seval,Int.toNat_natCast,uc]
    refine En _ hat2 (by simp) ?_
    simp -implicitDefEqProofs -proj only [go_sem,seval,u6]
    refine AL hcall ?_
    by_cases ca:s.v=v
    ·have hnew:GJ (Eo c) (c.f::bs) (i+1)=A++[⟨s.f,r.f-1,s.v⟩]:=by
      rw [hstep,KB]
      simp -implicitDefEqProofs only [List.getLast?_append,List.getLast?_singleton,Option.some_or,List.dropLast_concat,if_pos ca]
     simp -implicitDefEqProofs -proj only [go_sem,seval,decide_eq_true ca,Bool.not_true]
     refine AY ⟨i+1,c1,cap⟩ ⟨by rw [HF]; omega,by simp -implicitDefEqProofs only [HF,JU,Jf]; rw [hnew,RF (s':=s)]; exact hn⟩ (by show R.length-(i+1)<R.length-i; omega) rfl ?_ ?_
     ·simp -implicitDefEqProofs -proj only [go_sem,seval,AJ,HF,AU (show i<9223372036854775807 by omega)]
     ·simp -implicitDefEqProofs only [HF,JU,Jf]
      rw [hnew]
      simp -implicitDefEqProofs only [Gj,FA hne1,Eg hne1,hxl1,List.cons_append,List.nil_append]
      exact hall5.2
    ·have hnew:GJ (Eo c) (c.f::bs) (i+1)=A++[⟨s.f,r.f-1,s.v⟩]++[⟨r.f,r.f,v⟩]:=by
      rw [hstep,KB]
      simp -implicitDefEqProofs only [List.getLast?_append,List.getLast?_singleton,Option.some_or,List.dropLast_concat,if_neg ca]
     have hall7:AZ H5 (BD 46 4 c1 cap (Em (A++[⟨s.f,r.f-1,s.v⟩]))++[(b3,Blk.box 30 [.d (.str c.cur),i64 c.f,i64 c.t,.own bm 5 0 c.ms.length capm,EU 4 4 c1 cap (Em (A++[⟨s.f,r.f-1,s.v⟩]))]),(bm,.row 39 5 capm (AX c.ms)),(bd,.row 3 1 capd (Ad (c.f::bs))),(b1,Ea c),(b2,.box 30 [.d (.str ⟨⟨[]⟩⟩),i64 0,i64 0,.nilsl 5,.nilsl 4])]):=by
      simp -implicitDefEqProofs only [FA hne1,Eg hne1,hxl1,List.cons_append,List.nil_append]
      exact hall5.2
     have hn7:(AP (BD 46 4 c1 cap (Em (A++[⟨s.f,r.f-1,s.v⟩]))++[(b3,Blk.box 30 [.d (.str c.cur),i64 c.f,i64 c.t,.own bm 5 0 c.ms.length capm,EU 4 4 c1 cap (Em (A++[⟨s.f,r.f-1,s.v⟩]))]),(bm,.row 39 5 capm (AX c.ms)),(bd,.row 3 1 capd (Ad (c.f::bs))),(b1,Ea c),(b2,.box 30 [.d (.str ⟨⟨[]⟩⟩),i64 0,i64 0,.nilsl 5,.nilsl 4])])).Nodup:=by
      rw [RF (s':=⟨s.f,r.f-1,s.v⟩)] at hn
      exact hn
     obtain ⟨_,u3',_⟩:=EQ.1 hall7
     simp -implicitDefEqProofs -proj only [go_sem,seval,decide_eq_false ca,Bool.not_false,u3',u6]
     refine EO (fun bs' hs=>?_)
     replace hs:H5 bs'=none:=hs
     simp -implicitDefEqProofs -proj only [go_sem,seval]
     refine FX (c:=c1) (cap:=cap) (z0:=4) (xs:=Em (A++[Seg.mk s.f (r.f-1) s.v])) (y:=[.int .i64 r.f,.int .i64 r.f,.int .i64 v.1,.sl 2 (Ay v.2)]) (t:=46) (capc:=1) [(b3,Blk.box 30 [.d (.str c.cur),i64 c.f,i64 c.t,.own bm 5 0 c.ms.length capm,EU 4 4 c1 cap (Em (A++[⟨s.f,r.f-1,s.v⟩]))]),(bm,.row 39 5 capm (AX c.ms)),(bd,.row 3 1 capd (Ad (c.f::bs))),(b1,Ea c),(b2,.box 30 [.d (.str ⟨⟨[]⟩⟩),i64 0,i64 0,.nilsl 5,.nilsl 4])] rfl (Ap hs hall7) hn7 (by simp -implicitDefEqProofs -proj only [go_sem,seval]; try rfl) (by rw [hxl1]; omega) (by rw [hxl1]; omega) (fun H' c2 cap2 ha hk=>?_)
     rw [show Em (A++[⟨s.f,r.f-1,s.v⟩])++[[.int .i64 r.f,.int .i64 r.f,.int .i64 v.1,.sl 2 (Ay v.2)]]=Em (A++[⟨s.f,r.f-1,s.v⟩]++[⟨r.f,r.f,v⟩]) by simp [Em,Kc]] at ha hk
     obtain ⟨hrow',q3,qm,qd,q1,q2,_⟩:=EQ.1 ha
     simp -implicitDefEqProofs -proj only [go_sem,seval,q3]
     have hne':Em (A++[⟨s.f,r.f-1,s.v⟩]++[⟨r.f,r.f,v⟩])≠[]:=by simp [Em]
     have hk2:(AP (Gj b1 b2 b3 bm bd capm capd c (c.f::bs) c2 cap2 (A++[⟨s.f,r.f-1,s.v⟩]++[⟨r.f,r.f,v⟩]))).Nodup:=by simpa only [Gj,AP,List.map_cons,List.map_append] using hk
     have hk3:b3∉AP (BD 46 4 c2 cap2 (Em (A++[⟨s.f,r.f-1,s.v⟩]++[⟨r.f,r.f,v⟩]))):=by
      simp -implicitDefEqProofs only [AP,List.map_append,List.map_cons] at hk
      exact fun hm=>(List.nodup_append.1 hk).2.2 _ hm _ (List.mem_cons_self ..) rfl
     have hkr:b3∉AP [(bm,Blk.row 39 5 capm (AX c.ms)),(bd,.row 3 1 capd (Ad (c.f::bs))),(b1,Ea c),(b2,.box 30 [.d (.str ⟨⟨[]⟩⟩),i64 0,i64 0,.nilsl 5,.nilsl 4])]:=by
      simp -implicitDefEqProofs only [AP,List.map_append,List.map_cons] at hk
      exact (List.nodup_cons.1 (List.nodup_append.1 hk).2.1).1
     refine AY ⟨i+1,c2,cap2⟩ ⟨by rw [HF]; omega,by simp -implicitDefEqProofs only [HF,JU,Jf]; rw [hnew]; exact hk2⟩ (by show R.length-(i+1)<R.length-i; omega) rfl ?_ ?_
     ·simp -implicitDefEqProofs -proj only [go_sem,seval,AJ,HF,AU (show i<9223372036854775807 by omega)]
     ·simp -implicitDefEqProofs only [HF,JU,Jf]
      rw [hnew]
      simp -implicitDefEqProofs only [Gj,Eg hne',Ic,List.length_nil,List.length_append,List.length_cons]
      exact EQ.2 ⟨Fk hrow' hk3,AN,Fk ⟨qm,qd,q1,q2,trivial⟩ hkr⟩
  ·have hi':i=R.length:=by omega
   subst hi'
   have hR0:R.length-1<R.length:=by omega
   obtain ⟨A,s,e1,e2,e3,e4⟩:=hadd (R.length-1) _ (List.getElem?_eq_getElem hR0)
   rw [show R.length-1+1=R.length by omega] at e1
   rw [e1] at hrow h3 hall hn hH
   have hal:A.length≤4000:=by
    obtain ⟨_,q2,q3,_⟩:=hnth (R.length-1) _ (List.getElem?_eq_getElem hR0)
    have:=(e4 _ (Int.le_refl _) q2).len
    simp -implicitDefEqProofs only [List.length_append,List.length_singleton] at this
    omega
   have hne:Em (A++[s])≠[]:=by simp [Em]
   have hne1:Em (A++[⟨s.f,c.t,s.v⟩])≠[]:=by simp [Em]
   have hxl:(Em (A++[s])).length=A.length+1:=by rw [Ic]; simp
   have hxl1:(Em (A++[⟨s.f,c.t,s.v⟩])).length=A.length+1:=by rw [Ic]; simp
   rw [FA hne] at hrow
   rw [Eg hne,hxl] at h3
   have hkc1:=hrow.1
   have hn':=hn
   simp -implicitDefEqProofs only [Gj,FA hne,AP,List.map_append,List.map_cons,List.map_nil,List.cons_append,List.nil_append] at hn'
   obtain ⟨x1,x2,x3,x4,x5⟩:¬c1=b3∧¬c1=bm∧¬c1=bd∧¬c1=b1∧¬c1=b2:=by
    have:=(List.nodup_cons.1 hn').1
    simp -implicitDefEqProofs only [List.mem_cons,List.not_mem_nil,or_false,not_or] at this
    exact this
   have x1':¬b3=c1:=fun e=>x1 e.symm
   have x5':¬b2=c1:=fun e=>x5 e.symm
   have y23:¬b2=b3:=by
    have:=(List.nodup_cons.1 (List.nodup_cons.1 hn').2).1
    simp -implicitDefEqProofs only [List.mem_cons,List.not_mem_nil,or_false,not_or] at this
    exact fun e=>this.2.2.2 e.symm
   have y2m:¬b2=bm:=by
    have:=(List.nodup_cons.1 (List.nodup_cons.1 (List.nodup_cons.1 hn').2).2).1
    simp -implicitDefEqProofs only [List.mem_cons,List.not_mem_nil,or_false,not_or] at this
    exact fun e=>this.2.2 e.symm
   have w2:IntKind.i64.wrap (((A.length+1:Nat):Int)-1)=(A.length:Int):=by rw [IntKind.wrap_i64]; omega
   have hat:=L8 (S:=A++[s]) (i:=A.length) (s:=s) (by simp)
   have hset:=Tk (A:=A) (s:=s) (x:=c.t)
   have hres:Lc (GJ (Eo c) (c.f::bs) R.length) c.t=A++[⟨s.f,c.t,s.v⟩]:=by
    rw [e1,Lc]
    simp -implicitDefEqProofs only [List.getLast?_append,List.getLast?_singleton,Option.some_or,List.dropLast_concat]
   rw [hres]
   simp -implicitDefEqProofs -proj only [go_sem,seval,HF,JU,Jf,e1,hH,h3,h1,hxl,w2,decide_eq_true (show (0:Int)<((A.length+1:Nat):Int) by omega),decide_eq_false (show ¬(R.length:Int)<R.length by omega)]
   refine Ak ⟨by omega,by omega⟩ (fun _=>?_)
   rw [Int.toNat_natCast]
   refine IK (cap:=cap) hkc1 hat (by simp) ?_
   simp -implicitDefEqProofs -proj only [go_sem,seval,Fr,hset,x1,x1',x5,x5',h3,h2]
   refine OV ?_ ?_
   ·exact KR ((AF y2m).trans ((AF x2).trans hm3)) (by rw [Fy])
   ·exact KR ((AF x5').trans AN) (by rw [hxl1])
structure mostC (c:CoreX):Prop where
 parts:∀(i:Nat) (h:i<c.ps.length),∀q:Nat,q<(F8 c.ms c.ps[i].me+1).toNat→KT c.ps[i] q
 tot:∀i,i≤c.ps.length→GQ c i≤1152921504606846976
noncomputable instance (c:CoreX):Decidable (mostC c):=Classical.propDecidable _
theorem ATz {c:CoreX}:fitsC c↔¬KJ c∧goodC c∧mostC c :=
 ⟨fun h=>⟨h.great,h.good,fun i hi=>h.parts _ (List.getElem_mem hi),h.tot⟩,fun ⟨h1,h2,h3⟩=>⟨h1,h2,fun x hx=>by
  obtain ⟨i,hi,rfl⟩:=List.getElem_of_mem hx
  exact h3.parts i hi,h3.tot⟩⟩
theorem ABE {c:CoreX} {j:Nat} (h:j<c.ps.length):GQ c (j+1)=GQ c j+HX c.ps[j] (F8 c.ms c.ps[j].me+1).toNat:=by
 unfold GQ
 rw [sg]
 have:Hv c j=HX c.ps[j] (F8 c.ms c.ps[j].me+1).toNat:=by unfold Hv; rw [List.getElem?_eq_getElem h]
 omega
theorem ASI {c:CoreX} (hc:c.Fit) (hg:goodC c):∃n,DataW Try.prog AJq [F9 c] (.tup [i64 n,bv (decide (mostC c))]):=by
 refine ⟨if mostC c then GQ c c.ps.length else 0,?_⟩
 obtain ⟨_,_,_,a6,a7,a8⟩:=hg.hd
 have hps:=hg.ps
 have hfp:=hc.ps
 have hme:=(fitsC.bnd hg).me
 have hmxb:=(fitsC.bnd hg).mx
 have hfin:∀H,¬mostC c→LendV H (.tup [i64 0,bv false]) (.tup [i64 (if mostC c then GQ c c.ps.length else 0),bv (decide (mostC c))]):=fun H h=>AM (by rw [if_neg h,decide_eq_false h])
 have hyes:∀H,mostC c→LendV H (.tup [i64 (GQ c c.ps.length),bv true]) (.tup [i64 (if mostC c then GQ c c.ps.length else 0),bv (decide (mostC c))]):=fun H h=>AM (by rw [if_pos h,decide_eq_true h])
 generalize hR:AV.tup [i64 (if mostC c then GQ c c.ps.length else 0),bv (decide (mostC c))]=R at *
 clear hR
 refine Aj AGI (by simp) ?_
 simp -implicitDefEqProofs -proj only [go_sem,seval]
 refine AI (fun b1 hb1=>?_)
 simp -implicitDefEqProofs -proj only [go_sem,seval,HW]
 have hamt:∀i:Nat,i≤c.ss.length→0≤sg (Gx c.ss) i∧sg (Gx c.ss) i≤1000000000000*i:=by
  intro i
  induction i with
  | zero=>intro _; exact ⟨Int.le_refl _,Int.le_refl _⟩
  | succ n ih =>
   intro hn
   have:=ih (by omega)
   have h1:=(fitsC.bnd hg).amt _ (List.getElem_mem (show n<c.ss.length by omega))
   rw [sg]
   have:Gx c.ss n=c.ss[n].a:=by unfold Gx; rw [List.getElem?_eq_getElem (by omega)]
   omega
 refine EN (fun i:Nat=>i≤c.ss.length) 71 (fun i=>[(1,.ptr b1 0),(4,i64 (sg (Gx c.ss) i)),(14,.d (.sl 3 (GL c.ss))),(15,i64 c.ss.length),(16,i64 i)]) (fun _=>[(b1,Ea c)]) (fun i=>c.ss.length-i) 0 (Nat.zero_le _) rfl ?_ ?_ ?_
 ·simp -implicitDefEqProofs -proj only [go_sem,seval,AJ,HW,sg]
 ·exact ⟨AN,trivial⟩
 ·intro i hi
  have hk:AZ (Ac [(b1,Ea c)]) [(b1,Ea c)]:=EV (by simp [AP])
  have k1:=hk.1
  by_cases h:i<c.ss.length
  ·have hel:=Mn h
   have hA:=hamt i hi
   have hA2:=hamt (i+1) (by omega)
   have hst:sg (Gx c.ss) (i+1)=sg (Gx c.ss) i+c.ss[i].a:=by rw [sg]; unfold Gx; rw [List.getElem?_eq_getElem h]
   generalize c.ss[i]=s at *
   have w:IntKind.i64.wrap (sg (Gx c.ss) i+s.a)=sg (Gx c.ss) (i+1):=by rw [IntKind.wrap_i64]; omega
   simp -implicitDefEqProofs -proj only [go_sem,seval,decide_eq_true (show (i:Int)<c.ss.length by omega)]
   refine Ag _ (by omega) hel ?_
   simp -implicitDefEqProofs -proj only [go_sem,seval]
   refine AI (fun b6 hb6=>?_)
   simp -implicitDefEqProofs -proj only [go_sem,seval,w]
   refine AY (i+1) (by omega) (by show c.ss.length-(i+1)<c.ss.length-i; omega) rfl ?_ (Ap hb6 hk)
   simp -implicitDefEqProofs -proj only [go_sem,seval,AJ,AU (show i<9223372036854775807 by omega)]
  ·have hi':i=c.ss.length:=by omega
   subst hi'
   have hA:=hamt c.ss.length (Nat.le_refl _)
   simp -implicitDefEqProofs -proj only [go_sem,seval,k1,decide_eq_false (show ¬(c.ss.length:Int)<c.ss.length by omega),HG]
   refine EN (fun j:Nat=>j≤c.ps.length∧(∀(i:Nat) (h:i<c.ps.length),i<j→∀q:Nat,q<(F8 c.ms c.ps[i].me+1).toNat→KT c.ps[i] q)∧∀i,i≤j→GQ c i≤1152921504606846976) 71 (fun j=>[(1,.ptr b1 0),(4,i64 (GQ c j)),(26,.d (.sl 9 (Fw c.ps))),(27,i64 c.ps.length),(28,i64 j)]) (fun _=>[(b1,Ea c)]) (fun j=>c.ps.length-j) 0 ⟨Nat.zero_le _,fun i _ h=>absurd h (Nat.not_lt_zero _),fun i hi=>?_⟩ rfl ?_ ?_ ?_
   ·have:i=0:=by omega
    subst this
    simp -implicitDefEqProofs only [GQ,sg]; omega
   ·simp -implicitDefEqProofs -proj only [go_sem,seval,AJ,GQ,sg,Int.add_zero,HG]
   ·exact hk
   ·rintro j ⟨hj,hs1,hs2⟩
    by_cases h:j<c.ps.length
    ·have helj:=L2 h
     have hx:=List.getElem_mem h
     have hok:=hps _ hx
     have hfx:=hfp _ hx
     obtain ⟨m0,m1⟩:=hme _ hx
     have hno1:∀q:Nat,q<(F8 c.ms c.ps[j].me+1).toNat→¬KT c.ps[j] q→¬mostC c:=fun q hq hn k=>hn (k.parts j h q hq)
     have hno2:¬GQ c (j+1)≤1152921504606846976→¬mostC c:=fun hn k=>hn (k.tot (j+1) (by omega))
     have hgo1:(∀q:Nat,q<(F8 c.ms c.ps[j].me+1).toNat→KT c.ps[j] q)→∀(i:Nat) (h:i<c.ps.length),i<j+1→∀q:Nat,q<(F8 c.ms c.ps[i].me+1).toNat→KT c.ps[i] q:=by
      intro e i hi hij
      by_cases hij2:i=j
      ·subst hij2; exact e
      ·exact hs1 i hi (by omega)
     have hb:=ABE (c:=c) h
     have hT0:=hs2 j (Nat.le_refl _)
     have hT1:0≤GQ c j:=by
      have:=hamt c.ss.length (Nat.le_refl _)
      have:=KU (n:=j) fun i _=>MF (c:=c) i
      unfold GQ; omega
     have hmxn:=hmxb c.ps[j].me.toNat (by omega)
     have hmx:F8 c.ms c.ps[j].me=c.ms[c.ps[j].me.toNat].mx:=by unfold F8; rw [List.getElem?_eq_getElem (by omega)]
     have helm:=G2 (show c.ps[j].me.toNat<c.ms.length by omega)
     rw [Int.toNat_natCast] at helm
     rw [←hmx] at hmxn
     generalize c.ms[c.ps[j].me.toNat]=mm at *
     generalize c.ps[j]=x at *
     rw [hmx] at hno1 hgo1 hb hmxn
     have G:=Ox hok
     have hcall:=fun (q:Int) (hq:Fit q)=>NV (q:=q) hfx hq G (NU G.ts)
     simp -implicitDefEqProofs -proj only [go_sem,seval,decide_eq_true (show (j:Int)<c.ps.length by omega)]
     refine Ag _ (by omega) helj ?_
     simp -implicitDefEqProofs -proj only [go_sem,seval]
     refine AI (fun b8 hb8=>?_)
     replace hb8:Ac [(b1,Ea c)] b8=none:=hb8
     obtain ⟨n1,n2⟩:=AK hb8 k1
     simp -implicitDefEqProofs -proj only [go_sem,seval]
     refine EN (fun k:Nat=>k≤(mm.mx+1).toNat∧0≤HX x k∧HX x k≤1152921504606846976∧∀q:Nat,q<k→KT x q) 71 (fun k=>[(1,.ptr b1 0),(4,i64 (GQ c j)),(26,.d (.sl 9 (Fw c.ps))),(27,i64 c.ps.length),(28,i64 j),(8,.ptr b8 0),(9,i64 (HX x k)),(10,i64 k)]) (fun _=>[(b8,Blk.box 93 [i64 x.me,i64 x.f,i64 x.t,i64 x.al,i64 x.bl,i64 x.ki,Fc x.ts,i64 x.mo,Fe x.ad]),(b1,Ea c)]) (fun k=>(mm.mx+1).toNat-k) 0 ⟨Nat.zero_le _,Int.le_refl _,(by show (0:Int)≤1152921504606846976; decide),fun q h=>absurd h (Nat.not_lt_zero _)⟩ rfl ?_ ?_ ?_
     ·simp -implicitDefEqProofs -proj only [go_sem,seval,AJ,HX]
     ·exact ⟨AN,(AF n1).trans k1,trivial⟩
     ·rintro k ⟨hk',hb0,hb1,hq⟩
      have hkk:AZ (Ac [(b8,Blk.box 93 [i64 x.me,i64 x.f,i64 x.t,i64 x.al,i64 x.bl,i64 x.ki,Fc x.ts,i64 x.mo,Fe x.ad]),(b1,Ea c)]) [(b8,Blk.box 93 [i64 x.me,i64 x.f,i64 x.t,i64 x.al,i64 x.bl,i64 x.ki,Fc x.ts,i64 x.mo,Fe x.ad]),(b1,Ea c)]:=EV (by simp [AP,n1])
      obtain ⟨k8,kb1,_⟩:=id hkk
      simp -implicitDefEqProofs -proj only [go_sem,seval,k8,kb1,n1,n2]
      refine Ag _ m0 helm ?_
      by_cases h2:(k:Int)≤mm.mx
      ·have hck:=hcall k (by unfold Fit; omega)
       have hbs:HX x (k+1)=max (HX x k) (pv x k):=rfl
       simp -implicitDefEqProofs -proj only [go_sem,seval,k8,kb1,n1,n2,decide_eq_true h2]
       refine AL hck ?_
       cases e:Hw x (k:Int) with
       | none =>
        have hn:¬mostC c:=hno1 k (by omega) (fun ⟨n,h,_⟩=>by rw [e] at h; cases h)
        simp -implicitDefEqProofs -proj only [go_sem,seval,Es,Bool.not_false]
        exact hfin _ hn
       | some n =>
        have hpv:pv x k=n:=by unfold pv; rw [e]; rfl
        by_cases c1:1152921504606846976<n
        ·have hn:¬mostC c:=hno1 k (by omega) (fun ⟨n',h,_,h3⟩=>by rw [e] at h; cases h; omega)
         simp -implicitDefEqProofs -proj only [go_sem,seval,Es,Bool.not_true,decide_eq_true c1]
         exact hfin _ hn
        by_cases c2:n<0
        ·have hn:¬mostC c:=hno1 k (by omega) (fun ⟨n',h,h2,_⟩=>by rw [e] at h; cases h; omega)
         simp -implicitDefEqProofs -proj only [go_sem,seval,Es,Bool.not_true,decide_eq_false c1,decide_eq_true c2]
         exact hfin _ hn
        rw [hpv] at hbs
        simp -implicitDefEqProofs -proj only [go_sem,seval,Es,Bool.not_true,decide_eq_false c1,decide_eq_false c2]
        refine AY (k+1) ⟨by omega,by rw [hbs]; omega,by rw [hbs]; omega,fun q hq2=>?_⟩ (by show (mm.mx+1).toNat-(k+1)<(mm.mx+1).toNat-k; omega) rfl ?_ hkk
        ·by_cases e2:q=k
         ·subst e2; exact ⟨n,e,by omega,by omega⟩
         ·exact hq q (by omega)
        ·simp -implicitDefEqProofs -proj only [go_sem,seval,AJ,hbs,AU (show k<9223372036854775807 by omega)]
      ·have hk2:k=(mm.mx+1).toNat:=by omega
       subst hk2
       have w:IntKind.i64.wrap (GQ c j+HX x (mm.mx+1).toNat)=GQ c (j+1):=by rw [IntKind.wrap_i64]; omega
       simp -implicitDefEqProofs -proj only [go_sem,seval,decide_eq_false h2,w]
       by_cases c1:1152921504606846976<GQ c (j+1)
       ·simp -implicitDefEqProofs -proj only [go_sem,seval,decide_eq_true c1]
        exact hfin _ (hno2 (by omega))
       ·simp -implicitDefEqProofs -proj only [go_sem,seval,decide_eq_false c1]
        refine AY (j+1) ⟨by omega,hgo1 hq,fun i hi=>?_⟩ (by show c.ps.length-(j+1)<c.ps.length-j; omega) rfl ?_ ⟨kb1,trivial⟩
        ·by_cases e2:i=j+1
         ·subst e2; omega
         ·exact hs2 i (by omega)
        ·simp -implicitDefEqProofs -proj only [go_sem,seval,AJ,AU (show j<9223372036854775807 by omega)]
    ·have hj':j=c.ps.length:=by omega
     subst hj'
     have hm:mostC c:=⟨fun i hi=>hs1 i hi hi,hs2⟩
     have:=hs2 c.ps.length (Nat.le_refl _)
     simp -implicitDefEqProofs -proj only [go_sem,seval,decide_eq_false (show ¬(c.ps.length:Int)<c.ps.length by omega),decide_eq_true this]
     exact hyes _ hm
theorem N3 {c:CoreX} (hc:c.Fit):DataW Try.prog AOC [F9 c] (bv (decide (fitsC c))):=by
 have hgd:=AJ7 hc
 have hiff:=ATz (c:=c)
 have hmo:=fun h=>ASI hc (c:=c) h
 refine Aj ANx (by simp) ?_
 simp -implicitDefEqProofs -proj only [go_sem,seval]
 refine AI (fun b1 hb1=>?_)
 simp -implicitDefEqProofs -proj only [go_sem,seval]
 refine AL AAj ?_
 by_cases g1:KJ c
 ·simp -implicitDefEqProofs -proj only [go_sem,seval,decide_eq_true g1]
  exact AM (by rw [decide_eq_false (fun k=>(hiff.1 k).1 g1)])
 simp -implicitDefEqProofs -proj only [go_sem,seval,decide_eq_false g1]
 refine AL hgd ?_
 by_cases g2:goodC c
 rotate_left
 ·simp -implicitDefEqProofs -proj only [go_sem,seval,decide_eq_false g2,Bool.not_false]
  exact AM (by rw [decide_eq_false (fun k=>g2 (hiff.1 k).2.1)])
 obtain ⟨n,hmo⟩:=hmo g2
 simp -implicitDefEqProofs -proj only [go_sem,seval,decide_eq_true g2,Bool.not_true]
 refine AL hmo ?_
 simp -implicitDefEqProofs -proj only [go_sem,seval]
 exact AM (by rw [decide_eq_decide.2 (hiff.trans ⟨fun h=>h.2.2,fun h=>⟨g1,g2,h⟩⟩)])
theorem QK {a b:CoreX} (ha:a.Fit) (hb:b.Fit) (ga:fitsC a) (gb:fitsC b):DataW Try.prog Og [F9 a,F9 b] (.tup [E7 a.cur a.f a.t a.ms (Fv a),E7 b.cur b.f b.t b.ms (Fv b),bv true]):=by
 have fa:=N3 ha
 have fb:=N3 hb
 have ma:=UL ha ga
 have mb:=UL hb gb
 rw [decide_eq_true ga] at fa
 rw [decide_eq_true gb] at fb
 refine Aj Ux (by simp) ?_
 simp -implicitDefEqProofs -proj only [go_sem,seval]
 refine AI (fun b1 hb1=>?_)
 simp -implicitDefEqProofs -proj only [go_sem,seval]
 refine AI (fun b2 hb2=>?_)
 replace hb2:upd Heap.none b1 _ b2=none:=hb2
 obtain ⟨n1,n2⟩:=AK hb2 AN
 simp -implicitDefEqProofs -proj only [go_sem,seval,n1,n2]
 refine AI (fun b3 hb3=>?_)
 have h31:¬b3=b1:=by rintro rfl; simp [AQ,n1,n2] at hb3
 have h32:¬b3=b2:=by rintro rfl; simp [AQ,n1,n2] at hb3
 have h13:¬b1=b3:=fun e=>h31 e.symm
 have h23:¬b2=b3:=fun e=>h32 e.symm
 simp -implicitDefEqProofs -proj only [go_sem,seval,n1,n2,h31,h32,h13,h23]
 refine AI (fun b4 hb4=>?_)
 have h41:¬b4=b1:=by rintro rfl; simp [AQ,n1,n2,h31,h32] at hb4
 have h42:¬b4=b2:=by rintro rfl; simp [AQ,n1,n2,h31,h32] at hb4
 have h43:¬b4=b3:=by rintro rfl; simp [AQ] at hb4
 have h14:¬b1=b4:=fun e=>h41 e.symm
 have h24:¬b2=b4:=fun e=>h42 e.symm
 have h34:¬b3=b4:=fun e=>h43 e.symm
 simp -implicitDefEqProofs -proj only [go_sem,seval,n1,n2,h31,h32,h13,h23,h41,h42,h43,h14,h24,h34]
 refine AL fa ?_
 simp -implicitDefEqProofs -proj only [go_sem,seval,n1,n2,h31,h32,h13,h23,h41,h42,h43,h14,h24,h34]
 refine AL fb ?_
 simp -implicitDefEqProofs -proj only [go_sem,seval,n1,n2,h31,h32,h13,h23,h41,h42,h43,h14,h24,h34]
 refine Eu ma ?_
 simp -implicitDefEqProofs -proj only [go_sem,seval,n1,n2,h31,h32,h13,h23,h41,h42,h43,h14,h24,h34]
 refine AL mb ?_
 simp -implicitDefEqProofs -proj only [go_sem,seval,n1,n2,h31,h32,h13,h23,h41,h42,h43,h14,h24,h34]
 exact AM rfl
abbrev Mb (m:MeterX):AV:=.agg [.d (.str m.nm),.d (.str m.un),i64 m.mx,i64 m.ln,i64 m.co]
abbrev F6 (m:MeterX):Blk:=.box 39 [.d (.str m.nm),.d (.str m.un),i64 m.mx,i64 m.ln,i64 m.co]
theorem Te {H:Heap} {b:Nat} {x:Blk} {l:List MeterX} {f:FuncId} {p:MeterX→Bool} (hb:H b=some x) (hf:∀m∈l,∀H:Heap,H b=some x→CallW Try.prog f [Mb m,.ptr b 0] H fun r H'=>r=bv (p m)∧H' b=some x) (hl:l.length≤1000000):CallW Try.prog AIB [.d (.sl 5 (AX l)),.fn f [.ptr b 0]] H fun r H'=>r=i64 (GP p l)∧H' b=some x:=by
 refine Aj AUW (by simp) ?_
 simp -implicitDefEqProofs -proj only [go_sem,seval,Fy]
 refine EN (fun i:Nat=>i≤l.length∧∀(j:Nat) (h:j<l.length),j<i→p l[j]=false) 19 (fun i=>[(0,.d (.sl 5 (AX l))),(1,.fn f [.ptr b 0]),(7,i64 l.length),(8,i64 i)]) (fun _=>[(b,x)]) (fun i=>l.length-i) 0 ⟨Nat.zero_le _,fun j _ h=>absurd h (Nat.not_lt_zero _)⟩ rfl ?_ ?_ ?_
 ·simp -implicitDefEqProofs -proj only [go_sem,seval,AJ]
 ·exact ⟨hb,trivial⟩
 ·rintro i ⟨hi,hs⟩
  have hk:AZ (Ac [(b,x)]) [(b,x)]:=EV (by simp [AP])
  by_cases h:i<l.length
  ·have hel:=G2 h
   have hpi:=hf _ (List.getElem_mem h)
   have hgo:p l[i]=false→∀(j:Nat) (h:j<l.length),j<i+1→p l[j]=false:=K6 (P:=fun _ x=>p x=false) (List.getElem?_eq_getElem h) hs
   have hyes:p l[i]=true→GP p l=i:=fun e=>Qd h e hs
   generalize l[i]=m at *
   simp -implicitDefEqProofs -proj only [go_sem,seval,decide_eq_true (show (i:Int)<l.length by omega)]
   refine Ag _ (by omega) hel ?_
   simp -implicitDefEqProofs -proj only [go_sem,seval]
   refine Fm (hpi _ hk.1) (fun r H' hr=>?_)
   obtain ⟨rfl,hr⟩:=hr
   cases hpx:p m
   ·simp -implicitDefEqProofs -proj only [go_sem,seval]
    refine AY (i+1) ⟨by omega,hgo hpx⟩ (by show l.length-(i+1)<l.length-i; omega) rfl ?_ ⟨hr,trivial⟩
    simp -implicitDefEqProofs -proj only [go_sem,seval,AJ,AU (show i<9223372036854775807 by omega)]
   ·simp -implicitDefEqProofs -proj only [go_sem,seval]
    rw [hyes hpx]
    try first | exact ⟨rfl,hr⟩ | exact rfl | rfl
  ·have hi':i=l.length:=by omega
   subst hi'
   simp -implicitDefEqProofs -proj only [go_sem,seval,decide_eq_false (show ¬(l.length:Int)<l.length by omega)]
   rw [Rl fun j h=>hs j h h]
   try first | exact ⟨rfl,hk.1⟩ | exact rfl
theorem Rg {H:Heap} {b:Nat} {x:Blk} {l:List MeterX} {f:FuncId} {p:MeterX→Bool} (hb:H b=some x) (hf:∀m∈l,∀H:Heap,H b=some x→CallW Try.prog f [Mb m,.ptr b 0] H fun r H'=>r=bv (p m)∧H' b=some x) (hl:l.length≤1000000):CallW Try.prog AI8 [.d (.sl 5 (AX l)),.fn f [.ptr b 0]] H fun r H'=>r=bv (l.any p)∧H' b=some x:=by
 refine Aj AFC (by simp) ?_
 simp -implicitDefEqProofs -proj only [go_sem,seval]
 refine Fm (Te hb hf hl) (fun r H' hr=>?_)
 obtain ⟨rfl,hr⟩:=hr
 simp -implicitDefEqProofs -proj only [go_sem,seval]
 rw [TJ]
 try first | exact ⟨rfl,hr⟩ | exact rfl
def GT (m o:MeterX):Bool:=(o.nm.toList == m.nm.toList)&&(!(o.un.toList == m.un.toList)||!decide (o.mx=m.mx))
theorem AKP {H:Heap} {b:Nat} {m o:MeterX} (hb:H b=some (F6 m)):CallW Try.prog Qk [Mb o,.ptr b 0] H fun r H'=>r=bv (GT m o)∧H' b=some (F6 m):=by
 refine Aj Zz (by simp) ?_
 simp -implicitDefEqProofs -proj only [go_sem,seval]
 refine AI (fun b2 hb2=>?_)
 replace hb2:H b2=none:=hb2
 obtain ⟨n1,n2⟩:=AK hb2 hb
 cases c1:o.nm.toList == m.nm.toList
 ·simp -implicitDefEqProofs -proj only [go_sem,seval,n1,n2,hb,IN,c1]
  simp [GT,c1]
 cases c2:o.un.toList == m.un.toList
 ·simp -implicitDefEqProofs -proj only [go_sem,seval,n1,n2,hb,IN,Ji,c1,c2]
  simp [GT,c1,c2]
 ·simp -implicitDefEqProofs -proj only [go_sem,seval,n1,n2,hb,IN,Ji,c1,c2]
  simp [GT,c1,c2]
abbrev Ec (cur:ByteArray) (f t:Int) (ms:List MeterX) (S:List (Seg D4)):Blk:=.box 30 [.d (.str cur),i64 f,i64 t,.d (.sl 5 (AX ms)),MW S]
theorem Xj {H:Heap} {b:Nat} {m:MeterX} {cu:ByteArray} {f t:Int} {B:List MeterX} {S:List (Seg D4)} (hB:B.length≤1000000) (hb:H b=some (Ec cu f t B S)):CallW Try.prog T9 [Mb m,.ptr b 0] H fun r H'=>r=bv (B.any (GT m))∧H' b=some (Ec cu f t B S):=by
 refine Aj X7 (by simp) ?_
 simp -implicitDefEqProofs -proj only [go_sem,seval]
 refine AI (fun b2 hb2=>?_)
 replace hb2:H b2=none:=hb2
 obtain ⟨n1,n2⟩:=AK hb2 hb
 simp -implicitDefEqProofs -proj only [go_sem,seval,n1,n2,hb]
 have q2:(upd H b2 (some (F6 m))) b2=some (F6 m):=AN
 have q1:(upd H b2 (some (F6 m))) b=some (Ec cu f t B S):=(AF n1).trans hb
 refine Fm (IL (Rg (H:=Ac [(b2,F6 m)]) (x:=F6 m) (b:=b2) (p:=GT m) (l:=B) (f:=Qk) (EV (l:=[(_,_)]) (by simp [AP])).1 (fun o _ H h=>AKP h) hB) (Mm q2)) (fun r H' hk=>?_)
 obtain ⟨H1,⟨rfl,h1⟩,hsub,hkp⟩:=hk
 have:=hkp b _ q1 (by simp -implicitDefEqProofs -proj only [go_sem,seval,n1,n2])
 simp -implicitDefEqProofs -proj only [go_sem,seval,n1,n2]
 exact this
def Fz (cu cu':ByteArray) (f t f' t':Int) (A B:List MeterX):Bool:=(cu.toList == cu'.toList)&&(decide (f=f')&&(decide (t=t')&&!(A.any fun m=>B.any (GT m))))
theorem T2 {cu cu':ByteArray} {f t f' t':Int} {A B:List MeterX} {S S':List (Seg D4)} (hA:A.length≤1000000) (hB:B.length≤1000000):DataW Try.prog Yt [E7 cu f t A S,E7 cu' f' t' B S'] (bv (Fz cu cu' f t f' t' A B)):=by
 refine Aj AEa (by simp) ?_
 simp -implicitDefEqProofs -proj only [go_sem,seval]
 refine AI (fun b2 hb2=>?_)
 simp -implicitDefEqProofs -proj only [go_sem,seval]
 refine AI (fun b3 hb3=>?_)
 replace hb3:upd Heap.none b2 _ b3=none:=hb3
 obtain ⟨n1,n2⟩:=AK hb3 AN
 cases c1:cu.toList == cu'.toList
 ·simp -implicitDefEqProofs -proj only [go_sem,seval,n1,n2,Ji,c1]
  exact AM (by simp [Fz,c1])
 by_cases c2:f=f'
 rotate_left
 ·simp -implicitDefEqProofs -proj only [go_sem,seval,n1,n2,Ji,c1,decide_eq_false c2]
  exact AM (by simp [Fz,c2])
 by_cases c3:t=t'
 rotate_left
 ·simp -implicitDefEqProofs -proj only [go_sem,seval,n1,n2,Ji,c1,decide_eq_true c2,decide_eq_false c3]
  exact AM (by simp [Fz,c3])
 simp -implicitDefEqProofs -proj only [go_sem,seval,n1,n2,Ji,c1,decide_eq_true c2,decide_eq_true c3]
 refine Fm (IL (Rg (H:=Ac [(b3,Ec cu' f' t' B S')]) (x:=Ec cu' f' t' B S') (b:=b3) (p:=fun m=>B.any (GT m)) (l:=A) (f:=T9) (EV (l:=[(_,_)]) (by simp [AP])).1 (fun o _ H h=>Xj hB h) hA) (Mm (by simp -implicitDefEqProofs -proj only [go_sem,seval]))) (fun r H' hk=>?_)
 obtain ⟨H1,⟨rfl,h1⟩,hsub,hkp⟩:=hk
 simp -implicitDefEqProofs -proj only [go_sem,seval,n1,n2]
 exact AM (by simp [Fz,c1,c2,c3])
def GI (bad:Int→Int→Bool) (a b:List Run):Nat→Nat→Nat→Bool→Bool
 | 0,_,_,x=>x
 | n+1,i,k,w=>match a[i]?,b[k]? with
  | some x,some y =>
   GI bad a b n (if x.t≤y.t then i+1 else i) (if y.t≤x.t then k+1 else k) (if max x.f y.f≤min x.t y.t then w||bad x.v y.v else w)
  | _,_=>w
theorem KZ {bad:Int→Int→Bool} {a b:List Run}:∀(n i k:Nat) (w:Bool),a.length+b.length≤n+i+k→GI bad a b (n+1) i k w=GI bad a b n i k w
 | 0,i,k,w,h=>by
  rw [GI,GI]
  by_cases h1:i<a.length
  ·have h2:¬k<b.length:=by omega
   rw [List.getElem?_eq_none (l:=b) (by omega)]
   split <;> first | rfl | simp_all
  ·rw [List.getElem?_eq_none (l:=a) (by omega)]
 | n+1,i,k,w,h=>by
  rw [GI,GI]
  split
  ·next x y _ _ =>
   refine KZ n _ _ _ ?_
   split <;> split <;> omega
  ·rfl
structure ZipF where
 i:Nat
 k:Nat
 c:Nat
 cap:Nat
 l:List Run
 w:Bool
theorem Ha {i k c cap:Nat} {l:List Run} {w:Bool}:(ZipF.mk i k c cap l w).i=i:=(rfl)
theorem HY {i k c cap:Nat} {l:List Run} {w:Bool}:(ZipF.mk i k c cap l w).k=k:=(rfl)
abbrev Ix (w:Bool):Blk:=.box 130 [bv w]
abbrev LF (bf:Nat):Blk:=.box 128 [.ptr bf 0]
abbrev LX (f:FuncId) (caps:List AV):Blk:=.box 82 [.fn f caps]
theorem IZ {H:Heap}:∀{l:List (Nat×Blk)},AZ H l↔∀p∈l,H p.1=some p.2
 | []=>by simp [AZ]
 | (b,x)::l=>by
  simp -implicitDefEqProofs only [AZ,IZ (l:=l),List.mem_cons,forall_eq_or_imp]
theorem Nv {k:Nat}:∀{l m:List (Nat×Blk)},(∀p∈l,¬k=p.1)→Ac (l++m) k=Ac m k
 | [],_,_=>rfl
 | (b,x)::l,m,h=>by
  rw [List.cons_append,Av,if_neg (h (b,x) (List.mem_cons_self ..)),Nv (fun p hp=>h p (List.mem_cons_of_mem _ hp))]
def UD (f:FuncId) (bf bp bo:Nat) (of:FuncId) (caps:List AV) (more:List (Nat×Blk)) (g:Int→Int→Int) (bad:Int→Int→Bool) (u v:Int):Prop:=∀(w:Bool) (H:Heap),H bf=some (Ix w)→H bp=some (LF bf)→H bo=some (LX of caps)→(∀p∈more,H p.1=some p.2) →
 CallW Try.prog f [i64 u,i64 v,.ptr bp 0,.ptr bo 0] H fun r H'=>r=i64 (g u v)∧H'=upd H bf (some (Ix (w||bad u v)))
set_option maxHeartbeats 4000000 in
theorem ATk {a b:List Run} {f of:FuncId} {caps:List AV} {more:List (Nat×Blk)} {bf bp bo:Nat} {g:Int→Int→Int} {bad:Int→Int→Bool} (d1:¬bf=bp) (d2:¬bf=bo) (d3:¬bp=bo) (hmd:(AP more).Nodup) (hmx:∀p∈more,¬p.1=bf∧¬p.1=bp∧¬p.1=bo) (hg:∀x∈a,∀y∈b,UD f bf bp bo of caps more g bad x.v y.v) (ha:a.length≤400000) (hb:b.length≤400000):CallW Try.prog ACT [Hm a,Hm b,.fn f [.ptr bp 0,.ptr bo 0]] (Ac ([(bf,Ix false),(bp,LF bf),(bo,LX of caps)]++more)) fun r H'=>NewV H' r (Hm (GR g a b (a.length+b.length) 0 0 []))∧H' bf=some (Ix (GI bad a b (a.length+b.length) 0 0 false))∧H' bp=some (LF bf):=by
 have s1:¬bp=bf:=fun e=>d1 e.symm
 have s2:¬bo=bf:=fun e=>d2 e.symm
 have s3:¬bo=bp:=fun e=>d3 e.symm
 obtain ⟨H0,hH0⟩:∃H0,Ac ([(bf,Ix false),(bp,LF bf),(bo,LX of caps)]++more)=H0:=⟨_,rfl⟩
 have zf:H0 bf=some (Ix false):=by rw [←hH0]; simp -implicitDefEqProofs -proj only [go_sem,seval]
 have zp:H0 bp=some (LF bf):=by rw [←hH0]; simp -implicitDefEqProofs -proj only [go_sem,seval,d1,s1]
 have zo:H0 bo=some (LX of caps):=by rw [←hH0]; simp -implicitDefEqProofs -proj only [go_sem,seval,d2,s2,d3,s3]
 have zm:∀p∈more,H0 p.1=some p.2:=fun p hp=>by
  obtain ⟨x1,x2,x3⟩:=hmx p hp
  rw [←hH0,Nv (fun q hq=>by simp -implicitDefEqProofs only [List.mem_cons,List.not_mem_nil,or_false] at hq; rcases hq with rfl | rfl | rfl <;> first | exact x1 | exact x2 | exact x3)]
  exact IZ.1 (EV hmd) p hp
 rw [hH0]
 refine Aj AHj (by simp) ?_
 simp -implicitDefEqProofs -proj only [go_sem,seval]
 refine AI (fun b3 hb3=>?_)
 replace hb3:H0 b3=none:=hb3
 obtain ⟨f1,_⟩:=AK hb3 zf
 obtain ⟨f2,_⟩:=AK hb3 zp
 obtain ⟨f3,_⟩:=AK hb3 zo
 have m3:∀p∈more,¬b3=p.1:=fun p hp=>(AK hb3 (zm p hp)).1
 simp -implicitDefEqProofs -proj only [go_sem,seval]
 refine AI (fun b4 hb4=>?_)
 replace hb4:upd H0 b3 _ b4=none:=hb4
 obtain ⟨n1,n2⟩:=AK hb4 AN
 obtain ⟨f4,_⟩:=AK hb4 (by rw [AF f1]; exact zf)
 obtain ⟨f5,_⟩:=AK hb4 (by rw [AF f2]; exact zp)
 obtain ⟨f6,_⟩:=AK hb4 (by rw [AF f3]; exact zo)
 have m4:∀p∈more,¬b4=p.1:=fun p hp=>(AK hb4 (by rw [AF (m3 p hp)]; exact zm p hp)).1
 simp -implicitDefEqProofs -proj only [go_sem,seval,n1,n2]
 refine AI (fun b6 hb6=>?_)
 replace hb6:upd (upd H0 b3 _) b4 _ b6=none:=hb6
 obtain ⟨n3,n4⟩:=AK hb6 AN
 obtain ⟨n5,n6⟩:=AK hb6 (by rw [AF n1]; exact AN)
 obtain ⟨f7,_⟩:=AK hb6 (by rw [AF f4,AF f1]; exact zf)
 obtain ⟨f8,_⟩:=AK hb6 (by rw [AF f5,AF f2]; exact zp)
 obtain ⟨f9,_⟩:=AK hb6 (by rw [AF f6,AF f3]; exact zo)
 have m6:∀p∈more,¬b6=p.1:=fun p hp=>(AK hb6 (by rw [AF (m4 p hp),AF (m3 p hp)]; exact zm p hp)).1
 simp -implicitDefEqProofs -proj only [go_sem,seval,n1,n2,n3,n4,n5,n6,rowR_len]
 refine AI (fun b7 hb7=>?_)
 replace hb7:upd (upd (upd H0 b3 _) b4 _) b6 _ b7=none:=hb7
 obtain ⟨n7,n8⟩:=AK hb7 AN
 obtain ⟨p1,p2⟩:=AK hb7 (by rw [AF n3]; exact AN)
 obtain ⟨p3,p4⟩:=AK hb7 (by rw [AF n5,AF n1]; exact AN)
 obtain ⟨fa,fa'⟩:=AK hb7 (by rw [AF f7,AF f4,AF f1]; exact zf)
 obtain ⟨fb,fb'⟩:=AK hb7 (by rw [AF f8,AF f5,AF f2]; exact zp)
 obtain ⟨fc,fc'⟩:=AK hb7 (by rw [AF f9,AF f6,AF f3]; exact zo)
 have m7:∀p∈more,¬b7=p.1:=fun p hp=>(AK hb7 (by rw [AF (m6 p hp),AF (m4 p hp),AF (m3 p hp)]; exact zm p hp)).1
 have m7':∀p∈more,¬p.1=b7:=fun p hp e=>m7 p hp e.symm
 simp -implicitDefEqProofs -proj only [go_sem,seval,n1,n2,n3,n4,n5,n6,n7,n8,p1,p2,p3,p4,rowR_len]
 have c1:¬bf=b3:=fun e=>f1 e.symm
 have c2:¬bp=b3:=fun e=>f2 e.symm
 have c3:¬bo=b3:=fun e=>f3 e.symm
 have c4:¬bf=b4:=fun e=>f4 e.symm
 have c5:¬bp=b4:=fun e=>f5 e.symm
 have c6:¬bo=b4:=fun e=>f6 e.symm
 have c7:¬bf=b6:=fun e=>f7 e.symm
 have c8:¬bp=b6:=fun e=>f8 e.symm
 have c9:¬bo=b6:=fun e=>f9 e.symm
 obtain ⟨rest,hrest⟩:∃rest:Bool→List (Nat×Blk),rest=fun w=>[(b6,.box 121 [.nilsl 3]),(b3,.box 121 [Gm a]),(b4,.box 121 [Gm b]),(bf,Ix w),(bp,LF bf),(bo,LX of caps)]++more:=⟨_,rfl⟩
 refine EN (fun x:ZipF=>x.i≤a.length∧x.k≤b.length∧x.l.length≤x.i+x.k∧GR g a b (a.length+b.length-x.i-x.k) x.i x.k x.l=GR g a b (a.length+b.length) 0 0 []∧GI bad a b (a.length+b.length-x.i-x.k) x.i x.k x.w=GI bad a b (a.length+b.length) 0 0 false∧(x.l≠[]→x.c≠b7∧x.c≠b6∧x.c≠b3∧x.c≠b4∧x.c≠bf∧x.c≠bp∧x.c≠bo∧∀p∈more,x.c≠p.1)) 74 (fun x=>[(8,i64 x.i),(9,i64 x.k),(3,.ptr b3 0),(4,.ptr b4 0),(6,.ptr b6 0),(7,.ptr b7 0),(2,.fn f [.ptr bp 0,.ptr bo 0])]) (fun x=>LH b7 x.c x.cap x.l++rest x.w) (fun x=>a.length+b.length-x.i-x.k) ⟨0,0,0,0,[],false⟩ ⟨Nat.zero_le _,Nat.zero_le _,Nat.zero_le _,rfl,rfl,fun h=>absurd rfl h⟩ rfl ?_ ?_ ?_
 ·simp -implicitDefEqProofs -proj only [go_sem,seval,AJ]
 ·rw [HM,hrest]
  simp -implicitDefEqProofs only [HM]
  refine ⟨?_,?_,IZ.2 fun p hp=>by simp -implicitDefEqProofs -proj only [go_sem,seval,m3 p hp,m4 p hp,m6 p hp,m7 p hp,zm p hp]⟩
  all_goals simp -implicitDefEqProofs -proj only [go_sem,seval,AZ,LH,n1,n2,n3,n4,n5,n6,n7,n8,p1,p2,p3,p4,f1,f2,f3,f4,f5,f6,f7,f8,f9,fa,fb,fc,zf,zp,zo]
 ·rintro ⟨i,k,c,cap,R,w⟩ ⟨hi,hk,hlen,hR,hW,hc⟩
  simp -implicitDefEqProofs only [] at hi hk hlen hR hW hc
  have hat:=RS (b:=b7) (c:=c) (cap:=cap) (l:=R) (rest:=rest w) (fun h=>(hc h).1)
  have h6:Ac (LH b7 c cap R++rest w) b6=some (.box 121 [.nilsl 3]):=by
   rw [Jv n8 (fun h e=>(hc h).2.1 e.symm),hrest]; simp -implicitDefEqProofs -proj only [go_sem,seval]
  have h3:Ac (LH b7 c cap R++rest w) b3=some (.box 121 [Gm a]):=by
   rw [Jv p4 (fun h e=>(hc h).2.2.1 e.symm),hrest]; simp -implicitDefEqProofs -proj only [go_sem,seval,n6]
  have h4:Ac (LH b7 c cap R++rest w) b4=some (.box 121 [Gm b]):=by
   rw [Jv p2 (fun h e=>(hc h).2.2.2.1 e.symm),hrest]; simp -implicitDefEqProofs -proj only [go_sem,seval,n4,n1]
  have hf:Ac (LH b7 c cap R++rest w) bf=some (Ix w):=by
   rw [Jv fa' (fun h e=>(hc h).2.2.2.2.1 e.symm),hrest]; simp -implicitDefEqProofs -proj only [go_sem,seval,c7,c1,c4]
  have hp:Ac (LH b7 c cap R++rest w) bp=some (LF bf):=by
   rw [Jv fb' (fun h e=>(hc h).2.2.2.2.2.1 e.symm),hrest]; simp -implicitDefEqProofs -proj only [go_sem,seval,c8,c2,c5,s1]
  have ho:Ac (LH b7 c cap R++rest w) bo=some (LX of caps):=by
   rw [Jv fc' (fun h e=>(hc h).2.2.2.2.2.2.1 e.symm),hrest]; simp -implicitDefEqProofs -proj only [go_sem,seval,c9,c3,c6,s2,s3]
  have hm:∀p∈more,Ac (LH b7 c cap R++rest w) p.1=some p.2:=fun p hp=>by
   obtain ⟨x1,x2,x3⟩:=hmx p hp
   rw [Jv (m7' p hp) (fun h e=>(hc h).2.2.2.2.2.2.2 p hp e.symm),hrest,Nv (fun q hq=>by simp -implicitDefEqProofs only [List.mem_cons,List.not_mem_nil,or_false] at hq; rcases hq with rfl | rfl | rfl | rfl | rfl | rfl <;> first | exact fun e=>m6 p hp e.symm | exact fun e=>m3 p hp e.symm | exact fun e=>m4 p hp e.symm | exact x1 | exact x2 | exact x3)]
   exact IZ.1 (EV hmd) p hp
  generalize hH:Ac (LH b7 c cap R++rest w)=H at *
  by_cases hin:i<a.length∧k<b.length
  ·obtain ⟨h,h'⟩:=hin
   have e1:=Jt h
   have e2:=Jt h'
   have hx:a[i]? = some a[i]:=List.getElem?_eq_getElem h
   have hy:b[k]? = some b[k]:=List.getElem?_eq_getElem h'
   have hgg:=hg _ (List.getElem_mem h) _ (List.getElem_mem h')
   generalize a[i]=x at *
   generalize b[k]=y at *
   rw [show a.length+b.length-i-k=(a.length+b.length-i-k-1)+1 by omega,GR,hx,hy] at hR
   rw [show a.length+b.length-i-k=(a.length+b.length-i-k-1)+1 by omega,GI,hx,hy] at hW
   simp -implicitDefEqProofs only [] at hR hW
   simp -implicitDefEqProofs -proj only [go_sem,seval,Ha,HY,h3,h4,rowR_len,decide_eq_true (show (i:Int)<a.length by omega),decide_eq_true (show (k:Int)<b.length by omega)]
   (repeat' (with_reducible refine Ak ?_ (fun h=>?_); (focus first | decide | omega); clear h; try simp -implicitDefEqProofs -proj only [go_sem,seval,eq_self,Ha,HY,h3,h4,rowR_len,decide_eq_true (show (i:Int)<a.length by omega),decide_eq_true (show (k:Int)<b.length by omega)]))
   refine Ag _ (by omega) e1 ?_
   simp -implicitDefEqProofs -proj only [go_sem,seval,Ha,HY,h3,h4,rowR_len,decide_eq_true (show (i:Int)<a.length by omega),decide_eq_true (show (k:Int)<b.length by omega)]
   (repeat' (with_reducible refine Ak ?_ (fun h=>?_); (focus first | decide | omega); clear h; try simp -implicitDefEqProofs -proj only [go_sem,seval,eq_self,Ha,HY,h3,h4,rowR_len,decide_eq_true (show (i:Int)<a.length by omega),decide_eq_true (show (k:Int)<b.length by omega)]))
   refine Ag _ (by omega) e2 ?_
   simp -implicitDefEqProofs -proj only [go_sem,seval,Ha,HY,h3,h4,rowR_len,decide_eq_true (show (i:Int)<a.length by omega),decide_eq_true (show (k:Int)<b.length by omega)]
   (repeat' (with_reducible refine Ak ?_ (fun h=>?_); (focus first | decide | omega); clear h; try simp -implicitDefEqProofs -proj only [go_sem,seval,eq_self,Ha,HY,h3,h4,rowR_len,decide_eq_true (show (i:Int)<a.length by omega),decide_eq_true (show (k:Int)<b.length by omega)]))
   refine AI (fun b10 hb10=>?_)
   replace hb10:H b10=none:=hb10
   obtain ⟨q1,q3⟩:=hat.fresh hb10
   have t6:=(AK hb10 h6).1
   have t3:=(AK hb10 h3).1
   have t4:=(AK hb10 h4).1
   have tf:=(AK hb10 hf).1
   have tp:=(AK hb10 hp).1
   have to':=(AK hb10 ho).1
   have tm:=fun p hp'=>(AK hb10 (hm p hp')).1
   simp -implicitDefEqProofs -proj only [go_sem,seval]
   refine AI (fun b11 hb11=>?_)
   replace hb11:upd H b10 _ b11=none:=hb11
   obtain ⟨r3,r4⟩:=AK hb11 AN
   have hb11':H b11=none:=by rw [AF r4] at hb11; exact hb11
   obtain ⟨r1,r3'⟩:=hat.fresh hb11'
   have u6:=(AK hb11' h6).1
   have u3:=(AK hb11' h3).1
   have u4:=(AK hb11' h4).1
   have uf:=(AK hb11' hf).1
   have up:=(AK hb11' hp).1
   have uo:=(AK hb11' ho).1
   have um:=fun p hp'=>(AK hb11' (hm p hp')).1
   have vf:¬bf=b10:=fun e=>tf e.symm
   have wf:¬bf=b11:=fun e=>uf e.symm
   have q2:¬b7=b10:=fun e=>q1 e.symm
   have r2:¬b7=b11:=fun e=>r1 e.symm
   by_cases hA:x.t≤y.t
   ·by_cases hB:y.t≤x.t
    ·by_cases hM:max x.f y.f≤min x.t y.t
     ·rw [if_pos hA,if_pos hB,if_pos hM] at hR hW
      have dM:=decide_eq_true hM
      have dA:=decide_eq_true hA
      have dB:=decide_eq_true hB
      simp -implicitDefEqProofs -proj only [go_sem,seval,h3,h4,rowR_len,q1,q2,r1,r2,r3,r4,dM,dA,dB,AU (show i<9223372036854775807 by omega),AU (show k<9223372036854775807 by omega)]
      (repeat' (with_reducible refine Ak ?_ (fun h=>?_); (focus first | decide | omega); clear h; try simp -implicitDefEqProofs -proj only [go_sem,seval,eq_self,h3,h4,rowR_len,q1,q2,r1,r2,r3,r4,dM,dA,dB,AU (show i<9223372036854775807 by omega),AU (show k<9223372036854775807 by omega)]))
      have hnote:=fun z1 z2 z zz=>hgg w (upd (upd (upd (upd H b10 z1) b11 z2) b10 z) b11 zz) (by rw [AF uf,AF tf,AF uf,AF tf]; exact hf) (by rw [AF up,AF tp,AF up,AF tp]; exact hp) (by rw [AF uo,AF to',AF uo,AF to']; exact ho) (fun p hp'=>by rw [AF (um p hp'),AF (tm p hp'),AF (um p hp'),AF (tm p hp')]; exact hm p hp')
      refine Fm (hnote _ _ _ _) (fun rr H' hk=>?_)
      obtain ⟨rfl,rfl⟩:=hk
      simp -implicitDefEqProofs -proj only [go_sem,seval,h3,h4,rowR_len,q1,q2,r1,r2,r3,r4,dM,dA,dB,AU (show i<9223372036854775807 by omega),AU (show k<9223372036854775807 by omega),vf,wf]
      have hput:=fun z1 z2 z ww zz=>OM (r:=⟨max x.f y.f,min x.t y.t,g x.v y.v⟩) (((((hat.upd (k:=b10) (x:=z1) q1 q3).upd (k:=b11) (x:=z2) r1 r3').upd (k:=b10) (x:=z) q1 q3).upd (k:=b11) (x:=ww) r1 r3').upd (k:=bf) (x:=zz) fa' (fun h e=>(hc h).2.2.2.2.1 e.symm)) (by omega)
      refine Fm (hput _ _ _ _ _) (fun rr H' hk=>?_)
      obtain ⟨c',hat',hfr⟩:=hk
      have g6:=hfr b6 _ n8 (fun h e=>(hc h).2.1 e.symm) (by rw [AF c7,AF u6,AF t6,AF u6,AF t6]; exact h6)
      have g3:=hfr b3 _ p4 (fun h e=>(hc h).2.2.1 e.symm) (by rw [AF c1,AF u3,AF t3,AF u3,AF t3]; exact h3)
      have g4:=hfr b4 _ p2 (fun h e=>(hc h).2.2.2.1 e.symm) (by rw [AF c4,AF u4,AF t4,AF u4,AF t4]; exact h4)
      have gf:=hfr bf _ fa' (fun h e=>(hc h).2.2.2.2.1 e.symm) AN
      have gp:=hfr bp _ fb' (fun h e=>(hc h).2.2.2.2.2.1 e.symm) (by rw [AF d1,AF up,AF tp,AF up,AF tp]; exact hp)
      have go:=hfr bo _ fc' (fun h e=>(hc h).2.2.2.2.2.2.1 e.symm) (by rw [AF d2,AF uo,AF to',AF uo,AF to']; exact ho)
      have gm:=fun p hp'=>hfr p.1 _ (m7' p hp') (fun h e=>(hc h).2.2.2.2.2.2.2 p hp' e.symm) (by rw [AF (fun e=>(hmx p hp').1 e.symm),AF (um p hp'),AF (tm p hp'),AF (um p hp'),AF (tm p hp')]; exact hm p hp')
      have g10:=hfr b10 _ q1 q3 (by rw [AF vf,AF r3,AN])
      have g11:=hfr b11 _ r1 r3' (by rw [AF wf,AN])
      obtain ⟨cap',hah,hc'⟩:=Kt hat'
      simp -implicitDefEqProofs -proj only [go_sem,seval,h3,h4,rowR_len,q1,q2,r1,r2,r3,r4,dM,dA,dB,AU (show i<9223372036854775807 by omega),AU (show k<9223372036854775807 by omega),g10.1,g11.1,eq_self]
      have hRR:E6 R ⟨max x.f y.f,min x.t y.t,g x.v y.v⟩≠[]:=OL
      have hll:=@Ne R ⟨max x.f y.f,min x.t y.t,g x.v y.v⟩
      refine AY ⟨i+1,k+1,c',cap',E6 R ⟨max x.f y.f,min x.t y.t,g x.v y.v⟩,(w||bad x.v y.v)⟩ ⟨by show i+1≤a.length; omega,by show k+1≤b.length; omega,by show (E6 R _).length≤i+1+(k+1); omega,?_,?_,fun h=>⟨hc' h,fun e=>g6.2 e.symm,fun e=>g3.2 e.symm,fun e=>g4.2 e.symm,fun e=>gf.2 e.symm,fun e=>gp.2 e.symm,fun e=>go.2 e.symm,fun p hp' e=>(gm p hp').2 e.symm⟩⟩ (by show a.length+b.length-(i+1)-(k+1)<a.length+b.length-i-k; omega) rfl ?_ ?_
      ·show GR g a b (a.length+b.length-(i+1)-(k+1)) (i+1) (k+1) _=_
       rw [←hR]
       try rw [show a.length+b.length-i-k-1=a.length+b.length-(i+1)-(k+1) by omega]
       try (rw [show a.length+b.length-i-k-1=(a.length+b.length-(i+1)-(k+1))+1 by omega,LN _ _ _ _ (by omega)])
      ·show GI bad a b (a.length+b.length-(i+1)-(k+1)) (i+1) (k+1) _=_
       rw [←hW]
       try rw [show a.length+b.length-i-k-1=a.length+b.length-(i+1)-(k+1) by omega]
       try (rw [show a.length+b.length-i-k-1=(a.length+b.length-(i+1)-(k+1))+1 by omega,KZ _ _ _ _ (by omega)])
      ·simp -implicitDefEqProofs -proj only [go_sem,seval,AJ,Ha,HY]
      ·rw [HM,hrest]
       simp -implicitDefEqProofs only [HM]
       exact ⟨hah,⟨g6.1,g3.1,g4.1,gf.1,gp.1,go.1,trivial⟩,IZ.2 fun p hp'=>(gm p hp').1⟩
     ·rw [if_pos hA,if_pos hB,if_neg hM] at hR hW
      have dM:=decide_eq_false hM
      have dA:=decide_eq_true hA
      have dB:=decide_eq_true hB
      simp -implicitDefEqProofs -proj only [go_sem,seval,h3,h4,rowR_len,q1,q2,r1,r2,r3,r4,dM,dA,dB,AU (show i<9223372036854775807 by omega),AU (show k<9223372036854775807 by omega)]
      (repeat' (with_reducible refine Ak ?_ (fun h=>?_); (focus first | decide | omega); clear h; try simp -implicitDefEqProofs -proj only [go_sem,seval,eq_self,h3,h4,rowR_len,q1,q2,r1,r2,r3,r4,dM,dA,dB,AU (show i<9223372036854775807 by omega),AU (show k<9223372036854775807 by omega)]))
      obtain ⟨cap',hah,hc'⟩:=Kt ((((hat.upd (k:=b10) (x:=some (.box 147 [.d (.int .i64 0),.d (.int .i64 0),.d (.int .i64 0)])) q1 q3).upd (k:=b11) (x:=some (.box 147 [.d (.int .i64 0),.d (.int .i64 0),.d (.int .i64 0)])) r1 r3').upd (k:=b10) (x:=some (.box 147 [.d (.int .i64 x.f),.d (.int .i64 x.t),.d (.int .i64 x.v)])) q1 q3).upd (k:=b11) (x:=some (.box 147 [.d (.int .i64 y.f),.d (.int .i64 y.t),.d (.int .i64 y.v)])) r1 r3')
      refine AY ⟨i+1,k+1,c,cap',R,w⟩ ⟨by show i+1≤a.length; omega,by show k+1≤b.length; omega,by show R.length≤i+1+(k+1); omega,?_,?_,hc⟩ (by show a.length+b.length-(i+1)-(k+1)<a.length+b.length-i-k; omega) rfl ?_ ?_
      ·show GR g a b (a.length+b.length-(i+1)-(k+1)) (i+1) (k+1) _=_
       rw [←hR]
       try rw [show a.length+b.length-i-k-1=a.length+b.length-(i+1)-(k+1) by omega]
       try (rw [show a.length+b.length-i-k-1=(a.length+b.length-(i+1)-(k+1))+1 by omega,LN _ _ _ _ (by omega)])
      ·show GI bad a b (a.length+b.length-(i+1)-(k+1)) (i+1) (k+1) _=_
       rw [←hW]
       try rw [show a.length+b.length-i-k-1=a.length+b.length-(i+1)-(k+1) by omega]
       try (rw [show a.length+b.length-i-k-1=(a.length+b.length-(i+1)-(k+1))+1 by omega,KZ _ _ _ _ (by omega)])
      ·simp -implicitDefEqProofs -proj only [go_sem,seval,AJ,Ha,HY]
      ·rw [HM,hrest]
       simp -implicitDefEqProofs only [HM]
       exact ⟨hah,⟨((AF u6).trans ((AF t6).trans ((AF u6).trans ((AF t6).trans h6)))),((AF u3).trans ((AF t3).trans ((AF u3).trans ((AF t3).trans h3)))),((AF u4).trans ((AF t4).trans ((AF u4).trans ((AF t4).trans h4)))),((AF uf).trans ((AF tf).trans ((AF uf).trans ((AF tf).trans hf)))),((AF up).trans ((AF tp).trans ((AF up).trans ((AF tp).trans hp)))),((AF uo).trans ((AF to').trans ((AF uo).trans ((AF to').trans ho)))),trivial⟩,IZ.2 fun p hp'=>(AF (um p hp')).trans ((AF (tm p hp')).trans ((AF (um p hp')).trans ((AF (tm p hp')).trans (hm p hp'))))⟩
    ·by_cases hM:max x.f y.f≤min x.t y.t
     ·rw [if_pos hA,if_neg hB,if_pos hM] at hR hW
      have dM:=decide_eq_true hM
      have dA:=decide_eq_true hA
      have dB:=decide_eq_false hB
      simp -implicitDefEqProofs -proj only [go_sem,seval,h3,h4,rowR_len,q1,q2,r1,r2,r3,r4,dM,dA,dB,AU (show i<9223372036854775807 by omega),AU (show k<9223372036854775807 by omega)]
      (repeat' (with_reducible refine Ak ?_ (fun h=>?_); (focus first | decide | omega); clear h; try simp -implicitDefEqProofs -proj only [go_sem,seval,eq_self,h3,h4,rowR_len,q1,q2,r1,r2,r3,r4,dM,dA,dB,AU (show i<9223372036854775807 by omega),AU (show k<9223372036854775807 by omega)]))
      have hnote:=fun z1 z2 z zz=>hgg w (upd (upd (upd (upd H b10 z1) b11 z2) b10 z) b11 zz) (by rw [AF uf,AF tf,AF uf,AF tf]; exact hf) (by rw [AF up,AF tp,AF up,AF tp]; exact hp) (by rw [AF uo,AF to',AF uo,AF to']; exact ho) (fun p hp'=>by rw [AF (um p hp'),AF (tm p hp'),AF (um p hp'),AF (tm p hp')]; exact hm p hp')
      refine Fm (hnote _ _ _ _) (fun rr H' hk=>?_)
      obtain ⟨rfl,rfl⟩:=hk
      simp -implicitDefEqProofs -proj only [go_sem,seval,h3,h4,rowR_len,q1,q2,r1,r2,r3,r4,dM,dA,dB,AU (show i<9223372036854775807 by omega),AU (show k<9223372036854775807 by omega),vf,wf]
      have hput:=fun z1 z2 z ww zz=>OM (r:=⟨max x.f y.f,min x.t y.t,g x.v y.v⟩) (((((hat.upd (k:=b10) (x:=z1) q1 q3).upd (k:=b11) (x:=z2) r1 r3').upd (k:=b10) (x:=z) q1 q3).upd (k:=b11) (x:=ww) r1 r3').upd (k:=bf) (x:=zz) fa' (fun h e=>(hc h).2.2.2.2.1 e.symm)) (by omega)
      refine Fm (hput _ _ _ _ _) (fun rr H' hk=>?_)
      obtain ⟨c',hat',hfr⟩:=hk
      have g6:=hfr b6 _ n8 (fun h e=>(hc h).2.1 e.symm) (by rw [AF c7,AF u6,AF t6,AF u6,AF t6]; exact h6)
      have g3:=hfr b3 _ p4 (fun h e=>(hc h).2.2.1 e.symm) (by rw [AF c1,AF u3,AF t3,AF u3,AF t3]; exact h3)
      have g4:=hfr b4 _ p2 (fun h e=>(hc h).2.2.2.1 e.symm) (by rw [AF c4,AF u4,AF t4,AF u4,AF t4]; exact h4)
      have gf:=hfr bf _ fa' (fun h e=>(hc h).2.2.2.2.1 e.symm) AN
      have gp:=hfr bp _ fb' (fun h e=>(hc h).2.2.2.2.2.1 e.symm) (by rw [AF d1,AF up,AF tp,AF up,AF tp]; exact hp)
      have go:=hfr bo _ fc' (fun h e=>(hc h).2.2.2.2.2.2.1 e.symm) (by rw [AF d2,AF uo,AF to',AF uo,AF to']; exact ho)
      have gm:=fun p hp'=>hfr p.1 _ (m7' p hp') (fun h e=>(hc h).2.2.2.2.2.2.2 p hp' e.symm) (by rw [AF (fun e=>(hmx p hp').1 e.symm),AF (um p hp'),AF (tm p hp'),AF (um p hp'),AF (tm p hp')]; exact hm p hp')
      have g10:=hfr b10 _ q1 q3 (by rw [AF vf,AF r3,AN])
      have g11:=hfr b11 _ r1 r3' (by rw [AF wf,AN])
      obtain ⟨cap',hah,hc'⟩:=Kt hat'
      simp -implicitDefEqProofs -proj only [go_sem,seval,h3,h4,rowR_len,q1,q2,r1,r2,r3,r4,dM,dA,dB,AU (show i<9223372036854775807 by omega),AU (show k<9223372036854775807 by omega),g10.1,g11.1,eq_self]
      have hRR:E6 R ⟨max x.f y.f,min x.t y.t,g x.v y.v⟩≠[]:=OL
      have hll:=@Ne R ⟨max x.f y.f,min x.t y.t,g x.v y.v⟩
      refine AY ⟨i+1,k,c',cap',E6 R ⟨max x.f y.f,min x.t y.t,g x.v y.v⟩,(w||bad x.v y.v)⟩ ⟨by show i+1≤a.length; omega,by show k≤b.length; omega,by show (E6 R _).length≤i+1+(k); omega,?_,?_,fun h=>⟨hc' h,fun e=>g6.2 e.symm,fun e=>g3.2 e.symm,fun e=>g4.2 e.symm,fun e=>gf.2 e.symm,fun e=>gp.2 e.symm,fun e=>go.2 e.symm,fun p hp' e=>(gm p hp').2 e.symm⟩⟩ (by show a.length+b.length-(i+1)-(k)<a.length+b.length-i-k; omega) rfl ?_ ?_
      ·show GR g a b (a.length+b.length-(i+1)-(k)) (i+1) (k) _=_
       rw [←hR]
       try rw [show a.length+b.length-i-k-1=a.length+b.length-(i+1)-(k) by omega]
       try (rw [show a.length+b.length-i-k-1=(a.length+b.length-(i+1)-(k+1))+1 by omega,LN _ _ _ _ (by omega)])
      ·show GI bad a b (a.length+b.length-(i+1)-(k)) (i+1) (k) _=_
       rw [←hW]
       try rw [show a.length+b.length-i-k-1=a.length+b.length-(i+1)-(k) by omega]
       try (rw [show a.length+b.length-i-k-1=(a.length+b.length-(i+1)-(k+1))+1 by omega,KZ _ _ _ _ (by omega)])
      ·simp -implicitDefEqProofs -proj only [go_sem,seval,AJ,Ha,HY]
      ·rw [HM,hrest]
       simp -implicitDefEqProofs only [HM]
       exact ⟨hah,⟨g6.1,g3.1,g4.1,gf.1,gp.1,go.1,trivial⟩,IZ.2 fun p hp'=>(gm p hp').1⟩
     ·rw [if_pos hA,if_neg hB,if_neg hM] at hR hW
      have dM:=decide_eq_false hM
      have dA:=decide_eq_true hA
      have dB:=decide_eq_false hB
      simp -implicitDefEqProofs -proj only [go_sem,seval,h3,h4,rowR_len,q1,q2,r1,r2,r3,r4,dM,dA,dB,AU (show i<9223372036854775807 by omega),AU (show k<9223372036854775807 by omega)]
      (repeat' (with_reducible refine Ak ?_ (fun h=>?_); (focus first | decide | omega); clear h; try simp -implicitDefEqProofs -proj only [go_sem,seval,eq_self,h3,h4,rowR_len,q1,q2,r1,r2,r3,r4,dM,dA,dB,AU (show i<9223372036854775807 by omega),AU (show k<9223372036854775807 by omega)]))
      obtain ⟨cap',hah,hc'⟩:=Kt ((((hat.upd (k:=b10) (x:=some (.box 147 [.d (.int .i64 0),.d (.int .i64 0),.d (.int .i64 0)])) q1 q3).upd (k:=b11) (x:=some (.box 147 [.d (.int .i64 0),.d (.int .i64 0),.d (.int .i64 0)])) r1 r3').upd (k:=b10) (x:=some (.box 147 [.d (.int .i64 x.f),.d (.int .i64 x.t),.d (.int .i64 x.v)])) q1 q3).upd (k:=b11) (x:=some (.box 147 [.d (.int .i64 y.f),.d (.int .i64 y.t),.d (.int .i64 y.v)])) r1 r3')
      refine AY ⟨i+1,k,c,cap',R,w⟩ ⟨by show i+1≤a.length; omega,by show k≤b.length; omega,by show R.length≤i+1+(k); omega,?_,?_,hc⟩ (by show a.length+b.length-(i+1)-(k)<a.length+b.length-i-k; omega) rfl ?_ ?_
      ·show GR g a b (a.length+b.length-(i+1)-(k)) (i+1) (k) _=_
       rw [←hR]
       try rw [show a.length+b.length-i-k-1=a.length+b.length-(i+1)-(k) by omega]
       try (rw [show a.length+b.length-i-k-1=(a.length+b.length-(i+1)-(k+1))+1 by omega,LN _ _ _ _ (by omega)])
      ·show GI bad a b (a.length+b.length-(i+1)-(k)) (i+1) (k) _=_
       rw [←hW]
       try rw [show a.length+b.length-i-k-1=a.length+b.length-(i+1)-(k) by omega]
       try (rw [show a.length+b.length-i-k-1=(a.length+b.length-(i+1)-(k+1))+1 by omega,KZ _ _ _ _ (by omega)])
      ·simp -implicitDefEqProofs -proj only [go_sem,seval,AJ,Ha,HY]
      ·rw [HM,hrest]
       simp -implicitDefEqProofs only [HM]
       exact ⟨hah,⟨((AF u6).trans ((AF t6).trans ((AF u6).trans ((AF t6).trans h6)))),((AF u3).trans ((AF t3).trans ((AF u3).trans ((AF t3).trans h3)))),((AF u4).trans ((AF t4).trans ((AF u4).trans ((AF t4).trans h4)))),((AF uf).trans ((AF tf).trans ((AF uf).trans ((AF tf).trans hf)))),((AF up).trans ((AF tp).trans ((AF up).trans ((AF tp).trans hp)))),((AF uo).trans ((AF to').trans ((AF uo).trans ((AF to').trans ho)))),trivial⟩,IZ.2 fun p hp'=>(AF (um p hp')).trans ((AF (tm p hp')).trans ((AF (um p hp')).trans ((AF (tm p hp')).trans (hm p hp'))))⟩
   ·have hB:y.t≤x.t:=by omega
    by_cases hM:max x.f y.f≤min x.t y.t
    ·rw [if_neg hA,if_pos hB,if_pos hM] at hR hW
     have dM:=decide_eq_true hM
     have dA:=decide_eq_false hA
     have dB:=decide_eq_true hB
     simp -implicitDefEqProofs -proj only [go_sem,seval,h3,h4,rowR_len,q1,q2,r1,r2,r3,r4,dM,dA,dB,AU (show i<9223372036854775807 by omega),AU (show k<9223372036854775807 by omega)]
     (repeat' (with_reducible refine Ak ?_ (fun h=>?_); (focus first | decide | omega); clear h; try simp -implicitDefEqProofs -proj only [go_sem,seval,eq_self,h3,h4,rowR_len,q1,q2,r1,r2,r3,r4,dM,dA,dB,AU (show i<9223372036854775807 by omega),AU (show k<9223372036854775807 by omega)]))
     have hnote:=fun z1 z2 z zz=>hgg w (upd (upd (upd (upd H b10 z1) b11 z2) b10 z) b11 zz) (by rw [AF uf,AF tf,AF uf,AF tf]; exact hf) (by rw [AF up,AF tp,AF up,AF tp]; exact hp) (by rw [AF uo,AF to',AF uo,AF to']; exact ho) (fun p hp'=>by rw [AF (um p hp'),AF (tm p hp'),AF (um p hp'),AF (tm p hp')]; exact hm p hp')
     refine Fm (hnote _ _ _ _) (fun rr H' hk=>?_)
     obtain ⟨rfl,rfl⟩:=hk
     simp -implicitDefEqProofs -proj only [go_sem,seval,h3,h4,rowR_len,q1,q2,r1,r2,r3,r4,dM,dA,dB,AU (show i<9223372036854775807 by omega),AU (show k<9223372036854775807 by omega),vf,wf]
     have hput:=fun z1 z2 z ww zz=>OM (r:=⟨max x.f y.f,min x.t y.t,g x.v y.v⟩) (((((hat.upd (k:=b10) (x:=z1) q1 q3).upd (k:=b11) (x:=z2) r1 r3').upd (k:=b10) (x:=z) q1 q3).upd (k:=b11) (x:=ww) r1 r3').upd (k:=bf) (x:=zz) fa' (fun h e=>(hc h).2.2.2.2.1 e.symm)) (by omega)
     refine Fm (hput _ _ _ _ _) (fun rr H' hk=>?_)
     obtain ⟨c',hat',hfr⟩:=hk
     have g6:=hfr b6 _ n8 (fun h e=>(hc h).2.1 e.symm) (by rw [AF c7,AF u6,AF t6,AF u6,AF t6]; exact h6)
     have g3:=hfr b3 _ p4 (fun h e=>(hc h).2.2.1 e.symm) (by rw [AF c1,AF u3,AF t3,AF u3,AF t3]; exact h3)
     have g4:=hfr b4 _ p2 (fun h e=>(hc h).2.2.2.1 e.symm) (by rw [AF c4,AF u4,AF t4,AF u4,AF t4]; exact h4)
     have gf:=hfr bf _ fa' (fun h e=>(hc h).2.2.2.2.1 e.symm) AN
     have gp:=hfr bp _ fb' (fun h e=>(hc h).2.2.2.2.2.1 e.symm) (by rw [AF d1,AF up,AF tp,AF up,AF tp]; exact hp)
     have go:=hfr bo _ fc' (fun h e=>(hc h).2.2.2.2.2.2.1 e.symm) (by rw [AF d2,AF uo,AF to',AF uo,AF to']; exact ho)
     have gm:=fun p hp'=>hfr p.1 _ (m7' p hp') (fun h e=>(hc h).2.2.2.2.2.2.2 p hp' e.symm) (by rw [AF (fun e=>(hmx p hp').1 e.symm),AF (um p hp'),AF (tm p hp'),AF (um p hp'),AF (tm p hp')]; exact hm p hp')
     have g10:=hfr b10 _ q1 q3 (by rw [AF vf,AF r3,AN])
     have g11:=hfr b11 _ r1 r3' (by rw [AF wf,AN])
     obtain ⟨cap',hah,hc'⟩:=Kt hat'
     simp -implicitDefEqProofs -proj only [go_sem,seval,h3,h4,rowR_len,q1,q2,r1,r2,r3,r4,dM,dA,dB,AU (show i<9223372036854775807 by omega),AU (show k<9223372036854775807 by omega),g10.1,g11.1,eq_self]
     have hRR:E6 R ⟨max x.f y.f,min x.t y.t,g x.v y.v⟩≠[]:=OL
     have hll:=@Ne R ⟨max x.f y.f,min x.t y.t,g x.v y.v⟩
     refine AY ⟨i,k+1,c',cap',E6 R ⟨max x.f y.f,min x.t y.t,g x.v y.v⟩,(w||bad x.v y.v)⟩ ⟨by show i≤a.length; omega,by show k+1≤b.length; omega,by show (E6 R _).length≤i+(k+1); omega,?_,?_,fun h=>⟨hc' h,fun e=>g6.2 e.symm,fun e=>g3.2 e.symm,fun e=>g4.2 e.symm,fun e=>gf.2 e.symm,fun e=>gp.2 e.symm,fun e=>go.2 e.symm,fun p hp' e=>(gm p hp').2 e.symm⟩⟩ (by show a.length+b.length-(i)-(k+1)<a.length+b.length-i-k; omega) rfl ?_ ?_
     ·show GR g a b (a.length+b.length-(i)-(k+1)) (i) (k+1) _=_
      rw [←hR]
      try rw [show a.length+b.length-i-k-1=a.length+b.length-(i)-(k+1) by omega]
      try (rw [show a.length+b.length-i-k-1=(a.length+b.length-(i+1)-(k+1))+1 by omega,LN _ _ _ _ (by omega)])
     ·show GI bad a b (a.length+b.length-(i)-(k+1)) (i) (k+1) _=_
      rw [←hW]
      try rw [show a.length+b.length-i-k-1=a.length+b.length-(i)-(k+1) by omega]
      try (rw [show a.length+b.length-i-k-1=(a.length+b.length-(i+1)-(k+1))+1 by omega,KZ _ _ _ _ (by omega)])
     ·simp -implicitDefEqProofs -proj only [go_sem,seval,AJ,Ha,HY]
     ·rw [HM,hrest]
      simp -implicitDefEqProofs only [HM]
      exact ⟨hah,⟨g6.1,g3.1,g4.1,gf.1,gp.1,go.1,trivial⟩,IZ.2 fun p hp'=>(gm p hp').1⟩
    ·rw [if_neg hA,if_pos hB,if_neg hM] at hR hW
     have dM:=decide_eq_false hM
     have dA:=decide_eq_false hA
     have dB:=decide_eq_true hB
     simp -implicitDefEqProofs -proj only [go_sem,seval,h3,h4,rowR_len,q1,q2,r1,r2,r3,r4,dM,dA,dB,AU (show i<9223372036854775807 by omega),AU (show k<9223372036854775807 by omega)]
     (repeat' (with_reducible refine Ak ?_ (fun h=>?_); (focus first | decide | omega); clear h; try simp -implicitDefEqProofs -proj only [go_sem,seval,eq_self,h3,h4,rowR_len,q1,q2,r1,r2,r3,r4,dM,dA,dB,AU (show i<9223372036854775807 by omega),AU (show k<9223372036854775807 by omega)]))
     obtain ⟨cap',hah,hc'⟩:=Kt ((((hat.upd (k:=b10) (x:=some (.box 147 [.d (.int .i64 0),.d (.int .i64 0),.d (.int .i64 0)])) q1 q3).upd (k:=b11) (x:=some (.box 147 [.d (.int .i64 0),.d (.int .i64 0),.d (.int .i64 0)])) r1 r3').upd (k:=b10) (x:=some (.box 147 [.d (.int .i64 x.f),.d (.int .i64 x.t),.d (.int .i64 x.v)])) q1 q3).upd (k:=b11) (x:=some (.box 147 [.d (.int .i64 y.f),.d (.int .i64 y.t),.d (.int .i64 y.v)])) r1 r3')
     refine AY ⟨i,k+1,c,cap',R,w⟩ ⟨by show i≤a.length; omega,by show k+1≤b.length; omega,by show R.length≤i+(k+1); omega,?_,?_,hc⟩ (by show a.length+b.length-(i)-(k+1)<a.length+b.length-i-k; omega) rfl ?_ ?_
     ·show GR g a b (a.length+b.length-(i)-(k+1)) (i) (k+1) _=_
      rw [←hR]
      try rw [show a.length+b.length-i-k-1=a.length+b.length-(i)-(k+1) by omega]
      try (rw [show a.length+b.length-i-k-1=(a.length+b.length-(i+1)-(k+1))+1 by omega,LN _ _ _ _ (by omega)])
     ·show GI bad a b (a.length+b.length-(i)-(k+1)) (i) (k+1) _=_
      rw [←hW]
      try rw [show a.length+b.length-i-k-1=a.length+b.length-(i)-(k+1) by omega]
      try (rw [show a.length+b.length-i-k-1=(a.length+b.length-(i+1)-(k+1))+1 by omega,KZ _ _ _ _ (by omega)])
     ·simp -implicitDefEqProofs -proj only [go_sem,seval,AJ,Ha,HY]
     ·rw [HM,hrest]
      simp -implicitDefEqProofs only [HM]
      exact ⟨hah,⟨((AF u6).trans ((AF t6).trans ((AF u6).trans ((AF t6).trans h6)))),((AF u3).trans ((AF t3).trans ((AF u3).trans ((AF t3).trans h3)))),((AF u4).trans ((AF t4).trans ((AF u4).trans ((AF t4).trans h4)))),((AF uf).trans ((AF tf).trans ((AF uf).trans ((AF tf).trans hf)))),((AF up).trans ((AF tp).trans ((AF up).trans ((AF tp).trans hp)))),((AF uo).trans ((AF to').trans ((AF uo).trans ((AF to').trans ho)))),trivial⟩,IZ.2 fun p hp'=>(AF (um p hp')).trans ((AF (tm p hp')).trans ((AF (um p hp')).trans ((AF (tm p hp')).trans (hm p hp'))))⟩
  ·have hz:GR g a b (a.length+b.length-i-k) i k R=R:=by
    generalize a.length+b.length-i-k=n
    cases n with
    | zero=>rfl
    | succ n =>
     rw [GR]
     by_cases h1:i<a.length
     ·rw [List.getElem?_eq_none (l:=b) (by omega)]
      split <;> first | rfl | simp_all
     ·rw [List.getElem?_eq_none (l:=a) (by omega)]
   have hz2:GI bad a b (a.length+b.length-i-k) i k w=w:=by
    generalize a.length+b.length-i-k=n
    cases n with
    | zero=>rfl
    | succ n =>
     rw [GI]
     by_cases h1:i<a.length
     ·rw [List.getElem?_eq_none (l:=b) (by omega)]
      split <;> first | rfl | simp_all
     ·rw [List.getElem?_eq_none (l:=a) (by omega)]
   obtain ⟨v,hv,hl,_⟩:=hat.read
   obtain ⟨v2,hv2,hl2,_⟩:=(hat.upd (k:=b6) (x:=some (.box 121 [v])) n8 (fun h e=>(hc h).2.1 e.symm)).read
   rw [AF n8,hv] at hv2
   cases hv2
   rw [←hR,hz,←hW,hz2]
   by_cases h1:i<a.length
   ·have h2:¬(k:Int)<b.length:=by omega
    simp -implicitDefEqProofs -proj only [go_sem,seval,Ha,HY,h3,h4,h6,hv,rowR_len,decide_eq_true (show (i:Int)<a.length by omega),decide_eq_false h2]
    (repeat' (with_reducible refine Ak ?_ (fun h=>?_); (focus first | decide | omega); clear h; try simp -implicitDefEqProofs -proj only [go_sem,seval,eq_self,Ha,HY,h3,h4,h6,hv,rowR_len,decide_eq_true (show (i:Int)<a.length by omega),decide_eq_false h2]))
    exact ⟨OE hl2,(AF f7).trans hf,(AF f8).trans hp⟩
   ·simp -implicitDefEqProofs -proj only [go_sem,seval,Ha,HY,h3,h4,h6,hv,rowR_len,decide_eq_false (show ¬(i:Int)<a.length by omega)]
    (repeat' (with_reducible refine Ak ?_ (fun h=>?_); (focus first | decide | omega); clear h; try simp -implicitDefEqProofs -proj only [go_sem,seval,eq_self,Ha,HY,h3,h4,h6,hv,rowR_len,decide_eq_false (show ¬(i:Int)<a.length by omega)]))
    exact ⟨OE hl2,(AF f7).trans hf,(AF f8).trans hp⟩
def Kw (f t:Int) (a b:List Int):Nat:=(min (f+a.length) (t+b.length)-max f t).toNat
def IB (g:Int→Int→Int) (f t:Int) (a b:List Int):List Int:=(List.range (Kw f t a b)).map fun (i:Nat)=>g (Hs f a (max f t+(i:Int))) (Hs t b (max f t+(i:Int)))
theorem Nj {g:Int→Int→Int} {f t:Int} {a b:List Int}:(IB g f t a b).length=Kw f t a b:=by simp [IB]
theorem ALj {g:Int→Int→Int} {f t:Int} {a b:List Int}:GR g (EP f a) (EP t b) ((EP f a).length+(EP t b).length) 0 0 []=EP (max f t) (IB g f t a b):=by
 have hA:=I0 f a
 have hB:=I0 t b
 have h:=Xp hA hB g ((EP f a).length+(EP t b).length) 0 0 [] (by omega) (by rw [OR hA,OR hB]; rfl) (by rw [OR hA,OR hB]; exact .inl rfl)
 refine PQ (val:=fun x=>g (Hs f a x) (Hs t b x)) ?_ fun i hi=>?_
 ·rw [Nj,show max f t+(Kw f t a b:Int)=max (max f t) (min (f+a.length) (t+b.length)) by unfold Kw; omega]
  exact h
 ·simp [IB]
theorem AOm {H:Heap} {bf:Nat} {w ok:Bool} {n:Int} (hf:H bf=some (Ix w)):CallW Try.prog YD [.ptr bf 0,i64 n,bv ok] H fun r H'=>r=i64 n∧H'=upd H bf (some (Ix (w||!ok))):=by
 refine Aj AVg (by simp) ?_
 cases w
 ·simp -implicitDefEqProofs -proj only [go_sem,seval,hf]
  first | rfl | simp | exact ⟨rfl,by simp⟩
 ·simp -implicitDefEqProofs -proj only [go_sem,seval,hf]
  first | rfl | simp | exact ⟨rfl,by simp⟩
def PM (of:FuncId) (caps:List AV) (more:List (Nat×Blk)) (u v:Int) (r:AV):Prop:=∀H:Heap,(∀p∈more,H p.1=some p.2)→CallW Try.prog of ([i64 u,i64 v]++caps) H fun r' H'=>r'=r∧H'=H
theorem ATB {of:FuncId} {more:List (Nat×Blk)} {u v:Int} {r:AV} (h:DataW Try.prog of [i64 u,i64 v] r):PM of [] more u v r:=fun H _=>QC h (LendL.refl _) ⟨rfl,rfl⟩
theorem ABI {of:FuncId} {caps:List AV} {more:List (Nat×Blk)} {bf bp bo:Nat} {g:Int→Int→Int} {bad:Int→Int→Bool} {u v:Int} (hof:PM of caps more u v (.tup [i64 (g u v),bv (!bad u v)])):UD RO bf bp bo of caps more g bad u v:=by
 intro w H hf hp ho hm
 refine Aj AFs (by simp) ?_
 simp -implicitDefEqProofs -proj only [go_sem,seval,hp,ho]
 refine RB (hof H hm) (fun r H' hk=>?_)
 obtain ⟨rfl,rfl⟩:=hk
 refine ⟨fun _ _ _ _ _ _ _ h=>h,?_⟩
 simp -implicitDefEqProofs -proj only [go_sem,seval]
 refine Fm (AOm hf) (fun r H' hk=>?_)
 obtain ⟨rfl,rfl⟩:=hk
 simp -implicitDefEqProofs -proj only [go_sem,seval]
 first | rfl | simp | exact ⟨rfl,by simp⟩
def LineX (H:Heap) (x:AV) (R:List Run):Prop:=(∃sz,x = .nilsl sz∧R=[])∨∃c cap cap' t,x = .own c 3 0 R.length cap∧H c=some (.row t 3 cap' (Ew R))
theorem V7 {H:Heap} {r:AV} {R:List Run} (h:NewV H r (Hm R)):∃x,r = .agg [x]∧LineX H x R:=by
 obtain ⟨y,hy⟩:∃y,Hm R=y:=⟨_,rfl⟩
 rw [hy] at h
 cases h with
 | scal _ hs=>rw [←hy] at hs; simp [KH,scal,Hi] at hs
 | nilsl=>cases hy
 | own=>cases hy
 | tup=>cases hy
 | agg xs ys hl h =>
  cases hy
  match xs,hl with
  | [x],_ =>
   refine ⟨x,rfl,?_⟩
   have h0:=h 0 x _ rfl rfl
   obtain ⟨z,hz⟩:∃z,AV.d (D.sl 3 (Ew R))=z:=⟨_,rfl⟩
   rw [hz] at h0
   cases h0 with
   | scal _ hs=>rw [←hz] at hs; simp [KH,scal,Hi] at hs
   | nilsl sz sz' =>
    refine .inl ⟨sz,rfl,?_⟩
    simp -implicitDefEqProofs only [AV.d.injEq,D.sl.injEq] at hz
    exact List.map_eq_nil_iff.1 hz.2
   | own b sz cap t cap' xs hb hs =>
    simp -implicitDefEqProofs only [AV.d.injEq,D.sl.injEq] at hz
    obtain ⟨rfl,rfl⟩:=hz
    exact .inr ⟨b,cap,cap',t,by rw [rowR_len],hb⟩
   | agg=>cases hz
   | tup=>cases hz
theorem LineX.mono {H H':Heap} {x:AV} {R:List Run} (h:LineX H x R) (hs:∀k y,H k=some y→H' k=some y):LineX H' x R:=by
 rcases h with h | ⟨c,cap,cap',t,h1,h2⟩
 ·exact .inl h
 ·exact .inr ⟨c,cap,cap',t,h1,hs c _ h2⟩
theorem LineX.lend {H:Heap} {x:AV} {R:List Run} (h:LineX H x R):LendV H (.agg [x]) (Hm R):=by
 refine .aggL (GA ?_ Hl)
 rcases h with ⟨sz,rfl,rfl⟩ | ⟨c,cap,cap',t,rfl,h2⟩
 ·exact .nilsl _ _
 ·rw [←rowR_len]
  exact .own _ _ _ _ _ _ h2
def MG:AV:=.tup [.agg [i64 0,.nilsl 5],bv false]
open Classical in
theorem ANA {H:Heap} {bf:Nat} {w:Bool} {x:AV} {l:List Int} (hf:H bf=some (Ix w)) (hx:LineX H x (EP 0 l)) (hl:l.length≤999999):CallW Try.prog AIi [.ptr bf 0,.agg [x]] H fun r H'=>(r=if w=true then MG else if ER l then .tup [FV l,bv true] else .tup [Fg 0 [],bv false])∧∀k y,H k=some y→H' k=some y:=by
 have h2:=PP (l:=l) hl
 obtain ⟨m,G,u,hu⟩:∃(m:Int) (G:List Grp) (u:Bool),(if ER l then AV.tup [FV l,bv true] else .tup [Fg 0 [],bv false]) = .tup [Fg m G,bv u]:=by
  by_cases h:ER l
  ·rw [if_pos h]; exact ⟨_,_,_,rfl⟩
  ·rw [if_neg h]; exact ⟨_,_,_,rfl⟩
 rw [hu] at h2 ⊢
 generalize EP 0 l=R at *
 rcases hx with ⟨sz,rfl,rfl⟩ | ⟨c,cap,cap',t,rfl,hc⟩
 ·refine Aj Sp (by simp) ?_
  simp -implicitDefEqProofs -proj only [go_sem,seval]
  refine AI (fun b3 hb3=>?_)
  replace hb3:H b3=none:=hb3
  obtain ⟨n1,n2⟩:=AK hb3 hf
  simp -implicitDefEqProofs -proj only [go_sem,seval]
  refine AI (fun b4 hb4=>?_)
  replace hb4:upd H b3 _ b4=none:=hb4
  obtain ⟨n3,n4⟩:=AK hb4 AN
  obtain ⟨n5,n6⟩:=AK hb4 (by rw [AF n1]; exact hf)
  have hfr:∀k y,H k=some y→(¬b3=k)∧¬b4=k:=fun k y hk=>by
   have e:=AK hb3 hk
   exact ⟨e.1,(AK hb4 (by rw [AF e.1]; exact hk)).1⟩
  cases w
  ·simp -implicitDefEqProofs -proj only [go_sem,seval,n1,n2,n3,n4,n5,n6,hf]
   refine MN h2 (GA (LineX.lend (.inl ⟨_,rfl,rfl⟩)) Hl) ?_
   simp -implicitDefEqProofs -proj only [go_sem,seval,n1,n2,n3,n4,n5,n6]
   try refine ⟨rfl,?_⟩
   refine fun k y hk=>?_
   obtain ⟨e1,e2⟩:=hfr k y hk
   simp -implicitDefEqProofs only [AQ,e1,e2,↓reduceIte]
   exact hk
  ·simp -implicitDefEqProofs -proj only [go_sem,seval,n1,n2,n3,n4,n5,n6,hf]
   try refine ⟨rfl,?_⟩
   refine fun k y hk=>?_
   obtain ⟨e1,e2⟩:=hfr k y hk
   simp -implicitDefEqProofs only [AQ,e1,e2,↓reduceIte]
   exact hk
 ·refine Aj Sp (by simp) ?_
  simp -implicitDefEqProofs -proj only [go_sem,seval]
  refine AI (fun b3 hb3=>?_)
  replace hb3:H b3=none:=hb3
  obtain ⟨n1,n2⟩:=AK hb3 hf
  simp -implicitDefEqProofs -proj only [go_sem,seval]
  refine AI (fun b4 hb4=>?_)
  replace hb4:upd H b3 _ b4=none:=hb4
  obtain ⟨n3,n4⟩:=AK hb4 AN
  obtain ⟨n5,n6⟩:=AK hb4 (by rw [AF n1]; exact hf)
  have hfr:∀k y,H k=some y→(¬b3=k)∧¬b4=k:=fun k y hk=>by
   have e:=AK hb3 hk
   exact ⟨e.1,(AK hb4 (by rw [AF e.1]; exact hk)).1⟩
  obtain ⟨q1,q2⟩:=hfr c _ hc
  cases w
  ·simp -implicitDefEqProofs -proj only [go_sem,seval,n1,n2,n3,n4,n5,n6,hf]
   refine MN h2 (GA (LineX.lend (.inr ⟨c,cap,cap',t,rfl,?_⟩)) Hl) ?_
   ·show upd (upd H b3 _) b4 _ c=_
    rw [AF q2,AF q1]
    exact hc
   simp -implicitDefEqProofs -proj only [go_sem,seval,n1,n2,n3,n4,n5,n6]
   try refine ⟨rfl,?_⟩
   refine fun k y hk=>?_
   obtain ⟨e1,e2⟩:=hfr k y hk
   simp -implicitDefEqProofs only [AQ,e1,e2,↓reduceIte]
   exact hk
  ·simp -implicitDefEqProofs -proj only [go_sem,seval,n1,n2,n3,n4,n5,n6,hf]
   try refine ⟨rfl,?_⟩
   refine fun k y hk=>?_
   obtain ⟨e1,e2⟩:=hfr k y hk
   simp -implicitDefEqProofs only [AQ,e1,e2,↓reduceIte]
   exact hk
theorem AJZ {la lb:List Int} (ha:ER la) (hb:ER lb) (hlen:la.length=lb.length):DataW Try.prog AOn [FV la,FV lb] (.tup [Hm (EP 0 la),Hm (EP 0 lb),bv true]):=by
 have g1:=Uq ha
 have g2:=Uq hb
 have l1:=PS ha
 have l2:=PS hb
 have ea:FV la=Fg ((la.length:Int)-1) (Ef la):=rfl
 have eb:FV lb=Fg ((la.length:Int)-1) (Ef lb):=by rw [hlen]
 rw [ea] at g1 l1 ⊢
 rw [eb] at g2 l2 ⊢
 clear ea eb
 generalize Ef la=A at *
 generalize Ef lb=B at *
 generalize EP 0 la=Ra at *
 generalize EP 0 lb=Rb at *
 generalize (la.length:Int)-1=m at *
 refine Aj AEP (by simp) ?_
 simp -implicitDefEqProofs -proj only [go_sem,seval]
 refine AI (fun b2 hb2=>?_)
 simp -implicitDefEqProofs -proj only [go_sem,seval]
 refine AI (fun b3 hb3=>?_)
 replace hb3:upd Heap.none b2 _ b3=none:=hb3
 obtain ⟨n1,n2⟩:=AK hb3 AN
 simp -implicitDefEqProofs -proj only [go_sem,seval,n1,n2]
 refine AI (fun b4 hb4=>?_)
 replace hb4:upd (upd Heap.none b2 _) b3 _ b4=none:=hb4
 obtain ⟨n3,n4⟩:=AK hb4 AN
 obtain ⟨n5,n6⟩:=AK hb4 (by rw [AF n1]; exact AN)
 simp -implicitDefEqProofs -proj only [go_sem,seval,n1,n2,n3,n4,n5,n6]
 refine AI (fun b5 hb5=>?_)
 replace hb5:upd (upd (upd Heap.none b2 _) b3 _) b4 _ b5=none:=hb5
 obtain ⟨n7,n8⟩:=AK hb5 AN
 obtain ⟨n9,n10⟩:=AK hb5 (by rw [AF n3]; exact AN)
 obtain ⟨n11,n12⟩:=AK hb5 (by rw [AF n5,AF n1]; exact AN)
 simp -implicitDefEqProofs -proj only [go_sem,seval,n1,n2,n3,n4,n5,n6,n7,n8,n9,n10,n11,n12,decide_eq_true (rfl:m=m),ne_eq,not_true_eq_false,not_false_eq_true]
 refine AL g1 ?_
 simp -implicitDefEqProofs -proj only [go_sem,seval,n1,n2,n3,n4,n5,n6,n7,n8,n9,n10,n11,n12]
 refine AL g2 ?_
 simp -implicitDefEqProofs -proj only [go_sem,seval,n1,n2,n3,n4,n5,n6,n7,n8,n9,n10,n11,n12]
 refine AL l1 ?_
 simp -implicitDefEqProofs -proj only [go_sem,seval,n1,n2,n3,n4,n5,n6,n7,n8,n9,n10,n11,n12]
 refine AI (fun b7 hb7=>?_)
 replace hb7:upd (upd (upd (upd Heap.none b2 _) b3 _) b4 _) b5 _ b7=none:=hb7
 obtain ⟨p1,p2⟩:=AK hb7 AN
 obtain ⟨p3,p4⟩:=AK hb7 (by rw [AF n7]; exact AN)
 obtain ⟨p5,p6⟩:=AK hb7 (by rw [AF n9,AF n3]; exact AN)
 obtain ⟨p7,p8⟩:=AK hb7 (by rw [AF n11,AF n5,AF n1]; exact AN)
 simp -implicitDefEqProofs -proj only [go_sem,seval,n1,n2,n3,n4,n5,n6,n7,n8,n9,n10,n11,n12,p1,p2,p3,p4,p5,p6,p7,p8]
 refine AL l2 ?_
 simp -implicitDefEqProofs -proj only [go_sem,seval,n1,n2,n3,n4,n5,n6,n7,n8,n9,n10,n11,n12,p1,p2,p3,p4,p5,p6,p7,p8]
 refine AI (fun b9 hb9=>?_)
 simp -implicitDefEqProofs only [AQ,n1,n2,n3,n4,n5,n6,n7,n8,n9,n10,n11,n12,p1,p2,p3,p4,p5,p6,p7,p8,↓reduceIte] at hb9
 have q2:¬b7=b9:=fun e=>by subst e; simp [n1,n2,n3,n4,n5,n6,n7,n8,n9,n10,n11,n12,p1,p2,p3,p4,p5,p6,p7,p8] at hb9
 have q1:¬b9=b7:=fun e=>q2 e.symm
 have q4:¬b5=b9:=fun e=>by subst e; simp [n1,n2,n3,n4,n5,n6,n7,n8,n9,n10,n11,n12,p1,p2,p3,p4,p5,p6,p7,p8] at hb9
 have q3:¬b9=b5:=fun e=>q4 e.symm
 have q6:¬b4=b9:=fun e=>by subst e; simp [n1,n2,n3,n4,n5,n6,n7,n8,n9,n10,n11,n12,p1,p2,p3,p4,p5,p6,p7,p8] at hb9
 have q5:¬b9=b4:=fun e=>q6 e.symm
 simp -implicitDefEqProofs -proj only [go_sem,seval,n1,n2,n3,n4,n5,n6,n7,n8,n9,n10,n11,n12,p1,p2,p3,p4,p5,p6,p7,p8,q1,q2,q3,q4,q5,q6]
 (repeat' (with_reducible refine Ak ?_ (fun h=>?_); (focus first | decide | omega); clear h; try simp -implicitDefEqProofs -proj only [go_sem,seval,eq_self,n1,n2,n3,n4,n5,n6,n7,n8,n9,n10,n11,n12,p1,p2,p3,p4,p5,p6,p7,p8,q1,q2,q3,q4,q5,q6]))
 exact AM rfl
theorem R4 {H:Heap}:∀{l:List (Nat×Blk)},AZ H l→∀k,Ac l k=none∨Ac l k=H k
 | [],_,_=>.inl rfl
 | (b,x)::l,h,k=>by
  rw [Av]
  by_cases e:k=b
  ·rw [if_pos e]
   subst e
   exact .inr h.1.symm
  ·rw [if_neg e]
   exact R4 h.2 k
open Classical in
noncomputable def NJ (la lb:List Int) (g:Int→Int→Int) (bad:Int→Int→Bool):AV:=if GI bad (EP 0 la) (EP 0 lb) ((EP 0 la).length+(EP 0 lb).length) 0 0 false=true then MG else if ER (IB g 0 0 la lb) then .tup [FV (IB g 0 0 la lb),bv true] else .tup [Fg 0 [],bv false]
set_option maxHeartbeats 4000000 in
open Classical in
theorem AT7 {la lb:List Int} {of:FuncId} {caps:List AV} {more:List (Nat×Blk)} {g:Int→Int→Int} {bad:Int→Int→Bool} (hmd:(AP more).Nodup) (ha:ER la) (hb:ER lb) (hlen:la.length=lb.length) (hof:∀u v,F4 u→F4 v→PM of caps more u v (.tup [i64 (g u v),bv (!bad u v)])):CallW Try.prog OQ [FV la,FV lb,.fn of caps] (Ac more) fun r' H'=>r'=NJ la lb g bad:=by
 have hl:=AJZ ha hb hlen
 have hA:=(KY (KI.2 ha)).2
 have hB:=(KY (KI.2 hb)).2
 have hsA:=(KY (KI.2 ha)).1
 have hsB:=(KY (KI.2 hb)).1
 have hZ:(IB g 0 0 la lb).length≤999999:=by rw [Nj]; unfold Kw; have:=ha.2.1; have:=hb.2.1; omega
 have hzip:=fun bf bp bo d1 d2 d3 hmx=>ATk (a:=EP 0 la) (b:=EP 0 lb) (f:=RO) (of:=of) (caps:=caps) (more:=more) (bf:=bf) (bp:=bp) (bo:=bo) (g:=g) (bad:=bad) d1 d2 d3 hmd hmx (fun x hx y hy=>ABI (hof _ _ (hsA x hx).2 (hsB y hy).2)) (by omega) (by omega)
 rw [ALj] at hzip
 rw [show max (0:Int) 0=0 from rfl] at hzip
 have hback:=fun H bf x h1 h2=>ANA (H:=H) (bf:=bf) (w:=GI bad (EP 0 la) (EP 0 lb) ((EP 0 la).length+(EP 0 lb).length) 0 0 false) (x:=x) (l:=IB g 0 0 la lb) h1 h2 hZ
 unfold NJ
 generalize GI bad (EP 0 la) (EP 0 lb) ((EP 0 la).length+(EP 0 lb).length) 0 0 false=z at *
 obtain ⟨RR,hRR⟩:∃RR,(if z=true then MG else if ER (IB g 0 0 la lb) then AV.tup [FV (IB g 0 0 la lb),bv true] else .tup [Fg 0 [],bv false])=RR:=⟨_,rfl⟩
 have hsh:RR=MG∨∃m G u,RR = .tup [Fg m G,bv u]:=by
  rw [←hRR]
  by_cases h1:z=true
  ·rw [if_pos h1]; exact .inl rfl
  ·rw [if_neg h1]
   by_cases h:ER (IB g 0 0 la lb)
   ·rw [if_pos h]; exact .inr ⟨_,_,_,rfl⟩
   ·rw [if_neg h]; exact .inr ⟨_,_,_,rfl⟩
 simp -implicitDefEqProofs only [hRR] at hback
 rw [hRR]
 generalize EP 0 (IB g 0 0 la lb)=ZZ at *
 generalize Ef la=A at *
 generalize Ef lb=B at *
 generalize EP 0 la=Ra at *
 generalize EP 0 lb=Rb at *
 generalize (la.length:Int)-1=m at *
 generalize (lb.length:Int)-1=n at *
 have hm0:∀p∈more,Ac more p.1=some p.2:=IZ.1 (EV hmd)
 generalize Ac more=H0 at hm0 ⊢
 refine Aj ALK (by simp) ?_
 simp -implicitDefEqProofs -proj only [go_sem,seval]
 refine AI (fun b3 hb3=>?_)
 replace hb3:H0 b3=none:=hb3
 have m3:∀p∈more,¬b3=p.1:=fun p hp=>(AK hb3 (hm0 p hp)).1
 simp -implicitDefEqProofs -proj only [go_sem,seval]
 refine AI (fun b4 hb4=>?_)
 replace hb4:upd H0 b3 _ b4=none:=hb4
 obtain ⟨n1,n2⟩:=AK hb4 AN
 have m4:∀p∈more,¬b4=p.1:=fun p hp=>(AK hb4 (by rw [AF (m3 p hp)]; exact hm0 p hp)).1
 simp -implicitDefEqProofs -proj only [go_sem,seval,n1,n2]
 refine AI (fun b5 hb5=>?_)
 replace hb5:upd (upd H0 b3 _) b4 _ b5=none:=hb5
 obtain ⟨n3,n4⟩:=AK hb5 AN
 have m5:∀p∈more,¬b5=p.1:=fun p hp=>(AK hb5 (by rw [AF (m4 p hp),AF (m3 p hp)]; exact hm0 p hp)).1
 obtain ⟨n5,n6⟩:=AK hb5 (by rw [AF n1]; exact AN)
 simp -implicitDefEqProofs -proj only [go_sem,seval,n1,n2,n3,n4,n5,n6]
 refine AI (fun b6 hb6=>?_)
 replace hb6:upd (upd (upd H0 b3 _) b4 _) b5 _ b6=none:=hb6
 obtain ⟨n7,n8⟩:=AK hb6 AN
 have m6:∀p∈more,¬b6=p.1:=fun p hp=>(AK hb6 (by rw [AF (m5 p hp),AF (m4 p hp),AF (m3 p hp)]; exact hm0 p hp)).1
 obtain ⟨n9,n10⟩:=AK hb6 (by rw [AF n3]; exact AN)
 obtain ⟨n11,n12⟩:=AK hb6 (by rw [AF n5,AF n1]; exact AN)
 simp -implicitDefEqProofs -proj only [go_sem,seval,n1,n2,n3,n4,n5,n6,n7,n8,n9,n10,n11,n12]
 refine AL hl ?_
 simp -implicitDefEqProofs -proj only [go_sem,seval,n1,n2,n3,n4,n5,n6,n7,n8,n9,n10,n11,n12]
 refine AI (fun b8 hb8=>?_)
 replace hb8:upd (upd (upd (upd H0 b3 _) b4 _) b5 _) b6 _ b8=none:=hb8
 obtain ⟨p1,p2⟩:=AK hb8 AN
 have m8:∀p∈more,¬b8=p.1:=fun p hp=>(AK hb8 (by rw [AF (m6 p hp),AF (m5 p hp),AF (m4 p hp),AF (m3 p hp)]; exact hm0 p hp)).1
 obtain ⟨p3,p4⟩:=AK hb8 (by rw [AF n7]; exact AN)
 simp -implicitDefEqProofs -proj only [go_sem,seval,n1,n2,n3,n4,n5,n6,n7,n8,n9,n10,n11,n12,p1,p2,p3,p4]
 refine AI (fun b9 hb9=>?_)
 replace hb9:upd (upd (upd (upd (upd H0 b3 _) b4 _) b5 _) b6 _) b8 _ b9=none:=hb9
 obtain ⟨q1,q2⟩:=AK hb9 AN
 have m9:∀p∈more,¬b9=p.1:=fun p hp=>(AK hb9 (by rw [AF (m8 p hp),AF (m6 p hp),AF (m5 p hp),AF (m4 p hp),AF (m3 p hp)]; exact hm0 p hp)).1
 obtain ⟨q3,q4⟩:=AK hb9 (by rw [AF p1]; exact AN)
 obtain ⟨q5,q6⟩:=AK hb9 (by rw [AF p3,AF n7]; exact AN)
 simp -implicitDefEqProofs -proj only [go_sem,seval,n1,n2,n3,n4,n5,n6,n7,n8,n9,n10,n11,n12,p1,p2,p3,p4,q1,q2,q3,q4,q5,q6]
 refine AI (fun bf hbf=>?_)
 simp -implicitDefEqProofs only [AQ,n1,n2,n3,n4,n5,n6,n7,n8,n9,n10,n11,n12,p1,p2,p3,p4,q1,q2,q3,q4,q5,q6,↓reduceIte] at hbf
 have mf:∀p∈more,¬bf=p.1:=fun p hp e=>by
  rw [e] at hbf
  simp [m3 p hp,m4 p hp,m5 p hp,m6 p hp,m8 p hp,m9 p hp,hm0 p hp] at hbf
 have r5:¬b5=bf:=fun e=>by subst e; simp [n1,n2,n3,n4,n5,n6,n7,n8,n9,n10,n11,n12,p1,p2,p3,p4,q1,q2,q3,q4,q5,q6] at hbf
 have r6:¬b6=bf:=fun e=>by subst e; simp [n1,n2,n3,n4,n5,n6,n7,n8,n9,n10,n11,n12,p1,p2,p3,p4,q1,q2,q3,q4,q5,q6] at hbf
 have r8:¬b8=bf:=fun e=>by subst e; simp [n1,n2,n3,n4,n5,n6,n7,n8,n9,n10,n11,n12,p1,p2,p3,p4,q1,q2,q3,q4,q5,q6] at hbf
 have r9:¬b9=bf:=fun e=>by subst e; simp [n1,n2,n3,n4,n5,n6,n7,n8,n9,n10,n11,n12,p1,p2,p3,p4,q1,q2,q3,q4,q5,q6] at hbf
 have r5':¬bf=b5:=fun e=>r5 e.symm
 have r6':¬bf=b6:=fun e=>r6 e.symm
 have r8':¬bf=b8:=fun e=>r8 e.symm
 have r9':¬bf=b9:=fun e=>r9 e.symm
 simp -implicitDefEqProofs -proj only [go_sem,seval,n1,n2,n3,n4,n5,n6,n7,n8,n9,n10,n11,n12,p1,p2,p3,p4,q1,q2,q3,q4,q5,q6,r5,r6,r8,r9,r5',r6',r8',r9']
 refine AI (fun bp hbp=>?_)
 simp -implicitDefEqProofs only [AQ,n1,n2,n3,n4,n5,n6,n7,n8,n9,n10,n11,n12,p1,p2,p3,p4,q1,q2,q3,q4,q5,q6,r5,r6,r8,r9,r5',r6',r8',r9',↓reduceIte] at hbp
 have mp:∀p∈more,¬bp=p.1:=fun p hp e=>by
  rw [e] at hbp
  simp [mf p hp,m3 p hp,m4 p hp,m5 p hp,m6 p hp,m8 p hp,m9 p hp,hm0 p hp] at hbp
 have s5:¬b5=bp:=fun e=>by subst e; simp [n1,n2,n3,n4,n5,n6,n7,n8,n9,n10,n11,n12,p1,p2,p3,p4,q1,q2,q3,q4,q5,q6,r5,r6,r8,r9,r5',r6',r8',r9'] at hbp
 have s6:¬b6=bp:=fun e=>by subst e; simp [n1,n2,n3,n4,n5,n6,n7,n8,n9,n10,n11,n12,p1,p2,p3,p4,q1,q2,q3,q4,q5,q6,r5,r6,r8,r9,r5',r6',r8',r9'] at hbp
 have s8:¬b8=bp:=fun e=>by subst e; simp [n1,n2,n3,n4,n5,n6,n7,n8,n9,n10,n11,n12,p1,p2,p3,p4,q1,q2,q3,q4,q5,q6,r5,r6,r8,r9,r5',r6',r8',r9'] at hbp
 have s9:¬b9=bp:=fun e=>by subst e; simp [n1,n2,n3,n4,n5,n6,n7,n8,n9,n10,n11,n12,p1,p2,p3,p4,q1,q2,q3,q4,q5,q6,r5,r6,r8,r9,r5',r6',r8',r9'] at hbp
 have sf:¬bf=bp:=fun e=>by subst e; simp [n1,n2,n3,n4,n5,n6,n7,n8,n9,n10,n11,n12,p1,p2,p3,p4,q1,q2,q3,q4,q5,q6,r5,r6,r8,r9,r5',r6',r8',r9'] at hbp
 have s5':¬bp=b5:=fun e=>s5 e.symm
 have s6':¬bp=b6:=fun e=>s6 e.symm
 have s8':¬bp=b8:=fun e=>s8 e.symm
 have s9':¬bp=b9:=fun e=>s9 e.symm
 have sf':¬bp=bf:=fun e=>sf e.symm
 simp -implicitDefEqProofs -proj only [go_sem,seval,n1,n2,n3,n4,n5,n6,n7,n8,n9,n10,n11,n12,p1,p2,p3,p4,q1,q2,q3,q4,q5,q6,r5,r6,r8,r9,r5',r6',r8',r9',s5,s6,s8,s9,sf,s5',s6',s8',s9',sf']
 (repeat' (with_reducible refine Ak ?_ (fun h=>?_); (focus first | decide | omega); clear h; try simp -implicitDefEqProofs -proj only [go_sem,seval,eq_self,n1,n2,n3,n4,n5,n6,n7,n8,n9,n10,n11,n12,p1,p2,p3,p4,q1,q2,q3,q4,q5,q6,r5,r6,r8,r9,r5',r6',r8',r9',s5,s6,s8,s9,sf,s5',s6',s8',s9',sf']))
 have hz3:=hzip bf bp b5 sf (fun e=>r5 e.symm) (fun e=>s5 e.symm) (fun p hp=>⟨fun e=>mf p hp e.symm,fun e=>mp p hp e.symm,fun e=>m5 p hp e.symm⟩)
 refine RB (IL hz3 (R4 ?_)) (fun r H' hk=>?_)
 ·simp -implicitDefEqProofs only [HM]
  refine ⟨?_,IZ.2 fun p hp=>?_⟩
  ·simp -implicitDefEqProofs -proj only [go_sem,seval,AZ,n1,n2,n3,n4,n5,n6,n7,n8,n9,n10,n11,n12,p1,p2,p3,p4,q1,q2,q3,q4,q5,q6,r5,r6,r8,r9,r5',r6',r8',r9',s5,s6,s8,s9,sf,s5',s6',s8',s9',sf']
  ·simp -implicitDefEqProofs -proj only [go_sem,seval,n1,n2,n3,n4,n5,n6,n7,n8,n9,n10,n11,n12,p1,p2,p3,p4,q1,q2,q3,q4,q5,q6,r5,r6,r8,r9,r5',r6',r8',r9',s5,s6,s8,s9,sf,s5',s6',s8',s9',sf',m3 p hp,m4 p hp,m5 p hp,m6 p hp,m8 p hp,m9 p hp,mf p hp,mp p hp,hm0 p hp]
 obtain ⟨H1,⟨hv,hfl,hpp⟩,hsub,hfr⟩:=hk
 obtain ⟨x,rfl,hx⟩:=V7 hv
 have z6:Ac more b6=none:=by
  cases hk:Ac more b6 with
  | none=>rfl
  | some x =>
   exfalso
   have:b6∈AP more:=NZ (by rw [hk]; simp)
   obtain ⟨p,hp,e⟩:=List.mem_map.1 this
   exact m6 p hp e.symm
 have h6:=hfr b6 (.box 58 [i64 0,.nilsl 5]) (by simp -implicitDefEqProofs -proj only [go_sem,seval,n1,n2,n3,n4,n5,n6,n7,n8,n9,n10,n11,n12,p1,p2,p3,p4,q1,q2,q3,q4,q5,q6,r5,r6,r8,r9,r5',r6',r8',r9',s5,s6,s8,s9,sf,s5',s6',s8',s9',sf']) (by rw [Nv (fun q hq=>by simp -implicitDefEqProofs only [List.mem_cons,List.not_mem_nil,or_false] at hq; rcases hq with rfl | rfl | rfl <;> first | exact r6 | exact s6 | exact n7)]; exact z6)
 refine ⟨?_,?_⟩
 ·intro d hd k off hdk e cells hkk
  rw [List.mem_singleton] at hd
  subst hd
  simp -implicitDefEqProofs -proj only [go_sem,seval,AV.ptr.injEq] at hdk
  obtain ⟨rfl,rfl⟩:=hdk
  have hpp':=hsub bp _ hpp
  simp -implicitDefEqProofs -proj only [go_sem,seval,n1,n2,n3,n4,n5,n6,n7,n8,n9,n10,n11,n12,p1,p2,p3,p4,q1,q2,q3,q4,q5,q6,r5,r6,r8,r9,r5',r6',r8',r9',s5,s6,s8,s9,sf,s5',s6',s8',s9',sf',Option.some.injEq] at hkk
  rw [←hkk]
  exact hpp'
 ·simp -implicitDefEqProofs -proj only [go_sem,seval]
  refine Fm (hback H' bf x (hsub bf _ hfl) (hx.mono hsub)) (fun rr H2 hk=>?_)
  obtain ⟨rfl,hk2⟩:=hk
  have h6':=hk2 b6 _ h6
  rcases hsh with rfl | ⟨m',G',u',rfl⟩
  ·simp -implicitDefEqProofs -proj only [go_sem,seval,MG,h6']
  ·simp -implicitDefEqProofs -proj only [go_sem,seval,h6']
theorem AUF {la lb:List Int} {of:FuncId} {g:Int→Int→Int} {bad:Int→Int→Bool} (ha:ER la) (hb:ER lb) (hlen:la.length=lb.length) (hof:∀u v,F4 u→F4 v→DataW Try.prog of [i64 u,i64 v] (.tup [i64 (g u v),bv (!bad u v)])):CallW Try.prog OQ [FV la,FV lb,.fn of []] Heap.none fun r' H'=>LendV H' r' (NJ la lb g bad) :=
 CallW.mono' (AT7 (caps:=[]) (more:=[]) List.nodup_nil ha hb hlen (fun u v hu hv=>ATB (hof u v hu hv))) fun r H' h=>AM h
end Go.Proofs.Ytmhmmomnfbfkiaa.Abs
