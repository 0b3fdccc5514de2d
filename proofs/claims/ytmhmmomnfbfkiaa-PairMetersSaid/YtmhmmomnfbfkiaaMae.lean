/- Contracts of the machine and the contracts of one law (joined by kmerge.py). No claim stands here. -/
import Derived.Below
import Derived.Carry
import Derived.ChangeCalls
import Derived.ChangeOld
import Derived.IntWalk
import Derived.KernelRfl
import Derived.Laws.Append
import Derived.Laws.AppendOwn
import Derived.Laws.Cells
import Derived.Laws.CopyRow
import Derived.Laws.Entries
import Derived.Laws.MakeOwn
import Derived.Laws.NewFold
import Derived.Laws.Rows
import Derived.Laws.StructEq
import Derived.OpenShut
import Derived.Orders
import Derived.OrdersIn
import Derived.ProofKit
import Derived.RangeFuncLeaves
import Derived.RangeFuncSeq
import Derived.SizedLaws
import Derived.TacticsIn
import Derived.WalkKit
import Derived.Test.YtmhmmomnfbfkiaaMad
set_option maxRecDepth 100000
set_option linter.unusedSimpArgs false
set_option linter.unusedVariables false
namespace Go.Proofs.Ytmhmmomnfbfkiaa.Abs
open Go Go.RowKit Go.Proofs
attribute [local go_sem] Be DZ Bb DI DT Bf Cp Ae Ao Ce CR Cf CY Dn D1 Dh BG Bp Cy CA DJ ED Ds Dr Bu Dl DN CW Bx B7 CS Cn Bk C0 Cz BZ C9 CC Ch Di DO Ck B9 Bo Ct DB C2 DV BY Bq BP B1 Bt Cv BQ CI D9 CD BV CM CB D4 Bv EA DW Bs Bh CL Bd Dg BW BA CK Bj BC Bm Db A7 BT DH CO Dj Cq EF Br C7 CJ CX CP DF C4 DQ C8 CE Cd Cb Dm Bn D2 DX Df CQ Dz BX DR BE DL BB Ay D8 BS BM AF ev AZ Aa Al BD Au B0 DD Dy Cr Af Ai CF Cl Cg DP Dv DU B3 B2 DK EE CU CG C3 BK D0 Bw Da CZ Cw DG Bz Bg A9 AU setSeg nth seg mapD Aj Ax AL A6 BL BO Aw AY cond_true cond_false Co BI BF A8 BJ Cx Dp List.cons_append List.nil_append Bool.not_true Bool.not_false Bool.and_true Bool.and_self Nat.lt_add_left_iff_pos Nat.zero_add Nat.add_zero List.drop_succ_cons List.drop_zero List.take_succ_cons List.take_zero beq_self_eq_true Bool.false_eq_true C6 Cj EB DS B8 Dq Cm Dt D7 Ap and_self and_true true_and Ci Cs DE Dw BN DC D6 Do Ba Ca Cc By Du Dc DM C5 CV De An As Az Ah Bi Bc Dd BU BH CT EC Cu CH Bl D5 List.length_cons List.length_nil Nat.min_def Int.cast_ofNat_Int Int.natCast_zero Int.natCast_one decide_true decide_false List.getElem?_cons_zero List.getElem?_cons_succ CN D3 C1 Dk DA Dx
structure Grp where
 f:Int
 v:Int
 w:Int
 r:Int
 c:Int
 deriving DecidableEq
def Ey (w r:Int) (a:Run):List Run→Nat
 | []=>0
 | b::l=>if b.f-a.f=w∧b.v-a.v=r then Ey w r b l+1 else 0
theorem Q2 {w r:Int}:∀{l:List Run} {a:Run},Ey w r a l≤l.length
 | [],a=>Nat.le_refl _
 | b::l,a=>by
  rw [Ey]
  split
  ·have:=@Q2 w r l b
   simp -implicitDefEqProofs only [List.length_cons]; omega
  ·omega
def ES (a:Run):List Run→Grp×Nat
 | []=>(⟨a.f,a.v,0,0,1⟩,1)
 | b::l=>(⟨a.f,a.v,b.f-a.f,b.v-a.v,((Ey (b.f-a.f) (b.v-a.v) a (b::l)+1:Nat):Int)⟩,Ey (b.f-a.f) (b.v-a.v) a (b::l)+1)
theorem J1 {a:Run} {l:List Run}:1≤(ES a l).2∧(ES a l).2≤l.length+1∧(ES a l).1.c=(ES a l).2:=by
 cases l with
 | nil=>exact ⟨Nat.le_refl _,Nat.le_refl _,rfl⟩
 | cons b l =>
  have:=@Q2 (b.f-a.f) (b.v-a.v) (b::l) a
  exact ⟨by show 1≤Ey _ _ _ _+1; omega,by show Ey _ _ _ _+1≤_; omega,rfl⟩
def JD:Nat→List Run→List Grp
 | 0,_=>[]
 | _+1,[]=>[]
 | n+1,a::l=>(ES a l).1::JD n ((a::l).drop (ES a l).2)
def F6 (R:List Run):List Grp:=JD R.length R
theorem NS:∀{n:Nat} {R:List Run},R.length≤n→JD n R=JD R.length R
 | 0,[],_=>rfl
 | n+1,[],_=>rfl
 | n+1,a::l,h=>by
  obtain ⟨h1,h2,_⟩:=@J1 a l
  have hl:((a::l).drop (ES a l).2).length≤l.length:=by rw [List.length_drop]; simp -implicitDefEqProofs only [List.length_cons]; omega
  simp -implicitDefEqProofs only [List.length_cons] at h
  rw [List.length_cons,JD,JD,NS (n:=n) (by omega),NS (n:=l.length) hl]
theorem Nu {a:Run} {l:List Run}:F6 (a::l)=(ES a l).1::F6 ((a::l).drop (ES a l).2):=by
 obtain ⟨h1,h2,_⟩:=@J1 a l
 have hl:((a::l).drop (ES a l).2).length≤l.length:=by rw [List.length_drop]; simp -implicitDefEqProofs only [List.length_cons]; omega
 unfold F6
 rw [List.length_cons,JD,NS (n:=l.length) hl]
theorem QV:F6 []=[]:=rfl
theorem Os:∀{n:Nat} {R:List Run},R.length≤n→(F6 R).length≤R.length
 | _,[],_=>Nat.le_refl _
 | 0,a::l,h=>absurd h (by simp)
 | n+1,a::l,h=>by
  obtain ⟨h1,h2,_⟩:=@J1 a l
  simp -implicitDefEqProofs only [List.length_cons] at h
  have hl:((a::l).drop (ES a l).2).length≤l.length:=by rw [List.length_drop]; simp -implicitDefEqProofs only [List.length_cons]; omega
  have:=Os (n:=n) (R:=(a::l).drop (ES a l).2) (by omega)
  rw [Nu]
  simp -implicitDefEqProofs only [List.length_cons]
  omega
def OD (g:Grp) (q:Int):Int:=if g.w<1 then g.v else g.v+min ((q-g.f).tdiv g.w) (g.c-1)*g.r
def Ko:List Grp→Int→Option Int
 | [],_=>none
 | g::G,q=>match Ko G q with
  | some v=>some v
  | none=>if g.f≤q then some (OD g q) else none
theorem QE {w r:Int}:∀{l:List Run} {a:Run} (j:Nat),j<Ey w r a l→∃h:j<l.length,l[j].f=a.f+(j+1)*w∧l[j].v=a.v+(j+1)*r
 | [],a,j,h=>absurd h (Nat.not_lt_zero _)
 | b::l,a,j,h=>by
  rw [Ey] at h
  split at h
  ·next hc =>
   cases j with
   | zero=>exact ⟨by simp,by simp -implicitDefEqProofs only [List.getElem_cons_zero]; omega,by simp -implicitDefEqProofs only [List.getElem_cons_zero]; omega⟩
   | succ j =>
    obtain ⟨g1,g2,g3⟩:=QE (w:=w) (r:=r) (l:=l) (a:=b) j (by omega)
    refine ⟨by simpa using g1,?_,?_⟩
    ·simp -implicitDefEqProofs only [List.getElem_cons_succ]
     rw [g2,show (((j+1:Nat):Int)+1)*w=((j:Int)+1)*w+w by rw [Int.add_mul ((j+1:Nat):Int),Int.one_mul]; rfl]
     omega
    ·simp -implicitDefEqProofs only [List.getElem_cons_succ]
     rw [g3,show (((j+1:Nat):Int)+1)*r=((j:Int)+1)*r+r by rw [Int.add_mul ((j+1:Nat):Int),Int.one_mul]; rfl]
     omega
  ·omega
theorem QF {a:Run} {l:List Run} (j:Nat) (hj:j<(ES a l).2):∃h:j<(a::l).length,(a::l)[j].f=(ES a l).1.f+j*(ES a l).1.w∧(a::l)[j].v=(ES a l).1.v+j*(ES a l).1.r:=by
 cases l with
 | nil =>
  have:j=0:=by simp -implicitDefEqProofs only [ES] at hj; omega
  subst this
  exact ⟨by simp,by simp [ES],by simp [ES]⟩
 | cons b l =>
  cases j with
  | zero=>exact ⟨by simp,by simp [ES],by simp [ES]⟩
  | succ j =>
   simp -implicitDefEqProofs only [ES] at hj
   obtain ⟨g1,g2,g3⟩:=QE (w:=b.f-a.f) (r:=b.v-a.v) (l:=b::l) (a:=a) j (by omega)
   exact ⟨by simpa using g1,by simpa [ES] using g2,by simpa [ES] using g3⟩
theorem AHh {val:Int→Int} {lo hi:Int} {a:Run} {l:List Run} (h:FwdOK val lo hi (a::l)):(l=[]∧(ES a l).1.w=0∧(ES a l).1.r=0∧(ES a l).2=1)∨(l≠[]∧1≤(ES a l).1.w∧(ES a l).1.r≠0∧2≤(ES a l).2):=by
 cases l with
 | nil=>exact .inl ⟨rfl,rfl,rfl,rfl⟩
 | cons b l =>
  obtain ⟨g1,g2,g3,g4,g5⟩:=h
  refine .inr ⟨by simp,?_,?_,?_⟩
  ·show 1≤b.f-a.f
   have:=g5.1
   omega
  ·show b.v-a.v≠0
   have:=g4 b (by simp)
   omega
  ·show 2≤Ey _ _ _ _+1
   rw [Ey,if_pos ⟨rfl,rfl⟩]
   omega
theorem FwdOK.drop {val:Int→Int} {hi:Int}:∀{R:List Run} {lo:Int} (k:Nat),FwdOK val lo hi R→k≤R.length→∃m,FwdOK val m hi (R.drop k)∧lo+k≤m∧(∀q,lo≤q→q<m→∃(j:Nat) (h:j<R.length),j<k∧R[j].f≤q∧q≤R[j].t∧val q=R[j].v∧(∀(h2:j+1<R.length),q<R[j+1].f))
 | R,lo,0,h,_=>⟨lo,h,by omega,fun q h1 h2=>by omega⟩
 | [],lo,k+1,h,hk=>absurd hk (by simp)
 | a::R,lo,k+1,⟨g1,g2,g3,g4,g5⟩,hk=>by
  obtain ⟨m,k1,k2,k3⟩:=FwdOK.drop k g5 (by simpa using hk)
  refine ⟨m,k1,by omega,fun q h1 h2=>?_⟩
  by_cases hq:q≤a.t
  ·refine ⟨0,by simp,by omega,by simpa using (by omega),by simpa using hq,by simpa using g3 q (by omega) hq,fun h3=>?_⟩
   cases R with
   | nil=>simp at h3
   | cons b R =>
    have:=g5.1
    simp -implicitDefEqProofs only [List.getElem_cons_succ,List.getElem_cons_zero]
    omega
  ·obtain ⟨j,j1,j2,j3,j4,j5,j6⟩:=k3 q (by omega) h2
   exact ⟨j+1,by simpa using j1,by omega,by simpa using j3,by simpa using j4,by simpa using j5,fun h3=>by simpa using j6 (by simpa using h3)⟩
theorem YM {x w:Int} {j:Nat} (hw:1≤w) (h0:(j:Int)*w≤x):(j:Int)≤x.tdiv w∧(x<(j+1)*w→x.tdiv w=j):=by
 have hx:0≤x:=Int.le_trans (Int.mul_nonneg (by omega) (by omega)) h0
 rw [Int.tdiv_eq_ediv_of_nonneg hx]
 refine ⟨Int.le_ediv_of_mul_le (by omega) h0,fun h1=>?_⟩
 have h2:=Int.le_ediv_of_mul_le (show 0<w by omega) h0
 have h3:=Int.ediv_lt_of_lt_mul (show 0<w by omega) h1
 omega
theorem Q4 {val:Int→Int} {hi:Int}:∀(n:Nat) {R:List Run} {lo:Int},R.length≤n→FwdOK val lo hi R→∀q,(q<lo→Ko (F6 R) q=none)∧(lo≤q→q<hi→Ko (F6 R) q=some (val q))
 | _,[],lo,_,h,q=>⟨fun _=>rfl,fun h1 h2=>by have:lo=hi:=h; omega⟩
 | 0,a::l,lo,hn,h,q=>absurd hn (by simp)
 | n+1,a::l,lo,hn,h,q=>by
  obtain ⟨h1,h2,hc⟩:=@J1 a l
  simp -implicitDefEqProofs only [List.length_cons] at hn
  obtain ⟨m,k1,k2,k3⟩:=FwdOK.drop (ES a l).2 h (by simp -implicitDefEqProofs only [List.length_cons]; omega)
  have hl:((a::l).drop (ES a l).2).length≤n:=by rw [List.length_drop]; simp -implicitDefEqProofs only [List.length_cons]; omega
  obtain ⟨i1,i2⟩:=Q4 n hl k1 q
  have hgf:(ES a l).1.f=lo:=by
   have:=h.1
   cases l <;> exact this
  have hgv:(ES a l).1.v=a.v:=by cases l <;> rfl
  rw [Nu,Ko,hgf]
  refine ⟨fun hq=>?_,fun hq hq2=>?_⟩
  ·rw [i1 (by omega)]
   simp -implicitDefEqProofs only []
   rw [if_neg (by omega)]
  ·by_cases hm:m≤q
   ·rw [i2 hm hq2]
   ·rw [i1 (by omega)]
    simp -implicitDefEqProofs only []
    rw [if_pos hq]
    congr 1
    obtain ⟨j,j1,j2,j3,j4,j5,j6⟩:=k3 q hq (by omega)
    obtain ⟨e1,e2,e3⟩:=QF (a:=a) (l:=l) j j2
    rw [j5,e3]
    unfold OD
    rcases AHh h with ⟨w0,w1,w2,w3⟩ | ⟨w0,w1,w2,w3⟩
    ·rw [if_pos (by omega),w2,Int.mul_zero,Int.add_zero]
    ·rw [if_neg (by omega),hc,hgf]
     rw [hgf] at e2
     congr 2
     obtain ⟨d1,d2⟩:=YM (x:=q-lo) (w:=(ES a l).1.w) (j:=j) w1 (by omega)
     by_cases hj:j+1<(ES a l).2
     ·obtain ⟨f1,f2,f3⟩:=QF (a:=a) (l:=l) (j+1) hj
      have:=j6 (by omega)
      rw [f2,hgf,show (((j+1:Nat):Int))=(j:Int)+1 from rfl] at this
      rw [d2 (by omega)]
      omega
     ·omega
def Gv (r:Run):Prop:=r.v < -2305843009213693952∨2305843009213693952<r.v
instance (r:Run):Decidable (Gv r):=by unfold Gv; exact inferInstance
theorem AFs (r:Run):DataW Try.prog ABw [r.av] (bv (decide (Gv r))):=by
 refine Am AEw (by simp) ?_
 simp -implicitDefEqProofs -proj only [go_sem,seval]
 refine AN (fun b hb=>?_)
 by_cases h1:r.v < -2305843009213693952
 ·simp -implicitDefEqProofs -proj only [go_sem,seval,decide_eq_true h1]
  exact AJ (by rw [decide_eq_true (show Gv r from .inl h1)])
 ·by_cases h2:2305843009213693952<r.v
  ·simp -implicitDefEqProofs -proj only [go_sem,seval,decide_eq_false h1,decide_eq_true h2]
   exact AJ (by rw [decide_eq_true (show Gv r from .inr h2)])
  ·simp -implicitDefEqProofs -proj only [go_sem,seval,decide_eq_false h1,decide_eq_false h2]
   exact AJ (by rw [decide_eq_false (show ¬Gv r by unfold Gv; omega)])
def JC (p:Run→Bool) (l:List Run):Int:=match l.findIdx? p with
 | some i=>i
 | none=>-1
theorem RR {l:List Run} {f:FuncId} {p:Run→Bool} (hf:∀r:Run,DataW Try.prog f [r.av] (bv (p r))) (hl:l.length≤1000000):DataW Try.prog Xs [GV l,.fn f []] (i64 (JC p l)):=by
 refine Am YR (by simp) ?_
 simp -implicitDefEqProofs -proj only [go_sem,seval,rowR_len]
 refine EN (fun i:Nat=>i≤l.length∧∀(j:Nat) (h:j<l.length),j<i→p l[j]=false) 19 (fun i=>[(0,GV l),(1,.fn f []),(7,i64 l.length),(8,i64 i)]) (fun _=>[]) (fun i=>l.length-i) 0 ⟨Nat.zero_le _,fun j _ h=>absurd h (Nat.not_lt_zero _)⟩ rfl ?_ ?_ ?_
 ·simp -implicitDefEqProofs -proj only [go_sem,seval,AK]
 ·trivial
 ·rintro i ⟨hi,hs⟩
  by_cases h:i<l.length
  ·have hel:=Jm h
   have hff:=hf l[i]
   have hstep:p l[i]=false→∀(j:Nat) (h:j<l.length),j<i+1→p l[j]=false:=by
    intro e j h1 h2
    by_cases hj:j=i
    ·subst hj; exact e
    ·exact hs j h1 (by omega)
   have hfound:p l[i]=true→JC p l=i:=by
    intro e
    unfold JC
    rw [List.findIdx?_eq_some_iff_getElem.2 ⟨h,e,fun j hj=>by simpa using hs j (by omega) hj⟩]
   generalize l[i]=r at *
   simp -implicitDefEqProofs -proj only [go_sem,seval,decide_eq_true (show (i:Int)<l.length by omega)]
   refine EG _ (by omega) hel ?_
   simp -implicitDefEqProofs -proj only [go_sem,seval]
   refine AH hff ?_
   cases hp:p r
   ·simp -implicitDefEqProofs -proj only [go_sem,seval]
    refine AX (i+1) ⟨by omega,hstep hp⟩ (by omega) rfl ?_ trivial
    simp -implicitDefEqProofs -proj only [go_sem,seval,AK,Ab (show i<9223372036854775807 by omega)]
   ·simp -implicitDefEqProofs -proj only [go_sem,seval]
    exact AJ (by rw [hfound hp])
  ·have hi':i=l.length:=by omega
   subst hi'
   simp -implicitDefEqProofs -proj only [go_sem,seval,decide_eq_false (show ¬(l.length:Int)<l.length by omega)]
   have:JC p l = -1:=by
    unfold JC
    rw [List.findIdx?_eq_none_iff.2 fun x hx=>?_]
    obtain ⟨j,hj,rfl⟩:=List.getElem_of_mem hx
    exact hs j hj hj
   exact AJ (by rw [this])
theorem AJu {l:List Run} {f:FuncId} {p:Run→Bool} (hf:∀r:Run,DataW Try.prog f [r.av] (bv (p r))) (hl:l.length≤1000000):DataW Try.prog AH4 [GV l,.fn f []] (bv (l.any p)):=by
 refine Am AJM (by simp) ?_
 have h:=RR hf hl
 simp -implicitDefEqProofs -proj only [go_sem,seval]
 refine AH h ?_
 have hd:decide (0≤JC p l)=l.any p:=by
  unfold JC
  cases hh:l.findIdx? p with
  | none =>
   have:=List.findIdx?_eq_none_iff.1 hh
   simp -implicitDefEqProofs only []
   rw [show l.any p=false from List.any_eq_false.2 fun x hx=>by rw [this x hx]; simp]
   decide
  | some i =>
   obtain ⟨h1,h2,_⟩:=List.findIdx?_eq_some_iff_getElem.1 hh
   rw [show l.any p=true from List.any_eq_true.2 ⟨_,List.getElem_mem h1,h2⟩]
   simp
 simp -implicitDefEqProofs -proj only [go_sem,seval,hd]
 exact AJ rfl
structure SeqX where
 c:Nat
 cap:Nat
 R:List Run
theorem LE {c cap:Nat} {R:List Run}:(SeqX.mk c cap R).c=c:=(rfl)
theorem LS {c cap:Nat} {R:List Run}:(SeqX.mk c cap R).cap=cap:=(rfl)
theorem JQ {c cap:Nat} {R:List Run}:(SeqX.mk c cap R).R=R:=(rfl)
def Je (b2:Nat) (rest:List (Nat×Blk)) (y:SeqX):List (Nat×Blk):=EK 147 3 y.c y.cap (Ex y.R)++((b2,.box 119 [EU 0 3 y.c y.cap (Ex y.R)])::rest)
theorem ADe {H:Heap} {f:FuncId} {caps:List AV} {bl:List (Nat×Blk)} {l:List Run} (hit:Jk Try.prog f caps bl (Hm l)) (rest:List (Nat×Blk)) (hbl:∀p∈bl,p∈rest) (hrest:AR H rest) (hnd:(AP rest).Nodup) (hl:l.length≤1000000) :
  CallW Try.prog AHg [.nilsl 0,.fn f caps] H fun r H'=>∃c cap,r=EU 0 3 c cap (Ex l)∧AR H' (EK 147 3 c cap (Ex l)++rest)∧(AP (EK 147 3 c cap (Ex l)++rest)).Nodup:=by
 refine Am SJ (by simp) ?_
 simp -implicitDefEqProofs -proj only [go_sem,seval]
 refine AN (fun b2 hb2=>?_)
 have a2:=HA (x:=.box 119 [.nilsl 0]) hb2 hrest
 have n2:=HU (x:=.box 119 [.nilsl 0]) hb2 hrest hnd
 simp -implicitDefEqProofs -proj only [go_sem,seval]
 refine ADJ [(2,.ptr b2 0)] (fun pre y=>y.R=l.take pre.length∧(AP (Je b2 rest y)).Nodup) (Je b2 rest) ⟨0,0,[]⟩ hit (by simp -implicitDefEqProofs -proj only [go_sem,seval]) rfl (by simp) (by simp -implicitDefEqProofs -proj only [go_sem,seval,AK]) ?_ ⟨by simp,n2⟩ a2 ?_ ?_
 ·intro pre y _ p hp
  exact List.mem_append.2 (.inr (List.mem_cons_of_mem _ (hbl p hp)))
 ·rintro pre v post ⟨c,cap,R⟩ hxs ⟨hR,hn⟩
  obtain ⟨hlt,rfl,hpre⟩:=VI hxs
  have hall:=EZ hn
  simp -implicitDefEqProofs only [JQ] at hR
  have hRl:R.length=pre.length:=by rw [hR,List.length_take]; omega
  obtain ⟨H1,hH⟩:∃H1,Ak (Je b2 rest ⟨c,cap,R⟩)=H1:=⟨_,rfl⟩
  rw [hH] at hall ⊢
  simp -implicitDefEqProofs only [Je,LE,LS,JQ] at hall hn
  obtain ⟨hrow,h2,_⟩:=EO.1 hall
  have htk:l.take (pre.length+1)=R++[l[pre.length]]:=by rw [List.take_succ_eq_append_getElem hlt,hR]
  generalize l[pre.length]=r at *
  simp -implicitDefEqProofs -proj only [go_sem,seval]
  refine AN (fun b6 hb6=>?_)
  replace hb6:H1 b6=none:=hb6
  obtain ⟨p1,p2⟩:=Ac hb6 h2
  simp -implicitDefEqProofs -proj only [go_sem,seval,p1,h2]
  refine EJ (fun bs hs'=>?_)
  replace hs':upd H1 b6 _ bs=none:=hs'
  simp -implicitDefEqProofs -proj only [go_sem,seval]
  refine Fa (xs:=Ex R) (y:=r.el) (t:=147) (capc:=1) ((b2,.box 119 [EU 0 3 c cap (Ex R)])::rest) rfl (Ar hs' (Ar hb6 hall)) hn (by simp -implicitDefEqProofs -proj only [go_sem,seval]; rfl) (by rw [rowR_len]; omega) (by rw [rowR_len]; omega) (fun H' c' cap' ha hk=>?_)
  obtain ⟨hrow',hbox⟩:=EO.1 ha
  simp -implicitDefEqProofs -proj only [go_sem,seval,hbox.1]
  rw [XB] at hrow' hk ha
  refine UV ⟨c',cap',R++[r]⟩ ⟨by simp -implicitDefEqProofs only [JQ,List.length_append,List.length_singleton]; exact htk.symm,?_⟩ ?_
  ·simpa only [AP,Je,LE,LS,JQ,List.map_append,List.map_cons,List.map_nil] using hk
  ·have hne:Ex (R++[r])≠[]:=by simp [Ex]
   refine EO.2 ⟨?_,?_⟩
   ·refine FS hrow' ?_
    simp -implicitDefEqProofs only [AP,List.map_append,List.nodup_append,List.map_cons,List.map_nil,List.mem_cons] at hk
    exact fun hm=>hk.2.2 _ hm _ (.inl rfl) rfl
   ·have:=P0 (x':=.box 119 [.own c' 3 0 ((Ex R).length+1) cap']) hbox (by simp -implicitDefEqProofs only [AP,List.map_append,List.nodup_append] at hk ⊢; exact hk.2.1)
    simp -implicitDefEqProofs only [LE,LS,JQ,Eq hne,show (Ex (R++[r])).length=(Ex R).length+1 by simp [Ex]]
    exact this
 ·rintro ⟨c,cap,R⟩ ⟨hR,hn⟩
  have hall:=EZ hn
  simp -implicitDefEqProofs only [JQ] at hR
  obtain ⟨H1,hH⟩:∃H1,Ak (Je b2 rest ⟨c,cap,R⟩)=H1:=⟨_,rfl⟩
  rw [hH] at hall ⊢
  simp -implicitDefEqProofs only [Je,LE,LS,JQ] at hall hn
  obtain ⟨hrow,h2,hr2⟩:=EO.1 hall
  rw [List.length_map,List.take_length] at hR
  subst hR
  simp -implicitDefEqProofs -proj only [go_sem,seval,h2]
  refine ⟨c,cap,rfl,EO.2 ⟨hrow,hr2⟩,?_⟩
  simp -implicitDefEqProofs only [AP,List.map_append,List.nodup_append,List.map_cons,List.nodup_cons,List.mem_cons] at hn ⊢
  exact ⟨hn.1,hn.2.1.2,fun a ha b hb=>hn.2.2 a ha b (.inr hb)⟩
theorem MF {k:Nat}:∀{l:List (Nat×Blk)},Ak l k≠none→k∈AP l
 | [],h=>absurd rfl h
 | (b,x)::l,h=>by
  rw [Aw] at h
  by_cases e:k=b
  ·exact List.mem_cons.2 (.inl e)
  ·rw [if_neg e] at h
   exact List.mem_cons_of_mem _ (MF h)
theorem AF5 {H:Heap} {f:FuncId} {caps:List AV} {bl:List (Nat×Blk)} {l:List Run} (hit:Jk Try.prog f caps bl (Hm l)) (rest:List (Nat×Blk)) (hbl:∀p∈bl,p∈rest) (hrest:AR H rest) (hnd:(AP rest).Nodup) (hl:l.length≤1000000) :
  CallW Try.prog ACP [.fn f caps] H fun r H'=>r=GV l∧AR H' rest:=by
 have hA:=CallW.froze (v:=GV l) (K:=fun H'=>AR H' rest) (CallW.mono (ADe hit rest hbl hrest hnd hl) fun r H' ⟨c,cap,hr,ha,hk⟩=>by
  subst hr
  have hk1:(AP (EK 147 3 c cap (Ex l))).Nodup:=by simp -implicitDefEqProofs only [AP,List.map_append,List.nodup_append] at hk; exact hk.1
  refine ⟨Ak (EK 147 3 c cap (Ex l)),Ak rest,Ib (EO.1 ha).1,fun k=>?_,Jg (EZ hk1) Qg,EZ hnd⟩
  rcases Ib (EO.1 ha).2 k with e | e
  ·exact .inl e
  ·by_cases hr:Ak rest k=none
   ·exact .inl hr
   ·refine .inr ⟨e,?_⟩
    by_cases e1:Ak (EK 147 3 c cap (Ex l)) k=none
    ·exact e1
    ·simp -implicitDefEqProofs only [AP,List.map_append,List.nodup_append] at hk
     exact absurd rfl (hk.2.2 k (MF e1) k (MF hr)))
 refine Am Xq (by simp) ?_
 simp -implicitDefEqProofs -proj only [go_sem,seval]
 refine Fy hA ?_
 rintro r H' ⟨rfl,h⟩
 simp -implicitDefEqProofs -proj only [go_sem,seval]
 exact h
def Grp.el (g:Grp):List D:=[.int .i64 g.f,.int .i64 g.v,.int .i64 g.w,.int .i64 g.r,.int .i64 g.c]
abbrev Grp.av (g:Grp):AV:=.agg [i64 g.f,i64 g.v,i64 g.w,i64 g.r,i64 g.c]
def Ha (r:Run):Prop:=(0≤r.f∧r.f≤3000)∧(-2305843009213693952≤r.v∧r.v≤2305843009213693952)
theorem MZ {w r:Int} {S:List Run} {c:Nat} (h0:0<c) (h:c<S.length):Ey w r (S[c-1]'(by omega)) (S.drop c)=if S[c].f-(S[c-1]'(by omega)).f=w∧S[c].v-(S[c-1]'(by omega)).v=r then Ey w r S[c] (S.drop (c+1))+1 else 0:=by
 rw [List.drop_eq_getElem_cons h,Ey]
theorem Ob {S:List Run} (h:1<S.length):ES (S[0]'(by omega)) (S.drop 1)=(⟨(S[0]'(by omega)).f,(S[0]'(by omega)).v,S[1].f-(S[0]'(by omega)).f,S[1].v-(S[0]'(by omega)).v,((Ey (S[1].f-(S[0]'(by omega)).f) (S[1].v-(S[0]'(by omega)).v) (S[0]'(by omega)) (S.drop 1)+1:Nat):Int)⟩,Ey (S[1].f-(S[0]'(by omega)).f) (S[1].v-(S[0]'(by omega)).v) (S[0]'(by omega)) (S.drop 1)+1):=by
 match S,h with
 | a::b::l,_=>rfl
set_option maxRecDepth 20000 in
theorem ZK {S:List Run} (h0:0<S.length) (hb:∀r∈S,Ha r) (hl:S.length≤3000):DataW Try.prog AHZ [GV S] (.tup [(ES S[0] (S.drop 1)).1.av,i64 (ES S[0] (S.drop 1)).2]):=by
 refine Am AFX (by simp) ?_
 have e0:=Jm h0
 have b0:=hb _ (List.getElem_mem h0)
 by_cases h1:S.length=1
 ·have hg:ES S[0] (S.drop 1)=(⟨S[0].f,S[0].v,0,0,1⟩,1):=by rw [List.drop_eq_nil_of_le (by omega)]; rfl
  rw [hg]
  generalize S[0]=a at *
  simp -implicitDefEqProofs -proj only [go_sem,seval]
  refine AN (fun b2 hb2=>?_)
  simp -implicitDefEqProofs -proj only [go_sem,seval]
  refine EG _ (by omega) (i:=0) e0 ?_
  simp -implicitDefEqProofs -proj only [go_sem,seval]
  refine EG _ (by omega) (i:=0) e0 ?_
  simp -implicitDefEqProofs -proj only [go_sem,seval]
  refine AN (fun b4 hb4=>?_)
  replace hb4:upd Heap.none b2 _ b4=none:=hb4
  obtain ⟨n1,n2⟩:=Ac hb4 Ad
  simp -implicitDefEqProofs -proj only [go_sem,seval,n1,n2,rowR_len,decide_eq_true (show (S.length:Int)=1 by omega)]
  exact AJ rfl
 ·have h1':1<S.length:=by omega
  have e1:=Jm h1'
  have b1:=hb _ (List.getElem_mem h1')
  have hg:=Ob h1'
  obtain ⟨n,hn⟩:∃n,(ES S[0] (S.drop 1)).2=n:=⟨_,rfl⟩
  have hn1:Ey (S[1].f-S[0].f) (S[1].v-S[0].v) S[0] (S.drop 1)+1=n:=by rw [←hn,hg]
  have hg1:(ES S[0] (S.drop 1)).1=⟨S[0].f,S[0].v,S[1].f-S[0].f,S[1].v-S[0].v,(n:Int)⟩:=by rw [hg,hn1]
  rw [hn,hg1]
  obtain ⟨w,hw⟩:∃w,S[1].f-S[0].f=w:=⟨_,rfl⟩
  obtain ⟨r,hr⟩:∃r,S[1].v-S[0].v=r:=⟨_,rfl⟩
  have ww:IntKind.i64.wrap (S[1].f-S[0].f)=w:=by unfold Ha at b0 b1; rw [IntKind.wrap_i64]; omega
  have wr:IntKind.i64.wrap (S[1].v-S[0].v)=r:=by unfold Ha at b0 b1; rw [IntKind.wrap_i64]; omega
  rw [hw,hr] at hn1 ⊢
  obtain ⟨a,ha⟩:∃a,S[0]=a:=⟨_,rfl⟩
  obtain ⟨b,hbb⟩:∃b,S[1]=b:=⟨_,rfl⟩
  have hn1':Ey w r (S[1-1]'(by omega)) (S.drop 1)+1=n:=hn1
  rw [ha] at e0 ww wr ⊢
  rw [hbb] at e1 ww wr
  clear hg hg1 hw hr hn b0 b1
  simp -implicitDefEqProofs -proj only [go_sem,seval]
  refine AN (fun b2 hb2=>?_)
  simp -implicitDefEqProofs -proj only [go_sem,seval]
  refine EG _ (by omega) (i:=0) e0 ?_
  simp -implicitDefEqProofs -proj only [go_sem,seval]
  refine EG _ (by omega) (i:=0) e0 ?_
  simp -implicitDefEqProofs -proj only [go_sem,seval]
  refine AN (fun b4 hb4=>?_)
  replace hb4:upd Heap.none b2 _ b4=none:=hb4
  obtain ⟨n1,n2⟩:=Ac hb4 Ad
  simp -implicitDefEqProofs -proj only [go_sem,seval,n1,n2,rowR_len,decide_eq_false (show ¬(S.length:Int)=1 by omega)]
  refine EG _ (by omega) (i:=1) e1 ?_
  simp -implicitDefEqProofs -proj only [go_sem,seval]
  refine EG _ (by omega) (i:=0) e0 ?_
  simp -implicitDefEqProofs -proj only [go_sem,seval]
  refine EG _ (by omega) (i:=1) e1 ?_
  simp -implicitDefEqProofs -proj only [go_sem,seval]
  refine EG _ (by omega) (i:=0) e0 ?_
  simp -implicitDefEqProofs -proj only [go_sem,seval,n1,n2,ww,wr]
  refine EN (fun c:Nat=>1≤c∧∃h:c≤S.length,c+Ey w r (S[c-1]'(by omega)) (S.drop c)=n) 81 (fun _=>[(0,GV S),(2,.ptr b2 0),(4,.ptr b4 0)]) (fun c=>[(b4,.box 66 [i64 a.f,i64 a.v,i64 w,i64 r,i64 c]),(b2,.box 66 [i64 0,i64 0,i64 0,i64 0,i64 0])]) (fun c=>S.length-c) 1 ⟨Nat.le_refl _,by omega,by omega⟩ rfl ?_ ?_ ?_
  ·simp -implicitDefEqProofs -proj only [go_sem,seval,AK]
  ·simp -implicitDefEqProofs -proj only [go_sem,seval,AR,n1,n2]
  ·rintro c ⟨hc1,hc2,hcn⟩
   have hk:AR (Ak [(b4,.box 66 [i64 a.f,i64 a.v,i64 w,i64 r,i64 c]),(b2,.box 66 [i64 0,i64 0,i64 0,i64 0,i64 0])]) [(b4,.box 66 [i64 a.f,i64 a.v,i64 w,i64 r,i64 c]),(b2,.box 66 [i64 0,i64 0,i64 0,i64 0,i64 0])]:=EZ (by simp [AP,n1])
   obtain ⟨H,hH⟩:∃H,Ak [(b4,.box 66 [i64 a.f,i64 a.v,i64 w,i64 r,i64 c]),(b2,.box 66 [i64 0,i64 0,i64 0,i64 0,i64 0])]=H:=⟨_,rfl⟩
   rw [hH] at hk
   obtain ⟨k4,k2,_⟩:=id hk
   rw [hH]
   by_cases hc:c<S.length
   ·have ep:=Jm (l:=S) (i:=c-1) (by omega)
    have es:=Jm hc
    have hstep:=MZ (w:=w) (r:=r) (S:=S) (by omega) hc
    have bp:=hb _ (List.getElem_mem (show c-1<S.length by omega))
    have bs:=hb _ (List.getElem_mem hc)
    have wc:IntKind.i64.wrap ((c:Int)-1)=((c-1:Nat):Int):=by rw [IntKind.wrap_i64]; omega
    have hnext:∀(m:Nat),m=c+1→(S[m-1]? = some S[c]):=fun m hm=>by subst hm; simp [hc]
    rw [hstep] at hcn
    have hS:∀(h:c+1≤S.length),S[c+1-1]'(by omega)=S[c]:=fun _=>rfl
    have hin:∀x,Ey w r S[c] (S.drop (c+1))=x→c+1+x=n→(1≤c+1∧∃h:c+1≤S.length,c+1+Ey w r (S[c+1-1]'(by omega)) (S.drop (c+1))=n):=fun x hx hxn=>⟨by omega,by omega,by show c+1+Ey w r S[c] (S.drop (c+1))=n; rw [hx]; exact hxn⟩
    generalize Ey w r S[c] (S.drop (c+1))=x at *
    unfold Ha at bp bs
    have w1:IntKind.i64.wrap (S[c].f-S[c-1].f)=S[c].f-S[c-1].f:=by rw [IntKind.wrap_i64]; omega
    have w2:IntKind.i64.wrap (S[c].v-S[c-1].v)=S[c].v-S[c-1].v:=by rw [IntKind.wrap_i64]; omega
    clear bp bs hnext hS hstep
    generalize S[c]=s at *
    generalize S[c-1]=p at *
    simp -implicitDefEqProofs -proj only [go_sem,seval,k4,k2,rowR_len,decide_eq_true (show (c:Int)<S.length by omega),wc]
    refine EG _ (by omega) ep ?_
    simp -implicitDefEqProofs -proj only [go_sem,seval,k4,k2]
    refine EG _ (by omega) es ?_
    simp -implicitDefEqProofs -proj only [go_sem,seval]
    refine AN (fun b5 hb5=>?_)
    replace hb5:H b5=none:=hb5
    obtain ⟨m1,m2⟩:=Ac hb5 k4
    obtain ⟨m3,m4⟩:=Ac hb5 k2
    simp -implicitDefEqProofs -proj only [go_sem,seval]
    refine AN (fun b6 hb6=>?_)
    replace hb6:upd H b5 _ b6=none:=hb6
    obtain ⟨m5,m6⟩:=Ac hb6 Ad
    have hb6':H b6=none:=by rw [EH m6] at hb6; exact hb6
    obtain ⟨m7,m8⟩:=Ac hb6' k4
    obtain ⟨m9,m10⟩:=Ac hb6' k2
    by_cases c1:s.f-p.f=w
    ·by_cases c2:s.v-p.v=r
     ·rw [if_pos ⟨c1,c2⟩] at hcn
      simp -implicitDefEqProofs -proj only [go_sem,seval,k4,k2,m1,m3,m5,m6,m7,m9,w1,w2,decide_eq_true c1,decide_eq_true c2]
      refine AX (c+1) (hin _ rfl (by omega)) (by omega) rfl ?_ ?_
      ·simp -implicitDefEqProofs -proj only [go_sem,seval,AK]
      ·simp -implicitDefEqProofs -proj only [go_sem,seval,AR,Ab (show c<9223372036854775807 by omega),k2,n1,n2,m3,m9]
     ·rw [if_neg (fun h=>c2 h.2)] at hcn
      simp -implicitDefEqProofs -proj only [go_sem,seval,k4,k2,m1,m3,m5,m6,m7,m9,w1,w2,decide_eq_true c1,decide_eq_false c2]
      obtain rfl:c=n:=by omega
      simp -implicitDefEqProofs -proj only [go_sem,seval,if_neg (show ¬(0:Nat)=1 by decide),k4,k2,m1,m3,m5,m6,m7,m9,n1,n2,Ad,not_false_eq_true]
      exact AJ rfl
    ·rw [if_neg (fun h=>c1 h.1)] at hcn
     simp -implicitDefEqProofs -proj only [go_sem,seval,k4,k2,m1,m3,m5,m6,m7,m9,w1,w2,decide_eq_false c1]
     obtain rfl:c=n:=by omega
     simp -implicitDefEqProofs -proj only [go_sem,seval,if_neg (show ¬(0:Nat)=1 by decide),k4,k2,m1,m3,m5,m6,m7,m9,n1,n2,Ad,not_false_eq_true]
     exact AJ rfl
   ·have:S.drop c=[]:=List.drop_eq_nil_of_le (by omega)
    rw [this] at hcn
    rw [show Ey w r (S[c-1]'(by omega)) []=0 from rfl] at hcn
    simp -implicitDefEqProofs -proj only [go_sem,seval,k4,k2,rowR_len,decide_eq_false (show ¬(c:Int)<S.length by omega),n1,n2,not_false_eq_true]
    obtain rfl:c=n:=by omega
    exact AJ rfl
def A0 (l:List Grp):List (List D):=l.map Grp.el
theorem Gc {l:List Grp}:(A0 l).length=l.length:=List.length_map ..
theorem Lw {l:List Grp} {i:Nat} (h:i<l.length):(A0 l)[((i:Int)).toNat]? = some [.int .i64 l[i].f,.int .i64 l[i].v,.int .i64 l[i].w,.int .i64 l[i].r,.int .i64 l[i].c]:=by
 rw [Int.toNat_natCast]; simp [A0,h,Grp.el]
theorem PK {l:List Grp}:∀el∈A0 l,∀d∈el,HG d=true:=by
 intro el he d hd
 obtain ⟨r,_,rfl⟩:=List.mem_map.1 he
 simp -implicitDefEqProofs only [Grp.el,List.mem_cons,List.not_mem_nil,or_false] at hd
 rcases hd with rfl | rfl | rfl | rfl | rfl <;> rfl
theorem Kr {l:List Grp} {g:Grp}:A0 l++[g.el]=A0 (l++[g]):=by simp [A0]
abbrev GJ (l:List Grp):AV:=.d (.sl 5 (A0 l))
abbrev HC (m:Int) (G:List Grp):AV:=.agg [i64 m,GJ G]
theorem T7 {l:List Run} {n:Nat}:(Ex l).drop n=Ex (l.drop n):=List.map_drop.symm
def HP (R:List Run):Prop:=∃h:R≠[],(R.head h).f=0∧(R.getLast h).t≤2000∧∀r∈R,¬Gv r
noncomputable instance (R:List Run):Decidable (HP R):=Classical.propDecidable _
def Mr:List Run→Int
 | []=>0
 | r::R=>((r::R).getLast (by simp)).t
noncomputable def Is (R:List Run):AV:=if HP R then .tup [HC (Mr R) (F6 R),bv true] else .tup [HC 0 [],bv false]
theorem Oq {S:List Run} (h:0<S.length):F6 S=(ES S[0] (S.drop 1)).1::F6 (S.drop (ES S[0] (S.drop 1)).2):=by
 match S,h with
 | a::l,_=>exact Nu
theorem Hg {H:Heap} {m:Int} {G:List Grp} {v:AV} (h:NewV H v (GJ G)):NewV H (.agg [i64 m,v]) (HC m G):=by
 refine .agg _ _ rfl fun j x y h1 h2=>?_
 match j with
 | 0=>cases h1; cases h2; exact .scal _ rfl
 | 1=>cases h1; cases h2; exact h
 | j+2=>cases h1
theorem He {H:Heap} {x y:AV} {b:Bool} (h:NewV H x y):NewV H (.tup [x,bv b]) (.tup [y,bv b]):=by
 refine .tup _ _ rfl fun j u v h1 h2=>?_
 match j with
 | 0=>cases h1; cases h2; exact h
 | 1=>cases h1; cases h2; exact .scal _ rfl
 | j+2=>cases h1
structure OfX where
 S:List Run
 c:Nat
 cap:Nat
 G:List Grp
theorem HN {S:List Run} {c cap:Nat} {G:List Grp}:(OfX.mk S c cap G).S=S:=(rfl)
theorem KD {S:List Run} {c cap:Nat} {G:List Grp}:(OfX.mk S c cap G).c=c:=(rfl)
theorem Jj {S:List Run} {c cap:Nat} {G:List Grp}:(OfX.mk S c cap G).cap=cap:=(rfl)
theorem Hp {S:List Run} {c cap:Nat} {G:List Grp}:(OfX.mk S c cap G).G=G:=(rfl)
def JZ (b8 b2:Nat) (m:Int) (y:OfX):List (Nat×Blk):=EK 66 5 y.c y.cap (A0 y.G)++[(b8,.box 58 [i64 m,EU 5 5 y.c y.cap (A0 y.G)]),(b2,.box 58 [i64 0,.nilsl 5])]
set_option maxRecDepth 20000 in
theorem ZG {R:List Run} (hlR:R.length≤1000000) (hok:HP R→(∀r∈R,Ha r)∧R.length≤3000):NewW Try.prog Px [Jl R] (Is R):=by
 have hspan:=AIM hlR
 refine Am AID (by simp) ?_
 simp -implicitDefEqProofs -proj only [go_sem,seval]
 refine AN (fun b1 hb1=>?_)
 simp -implicitDefEqProofs -proj only [go_sem,seval]
 refine AN (fun b2 hb2=>?_)
 replace hb2:upd Heap.none b1 _ b2=none:=hb2
 obtain ⟨n1,n2⟩:=Ac hb2 Ad
 simp -implicitDefEqProofs -proj only [go_sem,seval,n1,n2]
 refine AH hspan ?_
 cases hRe:R with
 | nil =>
  have:¬HP []:=fun ⟨h,_⟩=>h rfl
  rw [Is,if_neg this]
  simp -implicitDefEqProofs -proj only [go_sem,seval,MB,n1,n2]
  exact He (Hg (.nilsl _ _))
 | cons a l =>
  rw [←hRe]
  have hne:R≠[]:=by rw [hRe]; simp
  have hsv:MB R = .tup [i64 (R.head hne).f,i64 (R.getLast hne).t,bv true]:=by subst hRe; rfl
  have hlt:Mr R=(R.getLast hne).t:=by subst hRe; rfl
  rw [hsv]
  by_cases h0:(R.head hne).f=0
  rotate_left
  ·have:¬HP R:=fun ⟨_,h,_⟩=>h0 h
   rw [Is,if_neg this]
   simp -implicitDefEqProofs -proj only [go_sem,seval,n1,n2,decide_eq_false h0]
   exact He (Hg (.nilsl _ _))
  by_cases h1:2000<(R.getLast hne).t
  ·have:¬HP R:=fun ⟨_,_,h,_⟩=>by omega
   rw [Is,if_neg this]
   simp -implicitDefEqProofs -proj only [go_sem,seval,n1,n2,decide_eq_true h0,decide_eq_true h1]
   exact He (Hg (.nilsl _ _))
  simp -implicitDefEqProofs -proj only [go_sem,seval,n1,n2,decide_eq_true h0,decide_eq_false h1]
  refine Fy S5 ?_
  rintro r H6 ⟨bv',rfl,hbv,hv,hkeep⟩
  have k2:H6 b2=some (.box 58 [i64 0,.nilsl 5]):=hkeep _ _ Ad
  have hnb:¬bv'=b2:=fun e=>by subst e; rw [k2] at hv; cases hv
  simp -implicitDefEqProofs -proj only [go_sem,seval]
  refine Fy (AF5 (AKh (b:=bv') hlR) [(bv',.box 119 [GV R]),(b2,.box 58 [i64 0,.nilsl 5])] (by simp) ⟨hv,k2,trivial⟩ (by simp [AP,hnb]) hlR) ?_
  rintro r H7 ⟨rfl,hr⟩
  obtain ⟨_,k2',_⟩:=hr
  simp -implicitDefEqProofs -proj only [go_sem,seval]
  refine AH (AJu (fun r=>AFs r) hlR) ?_
  by_cases hany:(R.any fun r=>decide (Gv r))=true
  ·have:¬HP R:=fun ⟨_,_,_,h⟩=>by
    obtain ⟨r,hr,hb⟩:=List.any_eq_true.1 hany
    exact h r hr (by simpa using hb)
   rw [Is,if_neg this,hany]
   simp -implicitDefEqProofs -proj only [go_sem,seval,k2']
   exact He (Hg (.nilsl _ _))
  ·have hokR:HP R:=⟨hne,h0,by omega,fun r hr hb=>hany (List.any_eq_true.2 ⟨r,hr,by simpa using hb⟩)⟩
   obtain ⟨hro,hl3⟩:=hok hokR
   rw [Is,if_pos hokR,hlt,show (R.any fun r=>decide (Gv r))=false by simpa using hany]
   generalize (R.getLast hne).t=m at *
   simp -implicitDefEqProofs -proj only [go_sem,seval,k2']
   refine AN (fun b8 hb8=>?_)
   replace hb8:H7 b8=none:=hb8
   obtain ⟨m1,m2⟩:=Ac hb8 k2'
   simp -implicitDefEqProofs -proj only [go_sem,seval,m1,m2,k2']
   refine EN (fun y:OfX=>F6 R=y.G++F6 y.S∧(∀r∈y.S,Ha r)∧y.S.length≤3000∧y.G.length+y.S.length≤3000∧(AP (JZ b8 b2 m y)).Nodup) 54 (fun y=>[(2,.ptr b2 0),(8,.ptr b8 0),(7,GV y.S)]) (JZ b8 b2 m) (fun y=>y.S.length) ⟨R,0,0,[]⟩ ⟨rfl,hro,hl3,by simpa using hl3,by simp [AP,JZ,Hp,A0,JL,m1]⟩ rfl ?_ ?_ ?_
   ·simp -implicitDefEqProofs -proj only [go_sem,seval,AK,HN]
   ·simp -implicitDefEqProofs -proj only [go_sem,seval,AR,JZ,Hp,KD,Jj,A0,List.map_nil,JL,Kb,m1,k2']
   ·rintro ⟨S,c,cap,G⟩ ⟨hG,hSo,hSl,hGl,hn⟩
    simp -implicitDefEqProofs only [HN,Hp] at hG hSo hSl hGl
    have hall:=EZ hn
    obtain ⟨H,hH⟩:∃H,Ak (JZ b8 b2 m ⟨S,c,cap,G⟩)=H:=⟨_,rfl⟩
    rw [hH] at hall
    simp -implicitDefEqProofs only [JZ,HN,KD,Jj,Hp] at hall hn
    obtain ⟨hrow,h8,h2,_⟩:=EO.1 hall
    by_cases hS:0<S.length
    ·have hgrp:=ZK hS hSo hSl
     have hstep:=Oq hS
     obtain ⟨q1,q2,q3⟩:=@J1 S[0] (S.drop 1)
     rw [List.length_drop] at q2
     generalize (ES S[0] (S.drop 1)).2=n at *
     generalize (ES S[0] (S.drop 1)).1=g at *
     simp -implicitDefEqProofs -proj only [go_sem,seval,HN,KD,Jj,Hp,hH,rowR_len,decide_eq_true (show 0<(S.length:Int) by omega)]
     refine AH hgrp ?_
     simp -implicitDefEqProofs -proj only [go_sem,seval]
     refine AN (fun b9 hb9=>?_)
     replace hb9:H b9=none:=hb9
     obtain ⟨p1,p2⟩:=Ac hb9 h8
     obtain ⟨p3,p4⟩:=Ac hb9 h2
     simp -implicitDefEqProofs -proj only [go_sem,seval,p1,p3,h8,h2]
     refine EJ (fun bs hs'=>?_)
     replace hs':upd H b9 _ bs=none:=hs'
     simp -implicitDefEqProofs -proj only [go_sem,seval]
     refine Fa (xs:=A0 G) (y:=g.el) (t:=66) (capc:=1) [(b8,.box 58 [i64 m,EU 5 5 c cap (A0 G)]),(b2,.box 58 [i64 0,.nilsl 5])] rfl (Ar hs' (Ar hb9 hall)) hn (by simp -implicitDefEqProofs -proj only [go_sem,seval]; rfl) (by rw [Gc]; omega) (by rw [Gc]; omega) (fun H' c' cap' ha hk=>?_)
     obtain ⟨hrow',hbox⟩:=EO.1 ha
     simp -implicitDefEqProofs -proj only [go_sem,seval,hbox.1,BH,rowR_len,Aa,Eu,Option.getD_none,Option.getD_some,Int.toNat_natCast]
     refine Aq (by omega) (fun _=>?_)
     rw [Kr] at hrow' hk ha
     rw [show (Ex S).take S.length=Ex S from List.take_of_length_le (by rw [rowR_len]; omega),T7]
     refine AX ⟨S.drop n,c',cap',G++[g]⟩ ⟨by simp -implicitDefEqProofs only [HN,Hp]; rw [hG,hstep]; simp,fun r hr=>hSo r (List.mem_of_mem_drop hr),by simp -implicitDefEqProofs only [HN,List.length_drop]; omega,by simp -implicitDefEqProofs only [HN,Hp,List.length_drop,List.length_append,List.length_singleton]; omega,?_⟩ (by show (S.drop n).length<S.length; rw [List.length_drop]; omega) rfl ?_ ?_
     ·simpa only [AP,JZ,HN,KD,Jj,Hp,List.map_append,List.map_cons,List.map_nil] using hk
     ·simp -implicitDefEqProofs -proj only [go_sem,seval,AK,HN]
     ·have hne2:A0 (G++[g])≠[]:=by simp [A0]
      refine EO.2 ⟨?_,?_⟩
      ·refine FS hrow' ?_
       simp -implicitDefEqProofs only [AP,List.map_append,List.nodup_append,List.map_cons,List.map_nil,List.mem_cons] at hk
       exact fun hm=>hk.2.2 _ hm _ (.inl rfl) rfl
      ·have:=P0 (x':=.box 58 [i64 m,.own c' 5 0 ((A0 G).length+1) cap']) hbox (by simp -implicitDefEqProofs only [AP,List.map_append,List.nodup_append] at hk ⊢; exact hk.2.1)
       simp -implicitDefEqProofs only [HN,KD,Jj,Hp,Eq hne2,show (A0 (G++[g])).length=(A0 G).length+1 by simp [A0]]
       exact this
    ·have hS0:S=[]:=List.length_eq_zero_iff.1 (by omega)
     subst hS0
     rw [QV,List.append_nil] at hG
     obtain ⟨x1,x2⟩:¬b8=b2∧¬b2=b8:=⟨m1,m2⟩
     simp -implicitDefEqProofs -proj only [go_sem,seval,HN,KD,Jj,Hp,hH,rowR_len,decide_eq_false (show ¬0<((([]:List Run).length:Nat):Int) by simp),h8,h2,m1,m2]
     rw [hG]
     refine He (Hg (Jg (FS hrow ?_) PK))
     simp -implicitDefEqProofs only [AP,List.map_append,List.nodup_append,List.map_cons,List.map_nil,List.mem_cons] at hn
     exact fun hm=>hn.2.2 _ hm _ (.inr (.inl rfl)) rfl
theorem RE (p q:Grp):(decide (p.f=q.f)&&(decide (p.v=q.v)&&(decide (p.w=q.w)&&(decide (p.r=q.r)&&decide (p.c=q.c)))))=decide (p=q):=by
 obtain ⟨a,b,c,d,e⟩:=p
 obtain ⟨a',b',c',d',e'⟩:=q
 simp -implicitDefEqProofs only [Grp.mk.injEq]
 rw [←Bool.decide_and,←Bool.decide_and,←Bool.decide_and,←Bool.decide_and]
theorem TE {a b:List Grp} (ha:a.length≤1000000) (hb:b.length≤1000000):DataW Try.prog AAe [GJ a,GJ b] (bv (decide (a=b))):=by
 refine Am Xo (by simp) ?_
 by_cases hl:a.length=b.length
 ·simp -implicitDefEqProofs -proj only [go_sem,seval,Gc,decide_eq_true (show (a.length:Int)=b.length by omega)]
  refine EN (fun i:Nat=>i≤a.length∧∀(j:Nat) (h:j<a.length) (h':j<b.length),j<i→a[j]=b[j]) 26 (fun i=>[(0,GJ a),(1,GJ b),(12,i64 a.length),(13,i64 i)]) (fun _=>[]) (fun i=>a.length-i) 0 ⟨Nat.zero_le _,fun j _ _ h=>absurd h (Nat.not_lt_zero _)⟩ rfl ?_ ?_ ?_
  ·simp -implicitDefEqProofs -proj only [go_sem,seval,AK,Gc]
  ·trivial
  ·rintro i ⟨hi,hs⟩
   by_cases h:i<a.length
   ·have h':i<b.length:=by omega
    have e1:=Lw h
    have e2:=Lw h'
    have hd:=RE a[i] b[i]
    have hgo:a[i]=b[i]→∀(j:Nat) (h:j<a.length) (h':j<b.length),j<i+1→a[j]=b[j]:=by
     intro e j h1 h2 h3
     by_cases hj:j=i
     ·subst hj; exact e
     ·exact hs j h1 h2 (by omega)
    have hno:a[i]≠b[i]→a≠b:=fun hne e=>hne (by subst e; rfl)
    generalize a[i]=p at *
    generalize b[i]=q at *
    simp -implicitDefEqProofs -proj only [go_sem,seval,decide_eq_true (show (i:Int)<a.length by omega)]
    refine EG _ (by omega) e1 ?_
    simp -implicitDefEqProofs -proj only [go_sem,seval]
    refine EG _ (by omega) e2 ?_
    by_cases hpq:p=q
    ·rw [decide_eq_true hpq] at hd
     simp -implicitDefEqProofs -proj only [go_sem,seval,hd]
     (repeat' first
  | ((with_reducible first | refine E6 (fun h=>?_) (fun h=>?_) | refine FA (fun h=>?_) (fun h=>?_) | refine E3 (fun h=>?_) (fun h=>?_)) <;> (simp -implicitDefEqProofs -proj only [go_sem,seval,h,hd]; try (revert h; intro _)))
  | ((with_reducible first | refine AN (fun _ hb=>?_) | refine EJ (fun _ hb=>?_)); simp -implicitDefEqProofs only [E0,E8,AY,Heap.none_get,and_true,true_and] at hb; simp -implicitDefEqProofs -proj only [go_sem,seval,hd]; try (revert hb; intro _))
  | ((with_reducible first | refine EW _ rfl (by simp) ?_ | refine EX _ rfl (by simp) ?_); simp -implicitDefEqProofs -proj only [go_sem,seval,hd])
  | (with_reducible refine Aq ?_ (fun h=>?_); first | ((focus first | decide | omega); try clear h; try simp -implicitDefEqProofs -proj only [go_sem,seval,hd]) | (rotate_left; try clear h; try simp -implicitDefEqProofs -proj only [go_sem,seval,hd]; rotate_right)))
     refine AX (i+1) ⟨by omega,hgo hpq⟩ (by omega) rfl ?_ trivial
     simp -implicitDefEqProofs -proj only [go_sem,seval,AK,Ab (show i<9223372036854775807 by omega)]
    ·rw [decide_eq_false hpq] at hd
     simp -implicitDefEqProofs -proj only [go_sem,seval,hd]
     (repeat' first
  | ((with_reducible first | refine E6 (fun h=>?_) (fun h=>?_) | refine FA (fun h=>?_) (fun h=>?_) | refine E3 (fun h=>?_) (fun h=>?_)) <;> (simp -implicitDefEqProofs -proj only [go_sem,seval,h,hd]; try (revert h; intro _)))
  | ((with_reducible first | refine AN (fun _ hb=>?_) | refine EJ (fun _ hb=>?_)); simp -implicitDefEqProofs only [E0,E8,AY,Heap.none_get,and_true,true_and] at hb; simp -implicitDefEqProofs -proj only [go_sem,seval,hd]; try (revert hb; intro _))
  | ((with_reducible first | refine EW _ rfl (by simp) ?_ | refine EX _ rfl (by simp) ?_); simp -implicitDefEqProofs -proj only [go_sem,seval,hd])
  | (with_reducible refine Aq ?_ (fun h=>?_); first | ((focus first | decide | omega); try clear h; try simp -implicitDefEqProofs -proj only [go_sem,seval,hd]) | (rotate_left; try clear h; try simp -implicitDefEqProofs -proj only [go_sem,seval,hd]; rotate_right)))
     exact AJ (by rw [decide_eq_false (hno hpq)])
   ·have hi':i=a.length:=by omega
    subst hi'
    have heq:a=b:=List.ext_getElem hl fun j h1 h2=>hs j h1 h2 h1
    simp -implicitDefEqProofs -proj only [go_sem,seval,decide_eq_false (show ¬(a.length:Int)<a.length by omega)]
    exact AJ (by rw [decide_eq_true heq])
 ·simp -implicitDefEqProofs -proj only [go_sem,seval,Gc,decide_eq_false (show ¬(a.length:Int)=b.length by omega)]
  exact AJ (by rw [decide_eq_false (fun e=>hl (by rw [e]))])
theorem ACT {m n:Int} {a b:List Grp} (ha:a.length≤1000000) (hb:b.length≤1000000):DataW Try.prog NA [HC m a,HC n b] (bv (decide (m=n∧a=b))):=by
 refine Am VX (by simp) ?_
 simp -implicitDefEqProofs -proj only [go_sem,seval]
 refine AN (fun b2 hb2=>?_)
 simp -implicitDefEqProofs -proj only [go_sem,seval]
 refine AN (fun b3 hb3=>?_)
 replace hb3:upd Heap.none b2 _ b3=none:=hb3
 obtain ⟨n1,n2⟩:=Ac hb3 Ad
 by_cases h:m=n
 ·simp -implicitDefEqProofs -proj only [go_sem,seval,n1,n2,decide_eq_true h]
  refine AH (TE ha hb) ?_
  simp -implicitDefEqProofs -proj only [go_sem,seval]
  exact AJ (congrArg bv (decide_eq_decide.2 ⟨fun e=>⟨h,e⟩,fun e=>e.2⟩))
 ·simp -implicitDefEqProofs -proj only [go_sem,seval,n1,n2,decide_eq_false h]
  exact AJ (by rw [decide_eq_false (fun e=>h e.1)])
theorem VH {m n:Int} {a b:List Grp} (ha:a.length≤1000000) (hb:b.length≤1000000):DataW Try.prog AKC [HC m a,HC n b] (bv (decide (m=n∧a=b))):=by
 refine Am AHR (by simp) ?_
 simp -implicitDefEqProofs -proj only [go_sem,seval]
 refine AN (fun b2 hb2=>?_)
 simp -implicitDefEqProofs -proj only [go_sem,seval]
 refine AN (fun b3 hb3=>?_)
 replace hb3:upd Heap.none b2 _ b3=none:=hb3
 obtain ⟨n1,n2⟩:=Ac hb3 Ad
 by_cases hm:m=n
 rotate_left
 ·simp -implicitDefEqProofs -proj only [go_sem,seval,n1,n2,decide_eq_false hm]
  exact AJ (by rw [decide_eq_false (fun e=>hm e.1)])
 by_cases hl:a.length=b.length
 rotate_left
 ·simp -implicitDefEqProofs -proj only [go_sem,seval,n1,n2,decide_eq_true hm,Gc,decide_eq_false (show ¬(a.length:Int)=b.length by omega)]
  exact AJ (by rw [decide_eq_false (fun e=>hl (by rw [e.2]))])
 simp -implicitDefEqProofs -proj only [go_sem,seval,n1,n2,decide_eq_true hm,Gc,decide_eq_true (show (a.length:Int)=b.length by omega)]
 refine EN (fun i:Nat=>i≤a.length∧∀(j:Nat) (h:j<a.length) (h':j<b.length),j<i→a[j]=b[j]) 38 (fun i=>[(2,.ptr b2 0),(3,.ptr b3 0),(22,i64 a.length),(23,i64 i)]) (fun _=>[(b3,.box 58 [i64 n,GJ b]),(b2,.box 58 [i64 m,GJ a])]) (fun i=>a.length-i) 0 ⟨Nat.zero_le _,fun j _ _ h=>absurd h (Nat.not_lt_zero _)⟩ rfl ?_ ?_ ?_
 ·simp -implicitDefEqProofs -proj only [go_sem,seval,AK,Gc]
 ·simp -implicitDefEqProofs -proj only [go_sem,seval,AR,n1,n2]
 ·rintro i ⟨hi,hs⟩
  have hk:AR (Ak [(b3,.box 58 [i64 n,GJ b]),(b2,.box 58 [i64 m,GJ a])]) [(b3,.box 58 [i64 n,GJ b]),(b2,.box 58 [i64 m,GJ a])]:=EZ (by simp [AP,n1])
  obtain ⟨k3,k2,_⟩:=id hk
  by_cases h:i<a.length
  ·have h':i<b.length:=by omega
   have e1:=Lw h
   have e2:=Lw h'
   have hd:=RE a[i] b[i]
   have hgo:a[i]=b[i]→∀(j:Nat) (h:j<a.length) (h':j<b.length),j<i+1→a[j]=b[j]:=by
    intro e j h1 h2 h3
    by_cases hj:j=i
    ·subst hj; exact e
    ·exact hs j h1 h2 (by omega)
   have hno:a[i]≠b[i]→a≠b:=fun hne e=>hne (by subst e; rfl)
   generalize a[i]=p at *
   generalize b[i]=q at *
   simp -implicitDefEqProofs -proj only [go_sem,seval,k3,k2,n2,decide_eq_true (show (i:Int)<a.length by omega)]
   refine EG _ (by omega) e1 ?_
   simp -implicitDefEqProofs -proj only [go_sem,seval,k3,k2,n1,n2]
   refine EG _ (by omega) e2 ?_
   by_cases hpq:p=q
   ·rw [decide_eq_true hpq] at hd
    simp -implicitDefEqProofs -proj only [go_sem,seval,hd]
    (repeat' first
  | ((with_reducible first | refine E6 (fun h=>?_) (fun h=>?_) | refine FA (fun h=>?_) (fun h=>?_) | refine E3 (fun h=>?_) (fun h=>?_)) <;> (simp -implicitDefEqProofs -proj only [go_sem,seval,h,hd]; try (revert h; intro _)))
  | ((with_reducible first | refine AN (fun _ hb=>?_) | refine EJ (fun _ hb=>?_)); simp -implicitDefEqProofs only [E0,E8,AY,Heap.none_get,and_true,true_and] at hb; simp -implicitDefEqProofs -proj only [go_sem,seval,hd]; try (revert hb; intro _))
  | ((with_reducible first | refine EW _ rfl (by simp) ?_ | refine EX _ rfl (by simp) ?_); simp -implicitDefEqProofs -proj only [go_sem,seval,hd])
  | (with_reducible refine Aq ?_ (fun h=>?_); first | ((focus first | decide | omega); try clear h; try simp -implicitDefEqProofs -proj only [go_sem,seval,hd]) | (rotate_left; try clear h; try simp -implicitDefEqProofs -proj only [go_sem,seval,hd]; rotate_right)))
    refine AX (i+1) ⟨by omega,hgo hpq⟩ (by omega) rfl ?_ hk
    simp -implicitDefEqProofs -proj only [go_sem,seval,AK,Ab (show i<9223372036854775807 by omega)]
   ·rw [decide_eq_false hpq] at hd
    simp -implicitDefEqProofs -proj only [go_sem,seval,hd]
    (repeat' first
  | ((with_reducible first | refine E6 (fun h=>?_) (fun h=>?_) | refine FA (fun h=>?_) (fun h=>?_) | refine E3 (fun h=>?_) (fun h=>?_)) <;> (simp -implicitDefEqProofs -proj only [go_sem,seval,h,hd]; try (revert h; intro _)))
  | ((with_reducible first | refine AN (fun _ hb=>?_) | refine EJ (fun _ hb=>?_)); simp -implicitDefEqProofs only [E0,E8,AY,Heap.none_get,and_true,true_and] at hb; simp -implicitDefEqProofs -proj only [go_sem,seval,hd]; try (revert hb; intro _))
  | ((with_reducible first | refine EW _ rfl (by simp) ?_ | refine EX _ rfl (by simp) ?_); simp -implicitDefEqProofs -proj only [go_sem,seval,hd])
  | (with_reducible refine Aq ?_ (fun h=>?_); first | ((focus first | decide | omega); try clear h; try simp -implicitDefEqProofs -proj only [go_sem,seval,hd]) | (rotate_left; try clear h; try simp -implicitDefEqProofs -proj only [go_sem,seval,hd]; rotate_right)))
    exact AJ (by rw [decide_eq_false (fun e=>hno hpq e.2)])
  ·have hi':i=a.length:=by omega
   subst hi'
   have heq:a=b:=List.ext_getElem hl fun j h1 h2=>hs j h1 h2 h1
   simp -implicitDefEqProofs -proj only [go_sem,seval,decide_eq_false (show ¬(a.length:Int)<a.length by omega)]
   exact AJ (by rw [decide_eq_true ⟨hm,heq⟩])
theorem FwdOK.mem_val {val:Int→Int} {hi:Int}:∀{R:List Run} {lo:Int},FwdOK val lo hi R→∀r∈R,lo≤r.f∧r.f≤r.t∧r.t<hi∧val r.f=r.v
 | a::R,lo,⟨g1,g2,g3,g4,g5⟩,r,hr=>by
  have hle:=g5.le
  rcases List.mem_cons.1 hr with rfl | hr
  ·exact ⟨by omega,g2,by omega,g3 _ (by omega) g2⟩
  ·obtain ⟨h1,h2,h3,h4⟩:=FwdOK.mem_val g5 r hr
   exact ⟨by omega,h2,h3,h4⟩
theorem FwdOK.val_mem {val:Int→Int} {lo hi:Int} {R:List Run} (h:FwdOK val lo hi R) {x:Int} (h1:lo≤x) (h2:x<hi):∃r∈R,r.v=val x:=by
 obtain ⟨m,k1,k2,k3⟩:=FwdOK.drop R.length h (Nat.le_refl _)
 rw [List.drop_length] at k1
 have:m=hi:=k1
 obtain ⟨j,j1,j2,j3,j4,j5,j6⟩:=k3 x h1 (by omega)
 exact ⟨_,List.getElem_mem j1,j5.symm⟩
def Gi (v:Int):Prop:=-2305843009213693952≤v∧v≤2305843009213693952
instance (v:Int):Decidable (Gi v):=by unfold Gi; exact inferInstance
theorem L6 {f:Int} {l:List Int} {i:Nat} (h:i<l.length):HO f l (f+(i:Int))=l[i]:=by
 unfold HO
 rw [show (f+(i:Int)-f).toNat=i by omega]
 simp [h]
theorem Lv {f:Int} {l:List Int}:EY f l=[]↔l=[]:=by
 constructor
 ·intro h
  have:=IY f l
  rw [h] at this
  have e:f=f+l.length:=this
  exact List.length_eq_zero_iff.1 (by omega)
 ·rintro rfl; rfl
theorem Ms {f:Int} {l:List Int} (h:EY f l≠[]):((EY f l).head h).f=f∧((EY f l).getLast h).t=f+l.length-1:=(IY f l).ends h
theorem RT {f:Int} {l:List Int} (h:l≠[]):Mr (EY f l)=f+l.length-1:=by
 have hne:EY f l≠[]:=fun e=>h (Lv.1 e)
 have:=(Ms hne).2
 rw [←this]
 generalize EY f l=R at *
 cases R with
 | nil=>exact absurd rfl hne
 | cons a R=>rfl
theorem OL {f:Int} {l:List Int}:HP (EY f l)↔l≠[]∧f=0∧f+l.length-1≤2000∧∀v∈l,Gi v:=by
 have hF:=IY f l
 constructor
 ·rintro ⟨h,h1,h2,h3⟩
  obtain ⟨e1,e2⟩:=Ms h
  refine ⟨fun e=>h (Lv.2 e),by omega,by omega,fun v hv=>?_⟩
  obtain ⟨i,hi,rfl⟩:=List.getElem_of_mem hv
  obtain ⟨r,hr,hrv⟩:=hF.val_mem (x:=f+i) (by omega) (by omega)
  rw [L6 hi] at hrv
  have:=h3 r hr
  unfold Gv at this
  unfold Gi
  omega
 ·rintro ⟨h,h1,h2,h3⟩
  have hne:EY f l≠[]:=fun e=>h (Lv.1 e)
  obtain ⟨e1,e2⟩:=Ms hne
  refine ⟨hne,by omega,by omega,fun r hr=>?_⟩
  obtain ⟨g1,g2,g3,g4⟩:=hF.mem_val r hr
  have:r.v∈l:=by
   rw [←g4]
   have hi:(r.f-f).toNat<l.length:=by omega
   have:=L6 (f:=f) hi
   rw [show f+(((r.f-f).toNat:Nat):Int)=r.f by omega] at this
   rw [this]
   exact List.getElem_mem hi
  have:=h3 _ this
  unfold Gi at this
  unfold Gv
  omega
theorem PJ {l:List Int} (h:HP (EY 0 l)):(∀r∈EY 0 l,Ha r)∧(EY 0 l).length≤3000:=by
 obtain ⟨h1,h2,h3,h4⟩:=OL.1 h
 have hF:=IY 0 l
 refine ⟨fun r hr=>?_,?_⟩
 ·obtain ⟨g1,g2,g3,g4⟩:=hF.mem_val r hr
  obtain ⟨_,_,_,hb⟩:=h
  have:=hb r hr
  unfold Gv at this
  exact ⟨by omega,by omega⟩
 ·have:=KP (from':=0) (l:=l) l.length
  show (GF 0 l l.length).length≤3000
  omega
def E2 (l:List Int):Prop:=l≠[]∧l.length≤2001∧∀v∈l,Gi v
noncomputable instance (l:List Int):Decidable (E2 l):=Classical.propDecidable _
theorem MW {l:List Int}:HP (EY 0 l)↔E2 l:=by
 rw [OL]
 constructor
 ·rintro ⟨h1,h2,h3,h4⟩; exact ⟨h1,by omega,h4⟩
 ·rintro ⟨h1,h2,h3⟩; exact ⟨h1,rfl,by omega,h3⟩
abbrev FU (l:List Int):List Grp:=F6 (EY 0 l)
theorem RG {l:List Int} {i:Nat} (h:i<l.length):Ko (FU l) i=some l[i]:=by
 have:=(Q4 _ (Nat.le_refl _) (IY 0 l) (i:Int)).2 (by omega) (by omega)
 rw [←L6 (f:=0) h,Int.zero_add]
 exact this
theorem Lp {l:List Int}:(FU l).length≤l.length:=Nat.le_trans (Os (Nat.le_refl _)) (KP l.length)
abbrev Kz (l:List Int):AV:=HC ((l.length:Int)-1) (FU l)
theorem Zq {l:List Int}:Is (EY 0 l)=if E2 l then .tup [Kz l,bv true] else .tup [HC 0 [],bv false]:=by
 unfold Is
 by_cases h:E2 l
 ·rw [if_pos h,if_pos (MW.2 h),RT h.1,Int.zero_add]
 ·rw [if_neg h,if_neg (fun e=>h (MW.1 e))]
theorem AFZ {l:List Int} (hl:l.length≤999999):NewW Try.prog Px [Jl (EY 0 l)] (if E2 l then .tup [Kz l,bv true] else .tup [HC 0 [],bv false]):=by
 have:=ZG (R:=EY 0 l) (Nat.le_trans (KP l.length) (by omega)) PJ
 rwa [Zq] at this
theorem LN {c:CoreX} {d:Int} {m:Nat} {mx:Int}:(G3 c d m mx).length=(mx+1).toNat:=by simp [G3]
theorem IX {c:CoreX} {d:Int} {k:Nat}:(FF c d k).length=k:=by simp [FF]
theorem Sm {c:CoreX} {d:Int} {k m:Nat} (h:m<k) (hm:m<c.ms.length):(FF c d k)[m]'(by rw [IX]; exact h)=G3 c d m c.ms[m].mx:=by
 simp [FF,hm]
theorem ABO {c:CoreX} {d:Int} {k:Nat} (hm:k<c.ms.length):FF c d (k+1)=FF c d k++[G3 c d k c.ms[k].mx]:=by
 simp [FF,List.range_succ,hm]
theorem PW {c:CoreX} (h:fitsC c) (d:Int) {m:Nat} (hm:m<c.ms.length):E2 (G3 c d m c.ms[m].mx):=by
 have hb:=(fitsC.bnd h.good).mx m hm
 refine ⟨fun e=>?_,by rw [LN]; omega,fun v hv=>?_⟩
 ·have:=congrArg List.length e
  rw [LN] at this
  simp at this
  omega
 ·obtain ⟨q,hq,rfl⟩:=List.mem_map.1 hv
  have hq:=List.mem_range.1 hq
  have:=Qd h d hm (q:=q) (by omega) (by omega) (Nat.le_refl c.ps.length)
  unfold Gi Kw
  omega
theorem Oc {c:CoreX} (h:fitsC c) (d:Int):∀l∈FF c d c.ms.length,E2 l:=by
 intro l hl
 obtain ⟨i,hi,rfl⟩:=List.getElem_of_mem hl
 rw [IX] at hi
 rw [Sm hi hi]
 exact PW h d hi
theorem OZ {i k:Nat}:(2 ^ i).testBit k=decide (k=i):=by
 rw [Nat.testBit_two_pow]
 exact decide_eq_decide.2 eq_comm
theorem AEq {i k:Nat}:(256*2 ^ i).testBit k=decide (k=8+i):=by
 rw [show 256*2 ^ i=2 ^ (8+i) by rw [Nat.pow_add],OZ]
theorem Nt {ss:List SumX} {d:Int} {k:Nat}:∀{i:Nat},i≤ss.length→((Fo ss d i).testBit k=true↔k<i∧∃s,ss[k]? = some s∧Fg d s.f s.t)
 | 0,_=>by simp [Fo]
 | i+1,h=>by
  have ih:=Nt (ss:=ss) (d:=d) (k:=k) (i:=i) (by omega)
  rw [Fo,Nat.testBit_or,Bool.or_eq_true,ih,List.getElem?_eq_getElem (show i<ss.length by omega)]
  simp -implicitDefEqProofs only []
  by_cases hd:ss[i].f≤d∧d≤ss[i].t
  ·rw [if_pos hd,OZ,decide_eq_true_eq]
   constructor
   ·rintro (⟨h1,h2⟩ | rfl)
    ·exact ⟨by omega,h2⟩
    ·exact ⟨by omega,_,List.getElem?_eq_getElem (by omega),hd⟩
   ·rintro ⟨h1,h2⟩
    by_cases hk:k=i
    ·exact .inr hk
    ·exact .inl ⟨by omega,h2⟩
  ·rw [if_neg hd]
   simp -implicitDefEqProofs only [Nat.zero_testBit,Bool.false_eq_true,or_false]
   constructor
   ·rintro ⟨h1,h2⟩; exact ⟨by omega,h2⟩
   ·rintro ⟨h1,s,h2,h3⟩
    refine ⟨?_,s,h2,h3⟩
    by_cases hk:k=i
    ·subst hk
     rw [List.getElem?_eq_getElem (by omega)] at h2
     rw [←Option.some.inj h2] at h3
     exact absurd h3 hd
    ·omega
theorem NL {ss:List SumX} {ps:List PartX} {d:Int} {k:Nat}:∀{i:Nat},i≤ps.length→((Fr ss ps d i).testBit k=true↔(Fo ss d ss.length).testBit k=true∨8≤k∧k<8+i∧∃s,ps[k-8]? = some s∧Fg d s.f s.t)
 | 0,_=>by
  rw [Fr]
  exact ⟨.inl,fun h=>h.elim id (fun k=>absurd k.2.1 (by omega))⟩
 | i+1,h=>by
  have ih:=NL (ss:=ss) (ps:=ps) (d:=d) (k:=k) (i:=i) (by omega)
  rw [Fr,Nat.testBit_or,Bool.or_eq_true,ih,List.getElem?_eq_getElem (show i<ps.length by omega)]
  simp -implicitDefEqProofs only []
  by_cases hd:ps[i].f≤d∧d≤ps[i].t
  ·rw [if_pos hd,AEq,decide_eq_true_eq]
   constructor
   ·rintro ((h1 | ⟨h1,h2,h3⟩) | rfl)
    ·exact .inl h1
    ·exact .inr ⟨h1,by omega,h3⟩
    ·exact .inr ⟨by omega,by omega,_,by rw [show 8+i-8=i by omega]; exact List.getElem?_eq_getElem (by omega),hd⟩
   ·rintro (h1 | ⟨h1,h2,h3⟩)
    ·exact .inl (.inl h1)
    ·by_cases hk:k=8+i
     ·exact .inr hk
     ·exact .inl (.inr ⟨h1,by omega,h3⟩)
  ·rw [if_neg hd]
   simp -implicitDefEqProofs only [Nat.zero_testBit,Bool.false_eq_true,or_false]
   constructor
   ·rintro (h1 | ⟨h1,h2,h3⟩)
    ·exact .inl h1
    ·exact .inr ⟨h1,by omega,h3⟩
   ·rintro (h1 | ⟨h1,h2,s,h3,h4⟩)
    ·exact .inl h1
    ·refine .inr ⟨h1,?_,s,h3,h4⟩
     by_cases hk:k=8+i
     ·subst hk
      rw [show 8+i-8=i by omega,List.getElem?_eq_getElem (by omega)] at h3
      rw [←Option.some.inj h3] at h4
      exact absurd h4 hd
     ·omega
theorem PI {c:CoreX} {d:Int} {j:Nat} (h8:c.ss.length≤8) (hj:j<c.ss.length):((F8 c d).testBit j=true↔Fg d c.ss[j].f c.ss[j].t):=by
 unfold F8
 rw [NL (Nat.le_refl _),Nt (Nat.le_refl _)]
 constructor
 ·rintro (⟨_,s,h2,h3⟩ | ⟨h1,_⟩)
  ·rw [List.getElem?_eq_getElem hj] at h2
   cases h2
   exact h3
  ·omega
 ·intro h
  exact .inl ⟨hj,_,List.getElem?_eq_getElem hj,h⟩
theorem Pa {c:CoreX} {d:Int} {j:Nat} (h8:c.ss.length≤8) (hj:j<c.ps.length):((F8 c d).testBit (8+j)=true↔Fg d c.ps[j].f c.ps[j].t):=by
 unfold F8
 rw [NL (Nat.le_refl _),Nt (Nat.le_refl _),show 8+j-8=j by omega,List.getElem?_eq_getElem hj]
 constructor
 ·rintro (⟨h1,_⟩ | ⟨_,_,s,h2,h3⟩)
  ·omega
  ·cases h2; exact h3
 ·intro h
  exact .inr ⟨by omega,by omega,_,rfl,h⟩
theorem AAo {c:CoreX} {d e:Int} (h8:c.ss.length≤8) (h:F8 c d=F8 c e):FY c d=FY c e:=by
 have h1:∀(j:Nat) (hj:j<c.ss.length),Fg d c.ss[j].f c.ss[j].t↔Fg e c.ss[j].f c.ss[j].t:=fun j hj=>by rw [←PI h8 hj,←PI h8 hj,h]
 have h2:∀(j:Nat) (hj:j<c.ps.length),Fg d c.ps[j].f c.ps[j].t↔Fg e c.ps[j].f c.ps[j].t:=fun j hj=>by rw [←Pa h8 hj,←Pa h8 hj,h]
 have e1:Fd c d=Fd c e:=Lm fun j hj=>by
  unfold Gh
  rw [List.getElem?_eq_getElem hj]
  simp -implicitDefEqProofs only [h1 j hj]
 have e2:∀m,FG c d m=FG c e m:=fun m=>Lm fun j hj=>by
  unfold E7
  rw [List.getElem?_eq_getElem hj]
  simp -implicitDefEqProofs only [h2 j hj]
 have e3:∀m q,Kw c d m q=Kw c e m q:=fun m q=>Lm fun j hj=>by
  unfold F5
  rw [List.getElem?_eq_getElem hj]
  simp -implicitDefEqProofs only [h2 j hj]
 unfold FY N0 FF G3
 simp -implicitDefEqProofs only [e1,e3,show FG c d=FG c e from funext e2]
theorem AI1 {c:CoreX} (h8:c.ss.length≤8):∀d e,c.f≤d→d<c.t+1→c.f≤e→e<c.t+1→((F8 c d:Nat):Int)=((F8 c e:Nat):Int)→FY c d=FY c e :=
 fun d e _ _ _ _ h=>AAo h8 (by omega)
def H9 (l:List Int):List D:=[.int .i64 ((l.length:Int)-1),.sl 5 (A0 (FU l))]
def EL (ls:List (List Int)):List (List D):=ls.map H9
abbrev FE (ls:List (List Int)):AV:=.d (.sl 2 (EL ls))
theorem GG {ls:List (List Int)}:(EL ls).length=ls.length:=List.length_map ..
theorem Kk {ls:List (List Int)} {i:Nat} (h:i<ls.length):(EL ls)[((i:Int)).toNat]? = some [.int .i64 ((ls[i].length:Int)-1),.sl 5 (A0 (FU ls[i]))]:=by
 rw [Int.toNat_natCast]; simp [EL,h,H9]
theorem AIF {ls:List (List Int)} {l:List Int}:EL ls++[[.int .i64 ((l.length:Int)-1),.sl 5 (A0 (FU l))]]=EL (ls++[l]):=by simp [EL,H9]
def JG (s:Seg EM):List D:=[.int .i64 s.f,.int .i64 s.t,.int .i64 s.v.1,.sl 2 (EL s.v.2)]
def ER (S:List (Seg EM)):List (List D):=S.map JG
abbrev Hx (s:Seg EM):AV:=.agg [i64 s.f,i64 s.t,i64 s.v.1,FE s.v.2]
abbrev Ls (S:List (Seg EM)):AV:=.d (.sl 4 (ER S))
theorem H8 {S:List (Seg EM)}:(ER S).length=S.length:=List.length_map ..
theorem O9 {S:List (Seg EM)} {i:Nat} (h:i<S.length):(ER S)[((i:Int)).toNat]? = some [.int .i64 S[i].f,.int .i64 S[i].t,.int .i64 S[i].v.1,.sl 2 (EL S[i].v.2)]:=by
 rw [Int.toNat_natCast]; simp [ER,h,JG]
theorem NK {S:List (Seg EM)} {i:Nat} {s:Seg EM} (h:S[i]? = some s):(ER S)[i]? = some [.int .i64 s.f,.int .i64 s.t,.int .i64 s.v.1,.sl 2 (EL s.v.2)]:=by
 simp [ER,h,JG]
theorem OJ {A:List (Seg EM)} {s:Seg EM} {x:Int}:(ER (A++[s])).set A.length [.int .i64 s.f,.int .i64 x,.int .i64 s.v.1,.sl 2 (EL s.v.2)]=ER (A++[⟨s.f,x,s.v⟩]):=by
 simp [ER,JG,List.set_append]
abbrev Gf (cur:ByteArray) (f t:Int) (ms:List MeterX) (S:List (Seg EM)):AV:=.agg [.d (.str cur),i64 f,i64 t,.d (.sl 5 (AS ms)),Ls S]
theorem Po {H:Heap} {f t x:Int} {v:AV} {ls:List (List Int)} (h:LendV H v (FE ls)):LendV H (.agg [i64 f,i64 t,i64 x,v]) (.agg [i64 f,i64 t,i64 x,FE ls]):=by
 refine .agg _ _ rfl fun j u v e1 e2=>?_
 match j with
 | 0=>cases e1; cases e2; exact .refl _
 | 1=>cases e1; cases e2; exact .refl _
 | 2=>cases e1; cases e2; exact .refl _
 | 3=>cases e1; cases e2; exact h
 | j+4=>cases e1
theorem MH {H:Heap} {cur:ByteArray} {f t:Int} {v w:AV} {ms:List MeterX} {S:List (Seg EM)} (h:LendV H v (.d (.sl 5 (AS ms)))) (h2:LendV H w (Ls S)):LendV H (.agg [.d (.str cur),i64 f,i64 t,v,w]) (Gf cur f t ms S):=by
 refine .agg _ _ rfl fun j u v e1 e2=>?_
 match j with
 | 0=>cases e1; cases e2; exact .refl _
 | 1=>cases e1; cases e2; exact .refl _
 | 2=>cases e1; cases e2; exact .refl _
 | 3=>cases e1; cases e2; exact h
 | 4=>cases e1; cases e2; exact h2
 | j+5=>cases e1
theorem Xv {a b:List Int} (hl:a.length=b.length) (h:FU a=FU b):a=b:=by
 refine List.ext_getElem hl fun i h1 h2=>?_
 have e1:=RG h1
 have e2:=RG h2
 rw [h,e2] at e1
 exact (Option.some.inj e1).symm
theorem PS {a b:List Int}:((a.length:Int)-1=(b.length:Int)-1∧FU a=FU b)↔a=b :=
 ⟨fun h=>Xv (by omega) h.2,fun h=>by rw [h]; exact ⟨rfl,rfl⟩⟩
noncomputable def Ip (c:CoreX):List (Seg EM):=Lz (FZ (FY c) ((IH c).map (·.f)) (IH c).length) c.t
theorem VG {q:Nat}:CallW Try.prog Qp [.nilsl q,i64 0,i64 0,.fn HJ []] Heap.none fun _ _=>True:=by
 have hw1:IntKind.i64.wrap (0+1)=1:=by decide
 refine Am RI (by simp) ?_
 simp -implicitDefEqProofs -proj only [go_sem,seval,hw1]
 refine EN (fun x:Nat=>x=0) 53 (fun x=>[(2,i64 0),(8,i64 1)]) (fun x=>[]) (fun x=>x) 0 rfl rfl ?_ trivial ?_
 ·simp -implicitDefEqProofs -proj only [go_sem,seval,AK]
  try trivial
 rintro x rfl
 simp -implicitDefEqProofs -proj only [go_sem,seval,show (IntKind.i64.wrap 1)=1 by decide]
 try trivial
theorem Vy {q:Nat}:CallW Try.prog OS [.nilsl q,i64 0,.fn HJ []] Heap.none fun _ _=>True:=by
 refine Am P7 (by simp) ?_
 simp -implicitDefEqProofs -proj only [go_sem,seval]
 refine EN (fun x:Nat=>x=0) 63 (fun x=>[(0,.nilsl q),(1,i64 0),(2,.fn HJ []),(6,i64 20),(7,i64 0),(8,i64 20)]) (fun x=>[]) (fun x=>x) 0 rfl rfl ?_ trivial ?_
 ·simp -implicitDefEqProofs -proj only [go_sem,seval,AK]
  try trivial
 rintro x rfl
 simp -implicitDefEqProofs -proj only [go_sem,seval]
 refine Fy (G6 VG (fun k=>.inl rfl)) (fun r H' hk=>?_)
 simp -implicitDefEqProofs -proj only [go_sem,seval]
 refine EN (fun x:Nat=>x=0) 63 (fun x=>[(1,i64 0),(6,i64 20)]) (fun x=>[]) (fun x=>x) 0 rfl rfl ?_ trivial ?_
 ·simp -implicitDefEqProofs -proj only [go_sem,seval,AK]
  try trivial
 rintro x rfl
 simp -implicitDefEqProofs -proj only [go_sem,seval]
 try trivial
theorem AJR {q:Nat}:CallW Try.prog P2 [.nilsl q,.fn HJ []] Heap.none fun _ _=>True:=by
 refine Am Oy (by simp) ?_
 simp -implicitDefEqProofs -proj only [go_sem,seval]
 refine Fy (G6 Vy (fun k=>.inl rfl)) (fun r H' hk=>?_)
 simp -implicitDefEqProofs -proj only [go_sem,seval]
 try trivial
theorem AGe {q:Nat}:CallW Try.prog PE [.nilsl q,.fn KR []] Heap.none fun r _=>r = .nilsl q:=by
 refine Am Pk (by simp) ?_
 simp -implicitDefEqProofs -proj only [go_sem,seval]
 try rfl
theorem AHM {a b:List MeterX} (h:a++b=[]):Gd a b=[]:=by
 have:=NC a b
 rw [←List.length_append,h] at this
 exact List.eq_nil_of_length_eq_zero (by simpa using this)
theorem KW {H:Heap} {c:Nat} {x:Blk} (h:H c=some x) (k:Nat):Ak [(c,x)] k=none∨Ak [(c,x)] k=H k:=by
 rw [Aw]
 by_cases e:k=c
 ·rw [if_pos e]; subst e; exact .inr h.symm
 ·rw [if_neg e]; exact .inl rfl
theorem QT {cu cu':ByteArray} {f t f' t':Int} {A B:List MeterX} {S S':List (Seg EM)} (hA:A.length≤8) (hB:B.length≤8):DataW Try.prog AF4 [Gf cu f t A S,Gf cu' f' t' B S'] (.d (.sl 5 (AS (Gd A B)))):=by
 refine Am AGw (by simp) ?_
 simp -implicitDefEqProofs -proj only [go_sem,seval]
 refine AN (fun b1 hb1=>?_)
 simp -implicitDefEqProofs -proj only [go_sem,seval]
 refine AN (fun b2 hb2=>?_)
 replace hb2:upd Heap.none b1 _ b2=none:=hb2
 obtain ⟨n1,n2⟩:=Ac hb2 Ad
 simp -implicitDefEqProofs -proj only [go_sem,seval,n1,n2]
 refine EJ (fun b3 hb3=>?_)
 simp -implicitDefEqProofs -proj only [go_sem,seval,n1,n2]
 refine Fy (G6 (T5 (A:=A) (B:=B) (a:=b3) (ca:=2) (ta:=22) (by omega) (by omega)) (KW (by simp -implicitDefEqProofs -proj only [go_sem,seval]))) (fun r H' hk=>?_)
 obtain ⟨H1,hc,hsub,_⟩:=hk
 rcases hc with ⟨h0,q,rfl⟩ | ⟨b,cap,rfl,hb⟩
 ·simp -implicitDefEqProofs -proj only [go_sem,seval]
  refine Fy (G6 AJR (fun k=>.inl rfl)) (fun r H2 hk2=>?_)
  simp -implicitDefEqProofs -proj only [go_sem,seval]
  refine Fy (G6 AGe (fun k=>.inl rfl)) (fun r H3 hk3=>?_)
  obtain ⟨_,rfl,_⟩:=hk3
  simp -implicitDefEqProofs -proj only [go_sem,seval]
  rw [AHM h0]
  exact .nilsl _ _
 ·replace hb:=hsub b _ hb
  simp -implicitDefEqProofs -proj only [go_sem,seval]
  refine Fy (AGN hb rfl (by rw [List.length_append]; omega)) (fun r H2 hk2=>?_)
  obtain ⟨hb2',_⟩:=hk2
  simp -implicitDefEqProofs -proj only [go_sem,seval]
  refine Fy (G6 (Tf (S:=HE (A++B)) (c:=b) (cp:=cap) (n:=(A++B).length) (M4 _).symm (by rw [M4,List.length_append]; omega)) (KW hb2')) (fun r H3 hk3=>?_)
  obtain ⟨H4,⟨rfl,hb4⟩,hsub4,_⟩:=hk3
  replace hb4:=hsub4 b _ hb4
  simp -implicitDefEqProofs -proj only [go_sem,seval]
  have e:(Gu (HE (A++B))).length=(AS (Gd A B)).length:=by rw [Gj]; rfl
  rw [e]
  exact .own _ _ _ _ _ _ hb4
def HZ (l:List MeterX) (nm:ByteArray):Bool:=l.any fun m=>m.nm.toList == nm.toList
theorem Nm {l:List MeterX} {nm:ByteArray} (hl:l.length≤1000):DataW Try.prog SF [.d (.sl 5 (AS l)),.d (.str nm)] (bv (HZ l nm)):=by
 refine Am U0 (by simp) ?_
 simp -implicitDefEqProofs -proj only [go_sem,seval,Gj]
 refine EN (fun i:Nat=>i≤l.length∧∀j m,j<i→l[j]? = some m→(m.nm.toList == nm.toList)=false) 18 (fun i=>[(1,.d (.str nm)),(7,.d (.sl 5 (AS l))),(8,i64 l.length),(9,i64 i)]) (fun _=>[]) (fun i=>l.length-i) 0 ⟨by omega,fun j m h=>by omega⟩ rfl ?_ trivial ?_
 ·simp -implicitDefEqProofs -proj only [go_sem,seval,AK]
  try rfl
 rintro i ⟨hi,hno⟩
 by_cases h:i<l.length
 ·have g1:(AS l)[i]? = some l[i].el:=IL (List.getElem?_eq_getElem h)
  simp -implicitDefEqProofs -proj only [go_sem,seval,decide_eq_true (show (i:Int)<l.length by omega)]
  refine EG _ (by omega) g1 ?_
  simp -implicitDefEqProofs -proj only [go_sem,seval,MeterX.el]
  refine AN (fun b hb=>?_)
  cases hd:(l[i].nm.toList == nm.toList) with
  | true =>
   simp -implicitDefEqProofs -proj only [go_sem,seval,Ig,hd]
   refine AJ ?_
   have e:HZ l nm=true:=List.any_eq_true.2 ⟨_,List.getElem_mem h,hd⟩
   rw [e]
  | false =>
   simp -implicitDefEqProofs -proj only [go_sem,seval,Ig,hd,Ab (show i<9223372036854775807 by omega)]
   refine AX (i+1) ⟨by omega,fun j m hj hm=>?_⟩ (by omega) rfl ?_ trivial
   ·by_cases e:j=i
    ·subst e; rw [List.getElem?_eq_getElem h] at hm; cases hm; exact hd
    ·exact hno j m (by omega) hm
   ·simp -implicitDefEqProofs -proj only [go_sem,seval,AK]
    try rfl
 ·simp -implicitDefEqProofs -proj only [go_sem,seval,decide_eq_false (show ¬(i:Int)<l.length by omega)]
  refine AJ ?_
  have e:HZ l nm=false:=List.any_eq_false.2 (fun m hm=>by
   obtain ⟨j,hj⟩:=List.mem_iff_getElem?.1 hm
   have:=hno j m (by have:=(List.getElem?_eq_some_iff.1 hj).1; omega) hj
   rw [this]; simp)
  rw [e]
def Fl (l:List Int) (i:Nat):List Int:=(GF 0 l i).map (·.f)
theorem AFh {l:List Int} {i:Nat} (h:i<l.length):Fl l (i+1)=if i=0∨l.getD (i-1) 0≠l[i] then Fl l i++[(i:Int)] else Fl l i:=by
 unfold Fl
 rw [GF,GH]
 have hx:l.getD i 0=l[i]:=by simp [h]
 rw [hx]
 cases i with
 | zero =>
  rw [if_pos (.inl rfl)]
  simp [GF]
 | succ i =>
  obtain ⟨q,h1,h2,h3⟩:=@Pe 0 l i
  rw [h1]
  simp -implicitDefEqProofs only [Nat.add_sub_cancel]
  rw [h2]
  by_cases hv:l.getD i 0=l[i+1]
  ·rw [if_pos hv,if_neg (fun h=>h.elim (by omega) (fun e=>e hv))]
   have hne:GF 0 l (i+1)≠[]:=AKQ
   conv=>rhs; rw [←List.dropLast_concat_getLast hne]
   rw [List.getLast?_eq_some_getLast hne] at h1
   cases h1
   simp
  ·rw [if_neg hv,if_pos (.inr hv)]
   simp
structure RX where
 i:Nat
 c:Nat
 cap:Nat
theorem Hd {i c cap:Nat}:(RX.mk i c cap).i=i:=(rfl)
theorem IG {i c cap:Nat}:(RX.mk i c cap).c=c:=(rfl)
theorem Hv {i c cap:Nat}:(RX.mk i c cap).cap=cap:=(rfl)
structure RY where
 i:Nat
 d:Nat
 dap:Nat
 G:List Grp
theorem GK {i d dap:Nat} {G:List Grp}:(RY.mk i d dap G).i=i:=(rfl)
theorem G9 {i d dap:Nat} {G:List Grp}:(RY.mk i d dap G).d=d:=(rfl)
theorem HF {i d dap:Nat} {G:List Grp}:(RY.mk i d dap G).dap=dap:=(rfl)
theorem Fm {i d dap:Nat} {G:List Grp}:(RY.mk i d dap G).G=G:=(rfl)
def Ji (b2:Nat) (l:List Int) (y:RX):List (Nat×Blk):=EK 3 1 y.c y.cap (A5 (Fl l y.i))++[(b2,.box 58 [i64 0,.nilsl 5])]
def Hh (b7 b2 c cap:Nat) (l ST:List Int) (y:RY):List (Nat×Blk):=EK 66 5 y.d y.dap (A0 y.G)++[(b7,.box 58 [i64 ((l.length:Int)-1),EU 5 5 y.d y.dap (A0 y.G)]),(b2,.box 58 [i64 0,.nilsl 5]),(c,.row 3 1 cap (A5 ST))]
theorem N9 {a:Nat} {A B:List Nat} (h:(a::(A++B)).Nodup):(A++a::B).Nodup:=(List.perm_middle.nodup_iff).2 h
theorem LU {a:Nat} {A B:List Nat} (h:(A++a::B).Nodup):(A++B).Nodup:=(List.nodup_cons.1 ((List.perm_middle.nodup_iff).1 h)).2
set_option maxRecDepth 20000 in
set_option maxHeartbeats 1000000 in
theorem Vs {l:List Int} (hfl:L4 l) (hl:l.length≤3000):NewW Try.prog Yu [I2 l] (if E2 l then .tup [Kz l,bv true] else .tup [HC 0 [],bv false]):=by
 refine Am AFz (by simp) ?_
 simp -implicitDefEqProofs -proj only [go_sem,seval]
 refine AN (fun b2 hb2=>?_)
 by_cases h0:l.length=0
 ·have:¬E2 l:=fun h=>h.1 (List.length_eq_zero_iff.1 h0)
  rw [if_neg this]
  simp -implicitDefEqProofs -proj only [go_sem,seval,FT,decide_eq_true (show (l.length:Int)=0 by omega)]
  exact He (Hg (.nilsl _ _))
 by_cases h1:2001<(l.length:Int)
 ·have:¬E2 l:=fun h=>by have:=h.2.1; omega
  rw [if_neg this]
  simp -implicitDefEqProofs -proj only [go_sem,seval,FT,decide_eq_false (show ¬(l.length:Int)=0 by omega),decide_eq_true h1]
  exact He (Hg (.nilsl _ _))
 have a2:=HA (x:=.box 58 [i64 0,.nilsl 5]) hb2 (l:=[]) trivial
 have n2:=HU (x:=.box 58 [i64 0,.nilsl 5]) hb2 (l:=[]) trivial List.nodup_nil
 simp -implicitDefEqProofs -proj only [go_sem,seval,FT,decide_eq_false (show ¬(l.length:Int)=0 by omega),decide_eq_false h1]
 refine EN (fun y:RX=>y.i≤l.length∧(∀(j:Nat) (h:j<l.length),j<y.i→Gi l[j])∧(AP (Ji b2 l y)).Nodup) 165 (fun y=>[(0,I2 l),(2,.ptr b2 0),(4,EU 0 1 y.c y.cap (A5 (Fl l y.i))),(19,I2 l),(20,i64 l.length),(21,i64 y.i)]) (Ji b2 l) (fun y=>l.length-y.i) ⟨0,0,0⟩ ⟨Nat.zero_le _,fun j _ h=>absurd h (Nat.not_lt_zero _),n2⟩ rfl ?_ ?_ ?_
 ·simp -implicitDefEqProofs -proj only [go_sem,seval,AK,Hd,IG,Hv]
  rfl
 ·simp -implicitDefEqProofs -proj only [go_sem,seval]
  exact a2
 ·rintro ⟨i,c,cap⟩ ⟨hi,hsm,hn⟩
  simp -implicitDefEqProofs only [Hd] at hi hsm
  have hall:=EZ hn
  obtain ⟨H,hH⟩:∃H,Ak (Ji b2 l ⟨i,c,cap⟩)=H:=⟨_,rfl⟩
  rw [hH] at hall
  simp -implicitDefEqProofs only [Ji,Hd,IG,Hv] at hall hn
  obtain ⟨hrow,k2,_⟩:=EO.1 hall
  by_cases h:i<l.length
  ·have hel:=ABu h
   have hst:=AFh h
   have hsl:(Fl l i).length≤i:=by unfold Fl; rw [List.length_map]; exact KP i
   have hstep:Gi l[i]→∀(j:Nat) (h:j<l.length),j<i+1→Gi l[j]:=by
    intro e j h1 h2
    by_cases hj:j=i
    ·subst hj; exact e
    ·exact hsm j h1 (by omega)
   have hno:¬Gi l[i]→¬E2 l:=fun e k=>e (k.2.2 _ (List.getElem_mem h))
   have hprev:0<i→(A5 l)[((i-1:Nat):Int).toNat]? = some [.int .i64 (l.getD (i-1) 0)]:=fun hp=>by
    rw [Int.toNat_natCast]
    exact Jq (by rw [List.getD_eq_getElem?_getD,List.getElem?_eq_getElem (by omega)]; rfl)
   have w1:IntKind.i64.wrap ((i:Int)-1)=(i:Int)-1:=by rw [IntKind.wrap_i64]; omega
   generalize l[i]=x at *
   generalize l.getD (i-1) 0=p at *
   unfold Gi at hstep hno
   simp -implicitDefEqProofs -proj only [go_sem,seval,Hd,IG,Hv,hH,decide_eq_true (show (i:Int)<l.length by omega)]
   refine EG _ (by omega) hel ?_
   by_cases c1:2305843009213693952<x
   ·rw [if_neg (hno (by omega))]
    simp -implicitDefEqProofs -proj only [go_sem,seval,k2,decide_eq_true c1]
    exact He (Hg (.nilsl _ _))
   by_cases c2:x < -2305843009213693952
   ·rw [if_neg (hno (by omega))]
    simp -implicitDefEqProofs -proj only [go_sem,seval,k2,decide_eq_false c1,decide_eq_true c2]
    exact He (Hg (.nilsl _ _))
   by_cases hi0:i=0
   ·rw [if_pos (.inl hi0)] at hst
    simp -implicitDefEqProofs -proj only [go_sem,seval,k2,decide_eq_false c1,decide_eq_false c2,decide_eq_true (show (i:Int)=0 by omega)]
    refine EJ (fun bs hs'=>?_)
    replace hs':H bs=none:=hs'
    simp -implicitDefEqProofs -proj only [go_sem,seval]
    refine Fa (xs:=A5 (Fl l i)) (y:=[.int .i64 (i:Int)]) (t:=3) (capc:=1) [(b2,.box 58 [i64 0,.nilsl 5])] rfl (Ar hs' hall) hn (by simp -implicitDefEqProofs -proj only [go_sem,seval]) (by rw [FT]; omega) (by rw [FT]; omega) (fun H' c' cap' ha hk=>?_)
    rw [show A5 (Fl l i)++[[.int .i64 (i:Int)]]=A5 (Fl l (i+1)) by rw [hst]; simp [A5]] at ha hk
    have hne:A5 (Fl l (i+1))≠[]:=by rw [hst]; simp [A5]
    have hl2:(A5 (Fl l (i+1))).length=(A5 (Fl l i)).length+1:=by rw [hst]; simp [A5]
    simp -implicitDefEqProofs -proj only [go_sem,seval]
    refine AX ⟨i+1,c',cap'⟩ ⟨by show i+1≤l.length; omega,hstep (by omega),hk⟩ (by show l.length-(i+1)<l.length-i; omega) rfl ?_ ha
    simp -implicitDefEqProofs -proj only [go_sem,seval,AK,Hd,IG,Hv,Ab (show i<9223372036854775807 by omega),Eq hne,hl2]
   ·have hp:=hprev (by omega)
    simp -implicitDefEqProofs -proj only [go_sem,seval,k2,decide_eq_false c1,decide_eq_false c2,decide_eq_false (show ¬(i:Int)=0 by omega),w1]
    refine EG _ (by omega) (i:=(i:Int)-1) (by rw [show (i:Int)-1=((i-1:Nat):Int) by omega]; exact hp) ?_
    by_cases hpx:p=x
    ·rw [if_neg (fun h=>h.elim hi0 (fun e=>e hpx))] at hst
     simp -implicitDefEqProofs -proj only [go_sem,seval,decide_eq_true hpx]
     refine AX ⟨i+1,c,cap⟩ ⟨by show i+1≤l.length; omega,hstep (by omega),by simp -implicitDefEqProofs only [Ji,Hd,IG,Hv,hst]; exact hn⟩ (by show l.length-(i+1)<l.length-i; omega) rfl ?_ (by simp -implicitDefEqProofs only [Ji,Hd,IG,Hv,hst]; exact hall)
     simp -implicitDefEqProofs -proj only [go_sem,seval,AK,Hd,IG,Hv,hst,Ab (show i<9223372036854775807 by omega)]
    ·rw [if_pos (.inr hpx)] at hst
     simp -implicitDefEqProofs -proj only [go_sem,seval,decide_eq_false hpx]
     refine EJ (fun bs hs'=>?_)
     replace hs':H bs=none:=hs'
     simp -implicitDefEqProofs -proj only [go_sem,seval]
     refine Fa (xs:=A5 (Fl l i)) (y:=[.int .i64 (i:Int)]) (t:=3) (capc:=1) [(b2,.box 58 [i64 0,.nilsl 5])] rfl (Ar hs' hall) hn (by simp -implicitDefEqProofs -proj only [go_sem,seval]) (by rw [FT]; omega) (by rw [FT]; omega) (fun H' c' cap' ha hk=>?_)
     rw [show A5 (Fl l i)++[[.int .i64 (i:Int)]]=A5 (Fl l (i+1)) by rw [hst]; simp [A5]] at ha hk
     have hne:A5 (Fl l (i+1))≠[]:=by rw [hst]; simp [A5]
     have hl2:(A5 (Fl l (i+1))).length=(A5 (Fl l i)).length+1:=by rw [hst]; simp [A5]
     simp -implicitDefEqProofs -proj only [go_sem,seval]
     refine AX ⟨i+1,c',cap'⟩ ⟨by show i+1≤l.length; omega,hstep (by omega),hk⟩ (by show l.length-(i+1)<l.length-i; omega) rfl ?_ ha
     simp -implicitDefEqProofs -proj only [go_sem,seval,AK,Hd,IG,Hv,Ab (show i<9223372036854775807 by omega),Eq hne,hl2]
  ·have hi':i=l.length:=by omega
   subst hi'
   have hcur:E2 l:=⟨fun e=>h0 (by rw [e]; rfl),by omega,fun v hv=>by obtain ⟨j,hj,rfl⟩:=List.getElem_of_mem hv; exact hsm j hj hj⟩
   rw [if_pos hcur]
   have hwl:IntKind.i64.wrap ((l.length:Int)-1)=(l.length:Int)-1:=by rw [IntKind.wrap_i64]; omega
   obtain ⟨hro,hRl⟩:=PJ (MW.2 hcur)
   have hmem:=(IY 0 l).mem_val
   have hR0:0<(EY 0 l).length:=List.length_pos_iff.2 (fun e=>hcur.1 (Lv.1 e))
   have hST:Fl l l.length=(EY 0 l).map (·.f):=rfl
   have hget:∀(j:Nat) (h:j<(EY 0 l).length),0≤(EY 0 l)[j].f∧(A5 l)[(EY 0 l)[j].f.toNat]? = some [.int .i64 (EY 0 l)[j].v]:=fun j h=>by
    obtain ⟨m1,m2,m3,m4⟩:=hmem _ (List.getElem_mem h)
    refine ⟨m1,Jq ?_⟩
    have hi:(EY 0 l)[j].f.toNat<l.length:=by omega
    have:=L6 (f:=0) hi
    rw [Int.zero_add,show (((EY 0 l)[j].f.toNat:Nat):Int)=(EY 0 l)[j].f by omega,m4] at this
    rw [List.getElem?_eq_getElem hi,this]
   obtain ⟨ST,hSTe⟩:∃ST,Fl l l.length=ST:=⟨_,rfl⟩
   rw [hSTe] at hST hrow hn
   have hcv:Kz l=HC ((l.length:Int)-1) (F6 (EY 0 l)):=rfl
   rw [hcv]
   generalize EY 0 l=R at *
   have hSTl:ST.length=R.length:=by rw [hST,List.length_map]
   have hSTn:∀(j:Nat) (h:j<R.length),(A5 ST)[j]? = some [.int .i64 R[j].f]:=fun j h=>Jq (by rw [hST]; simp [h])
   have hSTne:A5 ST≠[]:=fun e=>by have:=congrArg List.length e; rw [FT,hSTl,List.length_nil] at this; omega
   rw [Fj hSTne] at hrow hn
   have kc:=hrow.1
   have hcb:¬c=b2:=by
    simp -implicitDefEqProofs only [AP,List.map_append,List.map_cons,List.map_nil,List.nodup_append,List.mem_singleton] at hn
    exact hn.2.2 c rfl b2 rfl
   simp -implicitDefEqProofs -proj only [go_sem,seval,Hd,IG,Hv,hH,hSTe,k2,FT,hwl,decide_eq_false (show ¬(l.length:Int)<l.length by omega),Eq hSTne]
   refine AN (fun b7 hb7=>?_)
   replace hb7:H b7=none:=hb7
   obtain ⟨m1,m2⟩:=Ac hb7 k2
   obtain ⟨m3,m4⟩:=Ac hb7 kc
   simp -implicitDefEqProofs -proj only [go_sem,seval,m1,m2,m3,m4,k2,kc]
   refine EN (fun y:RY=>y.i≤R.length∧F6 R=y.G++F6 (R.drop y.i)∧y.G.length≤y.i∧(AP (Hh b7 b2 c cap l ST y)).Nodup) 165 (fun y=>[(0,I2 l),(2,.ptr b2 0),(4,.own c 1 0 ST.length cap),(7,.ptr b7 0),(8,i64 y.i)]) (Hh b7 b2 c cap l ST) (fun y=>R.length-y.i) ⟨0,0,0,[]⟩ ⟨Nat.zero_le _,rfl,Nat.le_refl _,by simp [AP,Hh,Fm,A0,JL,m1,m3,show ¬b2=c from fun e=>hcb e.symm]⟩ rfl ?_ ?_ ?_
   ·simp -implicitDefEqProofs -proj only [go_sem,seval,AK,GK]
   ·simp -implicitDefEqProofs -proj only [go_sem,seval,AR,Hh,Fm,G9,HF,A0,List.map_nil,JL,Kb,m1,m3,k2,kc]
   ·rintro ⟨i,d,dap,G⟩ ⟨hi,hG,hGl,hn'⟩
    simp -implicitDefEqProofs only [GK,Fm] at hi hG hGl
    have hall':=EZ hn'
    obtain ⟨H1,hH1⟩:∃H1,Ak (Hh b7 b2 c cap l ST ⟨i,d,dap,G⟩)=H1:=⟨_,rfl⟩
    rw [hH1] at hall'
    simp -implicitDefEqProofs only [Hh,GK,G9,HF,Fm] at hall' hn'
    obtain ⟨hrow1,j7,j2,jc,_⟩:=EO.1 hall'
    by_cases hlt:i<R.length
    ·obtain ⟨S,hSe⟩:∃S,R.drop i=S:=⟨_,rfl⟩
     have hSl:S.length=R.length-i:=by rw [←hSe,List.length_drop]
     have hSj:∀(j:Nat) (h:j<S.length),S[j]=R[i+j]'(by omega):=fun j h=>by subst hSe; simp
     have hSs:∀(j:Nat) (h:j<S.length),(A5 ST)[i+j]? = some [.int .i64 S[j].f]:=fun j h=>by rw [hSj j h]; exact hSTn _ _
     have hSg:∀(j:Nat) (h:j<S.length),0≤S[j].f∧(A5 l)[S[j].f.toNat]? = some [.int .i64 S[j].v]:=fun j h=>by rw [hSj j h]; exact hget _ _
     have hSo:∀(j:Nat) (h:j<S.length),Ha S[j]:=fun j h=>by rw [hSj j h]; exact hro _ (List.getElem_mem _)
     have hS0:0<S.length:=by omega
     have hstep:=Oq hS0
     rw [hSe] at hG
     have es:=hSs 0 hS0
     rw [Nat.add_zero] at es
     obtain ⟨ef0,ev⟩:=hSg 0 hS0
     have ho0:=hSo 0 hS0
     have hdr:∀n,S.drop n=R.drop (i+n):=fun n=>by rw [←hSe,List.drop_drop]
     have hw1:IntKind.i64.wrap ((i:Int)+1)=((i+1:Nat):Int):=by rw [IntKind.wrap_i64]; omega
     have hmid:∀(b9:Nat) (x:Blk),H1 b9=none→(AP (EK 66 5 d dap (A0 G)++[(b9,x),(b7,.box 58 [i64 ((l.length:Int)-1),EU 5 5 d dap (A0 G)]),(b2,.box 58 [i64 0,.nilsl 5]),(c,.row 3 1 cap (A5 ST))])).Nodup:=fun b9 x hb=>by
      have:=HU (x:=x) hb hall' hn'
      simp -implicitDefEqProofs only [AP,List.map_append,List.map_cons] at this ⊢
      exact N9 this
     simp -implicitDefEqProofs -proj only [go_sem,seval,GK,G9,HF,Fm,hH1,FT,hSTl,decide_eq_true (show (i:Int)<R.length by omega)]
     (repeat' (with_reducible refine Aq ?_ (fun h=>?_); (focus first | decide | omega); clear h; try simp -implicitDefEqProofs -proj only [go_sem,seval,hSTl]))
     simp -implicitDefEqProofs -proj only [go_sem,seval,jc]
     refine EW _ (by rw [Int.toNat_natCast]; exact es) (by simp) ?_
     simp -implicitDefEqProofs -proj only [go_sem,seval,jc]
     refine EW _ (by rw [Int.toNat_natCast]; exact es) (by simp) ?_
     simp -implicitDefEqProofs -proj only [go_sem,seval]
     refine EG _ ef0 ev ?_
     simp -implicitDefEqProofs -proj only [go_sem,seval]
     refine AN (fun b9 hb9=>?_)
     replace hb9:H1 b9=none:=hb9
     obtain ⟨p1,p2⟩:=Ac hb9 j7
     obtain ⟨p3,p4⟩:=Ac hb9 j2
     obtain ⟨p5,p6⟩:=Ac hb9 jc
     by_cases hi1:i+1<R.length
     ·have hS1:1<S.length:=by omega
      have hgq:=Ob hS1
      obtain ⟨w,hw⟩:∃w,S[1].f-S[0].f=w:=⟨_,rfl⟩
      obtain ⟨r,hr⟩:∃r,S[1].v-S[0].v=r:=⟨_,rfl⟩
      rw [hw,hr] at hgq
      obtain ⟨n,hn9⟩:∃n,Ey w r S[0] (S.drop 1)+1=n:=⟨_,rfl⟩
      rw [hn9] at hgq
      have hgle:=@J1 S[0] (S.drop 1)
      rw [hgq] at hstep hgle
      simp -implicitDefEqProofs only [List.length_drop] at hgle
      have hc2:2+Ey w r S[1] (S.drop 2)=n:=by
       have this:Ey w r S[0] (S.drop 1)=if S[1].f-S[0].f=w∧S[1].v-S[0].v=r then Ey w r S[1] (S.drop 2)+1 else 0:=MZ (w:=w) (r:=r) (S:=S) (c:=1) (by omega) hS1
       rw [if_pos ⟨hw,hr⟩] at this
       omega
      have es1:=hSs 1 hS1
      obtain ⟨ef1,ev1⟩:=hSg 1 hS1
      have ho1:=hSo 1 hS1
      unfold Ha at ho0 ho1
      have wW:IntKind.i64.wrap (S[1].f-S[0].f)=w:=by rw [IntKind.wrap_i64]; omega
      have wR:IntKind.i64.wrap (S[1].v-S[0].v)=r:=by rw [IntKind.wrap_i64]; omega
      simp -implicitDefEqProofs -proj only [go_sem,seval,p1,p2,p3,p4,p5,p6,j7,j2,jc,FT,hSTl,hw1,decide_eq_true (show ((i+1:Nat):Int)<R.length by omega)]
      (repeat' (with_reducible refine Aq ?_ (fun h=>?_); (focus first | decide | omega); clear h; try simp -implicitDefEqProofs -proj only [go_sem,seval,hSTl]))
      try simp -implicitDefEqProofs -proj only [go_sem,seval,p1,p2,p3,p4,p5,p6,jc]
      refine EW _ (by rw [Int.toNat_natCast]; exact es1) (by simp) ?_
      simp -implicitDefEqProofs -proj only [go_sem,seval,p1,p2,p3,p4,p5,p6,jc]
      refine EW _ (by rw [Int.toNat_natCast]; exact es) (by simp) ?_
      simp -implicitDefEqProofs -proj only [go_sem,seval,p1,p2,p3,p4,p5,p6,jc,wW,hw1]
      (repeat' (with_reducible refine Aq ?_ (fun h=>?_); (focus first | decide | omega); clear h; try simp -implicitDefEqProofs -proj only [go_sem,seval,hSTl]))
      try simp -implicitDefEqProofs -proj only [go_sem,seval,p1,p2,p3,p4,p5,p6,jc]
      refine EW _ (by rw [Int.toNat_natCast]; exact es1) (by simp) ?_
      simp -implicitDefEqProofs -proj only [go_sem,seval]
      refine EG _ ef1 ev1 ?_
      simp -implicitDefEqProofs -proj only [go_sem,seval,wR,p1,p2,p3,p4,p5,p6]
      have hin:AR H1 (EK 66 5 d dap (A0 G)++[(b7,.box 58 [i64 ((l.length:Int)-1),EU 5 5 d dap (A0 G)]),(b2,.box 58 [i64 0,.nilsl 5]),(c,.row 3 1 cap (A5 ST))]):=hall'
      refine EN (fun k:Nat=>2≤k∧i+k≤R.length∧∃h:k≤S.length∧1≤k,k+Ey w r (S[k-1]'(by omega)) (S.drop k)=n∧(S[k-1]'(by omega)).f=S[0].f+((k:Int)-1)*w) 165 (fun _=>[(0,I2 l),(2,.ptr b2 0),(4,.own c 1 0 R.length cap),(7,.ptr b7 0),(8,i64 i),(9,.ptr b9 0)]) (fun k=>EK 66 5 d dap (A0 G)++[(b9,.box 66 [i64 S[0].f,i64 S[0].v,i64 w,i64 r,i64 k]),(b7,.box 58 [i64 ((l.length:Int)-1),EU 5 5 d dap (A0 G)]),(b2,.box 58 [i64 0,.nilsl 5]),(c,.row 3 1 cap (A5 ST))]) (fun k=>R.length-k) 2 ⟨Nat.le_refl _,by omega,⟨by omega,by omega⟩,hc2,by show S[1].f=S[0].f+(((2:Nat):Int)-1)*w; omega⟩ rfl ?_ ?_ ?_
      ·simp -implicitDefEqProofs -proj only [go_sem,seval,AK]
      ·refine EO.2 ⟨?_,?_⟩
       ·refine FS hrow1 ?_ <;> exact Kj hb9 hrow1
       ·simp -implicitDefEqProofs -proj only [go_sem,seval,AR,p1,p2,p3,p4,p5,p6,j7,j2,jc]
      ·rintro k ⟨hk2,hik,⟨hk3,hk1⟩,hkn,hkf⟩
       have hndk:=hmid b9 (.box 66 [i64 S[0].f,i64 S[0].v,i64 w,i64 r,i64 k]) hb9
       have hallk:=EZ hndk
       obtain ⟨H2,hH2⟩:∃H2,Ak (EK 66 5 d dap (A0 G)++[(b9,.box 66 [i64 S[0].f,i64 S[0].v,i64 w,i64 r,i64 k]),(b7,.box 58 [i64 ((l.length:Int)-1),EU 5 5 d dap (A0 G)]),(b2,.box 58 [i64 0,.nilsl 5]),(c,.row 3 1 cap (A5 ST))])=H2:=⟨_,rfl⟩
       rw [hH2] at hallk
       obtain ⟨hrow2,i9,i7,i2,ic,_⟩:=EO.1 hallk
       have hwk:IntKind.i64.wrap ((i:Int)+k)=((i+k:Nat):Int):=by rw [IntKind.wrap_i64]; omega
       by_cases hlk:i+k<R.length
       ·have hSk:k<S.length:=by omega
        have esk:=hSs k hSk
        have esp:=hSs (k-1) (by omega)
        rw [show i+(k-1)=i+k-1 by omega] at esp
        obtain ⟨efk,evk⟩:=hSg k hSk
        obtain ⟨efp,evp⟩:=hSg (k-1) (by omega)
        have hok:=hSo k hSk
        have hop:=hSo (k-1) (by omega)
        have hrl:=MZ (w:=w) (r:=r) (S:=S) (c:=k) (by omega) hSk
        rw [hrl] at hkn
        unfold Ha at hok hop
        have hkw:(k:Int)*w=((k:Int)-1)*w+w:=by rw [Int.sub_mul]; omega
        have wk1:IntKind.i64.wrap ((k:Int)*w)=(k:Int)*w:=by rw [IntKind.wrap_i64]; omega
        have wk2:IntKind.i64.wrap (S[0].f+(k:Int)*w)=S[0].f+(k:Int)*w:=by rw [IntKind.wrap_i64]; omega
        have wk3:IntKind.i64.wrap ((S[k-1]'(by omega)).v+r)=(S[k-1]'(by omega)).v+r:=by rw [IntKind.wrap_i64]; omega
        have wk4:IntKind.i64.wrap (((i+k:Nat):Int)-1)=((i+k-1:Nat):Int):=by rw [IntKind.wrap_i64]; omega
        have hnext:S[k].f-(S[k-1]'(by omega)).f=w→k+(Ey w r S[k] (S.drop (k+1))+1)=n→(2≤k+1∧i+(k+1)≤R.length∧∃h:k+1≤S.length∧1≤k+1,k+1+Ey w r (S[k+1-1]'(by omega)) (S.drop (k+1))=n∧(S[k+1-1]'(by omega)).f=S[0].f+(((k+1:Nat):Int)-1)*w):=fun e1 e2=>⟨by omega,by omega,⟨by omega,by omega⟩,by show k+1+Ey w r S[k] (S.drop (k+1))=n; omega,by show S[k].f=S[0].f+(((k+1:Nat):Int)-1)*w; rw [show ((k+1:Nat):Int)-1=(k:Int) by omega,hkw]; omega⟩
        simp -implicitDefEqProofs -proj only [go_sem,seval,hH2,i9,i7,i2,ic,FT,hSTl,hwk,decide_eq_true (show ((i+k:Nat):Int)<R.length by omega)]
        (repeat' (with_reducible refine Aq ?_ (fun h=>?_); (focus first | decide | omega); clear h; try simp -implicitDefEqProofs -proj only [go_sem,seval,hSTl]))
        try simp -implicitDefEqProofs -proj only [go_sem,seval,ic,i9,hwk]
        refine EW _ (by rw [Int.toNat_natCast]; exact esk) (by simp) ?_
        by_cases t1:S[k].f=S[0].f+(k:Int)*w
        rotate_left
        ·rw [if_neg (fun h=>t1 (by omega))] at hkn
         have hkn':n=k:=by omega
         subst hkn'
         simp -implicitDefEqProofs -proj only [go_sem,seval,i9,i7,i2,ic,wk1,wk2,decide_eq_false t1,if_neg (show ¬(4:Nat)=5 by decide)]
         refine EJ (fun bs hs'=>?_)
         replace hs':H2 bs=none:=hs'
         simp -implicitDefEqProofs -proj only [go_sem,seval]
         refine Fa (xs:=A0 G) (y:=[.int .i64 S[0].f,.int .i64 S[0].v,.int .i64 w,.int .i64 r,.int .i64 n]) (t:=66) (capc:=1) [(b9,.box 66 [i64 S[0].f,i64 S[0].v,i64 w,i64 r,i64 n]),(b7,.box 58 [i64 ((l.length:Int)-1),EU 5 5 d dap (A0 G)]),(b2,.box 58 [i64 0,.nilsl 5]),(c,.row 3 1 cap (A5 ST))] rfl (Ar hs' hallk) hndk (by simp -implicitDefEqProofs -proj only [go_sem,seval]) (by rw [Gc]; omega) (by rw [Gc]; omega) (fun H' d' dap' ha hk=>?_)
         rw [show A0 G++[[.int .i64 S[0].f,.int .i64 S[0].v,.int .i64 w,.int .i64 r,.int .i64 n]]=A0 (G++[(⟨S[0].f,S[0].v,w,r,(n:Int)⟩:Grp)]) from Kr (g:=(⟨S[0].f,S[0].v,w,r,(n:Int)⟩:Grp))] at ha hk
         have hne2:A0 (G++[(⟨S[0].f,S[0].v,w,r,(n:Int)⟩:Grp)])≠[]:=by simp [A0]
         obtain ⟨hrow',q9,q7,q2,qc,_⟩:=EO.1 ha
         have hwc:IntKind.i64.wrap ((i:Int)+(n:Int))=((i+n:Nat):Int):=by rw [IntKind.wrap_i64]; omega
         simp -implicitDefEqProofs -proj only [go_sem,seval,q9,q7,p1,p2,hwc]
         refine AX ⟨i+n,d',dap',G++[(⟨S[0].f,S[0].v,w,r,(n:Int)⟩:Grp)]⟩ ⟨by show i+n≤R.length; omega,by simp -implicitDefEqProofs only [GK,Fm]; rw [hG,hstep,hdr]; simp,by simp -implicitDefEqProofs only [GK,Fm,List.length_append,List.length_singleton]; omega,?_⟩ (by show R.length-(i+n)<R.length-i; omega) rfl ?_ ?_
         ·simp -implicitDefEqProofs only [AP,Hh,G9,HF,Fm,List.map_append,List.map_cons,List.map_nil] at hk ⊢
          exact LU hk
         ·simp -implicitDefEqProofs -proj only [go_sem,seval,AK,GK,hSTl]
         ·refine EO.2 ⟨FS hrow' ?_,?_⟩
          ·simp -implicitDefEqProofs only [AP,List.map_append,List.nodup_append,List.map_cons,List.map_nil,List.mem_cons] at hk
           exact fun hm=>hk.2.2 _ hm _ (.inr (.inl rfl)) rfl
          ·have hnk:¬b7=b2∧¬b7=c:=⟨m1,m3⟩
           simp -implicitDefEqProofs -proj only [go_sem,seval,AR,G9,HF,Fm,q2,qc,m1,m3,Eq hne2,show (A0 (G++[(⟨S[0].f,S[0].v,w,r,(n:Int)⟩:Grp)])).length=(A0 G).length+1 by simp [A0]]
        simp -implicitDefEqProofs -proj only [go_sem,seval,i9,i7,i2,ic,wk1,wk2,hwk,hSTl,FT,decide_eq_true t1]
        (repeat' (with_reducible refine Aq ?_ (fun h=>?_); (focus first | decide | omega); clear h; try simp -implicitDefEqProofs -proj only [go_sem,seval,hSTl]))
        try simp -implicitDefEqProofs -proj only [go_sem,seval,ic,i9,hwk]
        refine EW _ (by rw [Int.toNat_natCast]; exact esk) (by simp) ?_
        simp -implicitDefEqProofs -proj only [go_sem,seval,i9,ic,hwk]
        refine EG _ efk evk ?_
        simp -implicitDefEqProofs -proj only [go_sem,seval,i9,ic,hwk,wk4,hSTl]
        (repeat' (with_reducible refine Aq ?_ (fun h=>?_); (focus first | decide | omega); clear h; try simp -implicitDefEqProofs -proj only [go_sem,seval,hSTl]))
        try simp -implicitDefEqProofs -proj only [go_sem,seval,ic,i9,hwk,wk4]
        refine EW _ (by rw [Int.toNat_natCast]; exact esp) (by simp) ?_
        simp -implicitDefEqProofs -proj only [go_sem,seval,i9,ic]
        refine EG _ efp evp ?_
        by_cases t2:S[k].v=(S[k-1]'(by omega)).v+r
        rotate_left
        ·rw [if_neg (fun h=>t2 (by omega))] at hkn
         have hkn':n=k:=by omega
         subst hkn'
         simp -implicitDefEqProofs -proj only [go_sem,seval,i9,i7,i2,ic,wk3,decide_eq_false t2,if_neg (show ¬(4:Nat)=5 by decide)]
         refine EJ (fun bs hs'=>?_)
         replace hs':H2 bs=none:=hs'
         simp -implicitDefEqProofs -proj only [go_sem,seval]
         refine Fa (xs:=A0 G) (y:=[.int .i64 S[0].f,.int .i64 S[0].v,.int .i64 w,.int .i64 r,.int .i64 n]) (t:=66) (capc:=1) [(b9,.box 66 [i64 S[0].f,i64 S[0].v,i64 w,i64 r,i64 n]),(b7,.box 58 [i64 ((l.length:Int)-1),EU 5 5 d dap (A0 G)]),(b2,.box 58 [i64 0,.nilsl 5]),(c,.row 3 1 cap (A5 ST))] rfl (Ar hs' hallk) hndk (by simp -implicitDefEqProofs -proj only [go_sem,seval]) (by rw [Gc]; omega) (by rw [Gc]; omega) (fun H' d' dap' ha hk=>?_)
         rw [show A0 G++[[.int .i64 S[0].f,.int .i64 S[0].v,.int .i64 w,.int .i64 r,.int .i64 n]]=A0 (G++[(⟨S[0].f,S[0].v,w,r,(n:Int)⟩:Grp)]) from Kr (g:=(⟨S[0].f,S[0].v,w,r,(n:Int)⟩:Grp))] at ha hk
         have hne2:A0 (G++[(⟨S[0].f,S[0].v,w,r,(n:Int)⟩:Grp)])≠[]:=by simp [A0]
         obtain ⟨hrow',q9,q7,q2,qc,_⟩:=EO.1 ha
         have hwc:IntKind.i64.wrap ((i:Int)+(n:Int))=((i+n:Nat):Int):=by rw [IntKind.wrap_i64]; omega
         simp -implicitDefEqProofs -proj only [go_sem,seval,q9,q7,p1,p2,hwc]
         refine AX ⟨i+n,d',dap',G++[(⟨S[0].f,S[0].v,w,r,(n:Int)⟩:Grp)]⟩ ⟨by show i+n≤R.length; omega,by simp -implicitDefEqProofs only [GK,Fm]; rw [hG,hstep,hdr]; simp,by simp -implicitDefEqProofs only [GK,Fm,List.length_append,List.length_singleton]; omega,?_⟩ (by show R.length-(i+n)<R.length-i; omega) rfl ?_ ?_
         ·simp -implicitDefEqProofs only [AP,Hh,G9,HF,Fm,List.map_append,List.map_cons,List.map_nil] at hk ⊢
          exact LU hk
         ·simp -implicitDefEqProofs -proj only [go_sem,seval,AK,GK,hSTl]
         ·refine EO.2 ⟨FS hrow' ?_,?_⟩
          ·simp -implicitDefEqProofs only [AP,List.map_append,List.nodup_append,List.map_cons,List.map_nil,List.mem_cons] at hk
           exact fun hm=>hk.2.2 _ hm _ (.inr (.inl rfl)) rfl
          ·have hnk:¬b7=b2∧¬b7=c:=⟨m1,m3⟩
           simp -implicitDefEqProofs -proj only [go_sem,seval,AR,G9,HF,Fm,q2,qc,m1,m3,Eq hne2,show (A0 (G++[(⟨S[0].f,S[0].v,w,r,(n:Int)⟩:Grp)])).length=(A0 G).length+1 by simp [A0]]
        ·rw [if_pos ⟨by omega,by omega⟩] at hkn
         simp -implicitDefEqProofs -proj only [go_sem,seval,i9,i7,i2,ic,wk3,decide_eq_true t2]
         refine AX (k+1) (hnext (by omega) hkn) (by omega) rfl ?_ ?_
         ·simp -implicitDefEqProofs -proj only [go_sem,seval,AK]
         ·refine EO.2 ⟨FS hrow2 ?_,?_⟩
          ·exact Kj hb9 hrow1
          ·simp -implicitDefEqProofs -proj only [go_sem,seval,AR,i7,i2,ic,p1,p2,p3,p4,p5,p6,Ab (show k<9223372036854775807 by omega)]
       ·have:S.drop k=[]:=List.drop_eq_nil_of_le (by omega)
        rw [this] at hkn
        have hkn':n=k:=by have:Ey w r (S[k-1]'(by omega)) []=0:=rfl; omega
        subst hkn'
        simp -implicitDefEqProofs -proj only [go_sem,seval,hH2,i9,i7,i2,ic,FT,hSTl,hwk,decide_eq_false (show ¬((i+n:Nat):Int)<R.length by omega)]
        refine EJ (fun bs hs'=>?_)
        replace hs':H2 bs=none:=hs'
        simp -implicitDefEqProofs -proj only [go_sem,seval]
        refine Fa (xs:=A0 G) (y:=[.int .i64 S[0].f,.int .i64 S[0].v,.int .i64 w,.int .i64 r,.int .i64 n]) (t:=66) (capc:=1) [(b9,.box 66 [i64 S[0].f,i64 S[0].v,i64 w,i64 r,i64 n]),(b7,.box 58 [i64 ((l.length:Int)-1),EU 5 5 d dap (A0 G)]),(b2,.box 58 [i64 0,.nilsl 5]),(c,.row 3 1 cap (A5 ST))] rfl (Ar hs' hallk) hndk (by simp -implicitDefEqProofs -proj only [go_sem,seval]) (by rw [Gc]; omega) (by rw [Gc]; omega) (fun H' d' dap' ha hk=>?_)
        rw [show A0 G++[[.int .i64 S[0].f,.int .i64 S[0].v,.int .i64 w,.int .i64 r,.int .i64 n]]=A0 (G++[(⟨S[0].f,S[0].v,w,r,(n:Int)⟩:Grp)]) from Kr (g:=(⟨S[0].f,S[0].v,w,r,(n:Int)⟩:Grp))] at ha hk
        have hne2:A0 (G++[(⟨S[0].f,S[0].v,w,r,(n:Int)⟩:Grp)])≠[]:=by simp [A0]
        obtain ⟨hrow',q9,q7,q2,qc,_⟩:=EO.1 ha
        have hwc:IntKind.i64.wrap ((i:Int)+(n:Int))=((i+n:Nat):Int):=by rw [IntKind.wrap_i64]; omega
        simp -implicitDefEqProofs -proj only [go_sem,seval,q9,q7,p1,p2,hwc]
        refine AX ⟨i+n,d',dap',G++[(⟨S[0].f,S[0].v,w,r,(n:Int)⟩:Grp)]⟩ ⟨by show i+n≤R.length; omega,by simp -implicitDefEqProofs only [GK,Fm]; rw [hG,hstep,hdr]; simp,by simp -implicitDefEqProofs only [GK,Fm,List.length_append,List.length_singleton]; omega,?_⟩ (by show R.length-(i+n)<R.length-i; omega) rfl ?_ ?_
        ·simp -implicitDefEqProofs only [AP,Hh,G9,HF,Fm,List.map_append,List.map_cons,List.map_nil] at hk ⊢
         exact LU hk
        ·simp -implicitDefEqProofs -proj only [go_sem,seval,AK,GK,hSTl]
        ·refine EO.2 ⟨FS hrow' ?_,?_⟩
         ·simp -implicitDefEqProofs only [AP,List.map_append,List.nodup_append,List.map_cons,List.map_nil,List.mem_cons] at hk
          exact fun hm=>hk.2.2 _ hm _ (.inr (.inl rfl)) rfl
         ·have hnk:¬b7=b2∧¬b7=c:=⟨m1,m3⟩
          simp -implicitDefEqProofs -proj only [go_sem,seval,AR,G9,HF,Fm,q2,qc,m1,m3,Eq hne2,show (A0 (G++[(⟨S[0].f,S[0].v,w,r,(n:Int)⟩:Grp)])).length=(A0 G).length+1 by simp [A0]]
     ·have hgq:ES S[0] (S.drop 1)=(⟨S[0].f,S[0].v,0,0,1⟩,1):=by rw [List.drop_eq_nil_of_le (by omega)]; rfl
      rw [hgq] at hstep
      simp -implicitDefEqProofs -proj only [go_sem,seval,p1,p2,p3,p4,p5,p6,j7,j2,jc,FT,hSTl,hw1,decide_eq_false (show ¬((i+1:Nat):Int)<R.length by omega)]
      refine EJ (fun bs hs'=>?_)
      replace hs':upd H1 b9 _ bs=none:=hs'
      simp -implicitDefEqProofs -proj only [go_sem,seval]
      refine Fa (xs:=A0 G) (y:=[.int .i64 S[0].f,.int .i64 S[0].v,.int .i64 0,.int .i64 0,.int .i64 1]) (t:=66) (capc:=1) [(b9,.box 66 [i64 S[0].f,i64 S[0].v,i64 0,i64 0,i64 1]),(b7,.box 58 [i64 ((l.length:Int)-1),EU 5 5 d dap (A0 G)]),(b2,.box 58 [i64 0,.nilsl 5]),(c,.row 3 1 cap (A5 ST))] rfl (Ar hs' (EO.2 ⟨Ar hb9 hrow1,Ad,Ar hb9 (EO.1 hall').2⟩)) (hmid b9 _ hb9) (by simp -implicitDefEqProofs -proj only [go_sem,seval]) (by rw [Gc]; omega) (by rw [Gc]; omega) (fun H' d' dap' ha hk=>?_)
      rw [show A0 G++[[.int .i64 S[0].f,.int .i64 S[0].v,.int .i64 0,.int .i64 0,.int .i64 1]]=A0 (G++[(⟨S[0].f,S[0].v,0,0,1⟩:Grp)]) from Kr (g:=(⟨S[0].f,S[0].v,0,0,1⟩:Grp))] at ha hk
      have hne2:A0 (G++[(⟨S[0].f,S[0].v,0,0,1⟩:Grp)])≠[]:=by simp [A0]
      obtain ⟨hrow',q9,q7,q2,qc,_⟩:=EO.1 ha
      have hwc:IntKind.i64.wrap ((i:Int)+1)=((i+1:Nat):Int):=by rw [IntKind.wrap_i64]; omega
      simp -implicitDefEqProofs -proj only [go_sem,seval,q9,q7,p1,p2,hwc]
      refine AX ⟨i+1,d',dap',G++[(⟨S[0].f,S[0].v,0,0,1⟩:Grp)]⟩ ⟨by show i+1≤R.length; omega,by simp -implicitDefEqProofs only [GK,Fm]; rw [hG,hstep,hdr]; simp,by simp -implicitDefEqProofs only [GK,Fm,List.length_append,List.length_singleton]; omega,?_⟩ (by show R.length-(i+1)<R.length-i; omega) rfl ?_ ?_
      ·simp -implicitDefEqProofs only [AP,Hh,G9,HF,Fm,List.map_append,List.map_cons,List.map_nil] at hk ⊢
       exact LU hk
      ·simp -implicitDefEqProofs -proj only [go_sem,seval,AK,GK,hSTl]
      ·refine EO.2 ⟨FS hrow' ?_,?_⟩
       ·simp -implicitDefEqProofs only [AP,List.map_append,List.nodup_append,List.map_cons,List.map_nil,List.mem_cons] at hk
        exact fun hm=>hk.2.2 _ hm _ (.inr (.inl rfl)) rfl
       ·have hnk:¬b7=b2∧¬b7=c:=⟨m1,m3⟩
        simp -implicitDefEqProofs -proj only [go_sem,seval,AR,G9,HF,Fm,q2,qc,m1,m3,Eq hne2,show (A0 (G++[(⟨S[0].f,S[0].v,0,0,1⟩:Grp)])).length=(A0 G).length+1 by simp [A0]]
    ·have hi'':i=R.length:=by omega
     subst hi''
     rw [List.drop_length,QV,List.append_nil] at hG
     simp -implicitDefEqProofs -proj only [go_sem,seval,GK,G9,HF,Fm,hH1,FT,hSTl,decide_eq_false (show ¬(R.length:Int)<R.length by omega),j7,j2,m1,m2]
     rw [hG]
     refine He (Hg (Jg (FS hrow1 ?_) PK))
     simp -implicitDefEqProofs only [AP,List.map_append,List.nodup_append,List.map_cons,List.map_nil,List.mem_cons] at hn'
     exact fun hm=>hn'.2.2 _ hm _ (.inr (.inl rfl)) rfl
def qL (c:CoreX) (d:Int) (m:Nat) (mx:Int) (j k:Nat):List Int:=(List.range (mx+1).toNat).map fun (q:Nat)=>sg (F5 c.ps d m q) (if q<k then j+1 else j)
theorem AFI {c:CoreX} {d:Int} {m:Nat} {mx:Int} {j k:Nat}:(qL c d m mx j k).length=(mx+1).toNat:=by simp [qL]
theorem AIH {c:CoreX} {d:Int} {m:Nat} {mx:Int} {j:Nat}:qL c d m mx j (mx+1).toNat=qL c d m mx (j+1) 0:=by
 unfold qL
 refine List.map_congr_left fun q hq=>?_
 rw [if_pos (List.mem_range.1 hq),if_neg (Nat.not_lt_zero _)]
theorem Rr {c:CoreX} {d:Int} {m:Nat} {mx:Int}:qL c d m mx 0 0=List.replicate (mx+1).toNat 0:=by
 unfold qL
 refine List.ext_getElem (by simp) fun i h1 h2=>?_
 simp [sg]
theorem AI9 {c:CoreX} {d:Int} {m:Nat} {mx:Int}:qL c d m mx c.ps.length 0=G3 c d m mx:=by
 unfold qL G3 Kw
 refine List.map_congr_left fun q hq=>?_
 rw [if_neg (Nat.not_lt_zero _)]
theorem UL {c:CoreX} {d:Int} {m:Nat} {mx:Int} {j k:Nat} (h:k<(mx+1).toNat):(qL c d m mx j k)[k]? = some (sg (F5 c.ps d m k) j):=by
 simp [qL,h]
theorem AIB {c:CoreX} {d:Int} {m:Nat} {mx:Int} {j k:Nat} (h:k<(mx+1).toNat):(qL c d m mx j k).set k (sg (F5 c.ps d m k) (j+1))=qL c d m mx j (k+1):=by
 refine List.ext_getElem (by simp [qL]) fun i h1 h2=>?_
 have hi:i<(mx+1).toNat:=by rw [AFI] at h2; exact h2
 rw [List.getElem_set]
 by_cases e:k=i
 ·subst e; simp [qL]
 ·rw [if_neg e]
  simp -implicitDefEqProofs only [qL,List.getElem_map,List.getElem_range]
  by_cases h3:i<k
  ·rw [if_pos h3,if_pos (by omega)]
  ·rw [if_neg h3,if_neg (by omega)]
theorem Wn {ps:List PartX} {d q:Int} {m j:Nat} {x:PartX} (h:ps[j]? = some x) (hn:¬(x.me=m∧Fg d x.f x.t)):F5 ps d m q j=0:=by
 unfold F5; rw [h]; simp -implicitDefEqProofs only []; rw [if_neg hn]
theorem WM {ps:List PartX} {d q:Int} {m j:Nat} {x:PartX} (h:ps[j]? = some x) (hn:x.me=m∧Fg d x.f x.t):F5 ps d m q j=pv x q-pv x 0:=by
 unfold F5; rw [h]; simp -implicitDefEqProofs only []; rw [if_pos hn]
theorem ABU {ps:List PartX} {d:Int} {m j:Nat} {x:PartX} (h:ps[j]? = some x) (hn:¬(x.me=m∧Fg d x.f x.t)):E7 ps d m j=0:=by
 unfold E7; rw [h]; simp -implicitDefEqProofs only []; rw [if_neg hn]
theorem Zi {ps:List PartX} {d:Int} {m j:Nat} {x:PartX} (h:ps[j]? = some x) (hn:x.me=m∧Fg d x.f x.t):E7 ps d m j=pv x 0:=by
 unfold E7; rw [h]; simp -implicitDefEqProofs only []; rw [if_pos hn]
theorem AFg {c:CoreX} {d:Int} {m:Nat} {mx:Int} {j:Nat} {x:PartX} (h:c.ps[j]? = some x) (hn:¬(x.me=m∧Fg d x.f x.t)):qL c d m mx (j+1) 0=qL c d m mx j 0:=by
 unfold qL
 refine List.map_congr_left fun q hq=>?_
 rw [if_neg (Nat.not_lt_zero _),if_neg (Nat.not_lt_zero _),sg,Wn h hn,Int.add_zero]
theorem ZN {l:List Int} {i:Nat} {x:Int}:(A5 l).set i [.int .i64 x]=A5 (l.set i x):=by simp [A5,List.map_set]
structure DY where
 i:Nat
 c:Nat
 cap:Nat
theorem Eh {i c cap:Nat}:(DY.mk i c cap).i=i:=(rfl)
theorem FJ {i c cap:Nat}:(DY.mk i c cap).c=c:=(rfl)
theorem FN {i c cap:Nat}:(DY.mk i c cap).cap=cap:=(rfl)
abbrev F9 (d x:Int) (v:AV):Blk:=.box 46 [i64 d,i64 d,i64 x,v]
def Hu (b2 b4 b5:Nat) (c:CoreX) (d:Int) (y:DY):List (Nat×Blk):=EK 58 2 y.c y.cap (EL (FF c d y.i))++[(b5,F9 d (Fd c d+sg (FG c d) y.i) (EU 2 2 y.c y.cap (EL (FF c d y.i)))),(b2,Ea c),(b4,F9 0 0 (.nilsl 2))]
def Fq (b2 b4 b5 b10:Nat) (c:CoreX) (d:Int) (y:DY) (mx:Int) (fx:Int) (j k:Nat):List (Nat×Blk):=(b10,.row 3 1 (mx+1).toNat (A5 (qL c d y.i mx j k)))::(EK 58 2 y.c y.cap (EL (FF c d y.i))++[(b5,F9 d fx (EU 2 2 y.c y.cap (EL (FF c d y.i)))),(b2,Ea c),(b4,F9 0 0 (.nilsl 2))])
theorem Sp {c:CoreX} {d:Int} (hc:c.Fit) (hf:fitsC c) (hd:Fit d):DataW Try.prog Z9 [Gm c,i64 d] (Hx ⟨d,d,FY c d⟩):=by
 obtain ⟨_,_,_,a6,a7,a8⟩:=hf.good.hd
 have hps:=hf.good.ps
 have hfp:=hc.ps
 have hmxb:=(fitsC.bnd hf.good).mx
 refine Am AAp (by simp) ?_
 simp -implicitDefEqProofs -proj only [go_sem,seval]
 refine AN (fun b2 hb2=>?_)
 simp -implicitDefEqProofs -proj only [go_sem,seval]
 refine AN (fun b4 hb4=>?_)
 replace hb4:upd Heap.none b2 _ b4=none:=hb4
 obtain ⟨n1,n2⟩:=Ac hb4 Ad
 simp -implicitDefEqProofs -proj only [go_sem,seval,n1,n2]
 refine AN (fun b5 hb5=>?_)
 replace hb5:upd (upd Heap.none b2 _) b4 _ b5=none:=hb5
 obtain ⟨n3,n4⟩:=Ac hb5 Ad
 obtain ⟨n5,n6⟩:=Ac hb5 (by rw [EH n1]; exact Ad)
 simp -implicitDefEqProofs -proj only [go_sem,seval,n1,n2,n3,n4,n5,n6,Gl]
 refine EN (fun i:Nat=>i≤c.ss.length) 129 (fun i=>[(1,i64 d),(2,.ptr b2 0),(4,.ptr b4 0),(5,.ptr b5 0),(24,.d (.sl 3 (Fc c.ss))),(25,i64 c.ss.length),(26,i64 i)]) (fun i=>[(b5,F9 d (sg (Gh c.ss d) i) (.nilsl 2)),(b2,Ea c),(b4,F9 0 0 (.nilsl 2))]) (fun i=>c.ss.length-i) 0 (Nat.zero_le _) rfl ?_ ?_ ?_
 ·simp -implicitDefEqProofs -proj only [go_sem,seval,AK,Gl]
 ·refine ⟨Ad,?_,?_,trivial⟩
  ·show upd (upd (upd Heap.none b2 _) b4 _) b5 _ b2=_
   rw [EH n5,EH n1]; exact Ad
  ·show upd (upd (upd Heap.none b2 _) b4 _) b5 _ b4=_
   rw [EH n3]; exact Ad
 ·rintro i hi
  have hk:AR (Ak [(b5,F9 d (sg (Gh c.ss d) i) (.nilsl 2)),(b2,Ea c),(b4,F9 0 0 (.nilsl 2))]) [(b5,F9 d (sg (Gh c.ss d) i) (.nilsl 2)),(b2,Ea c),(b4,F9 0 0 (.nilsl 2))]:=EZ (by simp [AP,n1,n2,n3,n4,n5,n6])
  obtain ⟨k5,k2,k4,_⟩:=id hk
  have hb1:=Mm hf.good d hi
  by_cases h:i<c.ss.length
  ·have hel:=Lh h
   have hb2:=Mm hf.good d (show i+1≤c.ss.length by omega)
   have hstep:sg (Gh c.ss d) (i+1)=sg (Gh c.ss d) i+(if Fg d c.ss[i].f c.ss[i].t then c.ss[i].a else 0):=by
    rw [sg]; unfold Gh; rw [List.getElem?_eq_getElem h]
   generalize c.ss[i]=s at *
   generalize hS:sg (Gh c.ss d) i=S at *
   generalize hS2:sg (Gh c.ss d) (i+1)=S2 at *
   simp -implicitDefEqProofs -proj only [go_sem,seval,decide_eq_true (show (i:Int)<c.ss.length by omega)]
   refine EG _ (by omega) hel ?_
   simp -implicitDefEqProofs -proj only [go_sem,seval]
   refine AN (fun b7 hb7=>?_)
   obtain ⟨m1,m2⟩:=Ac hb7 k5
   obtain ⟨m3,m4⟩:=Ac hb7 k2
   obtain ⟨m5,m6⟩:=Ac hb7 k4
   by_cases p1:s.f≤d
   ·by_cases p2:d≤s.t
    ·rw [if_pos ⟨p1,p2⟩] at hstep
     have w:IntKind.i64.wrap (S+s.a)=S2:=by rw [IntKind.wrap_i64]; omega
     simp -implicitDefEqProofs -proj only [go_sem,seval,m1,m2,m3,m4,m5,m6,k5,k2,k4,decide_eq_true p1,decide_eq_true p2,w]
     refine AX (i+1) (by omega) (by show c.ss.length-(i+1)<c.ss.length-i; omega) rfl ?_ ?_
     ·simp -implicitDefEqProofs -proj only [go_sem,seval,AK,Ab (show i<9223372036854775807 by omega)]
     ·rw [hS2]
      exact ⟨Ad,(EH n5).trans ((EH m3).trans k2),(EH n3).trans ((EH m5).trans k4),trivial⟩
    ·rw [if_neg (fun k=>p2 k.2)] at hstep
     simp -implicitDefEqProofs -proj only [go_sem,seval,m1,m2,m3,m4,m5,m6,k5,k2,k4,decide_eq_true p1,decide_eq_false p2]
     refine AX (i+1) (by omega) (by show c.ss.length-(i+1)<c.ss.length-i; omega) rfl ?_ ?_
     ·simp -implicitDefEqProofs -proj only [go_sem,seval,AK,Ab (show i<9223372036854775807 by omega)]
     ·rw [hS2,hstep,Int.add_zero]; exact Ar hb7 hk
   ·rw [if_neg (fun k=>p1 k.1)] at hstep
    simp -implicitDefEqProofs -proj only [go_sem,seval,m1,m2,m3,m4,m5,m6,k5,k2,k4,decide_eq_false p1]
    refine AX (i+1) (by omega) (by show c.ss.length-(i+1)<c.ss.length-i; omega) rfl ?_ ?_
    ·simp -implicitDefEqProofs -proj only [go_sem,seval,AK,Ab (show i<9223372036854775807 by omega)]
    ·rw [hS2,hstep,Int.add_zero]; exact Ar hb7 hk
  ·have hi':i=c.ss.length:=by omega
   subst hi'
   simp -implicitDefEqProofs -proj only [go_sem,seval,k2,decide_eq_false (show ¬(c.ss.length:Int)<c.ss.length by omega),GB]
   refine EN (fun y:DY=>y.i≤c.ms.length∧(AP (Hu b2 b4 b5 c d y)).Nodup) 129 (fun y=>[(1,i64 d),(2,.ptr b2 0),(4,.ptr b4 0),(5,.ptr b5 0),(48,.d (.sl 5 (AS c.ms))),(49,i64 c.ms.length),(50,i64 y.i)]) (Hu b2 b4 b5 c d) (fun y=>c.ms.length-y.i) ⟨0,0,0⟩ ⟨Nat.zero_le _,by simp [AP,Hu,FF,EL,EK,n1,n2,n3,n4,n5,n6]⟩ rfl ?_ ?_ ?_
   ·simp -implicitDefEqProofs -proj only [go_sem,seval,AK,Eh,GB]
   ·simp -implicitDefEqProofs only [Hu,Eh,FF,List.range_zero,List.map_nil,EL,EK,EU,sg,Int.add_zero,List.nil_append]
    exact ⟨k5,k2,k4,trivial⟩
   ·rintro ⟨i,c1,cap⟩ ⟨hi,hn⟩
    simp -implicitDefEqProofs only [Eh] at hi
    have hall:=EZ hn
    obtain ⟨H,hH⟩:∃H,Ak (Hu b2 b4 b5 c d ⟨i,c1,cap⟩)=H:=⟨_,rfl⟩
    rw [hH] at hall
    simp -implicitDefEqProofs only [Hu,Eh,FJ,FN] at hall hn
    obtain ⟨hrow,k5,k2,k4,_⟩:=EO.1 hall
    by_cases h:i<c.ms.length
    ·have hel:=Hf h
     have hb:=hmxb i h
     have hsn:=ABO (c:=c) (d:=d) h
     have hlc:=PW hf d h
     have hri:=fun (q:Int) (h0:0≤q) (hq:q≤c.ms[i].mx) (j:Nat) (hj:j≤c.ps.length)=>Qd hf d h h0 hq hj
     have hmxx:Fp c.ms (i:Int)=c.ms[i].mx:=Qz h
     generalize c.ms[i]=m at *
     have w1:IntKind.i64.wrap (m.mx+1)=(((m.mx+1).toNat:Nat):Int):=by rw [IntKind.wrap_i64]; omega
     simp -implicitDefEqProofs -proj only [go_sem,seval,Eh,FJ,FN,hH,decide_eq_true (show (i:Int)<c.ms.length by omega)]
     refine EG _ (by omega) hel ?_
     simp -implicitDefEqProofs -proj only [go_sem,seval]
     refine AN (fun b9 hb9=>?_)
     replace hb9:H b9=none:=hb9
     simp -implicitDefEqProofs -proj only [go_sem,seval,w1]
     refine RP (by omega) (by omega) (fun b10 hb10=>?_)
     replace hb10:upd H b9 _ b10=none:=hb10
     obtain ⟨e1,e2⟩:=Ac hb10 Ad
     have hb10':H b10=none:=by rw [EH e2] at hb10; exact hb10
     have hall9:=Ar (y:=some (.box 39 [.d (.str m.nm),.d (.str m.un),i64 m.mx,i64 m.ln,i64 m.co])) hb9 hall
     have hall10:=HA (x:=.row 3 1 (m.mx+1).toNat (A5 (qL c d i m.mx 0 0))) hb10 hall9
     have hn10:=HU (x:=.row 3 1 (m.mx+1).toNat (A5 (qL c d i m.mx 0 0))) hb10 hall9 hn
     have hfm0:sg (FG c d) (i+1)=sg (FG c d) i+sg (E7 c.ps d i) c.ps.length:=by rw [sg]; rfl
     have hrep:List.replicate (m.mx+1).toNat [D.int .i64 0]=A5 (qL c d i m.mx 0 0):=by rw [Rr]; simp [A5]
     obtain ⟨H10,hH10⟩:∃H10,upd (upd H b9 (some (.box 39 [.d (.str m.nm),.d (.str m.un),i64 m.mx,i64 m.ln,i64 m.co]))) b10 (some (.row 3 1 (m.mx+1).toNat (A5 (qL c d i m.mx 0 0))))=H10:=⟨_,rfl⟩
     rw [hH10] at hall10
     obtain ⟨u10,u5,u2,u4,_⟩:=(⟨hall10.1,(EO.1 hall10.2).2⟩:_∧_)
     simp -implicitDefEqProofs -proj only [go_sem,seval,hrep,hH10,u2,GY]
     refine EN (fun j:Nat=>j≤c.ps.length∧(AP (Fq b2 b4 b5 b10 c d ⟨i,c1,cap⟩ m.mx (Fd c d+sg (FG c d) i+sg (E7 c.ps d i) j) j 0)).Nodup) 129 (fun j=>[(1,i64 d),(2,.ptr b2 0),(4,.ptr b4 0),(5,.ptr b5 0),(48,.d (.sl 5 (AS c.ms))),(49,i64 c.ms.length),(50,i64 i),(8,i64 i),(10,.own b10 1 0 (m.mx+1).toNat (m.mx+1).toNat),(60,.d (.sl 9 (FQ c.ps))),(61,i64 c.ps.length),(62,i64 j)]) (fun j=>Fq b2 b4 b5 b10 c d ⟨i,c1,cap⟩ m.mx (Fd c d+sg (FG c d) i+sg (E7 c.ps d i) j) j 0) (fun j=>c.ps.length-j) 0 ⟨Nat.zero_le _,?_⟩ rfl ?_ ?_ ?_
     ·simpa only [Fq,Eh,FJ,FN,AP,List.map_cons,List.map_append] using hn10
     ·simp -implicitDefEqProofs -proj only [go_sem,seval,AK,GY]
     ·simpa only [Fq,Eh,FJ,FN,sg,Int.add_zero] using hall10
     ·rintro j ⟨hj,hnj⟩
      have hallj:=EZ hnj
      generalize hHj:Ak (Fq b2 b4 b5 b10 c d ⟨i,c1,cap⟩ m.mx (Fd c d+sg (FG c d) i+sg (E7 c.ps d i) j) j 0)=Hj at *
      simp -implicitDefEqProofs only [Fq,Eh,FJ,FN] at hallj hnj
      obtain ⟨v10,hr⟩:=id hallj
      obtain ⟨vrow,v5,v2,v4,_⟩:=EO.1 hr
      have hfb:=OW hf d i
      have hfS:0≤Fd c d∧Fd c d≤1000000000000*c.ss.length:=Mm hf.good d (Nat.le_refl c.ss.length)
      have hbj:=NI hf d i hj
      by_cases h':j<c.ps.length
      ·have helj:=K4 h'
       have hx:=List.getElem_mem h'
       have hok:=hps _ hx
       have hfx:=hfp _ hx
       have hgx:c.ps[j]? = some c.ps[j]:=List.getElem?_eq_getElem h'
       have hpb:=fun (q:Int) (h0:0≤q) (hq:q≤Fp c.ms c.ps[j].me)=>L2 hf hx h0 hq
       have hbj2:=NI hf d i (show j+1≤c.ps.length by omega)
       have hsb:sg (E7 c.ps d i) (j+1)=sg (E7 c.ps d i) j+E7 c.ps d i j:=by rw [sg]
       generalize c.ps[j]=x at *
       simp -implicitDefEqProofs -proj only [go_sem,seval,decide_eq_true (show (j:Int)<c.ps.length by omega)]
       refine EG _ (by omega) helj ?_
       simp -implicitDefEqProofs -proj only [go_sem,seval]
       refine AN (fun b12 hb12=>?_)
       replace hb12:Hj b12=none:=hb12
       by_cases hon:x.me=(i:Int)∧Fg d x.f x.t
       rotate_left
       ·have hqs:=AFg (mx:=m.mx) hgx hon
        have hb0:=ABU hgx hon
        rw [hb0,Int.add_zero] at hsb
        have hfin:AR (upd Hj b12 (some (.box 93 [i64 x.me,i64 x.f,i64 x.t,i64 x.al,i64 x.bl,i64 x.ki,E9 x.ts,i64 x.mo,E4 x.ad]))) (Fq b2 b4 b5 b10 c d ⟨i,c1,cap⟩ m.mx (Fd c d+sg (FG c d) i+sg (E7 c.ps d i) (j+1)) (j+1) 0):=by
         simp -implicitDefEqProofs only [Fq,Eh,FJ,FN,hqs,hsb]
         exact Ar hb12 hallj
        have hnj1:(AP (Fq b2 b4 b5 b10 c d ⟨i,c1,cap⟩ m.mx (Fd c d+sg (FG c d) i+sg (E7 c.ps d i) (j+1)) (j+1) 0)).Nodup:=by
         simpa only [Fq,Eh,FJ,FN,AP,List.map_cons,List.map_append] using hnj
        by_cases c1':x.me=(i:Int)
        ·by_cases c2:d<x.f
         ·simp -implicitDefEqProofs -proj only [go_sem,seval,decide_eq_true c1',Bool.not_true,decide_eq_true c2]
          refine AX (j+1) ⟨by omega,hnj1⟩ (by show c.ps.length-(j+1)<c.ps.length-j; omega) rfl ?_ hfin
          simp -implicitDefEqProofs -proj only [go_sem,seval,AK,Ab (show j<9223372036854775807 by omega)]
         ·have c3:x.t<d:=by unfold Fg at hon; omega
          simp -implicitDefEqProofs -proj only [go_sem,seval,decide_eq_true c1',Bool.not_true,decide_eq_false c2,decide_eq_true c3]
          refine AX (j+1) ⟨by omega,hnj1⟩ (by show c.ps.length-(j+1)<c.ps.length-j; omega) rfl ?_ hfin
          simp -implicitDefEqProofs -proj only [go_sem,seval,AK,Ab (show j<9223372036854775807 by omega)]
        ·simp -implicitDefEqProofs -proj only [go_sem,seval,decide_eq_false c1',Bool.not_false]
         refine AX (j+1) ⟨by omega,hnj1⟩ (by show c.ps.length-(j+1)<c.ps.length-j; omega) rfl ?_ hfin
         simp -implicitDefEqProofs -proj only [go_sem,seval,AK,Ab (show j<9223372036854775807 by omega)]
       obtain ⟨c1',c2',c3'⟩:=id hon
       have hb0:=Zi hgx hon
       have hmx0:Fp c.ms x.me=m.mx:=by rw [c1']; exact hmxx
       have G:=Q7 hok
       have hp0:=hpb 0 (Int.le_refl 0) (by omega)
       have hcall0:=NF (q:=0) hfx (by decide) G (M2 G.ts)
       rw [hp0.1,Ep] at hcall0
       simp -implicitDefEqProofs -proj only [go_sem,seval,decide_eq_true c1',Bool.not_true,decide_eq_false (show ¬d<x.f by omega),decide_eq_false (show ¬x.t<d by omega)]
       refine AH hcall0 ?_
       obtain ⟨x1,x2⟩:=Ac hb12 v5
       obtain ⟨x3,x4⟩:=Ac hb12 v10
       have w2:IntKind.i64.wrap (Fd c d+sg (FG c d) i+sg (E7 c.ps d i) j+pv x 0)=Fd c d+sg (FG c d) i+sg (E7 c.ps d i) (j+1):=by rw [IntKind.wrap_i64]; omega
       have hnd2:(AP ((b12,Blk.box 93 [i64 x.me,i64 x.f,i64 x.t,i64 x.al,i64 x.bl,i64 x.ki,E9 x.ts,i64 x.mo,E4 x.ad])::Fq b2 b4 b5 b10 c d ⟨i,c1,cap⟩ m.mx (Fd c d+sg (FG c d) i+sg (E7 c.ps d i) (j+1)) j 0)).Nodup:=by
        have:=HU (x:=Blk.box 93 [i64 x.me,i64 x.f,i64 x.t,i64 x.al,i64 x.bl,i64 x.ki,E9 x.ts,i64 x.mo,E4 x.ad]) hb12 hallj hnj
        simpa only [Fq,Eh,FJ,FN,AP,List.map_cons,List.map_append] using this
       simp -implicitDefEqProofs -proj only [go_sem,seval,v5,x1,x2,w2]
       refine EN (fun k:Nat=>k≤(m.mx+1).toNat) 129 (fun k=>[(1,i64 d),(2,.ptr b2 0),(4,.ptr b4 0),(5,.ptr b5 0),(48,.d (.sl 5 (AS c.ms))),(49,i64 c.ms.length),(50,i64 i),(8,i64 i),(10,.own b10 1 0 (m.mx+1).toNat (m.mx+1).toNat),(60,.d (.sl 9 (FQ c.ps))),(61,i64 c.ps.length),(62,i64 j),(12,.ptr b12 0),(13,i64 (pv x 0)),(93,i64 (m.mx+1).toNat),(94,i64 k)]) (fun k=>(b12,Blk.box 93 [i64 x.me,i64 x.f,i64 x.t,i64 x.al,i64 x.bl,i64 x.ki,E9 x.ts,i64 x.mo,E4 x.ad])::Fq b2 b4 b5 b10 c d ⟨i,c1,cap⟩ m.mx (Fd c d+sg (FG c d) i+sg (E7 c.ps d i) (j+1)) j k) (fun k=>(m.mx+1).toNat-k) 0 (Nat.zero_le _) rfl ?_ ?_ ?_
       ·simp -implicitDefEqProofs -proj only [go_sem,seval,AK]
       ·simp -implicitDefEqProofs only [Fq,Eh,FJ,FN]
        have hnr:b5∉AP [(b2,Ea c),(b4,F9 0 0 (.nilsl 2))]:=by simp [AP,n3,n5]
        have hnrow:b5∉AP (EK 58 2 c1 cap (EL (FF c d i))):=by
         have h1:=(List.nodup_cons.1 hnj).2
         simp -implicitDefEqProofs only [AP,List.map_append,List.map_cons] at h1
         exact fun hm=>(List.nodup_append.1 h1).2.2 _ hm _ (List.mem_cons_self ..) rfl
        have hn10:¬b5=b10:=fun e=>(List.nodup_cons.1 hnj).1 (by rw [←e]; simp [AP])
        refine ⟨(EH x2).trans Ad,(EH hn10).trans ((EH x3).trans v10),EO.2 ⟨FS (Ar hb12 vrow) hnrow,Ad,FS (Ar hb12 ⟨v2,v4,trivial⟩) hnr⟩⟩
       ·rintro k hk
        have hndk:(AP ((b12,Blk.box 93 [i64 x.me,i64 x.f,i64 x.t,i64 x.al,i64 x.bl,i64 x.ki,E9 x.ts,i64 x.mo,E4 x.ad])::Fq b2 b4 b5 b10 c d ⟨i,c1,cap⟩ m.mx (Fd c d+sg (FG c d) i+sg (E7 c.ps d i) (j+1)) j k)).Nodup:=by
         simpa only [Fq,Eh,FJ,FN,AP,List.map_cons,List.map_append] using hnd2
        have hallk:=EZ hndk
        generalize hHk:Ak ((b12,Blk.box 93 [i64 x.me,i64 x.f,i64 x.t,i64 x.al,i64 x.bl,i64 x.ki,E9 x.ts,i64 x.mo,E4 x.ad])::Fq b2 b4 b5 b10 c d ⟨i,c1,cap⟩ m.mx (Fd c d+sg (FG c d) i+sg (E7 c.ps d i) (j+1)) j k)=Hk at *
        simp -implicitDefEqProofs only [Fq,Eh,FJ,FN] at hallk
        obtain ⟨y12,y10,yr⟩:=id hallk
        by_cases h'':k<(m.mx+1).toNat
        ·have hpk:=hpb k (by omega) (by omega)
         have hcallk:=NF (q:=(k:Int)) hfx (by unfold Fit; omega) G (M2 G.ts)
         rw [hpk.1,Ep] at hcallk
         have hrj:=hri k (by omega) (by omega) j (by omega)
         have hrj2:=hri k (by omega) (by omega) (j+1) (by omega)
         have hrs:sg (F5 c.ps d i k) (j+1)=sg (F5 c.ps d i k) j+(pv x k-pv x 0):=by rw [sg,WM hgx hon]
         have hge:=Jq (UL (c:=c) (d:=d) (m:=i) (mx:=m.mx) (j:=j) h'')
         have hset:(A5 (qL c d i m.mx j k)).set k [.int .i64 (sg (F5 c.ps d i k) (j+1))]=A5 (qL c d i m.mx j (k+1)):=by rw [ZN,AIB h'']
         have w3:IntKind.i64.wrap (IntKind.i64.wrap (sg (F5 c.ps d i k) j+pv x k)-pv x 0)=sg (F5 c.ps d i k) (j+1):=by
          rw [IntKind.wrap_i64 (sg _ _+_),IntKind.wrap_i64]; omega
         simp -implicitDefEqProofs -proj only [go_sem,seval,y12,decide_eq_true (show (k:Int)<(((m.mx+1).toNat:Nat):Int) by omega)]
         refine AH hcallk ?_
         simp -implicitDefEqProofs -proj only [go_sem,seval,Int.toNat_natCast,y12,y10]
         refine Aq ⟨by omega,by omega⟩ (fun _=>?_)
         refine EW _ hge (by simp) ?_
         simp -implicitDefEqProofs -proj only [go_sem,seval,Int.toNat_natCast,y12,y10,w3]
         refine Aq ⟨by omega,by omega⟩ (fun _=>?_)
         refine IS y10 hge (by simp) ?_
         simp -implicitDefEqProofs -proj only [go_sem,seval,Fe,hset]
         have hne12:¬b10=b12:=x4
         have hnr:b10∉AP (EK 58 2 c1 cap (EL (FF c d i))++[(b5,F9 d (Fd c d+sg (FG c d) i+sg (E7 c.ps d i) (j+1)) (EU 2 2 c1 cap (EL (FF c d i)))),(b2,Ea c),(b4,F9 0 0 (.nilsl 2))]):=by
          have:=(List.nodup_cons.1 (List.nodup_cons.1 hndk).2).1
          simpa only [Fq,Eh,FJ,FN,AP,List.map_cons,List.map_append] using this
         refine AX (k+1) (by omega) (by show (m.mx+1).toNat-(k+1)<(m.mx+1).toNat-k; omega) rfl ?_ ?_
         ·simp -implicitDefEqProofs -proj only [go_sem,seval,AK,Ab (show k<9223372036854775807 by omega)]
         ·simp -implicitDefEqProofs only [Fq,Eh,FJ,FN]
          exact ⟨(EH hne12).trans y12,Ad,FS yr hnr⟩
        ·have hk':k=(m.mx+1).toNat:=by omega
         subst hk'
         simp -implicitDefEqProofs -proj only [go_sem,seval,decide_eq_false (show ¬(((m.mx+1).toNat:Nat):Int)<(((m.mx+1).toNat:Nat):Int) by omega)]
         rw [AIH] at y10
         refine AX (j+1) ⟨by omega,?_⟩ (by show c.ps.length-(j+1)<c.ps.length-j; omega) rfl ?_ ?_
         ·have:=(List.nodup_cons.1 hnd2).2
          simpa only [Fq,Eh,FJ,FN,AP,List.map_cons,List.map_append] using this
         ·simp -implicitDefEqProofs -proj only [go_sem,seval,AK,Ab (show j<9223372036854775807 by omega)]
         ·simp -implicitDefEqProofs only [Fq,Eh,FJ,FN]
          exact ⟨y10,yr⟩
      ·have hj':j=c.ps.length:=by omega
       subst hj'
       rw [AI9] at v10
       have hfl:L4 (G3 c d i m.mx):=fun q hq=>by
        have:=hlc.2.2 _ (List.getElem_mem hq)
        unfold Gi at this
        unfold Fit; omega
       have hof:=Vs hfl (by rw [LN]; omega)
       rw [if_pos hlc] at hof
       simp -implicitDefEqProofs -proj only [go_sem,seval,decide_eq_false (show ¬(c.ps.length:Int)<c.ps.length by omega)]
       refine YB hof (Hs (JF v10 (by rw [FT,LN])) K3) ?_
       simp -implicitDefEqProofs -proj only [go_sem,seval]
       refine AN (fun b18 hb18=>?_)
       replace hb18:Hj b18=none:=hb18
       obtain ⟨z1,z2⟩:=Ac hb18 v5
       simp -implicitDefEqProofs -proj only [go_sem,seval,v5,z1,z2]
       refine EJ (fun bs hs=>?_)
       have hs':upd Hj b18 _ bs=none:=hs
       obtain ⟨hall',hn'⟩:AR Hj (EK 58 2 c1 cap (EL (FF c d i))++[(b5,F9 d (Fd c d+sg (FG c d) i+sg (E7 c.ps d i) c.ps.length) (EU 2 2 c1 cap (EL (FF c d i)))),(b2,Ea c),(b4,F9 0 0 (.nilsl 2))])∧(AP (EK 58 2 c1 cap (EL (FF c d i))++[(b5,F9 d (Fd c d+sg (FG c d) i+sg (E7 c.ps d i) c.ps.length) (EU 2 2 c1 cap (EL (FF c d i)))),(b2,Ea c),(b4,F9 0 0 (.nilsl 2))])).Nodup:=⟨hr,(List.nodup_cons.1 hnj).2⟩
       obtain ⟨q1,q2⟩:=Ac hs' (by rw [EH z1]; exact v5)
       simp -implicitDefEqProofs -proj only [go_sem,seval,q1,q2,z1,z2]
       refine Fa (xs:=EL (FF c d i)) (y:=[.int .i64 (((G3 c d i m.mx).length:Int)-1),.sl 5 (A0 (FU (G3 c d i m.mx)))]) (t:=58) (capc:=1) [(b5,F9 d (Fd c d+sg (FG c d) i+sg (E7 c.ps d i) c.ps.length) (EU 2 2 c1 cap (EL (FF c d i)))),(b2,Ea c),(b4,F9 0 0 (.nilsl 2))] rfl (Ar hs' (Ar hb18 hall')) hn' (by simp -implicitDefEqProofs -proj only [go_sem,seval]; try rfl) (by rw [GG,IX]; omega) (by rw [GG,IX]; omega) (fun H' c2 cap2 ha hk=>?_)
       rw [AIF,←hsn] at ha hk
       obtain ⟨hrow2,g5,g2,g4,_⟩:=EO.1 ha
       have hne:EL (FF c d (i+1))≠[]:=by rw [hsn]; simp [EL]
       have hl1:(EL (FF c d (i+1))).length=i+1:=by rw [GG,IX]
       have hfx1:Fd c d+sg (FG c d) i+sg (E7 c.ps d i) c.ps.length=Fd c d+sg (FG c d) (i+1):=by rw [hfm0]; omega
       rw [hfx1] at g5
       simp -implicitDefEqProofs -proj only [go_sem,seval,g5,GG,IX]
       have hk2:(AP (Hu b2 b4 b5 c d ⟨i+1,c2,cap2⟩)).Nodup:=by simpa only [Hu,Eh,FJ,FN,AP,List.map_cons,List.map_append] using hk
       have hk5:b5∉AP (EK 58 2 c2 cap2 (EL (FF c d (i+1)))):=by
        simp -implicitDefEqProofs only [AP,List.map_append,List.map_cons] at hk
        exact fun hm=>(List.nodup_append.1 hk).2.2 _ hm _ (List.mem_cons_self ..) rfl
       refine AX ⟨i+1,c2,cap2⟩ ⟨by rw [Eh]; omega,hk2⟩ (by show c.ms.length-(i+1)<c.ms.length-i; omega) rfl ?_ ?_
       ·simp -implicitDefEqProofs -proj only [go_sem,seval,AK,Eh,Ab (show i<9223372036854775807 by omega)]
       ·simp -implicitDefEqProofs only [Hu,Eh,FJ,FN,Eq hne,hl1]
        exact EO.2 ⟨FS hrow2 hk5,Ad,(EH n5).trans g2,(EH n3).trans g4,trivial⟩
    ·have hi':i=c.ms.length:=by omega
     subst hi'
     simp -implicitDefEqProofs -proj only [go_sem,seval,Eh,FJ,FN,hH,k5,k4,decide_eq_false (show ¬(c.ms.length:Int)<c.ms.length by omega)]
     exact Po (MQ (FS hrow (by
      have:=hn
      simp -implicitDefEqProofs only [AP,List.map_append,List.map_cons] at this
      exact fun hm=>(List.nodup_append.1 this).2.2 _ hm _ (by simp) rfl)))
theorem AIZ {a b:List (List Int)} (hl:a.length=b.length) (h:∀(i:Nat) (h1:i<a.length) (h2:i<b.length),a[i]=b[i]):a=b:=List.ext_getElem hl h
theorem SK {a b:Seg EM} (ha:∀l∈a.v.2,E2 l) (hb:∀l∈b.v.2,E2 l) (hla:a.v.2.length≤1000000) (hlb:b.v.2.length≤1000000):DataW Try.prog Zk [Hx a,Hx b] (bv (decide (a.v=b.v))):=by
 obtain ⟨af,at',x,A⟩:=a
 obtain ⟨bf,bt',y,B⟩:=b
 simp -implicitDefEqProofs only [] at ha hb hla hlb
 refine Am Xx (by simp) ?_
 simp -implicitDefEqProofs -proj only [go_sem,seval]
 refine AN (fun b2 hb2=>?_)
 simp -implicitDefEqProofs -proj only [go_sem,seval]
 refine AN (fun b3 hb3=>?_)
 replace hb3:upd Heap.none b2 _ b3=none:=hb3
 obtain ⟨n1,n2⟩:=Ac hb3 Ad
 by_cases g1:x=y
 rotate_left
 ·simp -implicitDefEqProofs -proj only [go_sem,seval,n1,n2,decide_eq_false g1,Bool.not_false]
  exact AJ (by rw [decide_eq_false (fun k=>g1 (Prod.mk.inj k).1)])
 by_cases g2:A.length=B.length
 rotate_left
 ·simp -implicitDefEqProofs -proj only [go_sem,seval,n1,n2,decide_eq_true g1,Bool.not_true,GG,decide_eq_false (show ¬(A.length:Int)=B.length by omega),Bool.not_false]
  exact AJ (by rw [decide_eq_false (fun k=>g2 (by rw [(Prod.mk.inj k).2]))])
 simp -implicitDefEqProofs -proj only [go_sem,seval,n1,n2,decide_eq_true g1,Bool.not_true,GG,decide_eq_true (show (A.length:Int)=B.length by omega)]
 refine EN (fun i:Nat=>i≤A.length∧∀(j:Nat) (h:j<A.length) (h2:j<B.length),j<i→A[j]=B[j]) 39 (fun i=>[(2,.ptr b2 0),(3,.ptr b3 0),(22,i64 A.length),(23,i64 i)]) (fun _=>[(b3,.box 46 [i64 bf,i64 bt',i64 y,FE B]),(b2,.box 46 [i64 af,i64 at',i64 x,FE A])]) (fun i=>A.length-i) 0 ⟨Nat.zero_le _,fun j _ _ h=>absurd h (Nat.not_lt_zero _)⟩ rfl ?_ ?_ ?_
 ·simp -implicitDefEqProofs -proj only [go_sem,seval,AK,GG]
 ·exact ⟨Ad,(EH n1).trans Ad,trivial⟩
 ·rintro i ⟨hi,hs⟩
  have hk:AR (Ak [(b3,.box 46 [i64 bf,i64 bt',i64 y,FE B]),(b2,.box 46 [i64 af,i64 at',i64 x,FE A])]) [(b3,.box 46 [i64 bf,i64 bt',i64 y,FE B]),(b2,.box 46 [i64 af,i64 at',i64 x,FE A])]:=EZ (by simp [AP,n1])
  obtain ⟨k3,k2,_⟩:=id hk
  by_cases h:i<A.length
  ·have h2:i<B.length:=by omega
   have e1:=Kk h
   have e2:=Kk h2
   have hca:=ha _ (List.getElem_mem h)
   have hcb:=hb _ (List.getElem_mem h2)
   have hno:A[i]≠B[i]→(x,A)≠(y,B):=fun hn k=>hn (by
    have:=(Prod.mk.inj k).2
    subst this; rfl)
   have hgo:A[i]=B[i]→∀(j:Nat) (h:j<A.length) (h2:j<B.length),j<i+1→A[j]=B[j]:=fun he j h1 h2 h3=>by
    by_cases hj:j=i
    ·subst hj; exact he
    ·exact hs j h1 h2 (by omega)
   generalize A[i]=l at *
   generalize B[i]=m at *
   have hla':(FU l).length≤1000000:=by have:=@Lp l; have:=hca.2.1; omega
   have hlb':(FU m).length≤1000000:=by have:=@Lp m; have:=hcb.2.1; omega
   have hcall:=VH (m:=(l.length:Int)-1) (n:=(m.length:Int)-1) hla' hlb'
   rw [show decide ((l.length:Int)-1=(m.length:Int)-1∧FU l=FU m)=decide (l=m) from decide_eq_decide.2 PS] at hcall
   simp -implicitDefEqProofs -proj only [go_sem,seval,k3,k2,n1,n2,decide_eq_true (show (i:Int)<A.length by omega)]
   refine EG _ (by omega) e1 ?_
   simp -implicitDefEqProofs -proj only [go_sem,seval,k3,k2,n1,n2]
   refine EG _ (by omega) e2 ?_
   simp -implicitDefEqProofs -proj only [go_sem,seval,k3,k2,n1,n2]
   refine AH hcall ?_
   by_cases c:l=m
   ·simp -implicitDefEqProofs -proj only [go_sem,seval,decide_eq_true c,Bool.not_true]
    refine AX (i+1) ⟨by omega,hgo c⟩ (by show A.length-(i+1)<A.length-i; omega) rfl ?_ hk
    simp -implicitDefEqProofs -proj only [go_sem,seval,AK,Ab (show i<9223372036854775807 by omega)]
   ·simp -implicitDefEqProofs -proj only [go_sem,seval,decide_eq_false c,Bool.not_false]
    exact AJ (by rw [decide_eq_false (hno c)])
  ·have hi':i=A.length:=by omega
   subst hi'
   simp -implicitDefEqProofs -proj only [go_sem,seval,decide_eq_false (show ¬(A.length:Int)<A.length by omega)]
   exact AJ (by rw [decide_eq_true (show (x,A)=(y,B) by rw [g1,AIZ g2 fun j h1 h2=>hs j h1 h2 h1])])
theorem AAq {l:List Int}:∀el∈A5 l,∀d∈el,HG d=true:=by
 intro el he d hd
 obtain ⟨r,_,rfl⟩:=List.mem_map.1 he
 simp -implicitDefEqProofs only [List.mem_singleton] at hd
 subst hd; rfl
theorem Wq {l:List Int} {x:Int}:A5 l++[[.int .i64 x]]=A5 (l++[x]):=by simp [A5]
structure BX17 where
 i:Nat
 c:Nat
 cap:Nat
theorem Ge {i c cap:Nat}:(BX17.mk i c cap).i=i:=(rfl)
theorem IJ {i c cap:Nat}:(BX17.mk i c cap).c=c:=(rfl)
theorem Hz {i c cap:Nat}:(BX17.mk i c cap).cap=cap:=(rfl)
theorem Pt {val:Int→Int} {f:Int}:∀n:Nat,(En val f n).length≤n
 | 0=>by simp [En]
 | n+1=>by
  have:=Pt (val:=val) (f:=f) n
  rw [En]
  split
  ·omega
  ·rw [List.length_append,List.length_singleton]; omega
def HX (b1:Nat) (x:CoreX) (val:Int→Int) (y:BX17):List (Nat×Blk):=EK 3 1 y.c y.cap (A5 (En val x.f y.i))++[(b1,Ea x)]
theorem UY {c:CoreX} (hg:goodC c):NewW Try.prog UQ [Gm c] (I2 (En (fun d=>((F8 c d:Nat):Int)) c.f (c.t-c.f).toNat)):=by
 obtain ⟨⟨a1,a2⟩,⟨a3,a4⟩,a5,a6,a7,a8⟩:=hg.hd
 have hrh:=fun day=>AFM (c:=c) (day:=day) a7 a8
 obtain ⟨val,hval⟩:∃val:Int→Int,(fun d=>((F8 c d:Nat):Int))=val:=⟨_,rfl⟩
 have hv:∀d,((F8 c d:Nat):Int)=val d:=fun d=>congrFun hval d
 rw [hval]
 simp -implicitDefEqProofs only [hv] at hrh
 refine Am AJl (by simp) ?_
 simp -implicitDefEqProofs -proj only [go_sem,seval]
 refine AN (fun b1 hb1=>?_)
 have w1:IntKind.i64.wrap (c.f+1)=c.f+1:=by rw [IntKind.wrap_i64]; omega
 simp -implicitDefEqProofs -proj only [go_sem,seval,w1]
 refine EN (fun y:BX17=>y.i≤(c.t-c.f).toNat∧(AP (HX b1 c val y)).Nodup) 27 (fun y=>[(1,.ptr b1 0),(3,EU 0 1 y.c y.cap (A5 (En val c.f y.i))),(4,i64 (c.f+1+y.i))]) (HX b1 c val) (fun y=>(c.t-c.f).toNat+1-y.i) ⟨0,0,0⟩ ⟨Nat.zero_le _,by simp [AP,HX,Ge,En,A5,EK]⟩ rfl ?_ ?_ ?_
 ·simp -implicitDefEqProofs -proj only [go_sem,seval,AK,Ge,Int.add_zero]
  try rfl
 ·simp -implicitDefEqProofs only [HX,Ge,En,A5,List.map_nil,JL,List.nil_append]
  exact ⟨Ad,trivial⟩
 ·rintro ⟨i,c1,cap⟩ ⟨hi,hn⟩
  simp -implicitDefEqProofs only [Ge] at hi
  have hall:=EZ hn
  obtain ⟨H,hH⟩:∃H,Ak (HX b1 c val ⟨i,c1,cap⟩)=H:=⟨_,rfl⟩
  rw [hH] at hall
  simp -implicitDefEqProofs only [HX,Ge,IJ,Hz] at hall hn
  obtain ⟨hrow,k1,_⟩:=EO.1 hall
  by_cases h:i<(c.t-c.f).toNat
  ·have hbl:=Pt (val:=val) (f:=c.f) i
   have w2:IntKind.i64.wrap (c.f+1+(i:Int)-1)=c.f+i:=by rw [IntKind.wrap_i64]; omega
   have w3:IntKind.i64.wrap (c.f+1+(i:Int)+1)=c.f+1+((i+1:Nat):Int):=by rw [IntKind.wrap_i64]; omega
   have h1:=hrh (c.f+1+i)
   have h2:=hrh (c.f+i)
   have hb:En val c.f (i+1)=if val (c.f+1+i)=val (c.f+i) then En val c.f i else En val c.f i++[c.f+1+i]:=rfl
   generalize hG:En val c.f i=G at *
   simp -implicitDefEqProofs -proj only [go_sem,seval,Ge,IJ,Hz,hH,hG,k1,decide_eq_true (show c.f+1+(i:Int)≤c.t by omega)]
   refine Ew h1 ?_
   simp -implicitDefEqProofs -proj only [go_sem,seval,k1,w2]
   refine AH h2 ?_
   by_cases he:val (c.f+1+i)=val (c.f+i)
   ·rw [if_pos he] at hb
    simp -implicitDefEqProofs -proj only [go_sem,seval,decide_eq_true he,w3]
    refine AX ⟨i+1,c1,cap⟩ ⟨by rw [Ge]; omega,by simpa only [HX,Ge,IJ,Hz,hb] using hn⟩ (by show (c.t-c.f).toNat+1-(i+1)<(c.t-c.f).toNat+1-i; omega) rfl ?_ ?_
    ·simp -implicitDefEqProofs -proj only [go_sem,seval,AK,Ge,IJ,Hz,hb]
    ·simpa only [HX,Ge,IJ,Hz,hb] using hall
   ·rw [if_neg he] at hb
    have hne:A5 (En val c.f (i+1))≠[]:=by rw [hb]; simp [A5]
    have hl2:(A5 (En val c.f (i+1))).length=G.length+1:=by rw [FT,hb,List.length_append,List.length_singleton]
    simp -implicitDefEqProofs -proj only [go_sem,seval,decide_eq_false he]
    refine EJ (fun bs hs=>?_)
    replace hs:H bs=none:=hs
    simp -implicitDefEqProofs -proj only [go_sem,seval]
    refine Fa (xs:=A5 G) (y:=[.int .i64 (c.f+1+i)]) (t:=3) (capc:=1) [(b1,Ea c)] rfl (Ar hs hall) hn (by simp -implicitDefEqProofs -proj only [go_sem,seval]; try rfl) (by rw [FT]; omega) (by rw [FT]; omega) (fun H' c2 cap2 ha hk=>?_)
    rw [Wq,←hb] at ha hk
    simp -implicitDefEqProofs -proj only [go_sem,seval,w3,FT]
    refine AX ⟨i+1,c2,cap2⟩ ⟨by rw [Ge]; omega,by simpa only [HX,Ge,IJ,Hz] using hk⟩ (by show (c.t-c.f).toNat+1-(i+1)<(c.t-c.f).toNat+1-i; omega) rfl ?_ ?_
    ·simp -implicitDefEqProofs -proj only [go_sem,seval,AK,Ge,IJ,Hz,Eq hne,hl2,FT]
    ·simpa only [HX,Ge,IJ,Hz] using ha
  ·have hi':i=(c.t-c.f).toNat:=by omega
   subst hi'
   simp -implicitDefEqProofs -proj only [go_sem,seval,Ge,IJ,Hz,hH,k1,decide_eq_false (show ¬c.f+1+(((c.t-c.f).toNat:Nat):Int)≤c.t by omega)]
   exact Jg hrow AAq
section
variable {P:Program} {Q:Out→St→Prop} {k:List Item} {s:St} {d:Option Nat} {l:List AO}
theorem LB {e:TypeId} {sz bytes b len cap:Nat} {z:List AV} {xs ys:List (List D)} (hb:s.H b=some (.row e sz cap xs)) (hlb:len=xs.length) (hz:z.length=sz) (hbd:(xs.length+ys.length)*bytes≤140737488355328∧xs.length+ys.length≤maxLen)
  (hk:∀b' cap' H',H' b'=some (.row e sz cap' (xs++ys))→(∀k x,s.H k=some x→¬k=b→H' k=some x∧¬k=b'∧¬b'=k)→AI P Q l k (AF s d (.own b' sz 0 (len+ys.length) cap') H')):Gk e sz bytes z (.own b sz 0 len cap) (.d (.sl sz ys)) d l k s P Q:=by
 by_cases h:ys=[]
 ·subst h
  refine AGU hz ?_
  have:=hk b cap s.H (by rw [List.append_nil]; exact hb) (fun k x h1 h2=>⟨h1,h2,fun e=>h2 e.symm⟩)
  simpa using this
 ·refine Xn (len:=0) hb hlb h hz hbd (fun b' cap' hb'=>hk b' cap' _ Ad (fun k x h1 h2=>?_))
  have hne:¬k=b':=by
   rintro rfl
   rw [EH (fun e=>h2 e.symm),h1] at hb'
   cases hb'
  exact ⟨by rw [EH (fun e=>hne e.symm),EH (fun e=>h2 e.symm)]; exact h1,hne,fun e=>hne e.symm⟩
end
structure MkY where
 i:Nat
 c:Nat
 cap:Nat
theorem GR {i c cap:Nat}:(MkY.mk i c cap).i=i:=(rfl)
theorem Hw {i c cap:Nat}:(MkY.mk i c cap).c=c:=(rfl)
theorem IB {i c cap:Nat}:(MkY.mk i c cap).cap=cap:=(rfl)
def Fs (b1 b2 b3 bm bd capm capd:Nat) (c:CoreX) (ds:List Int) (c1 cap:Nat) (acc:List (Seg EM)):List (Nat×Blk):=EK 46 4 c1 cap (ER acc)++[(b3,.box 30 [.d (.str c.cur),i64 c.f,i64 c.t,.own bm 5 0 c.ms.length capm,EU 4 4 c1 cap (ER acc)]),(bm,.row 39 5 capm (AS c.ms)),(bd,.row 3 1 capd (A5 ds)),(b1,Ea c),(b2,.box 30 [.d (.str ⟨⟨[]⟩⟩),i64 0,i64 0,.nilsl 5,.nilsl 4])]
theorem QB {b1 b2 b3 bm bd capm capd:Nat} {c:CoreX} {ds:List Int} {c1 cap:Nat} {A:List (Seg EM)} {s s':Seg EM}:AP (Fs b1 b2 b3 bm bd capm capd c ds c1 cap (A++[s]))=AP (Fs b1 b2 b3 bm bd capm capd c ds c1 cap (A++[s'])):=by
 have h:∀s:Seg EM,ER (A++[s])≠[]:=fun s=>by simp [ER]
 simp -implicitDefEqProofs only [Fs,Fj (h s),Fj (h s'),AP,List.map_append,List.map_cons,List.map_nil]
theorem Oa {c:CoreX} (hc:c.Fit) (hf:fitsC c):DataW Try.prog AIh [Gm c] (Gf c.cur c.f c.t c.ms (Ip c)):=by
 obtain ⟨⟨a1,a2⟩,⟨a3,a4⟩,a5,a6,a7,a8⟩:=hf.good.hd
 have hbr:=(UY hf.good).data
 have hst:=Y2 (c:=c) a3
 have hfw:=ABn (c:=c) a3
 have hlen:=AHH (c:=c) a7 a8 (c.t-c.f).toNat
 have hday:=fun (d:Int) (hd:Fit d)=>Sp (d:=d) hc hf hd
 have hcurs:=fun d=>Oc hf d
 have hfin:Ip c=Lz (FZ (FY c) ((IH c).map (·.f)) (IH c).length) c.t:=rfl
 have hadd:=Qx hfw (AI1 a7)
 have hRl:(IH c).length=(En (fun d=>((F8 c d:Nat):Int)) c.f (c.t-c.f).toNat).length+1:=by
  have:=congrArg List.length hst
  simpa using this
 have hnth:=hfw.nth2
 rw [hfin]
 rw [hst] at hadd ⊢
 generalize IH c=R at *
 generalize En (fun d=>((F8 c d:Nat):Int)) c.f (c.t-c.f).toNat=bs at *
 refine Am We (by simp) ?_
 simp -implicitDefEqProofs -proj only [go_sem,seval]
 refine AN (fun b1 hb1=>?_)
 simp -implicitDefEqProofs -proj only [go_sem,seval]
 refine AN (fun b2 hb2=>?_)
 replace hb2:upd Heap.none b1 _ b2=none:=hb2
 obtain ⟨n1,n2⟩:=Ac hb2 Ad
 simp -implicitDefEqProofs -proj only [go_sem,seval,n1,n2]
 have A1:AR (upd (upd Heap.none b1 (some (Ea c))) b2 (some (.box 30 [.d (.str ⟨⟨[]⟩⟩),i64 0,i64 0,.nilsl 5,.nilsl 4]))) [(b1,Ea c),(b2,.box 30 [.d (.str ⟨⟨[]⟩⟩),i64 0,i64 0,.nilsl 5,.nilsl 4])]:=⟨(EH n1).trans Ad,Ad,trivial⟩
 have N1:(AP [(b1,Ea c),(b2,Blk.box 30 [.d (.str ⟨⟨[]⟩⟩),i64 0,i64 0,.nilsl 5,.nilsl 4])]).Nodup:=by simp [AP,n2]
 obtain ⟨H0,hH0⟩:∃H0,upd (upd Heap.none b1 (some (Ea c))) b2 (some (.box 30 [.d (.str ⟨⟨[]⟩⟩),i64 0,i64 0,.nilsl 5,.nilsl 4]))=H0:=⟨_,rfl⟩
 rw [hH0] at A1
 rw [hH0]
 refine Mu (ds:=[]) rfl (fun b14 hb14=>?_)
 replace hb14:H0 b14=none:=hb14
 obtain ⟨k1,k2,_⟩:=id A1
 obtain ⟨m1,m2⟩:=Ac hb14 k1
 obtain ⟨m3,m4⟩:=Ac hb14 k2
 simp -implicitDefEqProofs -proj only [go_sem,seval]
 refine LB (xs:=[]) (by exact Ad) rfl (by rfl) (by rw [GB]; constructor <;> simp [maxLen] <;> omega) (fun bm capm H1 hm hfr=>?_)
 obtain ⟨g1,g2,g3⟩:=hfr b1 _ ((EH m1).trans k1) m2
 obtain ⟨g4,g5,g6⟩:=hfr b2 _ ((EH m3).trans k2) m4
 simp -implicitDefEqProofs -proj only [go_sem,seval,GB]
 refine AN (fun b3 hb3=>?_)
 replace hb3:H1 b3=none:=hb3
 obtain ⟨p1,p2⟩:=Ac hb3 g1
 obtain ⟨p3,p4⟩:=Ac hb3 g4
 obtain ⟨p5,p6⟩:=Ac hb3 hm
 obtain ⟨H2,hH2⟩:∃H2,upd H1 b3 (some (.box 30 [.d (.str c.cur),i64 c.f,i64 c.t,.own bm 5 0 c.ms.length capm,.nilsl 4]))=H2:=⟨_,rfl⟩
 have A2:AR H2 [(b3,.box 30 [.d (.str c.cur),i64 c.f,i64 c.t,.own bm 5 0 c.ms.length capm,.nilsl 4]),(bm,.row 39 5 capm (AS c.ms)),(b1,Ea c),(b2,.box 30 [.d (.str ⟨⟨[]⟩⟩),i64 0,i64 0,.nilsl 5,.nilsl 4])]:=by
  rw [←hH2]
  exact ⟨Ad,(EH p5).trans hm,(EH p1).trans g1,(EH p3).trans g4,trivial⟩
 have N2:(AP [(b3,Blk.box 30 [.d (.str c.cur),i64 c.f,i64 c.t,.own bm 5 0 c.ms.length capm,.nilsl 4]),(bm,.row 39 5 capm (AS c.ms)),(b1,Ea c),(b2,.box 30 [.d (.str ⟨⟨[]⟩⟩),i64 0,i64 0,.nilsl 5,.nilsl 4])]).Nodup:=by
  simp [AP,p1,p3,p5,g3,g6,n2]
 obtain ⟨e3,em,e1,e2,_⟩:=id A2
 simp -implicitDefEqProofs -proj only [go_sem,seval,p1,p2,p3,p4,p5,p6,hH2,e1]
 refine Ew hbr ?_
 simp -implicitDefEqProofs -proj only [go_sem,seval]
 refine Mu (ds:=[.int .i64 c.f]) rfl (fun b21 hb21=>?_)
 replace hb21:H2 b21=none:=hb21
 have A3:=Ar (y:=some (.row 3 1 1 [[.int .i64 c.f]])) hb21 A2
 simp -implicitDefEqProofs -proj only [go_sem,seval]
 refine LB (xs:=[[.int .i64 c.f]]) Ad rfl (by rfl) (by rw [FT]; constructor <;> simp [maxLen] <;> omega) (fun bd capd H3 hd hfr3=>?_)
 have A4:AR H3 ((bd,.row 3 1 capd (A5 (c.f::bs)))::[(b3,.box 30 [.d (.str c.cur),i64 c.f,i64 c.t,.own bm 5 0 c.ms.length capm,.nilsl 4]),(bm,.row 39 5 capm (AS c.ms)),(b1,Ea c),(b2,.box 30 [.d (.str ⟨⟨[]⟩⟩),i64 0,i64 0,.nilsl 5,.nilsl 4])]) :=
  ⟨hd,Fb.2 fun p hp=>(hfr3 p.1 p.2 (Fb.1 A3 p hp) (fun e=>by
   have:=Fb.1 A2 p hp
   rw [e,hb21] at this; cases this)).1⟩
 have N4:bd∉AP [(b3,Blk.box 30 [.d (.str c.cur),i64 c.f,i64 c.t,.own bm 5 0 c.ms.length capm,.nilsl 4]),(bm,.row 39 5 capm (AS c.ms)),(b1,Ea c),(b2,.box 30 [.d (.str ⟨⟨[]⟩⟩),i64 0,i64 0,.nilsl 5,.nilsl 4])]:=fun hm=>by
  obtain ⟨p,hp,e⟩:=List.mem_map.1 hm
  exact (hfr3 p.1 p.2 (Fb.1 A3 p hp) (fun e=>by
   have:=Fb.1 A2 p hp
   rw [e,hb21] at this; cases this)).2.1 e
 have hlR:1+bs.length=R.length:=by omega
 obtain ⟨f3,fm,f1,f2,_⟩:=id A4.2
 simp -implicitDefEqProofs -proj only [go_sem,seval,FT,hlR]
 have hkk:∀(c1 cap:Nat),(AP (Fs b1 b2 b3 bm bd capm capd c (c.f::bs) c1 cap [])).Nodup:=fun c1 cap=>by
  exact N9 (A:=[b3,bm]) (B:=[b1,b2]) (List.nodup_cons.2 ⟨N4,N2⟩)
 refine EN (fun y:MkY=>y.i≤R.length∧(AP (Fs b1 b2 b3 bm bd capm capd c (c.f::bs) y.c y.cap (FZ (FY c) (c.f::bs) y.i))).Nodup) 81 (fun y=>[(1,.ptr b1 0),(2,.ptr b2 0),(3,.ptr b3 0),(24,.own bd 1 0 R.length capd),(25,i64 R.length),(26,i64 y.i)]) (fun y=>Fs b1 b2 b3 bm bd capm capd c (c.f::bs) y.c y.cap (FZ (FY c) (c.f::bs) y.i)) (fun y=>R.length-y.i) ⟨0,0,0⟩ ⟨Nat.zero_le _,hkk _ _⟩ rfl ?_ ?_ ?_
 ·simp -implicitDefEqProofs -proj only [go_sem,seval,AK,GR,FT,hlR]
 ·simp -implicitDefEqProofs only [Fs,GR,FZ,ER,List.map_nil,JL,Kb,List.nil_append]
  exact ⟨f3,fm,A4.1,f1,f2,trivial⟩
 ·rintro ⟨i,c1,cap⟩ ⟨hi,hn⟩
  simp -implicitDefEqProofs only [GR,Hw,IB] at hi hn
  have hall:=EZ hn
  obtain ⟨H,hH⟩:∃H,Ak (Fs b1 b2 b3 bm bd capm capd c (c.f::bs) c1 cap (FZ (FY c) (c.f::bs) i))=H:=⟨_,rfl⟩
  rw [hH] at hall
  simp -implicitDefEqProofs only [Fs] at hall
  obtain ⟨hrow,h3,hm3,hd3,h1,h2,_⟩:=EO.1 hall
  by_cases h:i<R.length
  ·have hr:=List.getElem?_eq_getElem h
   obtain ⟨r1,r2,r3,r4,r5,r6,r7⟩:=hnth i _ hr
   have hds:(c.f::bs)[i]? = some R[i].f:=by rw [←hst]; simp [h]
   have hdi:=Jq hds
   have hstep:FZ (FY c) (c.f::bs) (i+1)=IZ (FZ (FY c) (c.f::bs) i) R[i].f (FY c R[i].f):=by rw [FZ,hds]
   have hdy:=hday R[i].f (by unfold Fit; omega)
   have hcu:∀l∈(FY c R[i].f).2,E2 l:=hcurs R[i].f
   have hdl:(FY c R[i].f).2.length=c.ms.length:=IX
   have hacc:∀A s,FZ (FY c) (c.f::bs) i=A++[s]→(∀l∈s.v.2,E2 l)∧s.v.2.length≤4:=fun A s e=>by
    cases i with
    | zero=>rw [FZ] at e; have:=congrArg List.length e; simp at this
    | succ i =>
     obtain ⟨A',s',e1,e2,_⟩:=hadd i R[i] (List.getElem?_eq_getElem (by omega))
     rw [e1] at e
     have:=(List.append_inj' e rfl).2
     cases this
     rw [e2]
     exact ⟨Oc hf _,by show (FF c _ _).length≤4; rw [IX]; exact a6⟩
   have hal:(FZ (FY c) (c.f::bs) i).length≤4000:=by
    cases i with
    | zero=>rw [FZ]; simp
    | succ i =>
     obtain ⟨A',s',e1,e2,e3,e4⟩:=hadd i R[i] (List.getElem?_eq_getElem (by omega))
     obtain ⟨_,q2,q3,_⟩:=hnth i R[i] (List.getElem?_eq_getElem (by omega))
     have:=(e4 R[i].f (Int.le_refl _) q2).len
     rw [e1]
     simp -implicitDefEqProofs only [List.length_append,List.length_singleton] at this ⊢
     omega
   generalize R[i]=r at *
   generalize hacd:FZ (FY c) (c.f::bs) i=acc at *
   generalize FY c r.f=v at *
   have w1:IntKind.i64.wrap (r.f-1)=r.f-1:=by rw [IntKind.wrap_i64]; omega
   simp -implicitDefEqProofs -proj only [go_sem,seval,GR,Hw,IB,hacd,hH,hd3,decide_eq_true (show (i:Int)<R.length by omega)]
   refine Aq ⟨by omega,by omega⟩ (fun _=>?_)
   rw [Int.toNat_natCast]
   refine EW _ hdi (by simp) ?_
   simp -implicitDefEqProofs -proj only [go_sem,seval,h1]
   refine AH hdy ?_
   simp -implicitDefEqProofs -proj only [go_sem,seval]
   refine AN (fun b6 hb6=>?_)
   replace hb6:H b6=none:=hb6
   obtain ⟨y1,y2⟩:=Ac hb6 h3
   have hall6:=Ar (y:=some (.box 46 [i64 r.f,i64 r.f,i64 v.1,FE v.2])) hb6 hall
   by_cases c0:acc=[]
   ·subst c0
    have hnew:FZ (FY c) (c.f::bs) (i+1)=[⟨r.f,r.f,v⟩]:=by rw [hstep]; rfl
    simp -implicitDefEqProofs only [ER,List.map_nil,Kb,JL,List.nil_append] at h3 hall6 hn
    have hn6:(AP (EK 46 4 0 0 (ER [])++[(b3,Blk.box 30 [.d (.str c.cur),i64 c.f,i64 c.t,.own bm 5 0 c.ms.length capm,.nilsl 4]),(bm,.row 39 5 capm (AS c.ms)),(bd,.row 3 1 capd (A5 (c.f::bs))),(b1,Ea c),(b2,.box 30 [.d (.str ⟨⟨[]⟩⟩),i64 0,i64 0,.nilsl 5,.nilsl 4])])).Nodup:=hkk 0 0
    simp -implicitDefEqProofs -proj only [go_sem,seval,h3,y1,y2]
    refine EJ (fun bs' hs=>?_)
    replace hs:(upd H b6 (some (.box 46 [i64 r.f,i64 r.f,i64 v.1,FE v.2]))) bs'=none:=hs
    simp -implicitDefEqProofs -proj only [go_sem,seval]
    refine Fa (c:=0) (cap:=0) (z0:=4) (xs:=ER (([]:List (Seg EM)))) (y:=[.int .i64 r.f,.int .i64 r.f,.int .i64 v.1,.sl 2 (EL v.2)]) (t:=46) (capc:=1) [(b3,Blk.box 30 [.d (.str c.cur),i64 c.f,i64 c.t,.own bm 5 0 c.ms.length capm,.nilsl 4]),(bm,.row 39 5 capm (AS c.ms)),(bd,.row 3 1 capd (A5 (c.f::bs))),(b1,Ea c),(b2,.box 30 [.d (.str ⟨⟨[]⟩⟩),i64 0,i64 0,.nilsl 5,.nilsl 4])] rfl (Ar hs hall6) hn6 (by simp -implicitDefEqProofs -proj only [go_sem,seval]; try rfl) (by simp [ER]) (by simp [ER]) (fun H' c2 cap2 ha hk=>?_)
    rw [show ER (([]:List (Seg EM)))++[[.int .i64 r.f,.int .i64 r.f,.int .i64 v.1,.sl 2 (EL v.2)]]=ER ([⟨r.f,r.f,v⟩]) by simp [ER,JG]] at ha hk
    obtain ⟨hrow',q3,qm,qd,q1,q2,_⟩:=EO.1 ha
    simp -implicitDefEqProofs -proj only [go_sem,seval,q3]
    have hne':ER ([⟨r.f,r.f,v⟩])≠[]:=by simp [ER]
    have hk2:(AP (Fs b1 b2 b3 bm bd capm capd c (c.f::bs) c2 cap2 ([⟨r.f,r.f,v⟩]))).Nodup:=by simpa only [Fs,AP,List.map_cons,List.map_append] using hk
    have hk3:b3∉AP (EK 46 4 c2 cap2 (ER ([⟨r.f,r.f,v⟩]))):=by
     simp -implicitDefEqProofs only [AP,List.map_append,List.map_cons] at hk
     exact fun hm=>(List.nodup_append.1 hk).2.2 _ hm _ (List.mem_cons_self ..) rfl
    have hkr:b3∉AP [(bm,Blk.row 39 5 capm (AS c.ms)),(bd,.row 3 1 capd (A5 (c.f::bs))),(b1,Ea c),(b2,.box 30 [.d (.str ⟨⟨[]⟩⟩),i64 0,i64 0,.nilsl 5,.nilsl 4])]:=by
     simp -implicitDefEqProofs only [AP,List.map_append,List.map_cons] at hk
     exact (List.nodup_cons.1 (List.nodup_append.1 hk).2.1).1
    refine AX ⟨i+1,c2,cap2⟩ ⟨by rw [GR]; omega,by simp -implicitDefEqProofs only [GR,Hw,IB]; rw [hnew]; exact hk2⟩ (by show R.length-(i+1)<R.length-i; omega) rfl ?_ ?_
    ·simp -implicitDefEqProofs -proj only [go_sem,seval,AK,GR,Ab (show i<9223372036854775807 by omega)]
    ·simp -implicitDefEqProofs only [GR,Hw,IB]
     rw [hnew]
     simp -implicitDefEqProofs only [Fs,Eq hne',H8,List.length_nil,List.length_append,List.length_cons]
     exact EO.2 ⟨FS hrow' hk3,Ad,FS ⟨qm,qd,q1,q2,trivial⟩ hkr⟩
   ·obtain ⟨A,s,hAs⟩:∃A s,acc=A++[s]:=⟨acc.dropLast,acc.getLast c0,(List.dropLast_concat_getLast c0).symm⟩
    subst hAs
    have hne:ER (A++[s])≠[]:=by simp [ER]
    have hne1:ER (A++[⟨s.f,r.f-1,s.v⟩])≠[]:=by simp [ER]
    have hxl:(ER (A++[s])).length=A.length+1:=by rw [H8]; simp
    have hxl1:(ER (A++[⟨s.f,r.f-1,s.v⟩])).length=A.length+1:=by rw [H8]; simp
    obtain ⟨hsc,hsl⟩:=hacc A s rfl
    rw [Fj hne] at hrow
    rw [Eq hne,hxl] at h3
    have hkc1:=hrow.1
    have hn':=hn
    simp -implicitDefEqProofs only [Fs,Fj hne,AP,List.map_append,List.map_cons,List.map_nil,List.cons_append,List.nil_append] at hn'
    obtain ⟨z1,z2⟩:=Ac hb6 hkc1
    obtain ⟨x1,x2,x3,x4,x5⟩:¬c1=b3∧¬c1=bm∧¬c1=bd∧¬c1=b1∧¬c1=b2:=by
     have:=(List.nodup_cons.1 hn').1
     simp -implicitDefEqProofs only [List.mem_cons,List.not_mem_nil,or_false,not_or] at this
     exact this
    have x1':¬b3=c1:=fun e=>x1 e.symm
    have w2:IntKind.i64.wrap (((A.length+1:Nat):Int)-1)=(A.length:Int):=by rw [IntKind.wrap_i64]; simp -implicitDefEqProofs only [List.length_append,List.length_singleton] at hal; omega
    have hat:=NK (S:=A++[s]) (i:=A.length) (s:=s) (by simp)
    have hat2:=NK (S:=A++[⟨s.f,r.f-1,s.v⟩]) (i:=A.length) (s:=⟨s.f,r.f-1,s.v⟩) (by simp)
    have hset:=OJ (A:=A) (s:=s) (x:=r.f-1)
    have hal':A.length≤4000:=by simp -implicitDefEqProofs only [List.length_append,List.length_singleton] at hal; omega
    have dz:decide (((A.length+1:Nat):Int)=0)=false:=decide_eq_false (by omega)
    have hcall:=SK (a:=⟨s.f,r.f-1,s.v⟩) (b:=⟨r.f,r.f,v⟩) hsc hcu (by show s.v.2.length≤1000000; omega) (by show v.2.length≤1000000; omega)
    simp -implicitDefEqProofs -proj only [go_sem,seval,h3,y1,y2,hxl,w2,w1,decide_eq_true (show (0:Int)<((A.length+1:Nat):Int) by omega)]
    refine Aq ⟨by omega,by omega⟩ (fun _=>?_)
    rw [Int.toNat_natCast]
    refine IS (cap:=cap) ((EH z1).trans hkc1) hat (by simp) ?_
    obtain ⟨H5,hH5⟩:∃H5,upd (upd H b6 (some (.box 46 [i64 r.f,i64 r.f,i64 v.1,FE v.2]))) c1 (some (.row 46 4 cap (ER (A++[⟨s.f,r.f-1,s.v⟩]))))=H5:=⟨_,rfl⟩
    have hall5:AR H5 ((b6,.box 46 [i64 r.f,i64 r.f,i64 v.1,FE v.2])::Fs b1 b2 b3 bm bd capm capd c (c.f::bs) c1 cap (A++[⟨s.f,r.f-1,s.v⟩])):=by
     rw [←hH5]
     simp -implicitDefEqProofs only [Fs,Fj hne1,Eq hne1,hxl1,List.cons_append,List.nil_append]
     have h6:=hall6
     rw [Fj hne,Eq hne,hxl] at h6
     exact ⟨(EH (fun e=>z1 e.symm)).trans Ad,Ad,FS h6.2 (List.nodup_cons.1 hn').1⟩
    simp -implicitDefEqProofs only [Fs,Fj hne1,Eq hne1,hxl1,List.cons_append,List.nil_append] at hall5
    obtain ⟨u6,uc,u3,um,ud,u1,u2,_⟩:=id hall5
    simp -implicitDefEqProofs -proj only [go_sem,seval,Fe,hset,hH5,dz,u3,uc,u6,w2]
    refine Aq ⟨by omega,by omega⟩ (fun _=>?_)
    simp -implicitDefEqProofs -proj only [go_sem,seval,Int.toNat_natCast,uc]
    refine EX _ hat2 (by simp) ?_
    simp -implicitDefEqProofs -proj only [go_sem,seval,u6]
    refine AH hcall ?_
    by_cases ca:s.v=v
    ·have hnew:FZ (FY c) (c.f::bs) (i+1)=A++[⟨s.f,r.f-1,s.v⟩]:=by
      rw [hstep,IZ]
      simp -implicitDefEqProofs only [List.getLast?_append,List.getLast?_singleton,Option.some_or,List.dropLast_concat,if_pos ca]
     simp -implicitDefEqProofs -proj only [go_sem,seval,decide_eq_true ca,Bool.not_true]
     refine AX ⟨i+1,c1,cap⟩ ⟨by rw [GR]; omega,by simp -implicitDefEqProofs only [GR,Hw,IB]; rw [hnew,QB (s':=s)]; exact hn⟩ (by show R.length-(i+1)<R.length-i; omega) rfl ?_ ?_
     ·simp -implicitDefEqProofs -proj only [go_sem,seval,AK,GR,Ab (show i<9223372036854775807 by omega)]
     ·simp -implicitDefEqProofs only [GR,Hw,IB]
      rw [hnew]
      simp -implicitDefEqProofs only [Fs,Fj hne1,Eq hne1,hxl1,List.cons_append,List.nil_append]
      exact hall5.2
    ·have hnew:FZ (FY c) (c.f::bs) (i+1)=A++[⟨s.f,r.f-1,s.v⟩]++[⟨r.f,r.f,v⟩]:=by
      rw [hstep,IZ]
      simp -implicitDefEqProofs only [List.getLast?_append,List.getLast?_singleton,Option.some_or,List.dropLast_concat,if_neg ca]
     have hall7:AR H5 (EK 46 4 c1 cap (ER (A++[⟨s.f,r.f-1,s.v⟩]))++[(b3,Blk.box 30 [.d (.str c.cur),i64 c.f,i64 c.t,.own bm 5 0 c.ms.length capm,EU 4 4 c1 cap (ER (A++[⟨s.f,r.f-1,s.v⟩]))]),(bm,.row 39 5 capm (AS c.ms)),(bd,.row 3 1 capd (A5 (c.f::bs))),(b1,Ea c),(b2,.box 30 [.d (.str ⟨⟨[]⟩⟩),i64 0,i64 0,.nilsl 5,.nilsl 4])]):=by
      simp -implicitDefEqProofs only [Fj hne1,Eq hne1,hxl1,List.cons_append,List.nil_append]
      exact hall5.2
     have hn7:(AP (EK 46 4 c1 cap (ER (A++[⟨s.f,r.f-1,s.v⟩]))++[(b3,Blk.box 30 [.d (.str c.cur),i64 c.f,i64 c.t,.own bm 5 0 c.ms.length capm,EU 4 4 c1 cap (ER (A++[⟨s.f,r.f-1,s.v⟩]))]),(bm,.row 39 5 capm (AS c.ms)),(bd,.row 3 1 capd (A5 (c.f::bs))),(b1,Ea c),(b2,.box 30 [.d (.str ⟨⟨[]⟩⟩),i64 0,i64 0,.nilsl 5,.nilsl 4])])).Nodup:=by
      rw [QB (s':=⟨s.f,r.f-1,s.v⟩)] at hn
      exact hn
     obtain ⟨_,u3',_⟩:=EO.1 hall7
     simp -implicitDefEqProofs -proj only [go_sem,seval,decide_eq_false ca,Bool.not_false,u3',u6]
     refine EJ (fun bs' hs=>?_)
     replace hs:H5 bs'=none:=hs
     simp -implicitDefEqProofs -proj only [go_sem,seval]
     refine Fa (c:=c1) (cap:=cap) (z0:=4) (xs:=ER (A++[Seg.mk s.f (r.f-1) s.v])) (y:=[.int .i64 r.f,.int .i64 r.f,.int .i64 v.1,.sl 2 (EL v.2)]) (t:=46) (capc:=1) [(b3,Blk.box 30 [.d (.str c.cur),i64 c.f,i64 c.t,.own bm 5 0 c.ms.length capm,EU 4 4 c1 cap (ER (A++[⟨s.f,r.f-1,s.v⟩]))]),(bm,.row 39 5 capm (AS c.ms)),(bd,.row 3 1 capd (A5 (c.f::bs))),(b1,Ea c),(b2,.box 30 [.d (.str ⟨⟨[]⟩⟩),i64 0,i64 0,.nilsl 5,.nilsl 4])] rfl (Ar hs hall7) hn7 (by simp -implicitDefEqProofs -proj only [go_sem,seval]; try rfl) (by rw [hxl1]; omega) (by rw [hxl1]; omega) (fun H' c2 cap2 ha hk=>?_)
     rw [show ER (A++[⟨s.f,r.f-1,s.v⟩])++[[.int .i64 r.f,.int .i64 r.f,.int .i64 v.1,.sl 2 (EL v.2)]]=ER (A++[⟨s.f,r.f-1,s.v⟩]++[⟨r.f,r.f,v⟩]) by simp [ER,JG]] at ha hk
     obtain ⟨hrow',q3,qm,qd,q1,q2,_⟩:=EO.1 ha
     simp -implicitDefEqProofs -proj only [go_sem,seval,q3]
     have hne':ER (A++[⟨s.f,r.f-1,s.v⟩]++[⟨r.f,r.f,v⟩])≠[]:=by simp [ER]
     have hk2:(AP (Fs b1 b2 b3 bm bd capm capd c (c.f::bs) c2 cap2 (A++[⟨s.f,r.f-1,s.v⟩]++[⟨r.f,r.f,v⟩]))).Nodup:=by simpa only [Fs,AP,List.map_cons,List.map_append] using hk
     have hk3:b3∉AP (EK 46 4 c2 cap2 (ER (A++[⟨s.f,r.f-1,s.v⟩]++[⟨r.f,r.f,v⟩]))):=by
      simp -implicitDefEqProofs only [AP,List.map_append,List.map_cons] at hk
      exact fun hm=>(List.nodup_append.1 hk).2.2 _ hm _ (List.mem_cons_self ..) rfl
     have hkr:b3∉AP [(bm,Blk.row 39 5 capm (AS c.ms)),(bd,.row 3 1 capd (A5 (c.f::bs))),(b1,Ea c),(b2,.box 30 [.d (.str ⟨⟨[]⟩⟩),i64 0,i64 0,.nilsl 5,.nilsl 4])]:=by
      simp -implicitDefEqProofs only [AP,List.map_append,List.map_cons] at hk
      exact (List.nodup_cons.1 (List.nodup_append.1 hk).2.1).1
     refine AX ⟨i+1,c2,cap2⟩ ⟨by rw [GR]; omega,by simp -implicitDefEqProofs only [GR,Hw,IB]; rw [hnew]; exact hk2⟩ (by show R.length-(i+1)<R.length-i; omega) rfl ?_ ?_
     ·simp -implicitDefEqProofs -proj only [go_sem,seval,AK,GR,Ab (show i<9223372036854775807 by omega)]
     ·simp -implicitDefEqProofs only [GR,Hw,IB]
      rw [hnew]
      simp -implicitDefEqProofs only [Fs,Eq hne',H8,List.length_nil,List.length_append,List.length_cons]
      exact EO.2 ⟨FS hrow' hk3,Ad,FS ⟨qm,qd,q1,q2,trivial⟩ hkr⟩
  ·have hi':i=R.length:=by omega
   subst hi'
   have hR0:R.length-1<R.length:=by omega
   obtain ⟨A,s,e1,e2,e3,e4⟩:=hadd (R.length-1) _ (List.getElem?_eq_getElem hR0)
   rw [show R.length-1+1=R.length by omega] at e1
   rw [e1] at hrow h3 hall hn hH
   have hal:A.length≤4000:=by
    obtain ⟨_,q2,q3,_⟩:=hnth (R.length-1) _ (List.getElem?_eq_getElem hR0)
    have:=(e4 _ (Int.le_refl _) q2).len
    simp -implicitDefEqProofs only [List.length_append,List.length_singleton] at this
    omega
   have hne:ER (A++[s])≠[]:=by simp [ER]
   have hne1:ER (A++[⟨s.f,c.t,s.v⟩])≠[]:=by simp [ER]
   have hxl:(ER (A++[s])).length=A.length+1:=by rw [H8]; simp
   have hxl1:(ER (A++[⟨s.f,c.t,s.v⟩])).length=A.length+1:=by rw [H8]; simp
   rw [Fj hne] at hrow
   rw [Eq hne,hxl] at h3
   have hkc1:=hrow.1
   have hn':=hn
   simp -implicitDefEqProofs only [Fs,Fj hne,AP,List.map_append,List.map_cons,List.map_nil,List.cons_append,List.nil_append] at hn'
   obtain ⟨x1,x2,x3,x4,x5⟩:¬c1=b3∧¬c1=bm∧¬c1=bd∧¬c1=b1∧¬c1=b2:=by
    have:=(List.nodup_cons.1 hn').1
    simp -implicitDefEqProofs only [List.mem_cons,List.not_mem_nil,or_false,not_or] at this
    exact this
   have x1':¬b3=c1:=fun e=>x1 e.symm
   have x5':¬b2=c1:=fun e=>x5 e.symm
   have y23:¬b2=b3:=by
    have:=(List.nodup_cons.1 (List.nodup_cons.1 hn').2).1
    simp -implicitDefEqProofs only [List.mem_cons,List.not_mem_nil,or_false,not_or] at this
    exact fun e=>this.2.2.2 e.symm
   have y2m:¬b2=bm:=by
    have:=(List.nodup_cons.1 (List.nodup_cons.1 (List.nodup_cons.1 hn').2).2).1
    simp -implicitDefEqProofs only [List.mem_cons,List.not_mem_nil,or_false,not_or] at this
    exact fun e=>this.2.2 e.symm
   have w2:IntKind.i64.wrap (((A.length+1:Nat):Int)-1)=(A.length:Int):=by rw [IntKind.wrap_i64]; omega
   have hat:=NK (S:=A++[s]) (i:=A.length) (s:=s) (by simp)
   have hset:=OJ (A:=A) (s:=s) (x:=c.t)
   have hres:Lz (FZ (FY c) (c.f::bs) R.length) c.t=A++[⟨s.f,c.t,s.v⟩]:=by
    rw [e1,Lz]
    simp -implicitDefEqProofs only [List.getLast?_append,List.getLast?_singleton,Option.some_or,List.dropLast_concat]
   rw [hres]
   simp -implicitDefEqProofs -proj only [go_sem,seval,GR,Hw,IB,e1,hH,h3,h1,hxl,w2,decide_eq_true (show (0:Int)<((A.length+1:Nat):Int) by omega),decide_eq_false (show ¬(R.length:Int)<R.length by omega)]
   refine Aq ⟨by omega,by omega⟩ (fun _=>?_)
   rw [Int.toNat_natCast]
   refine IS (cap:=cap) hkc1 hat (by simp) ?_
   simp -implicitDefEqProofs -proj only [go_sem,seval,Fe,hset,x1,x1',x5,x5',h3,h2]
   refine MH ?_ ?_
   ·exact JF ((EH y2m).trans ((EH x2).trans hm3)) (by rw [GB])
   ·exact JF ((EH x5').trans Ad) (by rw [hxl1])
structure mostC (c:CoreX):Prop where
 parts:∀(i:Nat) (h:i<c.ps.length),∀q:Nat,q<(Fp c.ms c.ps[i].me+1).toNat→IU c.ps[i] q
 tot:∀i,i≤c.ps.length→Fk c i≤1152921504606846976
noncomputable instance (c:CoreX):Decidable (mostC c):=Classical.propDecidable _
theorem AAl {c:CoreX}:fitsC c↔¬It c∧goodC c∧mostC c :=
 ⟨fun h=>⟨h.great,h.good,fun i hi=>h.parts _ (List.getElem_mem hi),h.tot⟩,fun ⟨h1,h2,h3⟩=>⟨h1,h2,fun x hx=>by
  obtain ⟨i,hi,rfl⟩:=List.getElem_of_mem hx
  exact h3.parts i hi,h3.tot⟩⟩
theorem WP {c:CoreX} {j:Nat} (h:j<c.ps.length):Fk c (j+1)=Fk c j+GS c.ps[j] (Fp c.ms c.ps[j].me+1).toNat:=by
 unfold Fk
 rw [sg]
 have:HH c j=GS c.ps[j] (Fp c.ms c.ps[j].me+1).toNat:=by unfold HH; rw [List.getElem?_eq_getElem h]
 omega
theorem AFA {c:CoreX} (hc:c.Fit) (hg:goodC c):∃n,DataW Try.prog UM [Gm c] (.tup [i64 n,bv (decide (mostC c))]):=by
 refine ⟨if mostC c then Fk c c.ps.length else 0,?_⟩
 obtain ⟨_,_,_,a6,a7,a8⟩:=hg.hd
 have hps:=hg.ps
 have hfp:=hc.ps
 have hme:=(fitsC.bnd hg).me
 have hmxb:=(fitsC.bnd hg).mx
 have hfin:∀H,¬mostC c→LendV H (.tup [i64 0,bv false]) (.tup [i64 (if mostC c then Fk c c.ps.length else 0),bv (decide (mostC c))]):=fun H h=>AJ (by rw [if_neg h,decide_eq_false h])
 have hyes:∀H,mostC c→LendV H (.tup [i64 (Fk c c.ps.length),bv true]) (.tup [i64 (if mostC c then Fk c c.ps.length else 0),bv (decide (mostC c))]):=fun H h=>AJ (by rw [if_pos h,decide_eq_true h])
 generalize hR:AV.tup [i64 (if mostC c then Fk c c.ps.length else 0),bv (decide (mostC c))]=R at *
 clear hR
 refine Am AGP (by simp) ?_
 simp -implicitDefEqProofs -proj only [go_sem,seval]
 refine AN (fun b1 hb1=>?_)
 simp -implicitDefEqProofs -proj only [go_sem,seval,Gl]
 have hamt:∀i:Nat,i≤c.ss.length→0≤sg (F3 c.ss) i∧sg (F3 c.ss) i≤1000000000000*i:=by
  intro i
  induction i with
  | zero=>intro _; exact ⟨Int.le_refl _,Int.le_refl _⟩
  | succ n ih =>
   intro hn
   have:=ih (by omega)
   have h1:=(fitsC.bnd hg).amt _ (List.getElem_mem (show n<c.ss.length by omega))
   rw [sg]
   have:F3 c.ss n=c.ss[n].a:=by unfold F3; rw [List.getElem?_eq_getElem (by omega)]
   omega
 refine EN (fun i:Nat=>i≤c.ss.length) 71 (fun i=>[(1,.ptr b1 0),(4,i64 (sg (F3 c.ss) i)),(14,.d (.sl 3 (Fc c.ss))),(15,i64 c.ss.length),(16,i64 i)]) (fun _=>[(b1,Ea c)]) (fun i=>c.ss.length-i) 0 (Nat.zero_le _) rfl ?_ ?_ ?_
 ·simp -implicitDefEqProofs -proj only [go_sem,seval,AK,Gl,sg]
 ·exact ⟨Ad,trivial⟩
 ·intro i hi
  have hk:AR (Ak [(b1,Ea c)]) [(b1,Ea c)]:=EZ (by simp [AP])
  have k1:=hk.1
  by_cases h:i<c.ss.length
  ·have hel:=Lh h
   have hA:=hamt i hi
   have hA2:=hamt (i+1) (by omega)
   have hst:sg (F3 c.ss) (i+1)=sg (F3 c.ss) i+c.ss[i].a:=by rw [sg]; unfold F3; rw [List.getElem?_eq_getElem h]
   generalize c.ss[i]=s at *
   have w:IntKind.i64.wrap (sg (F3 c.ss) i+s.a)=sg (F3 c.ss) (i+1):=by rw [IntKind.wrap_i64]; omega
   simp -implicitDefEqProofs -proj only [go_sem,seval,decide_eq_true (show (i:Int)<c.ss.length by omega)]
   refine EG _ (by omega) hel ?_
   simp -implicitDefEqProofs -proj only [go_sem,seval]
   refine AN (fun b6 hb6=>?_)
   simp -implicitDefEqProofs -proj only [go_sem,seval,w]
   refine AX (i+1) (by omega) (by show c.ss.length-(i+1)<c.ss.length-i; omega) rfl ?_ (Ar hb6 hk)
   simp -implicitDefEqProofs -proj only [go_sem,seval,AK,Ab (show i<9223372036854775807 by omega)]
  ·have hi':i=c.ss.length:=by omega
   subst hi'
   have hA:=hamt c.ss.length (Nat.le_refl _)
   simp -implicitDefEqProofs -proj only [go_sem,seval,k1,decide_eq_false (show ¬(c.ss.length:Int)<c.ss.length by omega),GY]
   refine EN (fun j:Nat=>j≤c.ps.length∧(∀(i:Nat) (h:i<c.ps.length),i<j→∀q:Nat,q<(Fp c.ms c.ps[i].me+1).toNat→IU c.ps[i] q)∧∀i,i≤j→Fk c i≤1152921504606846976) 71 (fun j=>[(1,.ptr b1 0),(4,i64 (Fk c j)),(26,.d (.sl 9 (FQ c.ps))),(27,i64 c.ps.length),(28,i64 j)]) (fun _=>[(b1,Ea c)]) (fun j=>c.ps.length-j) 0 ⟨Nat.zero_le _,fun i _ h=>absurd h (Nat.not_lt_zero _),fun i hi=>?_⟩ rfl ?_ ?_ ?_
   ·have:i=0:=by omega
    subst this
    simp -implicitDefEqProofs only [Fk,sg]; omega
   ·simp -implicitDefEqProofs -proj only [go_sem,seval,AK,Fk,sg,Int.add_zero,GY]
   ·exact hk
   ·rintro j ⟨hj,hs1,hs2⟩
    by_cases h:j<c.ps.length
    ·have helj:=K4 h
     have hx:=List.getElem_mem h
     have hok:=hps _ hx
     have hfx:=hfp _ hx
     obtain ⟨m0,m1⟩:=hme _ hx
     have hno1:∀q:Nat,q<(Fp c.ms c.ps[j].me+1).toNat→¬IU c.ps[j] q→¬mostC c:=fun q hq hn k=>hn (k.parts j h q hq)
     have hno2:¬Fk c (j+1)≤1152921504606846976→¬mostC c:=fun hn k=>hn (k.tot (j+1) (by omega))
     have hgo1:(∀q:Nat,q<(Fp c.ms c.ps[j].me+1).toNat→IU c.ps[j] q)→∀(i:Nat) (h:i<c.ps.length),i<j+1→∀q:Nat,q<(Fp c.ms c.ps[i].me+1).toNat→IU c.ps[i] q:=by
      intro e i hi hij
      by_cases hij2:i=j
      ·subst hij2; exact e
      ·exact hs1 i hi (by omega)
     have hb:=WP (c:=c) h
     have hT0:=hs2 j (Nat.le_refl _)
     have hT1:0≤Fk c j:=by
      have:=hamt c.ss.length (Nat.le_refl _)
      have:=Jy (n:=j) fun i _=>Lx (c:=c) i
      unfold Fk; omega
     have hmxn:=hmxb c.ps[j].me.toNat (by omega)
     have hmx:Fp c.ms c.ps[j].me=c.ms[c.ps[j].me.toNat].mx:=by unfold Fp; rw [List.getElem?_eq_getElem (by omega)]
     have helm:=Hf (show c.ps[j].me.toNat<c.ms.length by omega)
     rw [Int.toNat_natCast] at helm
     rw [←hmx] at hmxn
     generalize c.ms[c.ps[j].me.toNat]=mm at *
     generalize c.ps[j]=x at *
     rw [hmx] at hno1 hgo1 hb hmxn
     have G:=Q7 hok
     have hcall:=fun (q:Int) (hq:Fit q)=>NF (q:=q) hfx hq G (M2 G.ts)
     simp -implicitDefEqProofs -proj only [go_sem,seval,decide_eq_true (show (j:Int)<c.ps.length by omega)]
     refine EG _ (by omega) helj ?_
     simp -implicitDefEqProofs -proj only [go_sem,seval]
     refine AN (fun b8 hb8=>?_)
     replace hb8:Ak [(b1,Ea c)] b8=none:=hb8
     obtain ⟨n1,n2⟩:=Ac hb8 k1
     simp -implicitDefEqProofs -proj only [go_sem,seval]
     refine EN (fun k:Nat=>k≤(mm.mx+1).toNat∧0≤GS x k∧GS x k≤1152921504606846976∧∀q:Nat,q<k→IU x q) 71 (fun k=>[(1,.ptr b1 0),(4,i64 (Fk c j)),(26,.d (.sl 9 (FQ c.ps))),(27,i64 c.ps.length),(28,i64 j),(8,.ptr b8 0),(9,i64 (GS x k)),(10,i64 k)]) (fun _=>[(b8,Blk.box 93 [i64 x.me,i64 x.f,i64 x.t,i64 x.al,i64 x.bl,i64 x.ki,E9 x.ts,i64 x.mo,E4 x.ad]),(b1,Ea c)]) (fun k=>(mm.mx+1).toNat-k) 0 ⟨Nat.zero_le _,Int.le_refl _,(by show (0:Int)≤1152921504606846976; decide),fun q h=>absurd h (Nat.not_lt_zero _)⟩ rfl ?_ ?_ ?_
     ·simp -implicitDefEqProofs -proj only [go_sem,seval,AK,GS]
     ·exact ⟨Ad,(EH n1).trans k1,trivial⟩
     ·rintro k ⟨hk',hb0,hb1,hq⟩
      have hkk:AR (Ak [(b8,Blk.box 93 [i64 x.me,i64 x.f,i64 x.t,i64 x.al,i64 x.bl,i64 x.ki,E9 x.ts,i64 x.mo,E4 x.ad]),(b1,Ea c)]) [(b8,Blk.box 93 [i64 x.me,i64 x.f,i64 x.t,i64 x.al,i64 x.bl,i64 x.ki,E9 x.ts,i64 x.mo,E4 x.ad]),(b1,Ea c)]:=EZ (by simp [AP,n1])
      obtain ⟨k8,kb1,_⟩:=id hkk
      simp -implicitDefEqProofs -proj only [go_sem,seval,k8,kb1,n1,n2]
      refine EG _ m0 helm ?_
      by_cases h2:(k:Int)≤mm.mx
      ·have hck:=hcall k (by unfold Fit; omega)
       have hbs:GS x (k+1)=max (GS x k) (pv x k):=rfl
       simp -implicitDefEqProofs -proj only [go_sem,seval,k8,kb1,n1,n2,decide_eq_true h2]
       refine AH hck ?_
       cases e:Ja x (k:Int) with
       | none =>
        have hn:¬mostC c:=hno1 k (by omega) (fun ⟨n,h,_⟩=>by rw [e] at h; cases h)
        simp -implicitDefEqProofs -proj only [go_sem,seval,Ep,Bool.not_false]
        exact hfin _ hn
       | some n =>
        have hpv:pv x k=n:=by unfold pv; rw [e]; rfl
        by_cases c1:1152921504606846976<n
        ·have hn:¬mostC c:=hno1 k (by omega) (fun ⟨n',h,_,h3⟩=>by rw [e] at h; cases h; omega)
         simp -implicitDefEqProofs -proj only [go_sem,seval,Ep,Bool.not_true,decide_eq_true c1]
         exact hfin _ hn
        by_cases c2:n<0
        ·have hn:¬mostC c:=hno1 k (by omega) (fun ⟨n',h,h2,_⟩=>by rw [e] at h; cases h; omega)
         simp -implicitDefEqProofs -proj only [go_sem,seval,Ep,Bool.not_true,decide_eq_false c1,decide_eq_true c2]
         exact hfin _ hn
        rw [hpv] at hbs
        simp -implicitDefEqProofs -proj only [go_sem,seval,Ep,Bool.not_true,decide_eq_false c1,decide_eq_false c2]
        refine AX (k+1) ⟨by omega,by rw [hbs]; omega,by rw [hbs]; omega,fun q hq2=>?_⟩ (by show (mm.mx+1).toNat-(k+1)<(mm.mx+1).toNat-k; omega) rfl ?_ hkk
        ·by_cases e2:q=k
         ·subst e2; exact ⟨n,e,by omega,by omega⟩
         ·exact hq q (by omega)
        ·simp -implicitDefEqProofs -proj only [go_sem,seval,AK,hbs,Ab (show k<9223372036854775807 by omega)]
      ·have hk2:k=(mm.mx+1).toNat:=by omega
       subst hk2
       have w:IntKind.i64.wrap (Fk c j+GS x (mm.mx+1).toNat)=Fk c (j+1):=by rw [IntKind.wrap_i64]; omega
       simp -implicitDefEqProofs -proj only [go_sem,seval,decide_eq_false h2,w]
       by_cases c1:1152921504606846976<Fk c (j+1)
       ·simp -implicitDefEqProofs -proj only [go_sem,seval,decide_eq_true c1]
        exact hfin _ (hno2 (by omega))
       ·simp -implicitDefEqProofs -proj only [go_sem,seval,decide_eq_false c1]
        refine AX (j+1) ⟨by omega,hgo1 hq,fun i hi=>?_⟩ (by show c.ps.length-(j+1)<c.ps.length-j; omega) rfl ?_ ⟨kb1,trivial⟩
        ·by_cases e2:i=j+1
         ·subst e2; omega
         ·exact hs2 i (by omega)
        ·simp -implicitDefEqProofs -proj only [go_sem,seval,AK,Ab (show j<9223372036854775807 by omega)]
    ·have hj':j=c.ps.length:=by omega
     subst hj'
     have hm:mostC c:=⟨fun i hi=>hs1 i hi hi,hs2⟩
     have:=hs2 c.ps.length (Nat.le_refl _)
     simp -implicitDefEqProofs -proj only [go_sem,seval,decide_eq_false (show ¬(c.ps.length:Int)<c.ps.length by omega),decide_eq_true this]
     exact hyes _ hm
theorem Lj {c:CoreX} (hc:c.Fit):DataW Try.prog SX [Gm c] (bv (decide (fitsC c))):=by
 have hgd:=ABC hc
 have hiff:=AAl (c:=c)
 have hmo:=fun h=>AFA hc (c:=c) h
 refine Am T1 (by simp) ?_
 simp -implicitDefEqProofs -proj only [go_sem,seval]
 refine AN (fun b1 hb1=>?_)
 simp -implicitDefEqProofs -proj only [go_sem,seval]
 refine AH Zw ?_
 by_cases g1:It c
 ·simp -implicitDefEqProofs -proj only [go_sem,seval,decide_eq_true g1]
  exact AJ (by rw [decide_eq_false (fun k=>(hiff.1 k).1 g1)])
 simp -implicitDefEqProofs -proj only [go_sem,seval,decide_eq_false g1]
 refine AH hgd ?_
 by_cases g2:goodC c
 rotate_left
 ·simp -implicitDefEqProofs -proj only [go_sem,seval,decide_eq_false g2,Bool.not_false]
  exact AJ (by rw [decide_eq_false (fun k=>g2 (hiff.1 k).2.1)])
 obtain ⟨n,hmo⟩:=hmo g2
 simp -implicitDefEqProofs -proj only [go_sem,seval,decide_eq_true g2,Bool.not_true]
 refine AH hmo ?_
 simp -implicitDefEqProofs -proj only [go_sem,seval]
 exact AJ (by rw [decide_eq_decide.2 (hiff.trans ⟨fun h=>h.2.2,fun h=>⟨g1,g2,h⟩⟩)])
theorem ABJ {a b:CoreX} (ha:a.Fit) (hb:b.Fit) (ga:fitsC a) (gb:fitsC b):DataW Try.prog Pw [Gm a,Gm b] (.tup [Gf a.cur a.f a.t a.ms (Ip a),Gf b.cur b.f b.t b.ms (Ip b),bv true]):=by
 have fa:=Lj ha
 have fb:=Lj hb
 have ma:=Oa ha ga
 have mb:=Oa hb gb
 rw [decide_eq_true ga] at fa
 rw [decide_eq_true gb] at fb
 refine Am QY (by simp) ?_
 simp -implicitDefEqProofs -proj only [go_sem,seval]
 refine AN (fun b1 hb1=>?_)
 simp -implicitDefEqProofs -proj only [go_sem,seval]
 refine AN (fun b2 hb2=>?_)
 replace hb2:upd Heap.none b1 _ b2=none:=hb2
 obtain ⟨n1,n2⟩:=Ac hb2 Ad
 simp -implicitDefEqProofs -proj only [go_sem,seval,n1,n2]
 refine AN (fun b3 hb3=>?_)
 have h31:¬b3=b1:=by rintro rfl; simp [AL,n1,n2] at hb3
 have h32:¬b3=b2:=by rintro rfl; simp [AL,n1,n2] at hb3
 have h13:¬b1=b3:=fun e=>h31 e.symm
 have h23:¬b2=b3:=fun e=>h32 e.symm
 simp -implicitDefEqProofs -proj only [go_sem,seval,n1,n2,h31,h32,h13,h23]
 refine AN (fun b4 hb4=>?_)
 have h41:¬b4=b1:=by rintro rfl; simp [AL,n1,n2,h31,h32] at hb4
 have h42:¬b4=b2:=by rintro rfl; simp [AL,n1,n2,h31,h32] at hb4
 have h43:¬b4=b3:=by rintro rfl; simp [AL] at hb4
 have h14:¬b1=b4:=fun e=>h41 e.symm
 have h24:¬b2=b4:=fun e=>h42 e.symm
 have h34:¬b3=b4:=fun e=>h43 e.symm
 simp -implicitDefEqProofs -proj only [go_sem,seval,n1,n2,h31,h32,h13,h23,h41,h42,h43,h14,h24,h34]
 refine AH fa ?_
 simp -implicitDefEqProofs -proj only [go_sem,seval,n1,n2,h31,h32,h13,h23,h41,h42,h43,h14,h24,h34]
 refine AH fb ?_
 simp -implicitDefEqProofs -proj only [go_sem,seval,n1,n2,h31,h32,h13,h23,h41,h42,h43,h14,h24,h34]
 refine Ew ma ?_
 simp -implicitDefEqProofs -proj only [go_sem,seval,n1,n2,h31,h32,h13,h23,h41,h42,h43,h14,h24,h34]
 refine AH mb ?_
 simp -implicitDefEqProofs -proj only [go_sem,seval,n1,n2,h31,h32,h13,h23,h41,h42,h43,h14,h24,h34]
 exact AJ rfl
abbrev KY (m:MeterX):AV:=.agg [.d (.str m.nm),.d (.str m.un),i64 m.mx,i64 m.ln,i64 m.co]
abbrev Gt (m:MeterX):Blk:=.box 39 [.d (.str m.nm),.d (.str m.un),i64 m.mx,i64 m.ln,i64 m.co]
theorem P3 {H:Heap} {b:Nat} {x:Blk} {l:List MeterX} {f:FuncId} {p:MeterX→Bool} (hb:H b=some x) (hf:∀m∈l,∀H:Heap,H b=some x→CallW Try.prog f [KY m,.ptr b 0] H fun r H'=>r=bv (p m)∧H' b=some x) (hl:l.length≤1000000):CallW Try.prog W0 [.d (.sl 5 (AS l)),.fn f [.ptr b 0]] H fun r H'=>r=i64 (HB p l)∧H' b=some x:=by
 refine Am ACp (by simp) ?_
 simp -implicitDefEqProofs -proj only [go_sem,seval,GB]
 refine EN (fun i:Nat=>i≤l.length∧∀(j:Nat) (h:j<l.length),j<i→p l[j]=false) 19 (fun i=>[(0,.d (.sl 5 (AS l))),(1,.fn f [.ptr b 0]),(7,i64 l.length),(8,i64 i)]) (fun _=>[(b,x)]) (fun i=>l.length-i) 0 ⟨Nat.zero_le _,fun j _ h=>absurd h (Nat.not_lt_zero _)⟩ rfl ?_ ?_ ?_
 ·simp -implicitDefEqProofs -proj only [go_sem,seval,AK]
 ·exact ⟨hb,trivial⟩
 ·rintro i ⟨hi,hs⟩
  have hk:AR (Ak [(b,x)]) [(b,x)]:=EZ (by simp [AP])
  by_cases h:i<l.length
  ·have hel:=Hf h
   have hpi:=hf _ (List.getElem_mem h)
   have hgo:p l[i]=false→∀(j:Nat) (h:j<l.length),j<i+1→p l[j]=false:=KS (P:=fun _ x=>p x=false) (List.getElem?_eq_getElem h) hs
   have hyes:p l[i]=true→HB p l=i:=fun e=>AAV h e hs
   generalize l[i]=m at *
   simp -implicitDefEqProofs -proj only [go_sem,seval,decide_eq_true (show (i:Int)<l.length by omega)]
   refine EG _ (by omega) hel ?_
   simp -implicitDefEqProofs -proj only [go_sem,seval]
   refine Fy (hpi _ hk.1) (fun r H' hr=>?_)
   obtain ⟨rfl,hr⟩:=hr
   cases hpx:p m
   ·simp -implicitDefEqProofs -proj only [go_sem,seval]
    refine AX (i+1) ⟨by omega,hgo hpx⟩ (by show l.length-(i+1)<l.length-i; omega) rfl ?_ ⟨hr,trivial⟩
    simp -implicitDefEqProofs -proj only [go_sem,seval,AK,Ab (show i<9223372036854775807 by omega)]
   ·simp -implicitDefEqProofs -proj only [go_sem,seval]
    rw [hyes hpx]
    try first | exact ⟨rfl,hr⟩ | exact rfl | rfl
  ·have hi':i=l.length:=by omega
   subst hi'
   simp -implicitDefEqProofs -proj only [go_sem,seval,decide_eq_false (show ¬(l.length:Int)<l.length by omega)]
   rw [U8 fun j h=>hs j h h]
   try first | exact ⟨rfl,hk.1⟩ | exact rfl
theorem Qn {H:Heap} {b:Nat} {x:Blk} {l:List MeterX} {f:FuncId} {p:MeterX→Bool} (hb:H b=some x) (hf:∀m∈l,∀H:Heap,H b=some x→CallW Try.prog f [KY m,.ptr b 0] H fun r H'=>r=bv (p m)∧H' b=some x) (hl:l.length≤1000000):CallW Try.prog AJx [.d (.sl 5 (AS l)),.fn f [.ptr b 0]] H fun r H'=>r=bv (l.any p)∧H' b=some x:=by
 refine Am AE6 (by simp) ?_
 simp -implicitDefEqProofs -proj only [go_sem,seval]
 refine Fy (P3 hb hf hl) (fun r H' hr=>?_)
 obtain ⟨rfl,hr⟩:=hr
 simp -implicitDefEqProofs -proj only [go_sem,seval]
 rw [AKV]
 try first | exact ⟨rfl,hr⟩ | exact rfl
def IR (m o:MeterX):Bool:=(o.nm.toList == m.nm.toList)&&(!(o.un.toList == m.un.toList)||!decide (o.mx=m.mx))
theorem AKo {H:Heap} {b:Nat} {m o:MeterX} (hb:H b=some (Gt m)):CallW Try.prog Q6 [KY o,.ptr b 0] H fun r H'=>r=bv (IR m o)∧H' b=some (Gt m):=by
 refine Am Wt (by simp) ?_
 simp -implicitDefEqProofs -proj only [go_sem,seval]
 refine AN (fun b2 hb2=>?_)
 replace hb2:H b2=none:=hb2
 obtain ⟨n1,n2⟩:=Ac hb2 hb
 cases c1:o.nm.toList == m.nm.toList
 ·simp -implicitDefEqProofs -proj only [go_sem,seval,n1,n2,hb,Ig,c1]
  simp [IR,c1]
 cases c2:o.un.toList == m.un.toList
 ·simp -implicitDefEqProofs -proj only [go_sem,seval,n1,n2,hb,Ig,JP,c1,c2]
  simp [IR,c1,c2]
 ·simp -implicitDefEqProofs -proj only [go_sem,seval,n1,n2,hb,Ig,JP,c1,c2]
  simp [IR,c1,c2]
abbrev FK (cur:ByteArray) (f t:Int) (ms:List MeterX) (S:List (Seg EM)):Blk:=.box 30 [.d (.str cur),i64 f,i64 t,.d (.sl 5 (AS ms)),Ls S]
theorem Zf {H:Heap} {b:Nat} {m:MeterX} {cu:ByteArray} {f t:Int} {B:List MeterX} {S:List (Seg EM)} (hB:B.length≤1000000) (hb:H b=some (FK cu f t B S)):CallW Try.prog Og [KY m,.ptr b 0] H fun r H'=>r=bv (B.any (IR m))∧H' b=some (FK cu f t B S):=by
 refine Am AGH (by simp) ?_
 simp -implicitDefEqProofs -proj only [go_sem,seval]
 refine AN (fun b2 hb2=>?_)
 replace hb2:H b2=none:=hb2
 obtain ⟨n1,n2⟩:=Ac hb2 hb
 simp -implicitDefEqProofs -proj only [go_sem,seval,n1,n2,hb]
 have q2:(upd H b2 (some (Gt m))) b2=some (Gt m):=Ad
 have q1:(upd H b2 (some (Gt m))) b=some (FK cu f t B S):=(EH n1).trans hb
 refine Fy (G6 (Qn (H:=Ak [(b2,Gt m)]) (x:=Gt m) (b:=b2) (p:=IR m) (l:=B) (f:=Q6) (EZ (l:=[(_,_)]) (by simp [AP])).1 (fun o _ H h=>AKo h) hB) (KW q2)) (fun r H' hk=>?_)
 obtain ⟨H1,⟨rfl,h1⟩,hsub,hkp⟩:=hk
 have:=hkp b _ q1 (by simp -implicitDefEqProofs -proj only [go_sem,seval,n1,n2])
 simp -implicitDefEqProofs -proj only [go_sem,seval,n1,n2]
 exact this
def JW (cu cu':ByteArray) (f t f' t':Int) (A B:List MeterX):Bool:=(cu.toList == cu'.toList)&&(decide (f=f')&&(decide (t=t')&&!(A.any fun m=>B.any (IR m))))
theorem Rq {cu cu':ByteArray} {f t f' t':Int} {A B:List MeterX} {S S':List (Seg EM)} (hA:A.length≤1000000) (hB:B.length≤1000000):DataW Try.prog WF [Gf cu f t A S,Gf cu' f' t' B S'] (bv (JW cu cu' f t f' t' A B)):=by
 refine Am Z6 (by simp) ?_
 simp -implicitDefEqProofs -proj only [go_sem,seval]
 refine AN (fun b2 hb2=>?_)
 simp -implicitDefEqProofs -proj only [go_sem,seval]
 refine AN (fun b3 hb3=>?_)
 replace hb3:upd Heap.none b2 _ b3=none:=hb3
 obtain ⟨n1,n2⟩:=Ac hb3 Ad
 cases c1:cu.toList == cu'.toList
 ·simp -implicitDefEqProofs -proj only [go_sem,seval,n1,n2,JP,c1]
  exact AJ (by simp [JW,c1])
 by_cases c2:f=f'
 rotate_left
 ·simp -implicitDefEqProofs -proj only [go_sem,seval,n1,n2,JP,c1,decide_eq_false c2]
  exact AJ (by simp [JW,c2])
 by_cases c3:t=t'
 rotate_left
 ·simp -implicitDefEqProofs -proj only [go_sem,seval,n1,n2,JP,c1,decide_eq_true c2,decide_eq_false c3]
  exact AJ (by simp [JW,c3])
 simp -implicitDefEqProofs -proj only [go_sem,seval,n1,n2,JP,c1,decide_eq_true c2,decide_eq_true c3]
 refine Fy (G6 (Qn (H:=Ak [(b3,FK cu' f' t' B S')]) (x:=FK cu' f' t' B S') (b:=b3) (p:=fun m=>B.any (IR m)) (l:=A) (f:=Og) (EZ (l:=[(_,_)]) (by simp [AP])).1 (fun o _ H h=>Zf hB h) hA) (KW (by simp -implicitDefEqProofs -proj only [go_sem,seval]))) (fun r H' hk=>?_)
 obtain ⟨H1,⟨rfl,h1⟩,hsub,hkp⟩:=hk
 simp -implicitDefEqProofs -proj only [go_sem,seval,n1,n2]
 exact AJ (by simp [JW,c1,c2,c3])
def LineX (H:Heap) (x:AV) (R:List Run):Prop:=(∃sz,x = .nilsl sz∧R=[])∨∃c cap cap' t,x = .own c 3 0 R.length cap∧H c=some (.row t 3 cap' (Ex R))
theorem LineX.mono {H H':Heap} {x:AV} {R:List Run} (h:LineX H x R) (hs:∀k y,H k=some y→H' k=some y):LineX H' x R:=by
 rcases h with h | ⟨c,cap,cap',t,h1,h2⟩
 ·exact .inl h
 ·exact .inr ⟨c,cap,cap',t,h1,hs c _ h2⟩
theorem LineX.lend {H:Heap} {x:AV} {R:List Run} (h:LineX H x R):LendV H (.agg [x]) (Jl R):=by
 refine .aggL (Hs ?_ K3)
 rcases h with ⟨sz,rfl,rfl⟩ | ⟨c,cap,cap',t,rfl,h2⟩
 ·exact .nilsl _ _
 ·rw [←rowR_len]
  exact .own _ _ _ _ _ _ h2
theorem N7 {n:Nat} {v:Int} (h0:0<n) (h1:n≤2001) (hv:Gi v):E2 (List.replicate n v) :=
 ⟨fun e=>by have:=congrArg List.length e; rw [List.length_replicate] at this; simp at this; omega,by rw [List.length_replicate]; exact h1,fun x hx=>by rw [(List.mem_replicate.1 hx).2]; exact hv⟩
theorem VF {n:Nat} {v:Int} (h:0<n):EY 0 (List.replicate n v)=[(⟨0,(n:Int)-1,v⟩:Run)]:=by
 have e:[(⟨0,(n:Int)-1,v⟩:Run)]=EY 0 (List.replicate n v):=by
  refine AGy (val:=fun _=>v) ⟨rfl,by show (0:Int)≤(n:Int)-1; omega,fun _ _ _=>rfl,fun s hs=>by simp at hs,?_⟩ (fun i hi=>by simp)
  show (n:Int)-1+1=0+((List.replicate n v).length:Int)
  rw [List.length_replicate]; omega
 exact e.symm
theorem AGv {n:Nat} {v:Int} (h0:0<n):NewW Try.prog ABT [i64 0,i64 ((n:Int)-1),i64 v] (Jl (EY 0 (List.replicate n v))):=by
 rw [VF h0]
 generalize hm:(n:Int)-1=m
 refine Am Sz (by simp) ?_
 simp -implicitDefEqProofs -proj only [go_sem,seval,decide_eq_false (show ¬m<0 by omega)]
 refine AN (fun b6 hb6=>?_)
 simp -implicitDefEqProofs -proj only [go_sem,seval,decide_eq_false (show ¬m<0 by omega)]
 refine EJ (fun bs hs=>?_)
 replace hs:upd Heap.none b6 _ bs=none:=hs
 obtain ⟨n1,n2⟩:=Ac hs Ad
 simp -implicitDefEqProofs -proj only [go_sem,seval,n1,n2]
 refine UK ?_
 exact .own _ _ _ _ _ [[.int .i64 0,.int .i64 m,.int .i64 v]] (by simp -implicitDefEqProofs -proj only [go_sem,seval,n1,n2]; rfl) (by intro el he d hd; simp -implicitDefEqProofs only [List.mem_singleton] at he; subst he; simp -implicitDefEqProofs only [List.mem_cons,List.not_mem_nil,or_false] at hd; rcases hd with rfl | rfl | rfl <;> rfl)
theorem Yh {n:Nat} {v:Int} (h0:0<n) (h1:n≤2001) (hv:Gi v):DataW Try.prog AEG [i64 ((n:Int)-1),i64 v] (.tup [Kz (List.replicate n v),bv true]):=by
 have h:=AFZ (l:=List.replicate n v) (by rw [List.length_replicate]; omega)
 rw [if_pos (N7 h0 h1 hv)] at h
 have hl:=AGv (v:=v) h0
 generalize EY 0 (List.replicate n v)=R at *
 refine Am ABh (by simp) ?_
 simp -implicitDefEqProofs -proj only [go_sem,seval]
 refine AN (fun b4 hb4=>?_)
 simp -implicitDefEqProofs -proj only [go_sem,seval]
 refine AH hl.data ?_
 simp -implicitDefEqProofs -proj only [go_sem,seval]
 refine AH h.data ?_
 simp -implicitDefEqProofs -proj only [go_sem,seval]
 exact AJ rfl
theorem AIe {a b:List (List Int)} (ha:∀l∈a,E2 l) (hb:∀l∈b,E2 l) (hla:a.length≤1000000) (hlb:b.length≤1000000):DataW Try.prog AJS [FE a,FE b,.fn NA []] (bv (decide (a=b))):=by
 refine Am ADv (by simp) ?_
 by_cases hl:a.length=b.length
 rotate_left
 ·simp -implicitDefEqProofs -proj only [go_sem,seval,GG,decide_eq_false (show ¬(a.length:Int)=b.length by omega)]
  exact AJ (by rw [decide_eq_false (fun e=>hl (by rw [e]))])
 simp -implicitDefEqProofs -proj only [go_sem,seval,GG,decide_eq_true (show (a.length:Int)=b.length by omega)]
 refine EN (fun i:Nat=>i≤a.length∧∀(j:Nat) (h:j<a.length) (h2:j<b.length),j<i→a[j]=b[j]) 32 (fun i=>[(0,FE a),(1,FE b),(2,.fn NA []),(15,FE a),(16,i64 a.length),(17,i64 i)]) (fun _=>[]) (fun i=>a.length-i) 0 ⟨Nat.zero_le _,fun j _ _ h=>absurd h (Nat.not_lt_zero _)⟩ rfl ?_ ?_ ?_
 ·simp -implicitDefEqProofs -proj only [go_sem,seval,AK]
  try simp [hl]
 ·simp -implicitDefEqProofs -proj only [go_sem,seval,AR]
 ·rintro i ⟨hi,hat⟩
  by_cases h:i<a.length
  ·have h':i<b.length:=by omega
   have e1:=Kk h
   have e2:=Kk h'
   have ca:=ha _ (List.getElem_mem h)
   have cb:=hb _ (List.getElem_mem h')
   have hst:=fun (e:a[i]=b[i])=>KS (l:=List.range a.length) (P:=fun j _=>∀(h:j<a.length) (h2:j<b.length),a[j]=b[j]) (i:=i) (x:=i) (by simp [h]) (fun j hj hji=>fun h1 h2=>hat j h1 h2 hji) (fun _ _=>e)
   have hne:=fun (e:¬a[i]=b[i])=>show ¬a=b from fun k=>e (by subst k; rfl)
   have hcall:=ACT (m:=(a[i].length:Int)-1) (n:=(b[i].length:Int)-1) (a:=FU a[i]) (b:=FU b[i]) (by have:=@Lp a[i]; have:=ca.2.1; omega) (by have:=@Lp b[i]; have:=cb.2.1; omega)
   rw [show decide ((a[i].length:Int)-1=(b[i].length:Int)-1∧FU a[i]=FU b[i])=decide (a[i]=b[i]) from decide_eq_decide.2 PS] at hcall
   generalize a[i]=x at *
   generalize b[i]=y at *
   simp -implicitDefEqProofs -proj only [go_sem,seval,decide_eq_true (show (i:Int)<a.length by omega)]
   refine EG _ (by omega) e1 ?_
   simp -implicitDefEqProofs -proj only [go_sem,seval]
   refine AN (fun b8 hb8=>?_)
   simp -implicitDefEqProofs -proj only [go_sem,seval]
   refine EG _ (by omega) e2 ?_
   simp -implicitDefEqProofs -proj only [go_sem,seval]
   refine AN (fun b9 hb9=>?_)
   simp -implicitDefEqProofs only [AL] at hb9
   have n1:¬b8=b9:=fun e=>by subst e; simp at hb9
   have n2:¬b9=b8:=fun e=>n1 e.symm
   simp -implicitDefEqProofs -proj only [go_sem,seval,n1,n2]
   refine AH hcall ?_
   by_cases hp:x=y
   ·simp -implicitDefEqProofs -proj only [go_sem,seval,decide_eq_true hp]
    refine AX (i+1) ⟨by omega,fun j h1 h2 hj=>hst hp j (by simpa using h1) (by omega) h1 h2⟩ (by omega) rfl ?_ trivial
    simp -implicitDefEqProofs -proj only [go_sem,seval,AK,Ab (show i<9223372036854775807 by omega)]
   ·simp -implicitDefEqProofs -proj only [go_sem,seval,decide_eq_false hp]
    exact AJ (by rw [decide_eq_false (hne hp)])
  ·have hi':i=a.length:=by omega
   subst hi'
   simp -implicitDefEqProofs -proj only [go_sem,seval,decide_eq_false (show ¬(a.length:Int)<a.length by omega)]
   exact AJ (by rw [decide_eq_true (List.ext_getElem hl fun j h1 h2=>hat j h1 h2 h1)])
theorem PQ {a b:Seg EM} (ha:∀l∈a.v.2,E2 l) (hb:∀l∈b.v.2,E2 l) (hla:a.v.2.length≤1000000) (hlb:b.v.2.length≤1000000):DataW Try.prog AJP [Hx a,Hx b] (bv (decide (a.v=b.v))):=by
 have h1:=AIe ha hb hla hlb
 obtain ⟨f,t,⟨x,la⟩⟩:=a
 obtain ⟨g,u,⟨y,lb⟩⟩:=b
 simp -implicitDefEqProofs only [] at h1 ⊢
 refine Am X7 (by simp) ?_
 simp -implicitDefEqProofs -proj only [go_sem,seval]
 refine AN (fun b2 hb2=>?_)
 simp -implicitDefEqProofs -proj only [go_sem,seval]
 refine AN (fun b3 hb3=>?_)
 replace hb3:upd Heap.none b2 _ b3=none:=hb3
 obtain ⟨n1,n2⟩:=Ac hb3 Ad
 by_cases hxy:x=y
 ·simp -implicitDefEqProofs -proj only [go_sem,seval,n1,n2,decide_eq_true hxy]
  refine AH h1 ?_
  simp -implicitDefEqProofs -proj only [go_sem,seval]
  exact AJ (by rw [decide_eq_decide.2 (show (x,la)=(y,lb)↔la=lb from ⟨fun e=>(Prod.mk.inj e).2,fun e=>by rw [hxy,e]⟩)])
 ·simp -implicitDefEqProofs -proj only [go_sem,seval,n1,n2,decide_eq_false hxy]
  exact AJ (by rw [decide_eq_false (fun e=>hxy (Prod.mk.inj e).1)])
def Jn (m o:MeterX):Bool:=o.nm.toList == m.nm.toList
def Ik (own:List MeterX) (ls:List (List Int)) (m:MeterX):List Int:=match own.findIdx? (Jn m) with
 | some i=>ls.getD i []
 | none=>List.replicate (m.mx+1).toNat 0
def Ei (own:List MeterX) (ls:List (List Int)) (all:List MeterX):List (List Int):=all.map (Ik own ls)
def IC (own all:List MeterX) (v:EM):EM:=(v.1,Ei own v.2 all)
theorem Iu {own all:List MeterX} {ls:List (List Int)}:(Ei own ls all).length=all.length:=List.length_map ..
theorem AF0 {own:List MeterX} {ls:List (List Int)} {m:MeterX} (hn:own.length=ls.length) (hl:∀l∈ls,E2 l) (hm:0≤m.mx∧m.mx≤2000):E2 (Ik own ls m):=by
 unfold Ik
 split
 ·next i hi =>
  obtain ⟨h,_⟩:=List.findIdx?_eq_some_iff_getElem.1 hi
  rw [List.getD_eq_getElem?_getD,List.getElem?_eq_getElem (by omega:i<ls.length)]
  exact hl _ (List.getElem_mem _)
 ·exact N7 (by omega) (by omega) (by decide)
theorem Q0 {own all:List MeterX} {ls:List (List Int)} (hn:own.length=ls.length) (hl:∀l∈ls,E2 l) (hm:∀m∈all,0≤m.mx∧m.mx≤2000):∀l∈Ei own ls all,E2 l:=by
 intro l h
 obtain ⟨m,h1,rfl⟩:=List.mem_map.1 h
 exact AF0 hn hl (hm m h1)
theorem ZH {H:Heap} {b:Nat} {m o:MeterX} (hb:H b=some (Gt m)):CallW Try.prog Nv [KY o,.ptr b 0] H fun r H'=>r=bv (Jn m o)∧H' b=some (Gt m):=by
 refine Am SA (by simp) ?_
 simp -implicitDefEqProofs -proj only [go_sem,seval]
 refine AN (fun b2 hb2=>?_)
 replace hb2:H b2=none:=hb2
 obtain ⟨n1,n2⟩:=Ac hb2 hb
 simp -implicitDefEqProofs -proj only [go_sem,seval,n1,n2,hb,Ig]
 rfl
abbrev JY (s:Seg EM):Blk:=.box 46 [i64 s.f,i64 s.t,i64 s.v.1,FE s.v.2]
abbrev ND:Blk:=.box 46 [i64 0,i64 0,i64 0,.nilsl 2]
def Gr (b3 b6 b7:Nat) (s:Seg EM) (own all:List MeterX) (y:DY):List (Nat×Blk):=EK 58 2 y.c y.cap (EL ((Ei own s.v.2 all).take y.i))++[(b7,.box 46 [i64 s.f,i64 s.t,i64 s.v.1,EU 2 2 y.c y.cap (EL ((Ei own s.v.2 all).take y.i))]),(b3,JY s),(b6,ND)]
theorem P8 {s:Seg EM} {own all:List MeterX} (hn:own.length=s.v.2.length) (hl:∀l∈s.v.2,E2 l) (hm:∀m∈all,0≤m.mx∧m.mx≤2000) (ho:own.length≤100000) (ha:all.length≤100000):DataW Try.prog M1 [Hx s,.d (.sl 5 (AS own)),.d (.sl 5 (AS all))] (Hx ⟨s.f,s.t,IC own all s.v⟩):=by
 refine Am AKD (by simp) ?_
 simp -implicitDefEqProofs -proj only [go_sem,seval]
 refine AN (fun b3 hb3=>?_)
 simp -implicitDefEqProofs -proj only [go_sem,seval]
 refine AN (fun b6 hb6=>?_)
 replace hb6:upd Heap.none b3 _ b6=none:=hb6
 obtain ⟨n1,n2⟩:=Ac hb6 Ad
 simp -implicitDefEqProofs -proj only [go_sem,seval,n1,n2]
 refine AN (fun b7 hb7=>?_)
 replace hb7:upd (upd Heap.none b3 _) b6 _ b7=none:=hb7
 obtain ⟨n3,n4⟩:=Ac hb7 Ad
 obtain ⟨n5,n6⟩:=Ac hb7 (by rw [EH n1]; exact Ad)
 simp -implicitDefEqProofs -proj only [go_sem,seval,n1,n2,n3,n4,n5,n6,GB]
 refine EN (fun y:DY=>y.i≤all.length∧(AP (Gr b3 b6 b7 s own all y)).Nodup) 50 (fun y=>[(1,.d (.sl 5 (AS own))),(3,.ptr b3 0),(6,.ptr b6 0),(7,.ptr b7 0),(20,.d (.sl 5 (AS all))),(21,i64 all.length),(22,i64 y.i)]) (Gr b3 b6 b7 s own all) (fun y=>all.length-y.i) ⟨0,0,0⟩ ⟨Nat.zero_le _,by simp [AP,Gr,EL,EK,n1,n2,n3,n4,n5,n6]⟩ rfl ?_ ?_ ?_
 ·simp -implicitDefEqProofs -proj only [go_sem,seval,AK,Eh,GB]
  try rfl
 ·simp -implicitDefEqProofs only [Gr,Eh,List.take_zero,List.map_nil,EL,EK,EU,List.nil_append]
  refine ⟨Ad,?_,?_,trivial⟩
  ·show upd (upd (upd Heap.none b3 _) b6 _) b7 _ b3=_
   rw [EH n5,EH n1]; exact Ad
  ·show upd (upd (upd Heap.none b3 _) b6 _) b7 _ b6=_
   rw [EH n3]; exact Ad
 ·rintro ⟨i,c1,cap⟩ ⟨hi,hnd⟩
  simp -implicitDefEqProofs only [Eh] at hi
  have hall:=EZ hnd
  obtain ⟨H,hH⟩:∃H,Ak (Gr b3 b6 b7 s own all ⟨i,c1,cap⟩)=H:=⟨_,rfl⟩
  rw [hH] at hall
  simp -implicitDefEqProofs only [Gr,Eh,FJ,FN] at hall hnd
  obtain ⟨hrow,k7,k3,k6,_⟩:=EO.1 hall
  by_cases h:i<all.length
  ·have hel:=Hf h
   have hb:=hm _ (List.getElem_mem h)
   have hsn:(Ei own s.v.2 all).take (i+1)=(Ei own s.v.2 all).take i++[Ik own s.v.2 all[i]]:=by
    rw [List.take_succ_eq_append_getElem (by rw [Iu]; exact h)]; simp -implicitDefEqProofs only [Ei,List.getElem_map]
   have hlen:((Ei own s.v.2 all).take i).length=i:=by rw [List.length_take,Iu]; omega
   generalize all[i]=m at *
   have hfl:=Yh (n:=(m.mx+1).toNat) (v:=0) (by omega) (by omega) (by decide)
   rw [show (((m.mx+1).toNat:Nat):Int)-1=m.mx by omega] at hfl
   simp -implicitDefEqProofs -proj only [go_sem,seval,Eh,FJ,FN,hH,decide_eq_true (show (i:Int)<all.length by omega)]
   refine EG _ (by omega) hel ?_
   simp -implicitDefEqProofs -proj only [go_sem,seval]
   refine AN (fun b9 hb9=>?_)
   replace hb9:H b9=none:=hb9
   simp -implicitDefEqProofs -proj only [go_sem,seval]
   refine AH hfl ?_
   simp -implicitDefEqProofs -proj only [go_sem,seval]
   refine AN (fun b10 hb10=>?_)
   replace hb10:upd H b9 _ b10=none:=hb10
   obtain ⟨e1,e2⟩:=Ac hb10 Ad
   have hb10':H b10=none:=by rw [EH e2] at hb10; exact hb10
   obtain ⟨x1,x2⟩:=Ac hb9 k3
   obtain ⟨x3,x4⟩:=Ac hb10' k3
   simp -implicitDefEqProofs -proj only [go_sem,seval,e1,e2]
   obtain ⟨L0,hL0⟩:∃L0,H9 (List.replicate (m.mx+1).toNat 0)=L0:=⟨_,rfl⟩
   obtain ⟨H1,hH1⟩:∃H1,upd (upd H b9 (some (Gt m))) b10 (some (.box 58 [i64 (((List.replicate (m.mx+1).toNat (0:Int)).length:Int)-1),GJ (FU (List.replicate (m.mx+1).toNat 0))]))=H1:=⟨_,rfl⟩
   have q9:H1 b9=some (Gt m):=by rw [←hH1,EH e1]; exact Ad
   have q10:H1 b10=some (.box 58 [i64 (((List.replicate (m.mx+1).toNat (0:Int)).length:Int)-1),GJ (FU (List.replicate (m.mx+1).toNat 0))]):=by rw [←hH1]; exact Ad
   have qall:AR H1 (Gr b3 b6 b7 s own all ⟨i,c1,cap⟩):=by rw [←hH1]; exact Ar hb10 (Ar hb9 hall)
   rw [hH1]
   refine Fy (G6 (P3 (H:=Ak [(b9,Gt m)]) (x:=Gt m) (b:=b9) (p:=Jn m) (l:=own) (f:=Nv) (EZ (l:=[(_,_)]) (by simp [AP])).1 (fun o _ H h=>ZH h) (by omega)) (KW q9)) (fun r H2 hk=>?_)
   obtain ⟨H3,⟨rfl,h1⟩,hsub,hkp⟩:=hk
   have hne9:∀k x,H k=some x→¬k=b9:=fun k x hx=>(Ac hb9 hx).2
   have r10:H2 b10=some (.box 58 [i64 (((List.replicate (m.mx+1).toNat (0:Int)).length:Int)-1),GJ (FU (List.replicate (m.mx+1).toNat 0))]):=hkp _ _ q10 (by simp -implicitDefEqProofs -proj only [go_sem,seval,e1,e2])
   have rall:AR H2 (Gr b3 b6 b7 s own all ⟨i,c1,cap⟩):=Fb.2 fun p hp=>hkp _ _ (Fb.1 qall p hp) (by
    have:=hne9 _ _ (Fb.1 hall p hp)
    rw [Aw,if_neg this]; rfl)
   have hf10:b10∉AP (Gr b3 b6 b7 s own all ⟨i,c1,cap⟩):=Kj hb10' hall
   clear hkp hsub q9 q10 qall hne9 h1
   cases hix:own.findIdx? (Jn m) with
   | none =>
    have e:HB (Jn m) own = -1:=by unfold HB; rw [hix]
    have hw:Ik own s.v.2 m=List.replicate (m.mx+1).toNat 0:=by unfold Ik; rw [hix]
    generalize List.replicate (m.mx+1).toNat (0:Int)=L at *
    obtain ⟨g3,g10,g7⟩:H2 b3=_∧H2 b10=_∧H2 b7=_:=⟨(EO.1 rall).2.2.1,r10,(EO.1 rall).2.1⟩
    simp -implicitDefEqProofs only [Eh,FJ,FN] at g3 g10 g7
    simp -implicitDefEqProofs -proj only [go_sem,seval,e,g3,g10,g7]
    refine EJ (fun bs hs=>?_)
    replace hs:H2 bs=none:=hs
    simp -implicitDefEqProofs -proj only [go_sem,seval]
    refine Fa (xs:=EL ((Ei own s.v.2 all).take i)) (y:=H9 L) (t:=58) (capc:=1) [(b7,.box 46 [i64 s.f,i64 s.t,i64 s.v.1,EU 2 2 c1 cap (EL ((Ei own s.v.2 all).take i))]),(b3,JY s),(b6,ND)] rfl (Ar hs rall) hnd (by simp -implicitDefEqProofs -proj only [go_sem,seval]; try rfl) (by rw [GG,hlen]; omega) (by rw [GG,hlen]; omega) (fun H6 c2 cap2 ha6 hk6=>?_)
    have esn:EL ((Ei own s.v.2 all).take i)++[H9 L]=EL ((Ei own s.v.2 all).take (i+1)):=by rw [hsn,hw]; simp [EL]
    rw [esn] at ha6 hk6
    obtain ⟨hrow6,u7,u3,u6,_⟩:=EO.1 ha6
    have hne:EL ((Ei own s.v.2 all).take (i+1))≠[]:=by rw [←esn]; simp
    have hl1:(EL ((Ei own s.v.2 all).take (i+1))).length=i+1:=by rw [GG,List.length_take,Iu]; omega
    simp -implicitDefEqProofs -proj only [go_sem,seval,u7,GG,hlen]
    have hk7:b7∉AP (EK 58 2 c2 cap2 (EL ((Ei own s.v.2 all).take (i+1)))):=by
     simp -implicitDefEqProofs only [AP,List.map_append,List.map_cons] at hk6
     exact fun hm=>(List.nodup_append.1 hk6).2.2 _ hm _ (List.mem_cons_self ..) rfl
    refine AX ⟨i+1,c2,cap2⟩ ⟨by rw [Eh]; omega,by simpa only [Gr,Eh,FJ,FN,AP,List.map_append,List.map_cons] using hk6⟩ (by show all.length-(i+1)<all.length-i; omega) rfl ?_ ?_
    ·simp -implicitDefEqProofs -proj only [go_sem,seval,AK,Eh,Ab (show i<9223372036854775807 by omega)]
    ·simp -implicitDefEqProofs only [Gr,Eh,FJ,FN,Eq hne,hl1]
     exact EO.2 ⟨FS hrow6 hk7,Ad,(EH n5).trans u3,(EH n3).trans u6,trivial⟩
   | some j =>
    have e:HB (Jn m) own=j:=by unfold HB; rw [hix]
    obtain ⟨hj,_⟩:=List.findIdx?_eq_some_iff_getElem.1 hix
    have hj2:j<s.v.2.length:=by omega
    have hw:Ik own s.v.2 m=s.v.2[j]:=by unfold Ik; rw [hix]; simp [hj2]
    have elj:=Kk hj2
    generalize List.replicate (m.mx+1).toNat (0:Int)=L0 at *
    generalize s.v.2[j]=L at *
    obtain ⟨g3,g10,g7⟩:H2 b3=_∧H2 b10=_∧H2 b7=_:=⟨(EO.1 rall).2.2.1,r10,(EO.1 rall).2.1⟩
    simp -implicitDefEqProofs only [Eh,FJ,FN] at g3 g10 g7
    simp -implicitDefEqProofs -proj only [go_sem,seval,e,g3,g10,g7,decide_eq_true (show (0:Int)≤(j:Int) by omega)]
    refine EG _ (by omega) elj ?_
    obtain ⟨z1,z2⟩:=Ac hb10' k7
    simp -implicitDefEqProofs -proj only [go_sem,seval,g3,g10,g7,z1,z2]
    obtain ⟨H5,hH5⟩:∃H5,upd H2 b10 (some (.box 58 [i64 ((L.length:Int)-1),GJ (FU L)]))=H5:=⟨_,rfl⟩
    have g7':H5 b7=H2 b7:=by rw [←hH5,EH z1]
    have g10':H5 b10=some (.box 58 [i64 ((L.length:Int)-1),GJ (FU L)]):=by rw [←hH5,Ad]
    have rall':AR H5 (Gr b3 b6 b7 s own all ⟨i,c1,cap⟩):=by rw [←hH5]; exact FS rall hf10
    rw [g7] at g7'
    clear rall g10 g7 g3 r10
    have rall:=rall'
    rw [hH5]
    refine EJ (fun bs hs=>?_)
    replace hs:H5 bs=none:=hs
    simp -implicitDefEqProofs -proj only [go_sem,seval]
    refine Fa (xs:=EL ((Ei own s.v.2 all).take i)) (y:=H9 L) (t:=58) (capc:=1) [(b7,.box 46 [i64 s.f,i64 s.t,i64 s.v.1,EU 2 2 c1 cap (EL ((Ei own s.v.2 all).take i))]),(b3,JY s),(b6,ND)] rfl (Ar hs rall) hnd (by simp -implicitDefEqProofs -proj only [go_sem,seval]; try rfl) (by rw [GG,hlen]; omega) (by rw [GG,hlen]; omega) (fun H6 c2 cap2 ha6 hk6=>?_)
    have esn:EL ((Ei own s.v.2 all).take i)++[H9 L]=EL ((Ei own s.v.2 all).take (i+1)):=by rw [hsn,hw]; simp [EL]
    rw [esn] at ha6 hk6
    obtain ⟨hrow6,u7,u3,u6,_⟩:=EO.1 ha6
    have hne:EL ((Ei own s.v.2 all).take (i+1))≠[]:=by rw [←esn]; simp
    have hl1:(EL ((Ei own s.v.2 all).take (i+1))).length=i+1:=by rw [GG,List.length_take,Iu]; omega
    simp -implicitDefEqProofs -proj only [go_sem,seval,u7,GG,hlen]
    have hk7:b7∉AP (EK 58 2 c2 cap2 (EL ((Ei own s.v.2 all).take (i+1)))):=by
     simp -implicitDefEqProofs only [AP,List.map_append,List.map_cons] at hk6
     exact fun hm=>(List.nodup_append.1 hk6).2.2 _ hm _ (List.mem_cons_self ..) rfl
    refine AX ⟨i+1,c2,cap2⟩ ⟨by rw [Eh]; omega,by simpa only [Gr,Eh,FJ,FN,AP,List.map_append,List.map_cons] using hk6⟩ (by show all.length-(i+1)<all.length-i; omega) rfl ?_ ?_
    ·simp -implicitDefEqProofs -proj only [go_sem,seval,AK,Eh,Ab (show i<9223372036854775807 by omega)]
    ·simp -implicitDefEqProofs only [Gr,Eh,FJ,FN,Eq hne,hl1]
     exact EO.2 ⟨FS hrow6 hk7,Ad,(EH n5).trans u3,(EH n3).trans u6,trivial⟩
  ·have hi':i=all.length:=by omega
   subst hi'
   have htk:(Ei own s.v.2 all).take all.length=Ei own s.v.2 all:=List.take_of_length_le (by rw [Iu]; exact Nat.le_refl _)
   rw [htk] at k7 hrow hnd
   simp -implicitDefEqProofs -proj only [go_sem,seval,Eh,FJ,FN,hH,k7,k6,decide_eq_false (show ¬(all.length:Int)<all.length by omega)]
   exact Po (MQ (FS hrow (by
    have:=hnd
    simp -implicitDefEqProofs only [AP,List.map_append,List.map_cons] at this
    exact fun hm=>(List.nodup_append.1 this).2.2 _ hm _ (by simp) rfl)))
structure TwX where
 f:Int
 t:Int
 a:Seg EM
 b:Seg EM
def GN (x:TwX):List D:=[.int .i64 x.f,.int .i64 x.t,.int .i64 x.a.f,.int .i64 x.a.t,.int .i64 x.a.v.1,.sl 2 (EL x.a.v.2),.int .i64 x.b.f,.int .i64 x.b.t,.int .i64 x.b.v.1,.sl 2 (EL x.b.v.2)]
def EP (L:List TwX):List (List D):=L.map GN
abbrev ON (x:TwX):AV:=.agg [i64 x.f,i64 x.t,i64 x.a.f,i64 x.a.t,i64 x.a.v.1,FE x.a.v.2,i64 x.b.f,i64 x.b.t,i64 x.b.v.1,FE x.b.v.2]
theorem Fu {L:List TwX}:(EP L).length=L.length:=List.length_map ..
theorem Qy {L:List TwX} {i:Nat} {x:TwX} (h:L[i]? = some x):(EP L)[i]? = some (GN x):=by simp [EP,h]
theorem OH {L:List TwX} {i:Nat} {x:TwX}:(EP L).set i (GN x)=EP (L.set i x):=by simp [EP,List.map_set]
theorem Lg {L:List TwX} {x:TwX}:EP L++[GN x]=EP (L++[x]):=by simp [EP]
noncomputable def Er (L:List TwX) (x:TwX):List TwX:=match L.getLast? with
 | some y=>if y.a.v=x.a.v∧y.b.v=x.b.v then L.set (L.length-1) { y with t:=x.t } else L++[x]
 | none=>L++[x]
def KL (x:TwX):Prop:=(∀l∈x.a.v.2,E2 l)∧(∀l∈x.b.v.2,E2 l)∧x.a.v.2.length≤1000000∧x.b.v.2.length≤1000000
def Uw (L:List TwX) (x:TwX) (r:AV) (H':Heap):Prop:=∃c' cap',r=EU 0 10 c' cap' (EP (Er L x))∧AR H' (EK 48 10 c' cap' (EP (Er L x)))
theorem AJy {L:List TwX} {x:TwX} {c cap:Nat} (hL:∀y∈L,KL y) (hx:KL x) (hl:L.length≤1000000):CallW Try.prog AGj [EU 0 10 c cap (EP L),ON x] (Ak (EK 48 10 c cap (EP L))) (Uw L x):=by
 have hnd:∀M:List TwX,(AP (EK 48 10 c cap (EP M))).Nodup:=fun M=>by
  unfold EK; split <;> simp [AP]
 have hall:=EZ (hnd L)
 obtain ⟨H,hH⟩:∃H,Ak (EK 48 10 c cap (EP L))=H:=⟨_,rfl⟩
 rw [hH] at hall ⊢
 refine Am ACr (by simp) ?_
 simp -implicitDefEqProofs -proj only [go_sem,seval]
 refine AN (fun b3 hb3=>?_)
 replace hb3:H b3=none:=hb3
 have happ:∀x:TwX,True:=fun _=>trivial
 cases hlast:L.getLast? with
 | none =>
  have e0:L=[]:=List.getLast?_eq_none_iff.1 hlast
  have hput:Er L x=L++[x]:=by unfold Er; rw [hlast]
  have hl0:(EP L).length=0:=by rw [e0]; rfl
  simp -implicitDefEqProofs -proj only [go_sem,seval,A9,hl0]
  refine EJ (fun bs hs=>?_)
  simp -implicitDefEqProofs -proj only [go_sem,seval]
  refine Fa (xs:=EP L) (y:=GN x) (t:=48) (capc:=1) [] rfl (by rw [List.append_nil]; exact Ar hs (Ar hb3 hall)) (by rw [List.append_nil]; exact hnd L) (by simp -implicitDefEqProofs -proj only [go_sem,seval]; try rfl) (by rw [Fu]; omega) (by rw [Fu]; omega) (fun H6 c2 cap2 ha6 hk6=>?_)
  rw [List.append_nil,Lg,←hput] at ha6
  have hne:EP (Er L x)≠[]:=by rw [hput,←Lg]; simp
  have hl2:(EP (Er L x)).length=0+1:=by rw [hput,Fu,List.length_append,e0]; rfl
  simp -implicitDefEqProofs -proj only [go_sem,seval]
  exact ⟨c2,cap2,by rw [Eq hne,hl2,hl0],ha6⟩
 | some y =>
  have hLne:L≠[]:=fun e=>by rw [e] at hlast; cases hlast
  have hL0:0<L.length:=List.length_pos_iff.2 hLne
  have hy:L[L.length-1]? = some y:=by rw [←List.getLast?_eq_getElem?]; exact hlast
  have hyL:y∈L:=List.mem_of_getElem? hy
  have hrn:EP L≠[]:=fun e=>by have:=congrArg List.length e; rw [Fu] at this; simp at this; exact hLne this
  have hy2:=hL y hyL
  rw [Eq hrn,Fu]
  have hr:H c=some (.row 48 10 cap (EP L)):=by
   have:=hall
   rw [Fj hrn] at this
   exact this.1
  obtain ⟨n1,n2⟩:=Ac hb3 hr
  have hw:IntKind.i64.wrap ((L.length:Int)-1)=((L.length-1:Nat):Int):=by rw [IntKind.wrap_i64]; omega
  have hel:=Qy hy
  simp -implicitDefEqProofs -proj only [go_sem,seval,decide_eq_true (show (0:Int)<(L.length:Int) by omega),hw,n1,n2,hr,Int.toNat_natCast,Nat.zero_add]
  refine Aq (by omega) (fun _=>?_)
  refine EX _ hel (by simp [GN]) ?_
  simp -implicitDefEqProofs only [GN]
  simp -implicitDefEqProofs -proj only [go_sem,seval,n1,n2,hr]
  refine AH (PQ (a:=y.a) (b:=x.a) hy2.1 hx.1 hy2.2.2.1 hx.2.2.1) ?_
  by_cases ca:y.a.v=x.a.v
  ·simp -implicitDefEqProofs -proj only [go_sem,seval,n1,n2,hr,decide_eq_true ca,hw,Int.toNat_natCast,Nat.zero_add]
   refine Aq (by omega) (fun _=>?_)
   refine EX _ hel (by simp [GN]) ?_
   simp -implicitDefEqProofs only [GN]
   simp -implicitDefEqProofs -proj only [go_sem,seval,n1,n2,hr]
   refine AH (PQ (a:=y.b) (b:=x.b) hy2.2.1 hx.2.1 hy2.2.2.2 hx.2.2.2) ?_
   by_cases cb:y.b.v=x.b.v
   ·have hput:Er L x=L.set (L.length-1) { y with t:=x.t }:=by unfold Er; rw [hlast]; exact if_pos ⟨ca,cb⟩
    simp -implicitDefEqProofs -proj only [go_sem,seval,n1,n2,hr,decide_eq_true cb,hw,Int.toNat_natCast,Nat.zero_add]
    refine Aq (by omega) (fun _=>?_)
    refine IS (el:=GN y) (xs:=EP L) (cap:=cap) (t:=48) (by simp -implicitDefEqProofs -proj only [go_sem,seval,n1,n2,hr]) hel (by simp [GN]) ?_
    have es:Fe (GN y) 1 [.int .i64 x.t]=GN { y with t:=x.t }:=rfl
    rw [es,OH,←hput]
    have hl2:(EP (Er L x)).length=L.length:=by rw [hput,Fu,List.length_set]
    have hne:EP (Er L x)≠[]:=fun e=>by have:=congrArg List.length e; rw [hl2] at this; simp at this; exact hLne this
    simp -implicitDefEqProofs -proj only [go_sem,seval]
    exact ⟨c,cap,by rw [Eq hne,hl2],by rw [Fj hne]; exact ⟨Ad,trivial⟩⟩
   ·have hput:Er L x=L++[x]:=by unfold Er; rw [hlast]; exact if_neg (fun k=>cb k.2)
    simp -implicitDefEqProofs -proj only [go_sem,seval,n1,n2,hr,decide_eq_false cb]
    refine EJ (fun bs hs=>?_)
    simp -implicitDefEqProofs -proj only [go_sem,seval]
    refine MI (xs:=EP L) (ys:=[GN x]) (e:=48) (t:=48) (capc:=1) (by
     obtain ⟨f1,f2⟩:=Ac hs (show upd H b3 _ c=_ by rw [EH n1]; exact hr)
     simp -implicitDefEqProofs -proj only [go_sem,seval,f1,f2,n1,n2,hr]) (by simp -implicitDefEqProofs -proj only [go_sem,seval]; try rfl) (by rw [Fu]) rfl (by simp) rfl (by rw [Fu]; simp [maxLen]; omega) (fun b' cap' hb'=>?_)
    rw [Lg,←hput]
    have hl2:(EP (Er L x)).length=L.length+1:=by rw [hput,Fu,List.length_append]; rfl
    have hne:EP (Er L x)≠[]:=fun e=>by have:=congrArg List.length e; rw [hl2] at this; simp at this
    simp -implicitDefEqProofs -proj only [go_sem,seval]
    exact ⟨b',cap',by rw [Eq hne,hl2],by rw [Fj hne]; exact ⟨Ad,trivial⟩⟩
  ·have hput:Er L x=L++[x]:=by unfold Er; rw [hlast]; exact if_neg (fun k=>ca k.1)
   simp -implicitDefEqProofs -proj only [go_sem,seval,n1,n2,hr,decide_eq_false ca]
   refine EJ (fun bs hs=>?_)
   simp -implicitDefEqProofs -proj only [go_sem,seval]
   refine MI (xs:=EP L) (ys:=[GN x]) (e:=48) (t:=48) (capc:=1) (by
    obtain ⟨f1,f2⟩:=Ac hs (show upd H b3 _ c=_ by rw [EH n1]; exact hr)
    simp -implicitDefEqProofs -proj only [go_sem,seval,f1,f2,n1,n2,hr]) (by simp -implicitDefEqProofs -proj only [go_sem,seval]; try rfl) (by rw [Fu]) rfl (by simp) rfl (by rw [Fu]; simp [maxLen]; omega) (fun b' cap' hb'=>?_)
   rw [Lg,←hput]
   have hl2:(EP (Er L x)).length=L.length+1:=by rw [hput,Fu,List.length_append]; rfl
   have hne:EP (Er L x)≠[]:=fun e=>by have:=congrArg List.length e; rw [hl2] at this; simp at this
   simp -implicitDefEqProofs -proj only [go_sem,seval]
   exact ⟨b',cap',by rw [Eq hne,hl2],by rw [Fj hne]; exact ⟨Ad,trivial⟩⟩
abbrev IE:Type:=EM×EM
def Hi (x:TwX):Seg IE:=⟨x.f,x.t,(x.a.v,x.b.v)⟩
def Lc (s:Seg IE):TwX:=⟨s.f,s.t,⟨s.f,s.t,s.v.1⟩,⟨s.f,s.t,s.v.2⟩⟩
def Kf (x:TwX):TwX:=⟨x.f,x.t,⟨x.f,x.t,x.a.v⟩,⟨x.f,x.t,x.b.v⟩⟩
theorem AAQ (x:TwX):Kf x=Lc (Hi x):=rfl
theorem FwdB.last {β:Type} {val:Int→β} {lo hi:Int} {A:List (Seg β)} {s:Seg β} (h:FwdB val lo hi (A++[s])):s.f≤s.t∧s.t+1=hi∧∀x,s.f≤x→x≤s.t→val x=s.v:=by
 obtain ⟨_,h2,_,h4,_,h6,_⟩:=h.nth A.length s (by simp)
 exact ⟨h2,h6 (by simp),h4⟩
theorem FwdB.more {β:Type} {val:Int→β} {lo hi x:Int} {A:List (Seg β)} {s:Seg β} (h:FwdB val lo hi (A++[s])) (h1:hi≤x+1) (h3:∀d,hi≤d→d≤x→val d=s.v):FwdB val lo (x+1) (A++[⟨s.f,x,s.v⟩]):=by
 obtain ⟨g1,g2,g3⟩:=h.last
 exact h.setLast (by omega) (fun y a b=>if k:y≤s.t then g3 y a k else h3 y (by omega) b)
theorem Sn {α:Type} {L:List α} {y : α} (h:L.getLast? = some y):L=L.dropLast++[y]:=by
 have hne:L≠[]:=fun e=>by rw [e] at h; cases h
 rw [List.getLast?_eq_some_getLast hne] at h
 cases h
 exact (List.dropLast_concat_getLast hne).symm
theorem V0 {val:Int→IE} {lo p:Int} {L:List TwX} {x:TwX} (h:FwdB val lo p (L.map Hi)) (hf:x.f=p) (hft:x.f≤x.t) (hv:∀d,x.f≤d→d≤x.t→val d=(x.a.v,x.b.v)):FwdB val lo (x.t+1) ((Er L x).map Hi):=by
 unfold Er
 split
 ·next y hy =>
  have hs:=Sn hy
  split
  ·next hc =>
   have e:L.set (L.length-1) { y with t:=x.t }=L.dropLast++[{ y with t:=x.t }]:=by
    have hl:L.length-1=L.dropLast.length:=by rw [List.length_dropLast]
    rw [hl]
    conv=>lhs; arg 1; rw [hs]
    rw [List.set_append_right _ _ (Nat.le_refl _),Nat.sub_self]; rfl
   rw [e,List.map_append]
   rw [hs,List.map_append] at h
   exact h.more (x:=x.t) (by omega) (fun d a b=>by rw [hv d (by omega) b]; show (x.a.v,x.b.v)=(y.a.v,y.b.v); rw [hc.1,hc.2])
  ·next hc =>
   rw [List.map_append]
   refine h.push (r:=Hi x) hf hft hv (fun s hs=>?_)
   rw [List.getLast?_map,hy] at hs
   cases hs
   exact fun e=>hc ⟨(Prod.mk.inj e).1,(Prod.mk.inj e).2⟩
 ·next hy =>
  rw [List.map_append]
  refine h.push (r:=Hi x) hf hft hv (fun s hs=>?_)
  rw [List.getLast?_map,hy] at hs
  cases hs
theorem XA {L:List TwX} {x:TwX} {P:EM→EM→Prop} (hL:∀y∈L,P y.a.v y.b.v) (hx:P x.a.v x.b.v):∀y∈Er L x,P y.a.v y.b.v:=by
 intro y hy
 unfold Er at hy
 split at hy
 ·next z hz =>
  split at hy
  ·rcases List.mem_or_eq_of_mem_set hy with h | rfl
   ·exact hL y h
   ·exact hL z (List.mem_of_getLast? hz)
  ·rcases List.mem_append.1 hy with h | h
   ·exact hL y h
   ·rw [List.mem_singleton.1 h]; exact hx
 ·rcases List.mem_append.1 hy with h | h
  ·exact hL y h
  ·rw [List.mem_singleton.1 h]; exact hx
theorem Vw {L:List TwX} {x:TwX}:(Er L x).length≤L.length+1:=by
 unfold Er
 split
 ·split
  ·rw [List.length_set]; omega
  ·rw [List.length_append]; exact Nat.le_refl _
 ·rw [List.length_append]; exact Nat.le_refl _
structure TwI {va vb:Int→EM} (val:Int→IE) (lo hi:Int) (S S':List (Seg EM)) (i k:Nat) (L:List TwX) (p:Int):Prop where
 fwd:FwdB val lo p (L.map Hi)
 le:p≤hi
 a:∀s,S[i]? = some s→s.f≤p∧p≤s.t
 a0:S[i]? = none→p=hi
 b:∀s,S'[k]? = some s→s.f≤p∧p≤s.t
 b0:S'[k]? = none→p=hi
 one:∀s s',S[i]? = some s→S'[k]? = some s'→s.f=p∨s'.f=p
theorem TwI.start {va vb:Int→EM} {val:Int→IE} {lo hi:Int} {S S':List (Seg EM)} (h:FwdB va lo hi S) (h':FwdB vb lo hi S'):TwI (va:=va) (vb:=vb) val lo hi S S' 0 0 [] lo:=by
 refine ⟨rfl,h.le,fun s hs=>?_,fun hn=>?_,fun s hs=>?_,fun hn=>?_,fun s s' hs hs'=>?_⟩
 ·obtain ⟨_,h2,_,_,_,_,h7⟩:=h.nth 0 s hs
  have:=h7 rfl
  omega
 ·cases S with
  | nil=>exact h
  | cons a b=>cases hn
 ·obtain ⟨_,h2,_,_,_,_,h7⟩:=h'.nth 0 s hs
  have:=h7 rfl
  omega
 ·cases S' with
  | nil=>exact h'
  | cons a b=>cases hn
 ·exact .inl ((h.nth 0 s hs).2.2.2.2.2.2 rfl)
theorem TwI.step {va vb:Int→EM} {val:Int→IE} {lo hi:Int} {S S':List (Seg EM)} {i k:Nat} {L:List TwX} {p:Int} {wa wb:EM→EM} (h:FwdB va lo hi S) (h':FwdB vb lo hi S') (hw:∀d,lo≤d→d<hi→val d=(wa (va d),wb (vb d))) (hI:TwI (va:=va) (vb:=vb) val lo hi S S' i k L p) {s s':Seg EM} (hs:S[i]? = some s) (hs':S'[k]? = some s') {x:TwX} (xf:x.f=max s.f s'.f) (xt:x.t=min s.t s'.t) (xa:x.a.v=wa s.v) (xb:x.b.v=wb s'.v):TwI (va:=va) (vb:=vb) val lo hi S S' (if s.t=x.t then i+1 else i) (if s'.t=x.t then k+1 else k) (Er L x) (x.t+1):=by
 obtain ⟨h1,h2,h3,h4,h5,h6,_⟩:=h.nth i s hs
 obtain ⟨k1,k2,k3,k4,k5,k6,_⟩:=h'.nth k s' hs'
 obtain ⟨a1,a2⟩:=hI.a s hs
 obtain ⟨b1,b2⟩:=hI.b s' hs'
 have hone:=hI.one s s' hs hs'
 have hlo:lo≤p:=by
  have:=hI.fwd.le
  exact this
 refine ⟨V0 hI.fwd (by omega) (by omega) (fun d c1 c2=>?_),by omega,fun q hq=>?_,fun hq=>?_,fun q hq=>?_,fun hq=>?_,fun q q' hq hq'=>?_⟩
 ·rw [hw d (by omega) (by omega),h4 d (by omega) (by omega),k4 d (by omega) (by omega),xa,xb]
 ·by_cases c:s.t=x.t
  ·rw [if_pos c] at hq
   obtain ⟨e1,_⟩:=h5 q hq
   have:=(h.nth (i+1) q hq).2.1
   omega
  ·rw [if_neg c] at hq
   rw [hs] at hq; cases hq
   omega
 ·by_cases c:s.t=x.t
  ·rw [if_pos c] at hq
   have:=h6 hq
   omega
  ·rw [if_neg c,hs] at hq; cases hq
 ·by_cases c:s'.t=x.t
  ·rw [if_pos c] at hq
   obtain ⟨e1,_⟩:=k5 q hq
   have:=(h'.nth (k+1) q hq).2.1
   omega
  ·rw [if_neg c] at hq
   rw [hs'] at hq; cases hq
   omega
 ·by_cases c:s'.t=x.t
  ·rw [if_pos c] at hq
   have:=k6 hq
   omega
  ·rw [if_neg c,hs'] at hq; cases hq
 ·by_cases c:s.t=x.t
  ·rw [if_pos c] at hq
   obtain ⟨e1,_⟩:=h5 q hq
   exact .inl (by omega)
  ·by_cases c':s'.t=x.t
   ·rw [if_pos c'] at hq'
    obtain ⟨e1,_⟩:=k5 q' hq'
    exact .inr (by omega)
   ·omega
theorem TwI.last {va vb:Int→EM} {val:Int→IE} {lo hi:Int} {S S':List (Seg EM)} {i k:Nat} {L:List TwX} {p:Int} (hI:TwI (va:=va) (vb:=vb) val lo hi S S' i k L p) (h:S[i]? = none∨S'[k]? = none):FwdB val lo hi (L.map Hi):=by
 have:p=hi:=by
  rcases h with h | h
  ·exact hI.a0 h
  ·exact hI.b0 h
 subst this
 exact hI.fwd
structure FormOK (va:Int→EM) (f t:Int) (ms:List MeterX) (S:List (Seg EM)):Prop where
 fwd:FwdB va f (t+1) S
 f0:0≤f
 t1:t≤100000
 ms8:ms.length≤8
 mx:∀m∈ms,0≤m.mx∧m.mx≤2000
 cur:∀s∈S,(∀l∈s.v.2,E2 l)∧s.v.2.length=ms.length
theorem FormOK.len {va:Int→EM} {f t:Int} {ms:List MeterX} {S:List (Seg EM)} (h:FormOK va f t ms S):S.length≤100001:=by
 have:=h.fwd.len
 have:=h.f0
 have:=h.t1
 omega
def Mq (va vb:Int→EM) (A B all:List MeterX) (d:Int):IE:=(IC A all (va d),IC B all (vb d))
theorem V1 {H:Heap} {a b:Nat} {x y z w:Option Blk} (h:¬a=b):upd (upd (upd (upd H a x) b y) a z) b w=upd (upd H a z) b w:=by
 funext k
 simp -implicitDefEqProofs only [AL]
 split
 ·rfl
 ·split
  ·rfl
  ·rfl
theorem Wg {H:Heap} {t:TypeId} {sz c cap:Nat} {xs:List (List D)} {l:List (Nat×Blk)} (hr:AR H (EK t sz c cap xs)) (hl:AR H l) (hb:∀q∈l,∃t cells,q.2 = .box t cells) (hn:(AP l).Nodup):(AP (EK t sz c cap xs++l)).Nodup:=by
 by_cases h:xs=[]
 ·subst h; exact hn
 ·rw [Fj h] at hr ⊢
  refine List.nodup_cons.2 ⟨fun hm=>?_,hn⟩
  obtain ⟨q,hq,e⟩:=List.mem_map.1 hm
  obtain ⟨t',cells,e2⟩:=hb q hq
  have h1:=Fb.1 hl q hq
  have h2:=hr.1
  rw [e,e2] at h1
  rw [h1] at h2
  cases h2
theorem AGM {z sz c cap:Nat} {xs ys:List (List D)} (h:xs.length=ys.length):EU z sz c cap xs=EU z sz c cap ys:=by
 by_cases e:xs=[]
 ·subst e
  rw [show ys=[] from List.eq_nil_of_length_eq_zero (by rw [←h]; rfl)]
 ·have e2:ys≠[]:=fun k=>e (List.eq_nil_of_length_eq_zero (by rw [h,k]; rfl))
  rw [Eq e,Eq e2,h]
def Ft (L:List TwX) (j:Nat):List TwX:=(L.take j).map Kf++L.drop j
theorem Lo {L:List TwX} {j:Nat}:(Ft L j).length=L.length:=by
 unfold Ft
 rw [List.length_append,List.length_map,List.length_take,List.length_drop]; omega
theorem ADG {L:List TwX} {j:Nat} (h:j<L.length):(Ft L j)[j]? = some L[j]:=by
 unfold Ft
 rw [List.getElem?_append_right (by rw [List.length_map,List.length_take]; omega),List.length_map,List.length_take,List.getElem?_drop]
 rw [show j+(j-min j L.length)=j by omega]
 exact List.getElem?_eq_getElem h
theorem US {L:List TwX} {j:Nat} (h:j<L.length):(Ft L j).set j (Kf L[j])=Ft L (j+1):=by
 unfold Ft
 have hl:((L.take j).map Kf).length=j:=by rw [List.length_map,List.length_take]; omega
 rw [List.set_append_right _ _ (by omega),hl,Nat.sub_self,List.take_succ_eq_append_getElem h,List.drop_eq_getElem_cons h,List.map_append,List.append_assoc]
 rfl
theorem AJF {L:List TwX}:Ft L L.length=(L.map Hi).map Lc:=by
 unfold Ft
 rw [List.take_length,List.drop_length,List.append_nil,List.map_map]
 exact List.map_congr_left fun x _=>AAQ x
structure MkZ where
 i:Nat
 k:Nat
 c:Nat
 cap:Nat
 L:List TwX
theorem Im {i k c cap:Nat} {L:List TwX}:(MkZ.mk i k c cap L).i=i:=(rfl)
theorem Ii {i k c cap:Nat} {L:List TwX}:(MkZ.mk i k c cap L).k=k:=(rfl)
theorem Iw {i k c cap:Nat} {L:List TwX}:(MkZ.mk i k c cap L).c=c:=(rfl)
theorem If {i k c cap:Nat} {L:List TwX}:(MkZ.mk i k c cap L).cap=cap:=(rfl)
theorem IM {i k c cap:Nat} {L:List TwX}:(MkZ.mk i k c cap L).L=L:=(rfl)
def I7 (b2 b3:Nat) (x2 x3:Blk) (y:MkZ):List (Nat×Blk):=EK 48 10 y.c y.cap (EP y.L)++[(b3,x3),(b2,x2)]
set_option maxHeartbeats 2000000 in
theorem R8 {cu cu':ByteArray} {f t:Int} {A B:List MeterX} {S S':List (Seg EM)} {va vb:Int→EM} {T:List (Seg IE)} (hS:FormOK va f t A S) (hS':FormOK vb f t B S') (hlk:JW cu cu' f t f t A B=true) (hT:FwdB (Mq va vb A B (Gd A B)) f (t+1) T):DataW Try.prog AIS [Gf cu f t A S,Gf cu' f t B S'] (.tup [.d (.sl 5 (AS (Gd A B))),.d (.sl 10 (EP (T.map Lc))),i64 0]):=by
 have hl:=Rq (cu:=cu) (cu':=cu') (f:=f) (t:=t) (f':=f) (t':=t) (S:=S) (S':=S') (A:=A) (B:=B) (by have:=hS.ms8; omega) (by have:=hS'.ms8; omega)
 rw [hlk] at hl
 have hme:=QT (cu:=cu) (cu':=cu') (f:=f) (t:=t) (f':=f) (t':=t) (S:=S) (S':=S') hS.ms8 hS'.ms8
 have hbm:∀m∈Gd A B,0≤m.mx∧m.mx≤2000:=fun m hm=>by
  rcases (O0 A B).2.1 m hm with h | h
  ·exact hS.mx m h
  ·exact hS'.mx m h
 have hbl:(Gd A B).length≤16:=by have:=NC A B; have:=hS.ms8; have:=hS'.ms8; omega
 generalize Gd A B=all at *
 have hwa:=fun (s:Seg EM) (h:s∈S)=>show DataW Try.prog M1 [Hx s,.d (.sl 5 (AS A)),.d (.sl 5 (AS all))] (.agg [i64 s.f,i64 s.t,i64 s.v.1,FE (Ei A s.v.2 all)]) from P8 (hS.cur s h).2.symm (hS.cur s h).1 hbm (by have:=hS.ms8; omega) (by omega)
 have hwb:=fun (s:Seg EM) (h:s∈S')=>show DataW Try.prog M1 [Hx s,.d (.sl 5 (AS B)),.d (.sl 5 (AS all))] (.agg [i64 s.f,i64 s.t,i64 s.v.1,FE (Ei B s.v.2 all)]) from P8 (hS'.cur s h).2.symm (hS'.cur s h).1 hbm (by have:=hS'.ms8; omega) (by omega)
 have hlen:=hS.len
 have hlen':=hS'.len
 refine Am ACV (by simp) ?_
 simp -implicitDefEqProofs -proj only [go_sem,seval]
 refine AN (fun b2 hb2=>?_)
 simp -implicitDefEqProofs -proj only [go_sem,seval]
 refine AN (fun b3 hb3=>?_)
 replace hb3:upd Heap.none b2 _ b3=none:=hb3
 obtain ⟨n1,n2⟩:=Ac hb3 Ad
 simp -implicitDefEqProofs -proj only [go_sem,seval,n1,n2]
 refine AH hl ?_
 simp -implicitDefEqProofs -proj only [go_sem,seval,n1,n2]
 refine AH hme ?_
 simp -implicitDefEqProofs -proj only [go_sem,seval,n1,n2]
 refine EN (fun y:MkZ=>(∃p,TwI (va:=va) (vb:=vb) (Mq va vb A B all) f (t+1) S S' y.i y.k y.L p)∧y.i≤S.length∧y.k≤S'.length∧y.L.length≤y.i+y.k∧(∀x∈y.L,KL x)∧(AP (I7 b2 b3 (FK cu f t A S) (FK cu' f t B S') y)).Nodup) 126 (fun y=>[(2,.ptr b2 0),(3,.ptr b3 0),(7,.d (.sl 5 (AS all))),(8,EU 0 10 y.c y.cap (EP y.L)),(9,i64 y.i),(10,i64 y.k)]) (I7 b2 b3 (FK cu f t A S) (FK cu' f t B S')) (fun y=>(S.length-y.i)+(S'.length-y.k)) ⟨0,0,0,0,[]⟩ ⟨⟨f,TwI.start hS.fwd hS'.fwd⟩,Nat.zero_le _,Nat.zero_le _,Nat.zero_le _,fun x h=>by (cases h),by simp [AP,I7,EP,EK,n1,n2]⟩ rfl ?_ ?_ ?_
 ·simp -implicitDefEqProofs -proj only [go_sem,seval,AK,Im,Ii,Iw,If,IM,EP,List.map_nil,Kb]
  try rfl
 ·exact ⟨Ad,(EH n1).trans Ad,trivial⟩
 rintro ⟨i,k,c,cap,L⟩ ⟨⟨p,hI⟩,hi,hk,hL,hok,hnd⟩
 simp -implicitDefEqProofs only [Im,Ii,IM] at hi hk hL hI hok
 have hall:=EZ hnd
 obtain ⟨H,hH⟩:∃H,Ak (I7 b2 b3 (FK cu f t A S) (FK cu' f t B S') ⟨i,k,c,cap,L⟩)=H:=⟨_,rfl⟩
 rw [hH] at hall
 simp -implicitDefEqProofs only [I7,Iw,If,IM] at hall hnd
 obtain ⟨hrow,k3,k2,_⟩:=EO.1 hall
 by_cases hc:i<S.length∧k<S'.length
 ·obtain ⟨hc1,hc2⟩:=hc
  have e1:=O9 hc1
  have e2:=O9 hc2
  have g1:=List.getElem?_eq_getElem hc1
  have g2:=List.getElem?_eq_getElem hc2
  have w1:=hwa _ (List.getElem_mem hc1)
  have w2:=hwb _ (List.getElem_mem hc2)
  have u1:=hS.cur _ (List.getElem_mem hc1)
  have u2:=hS'.cur _ (List.getElem_mem hc2)
  generalize S[i]=s at *
  generalize S'[k]=s' at *
  obtain ⟨X,hX⟩:∃X:TwX,X=⟨max s.f s'.f,min s.t s'.t,⟨s.f,s.t,(s.v.1,Ei A s.v.2 all)⟩,⟨s'.f,s'.t,(s'.v.1,Ei B s'.v.2 all)⟩⟩:=⟨_,rfl⟩
  have hst:=hI.step (x:=X) (wa:=IC A all) (wb:=IC B all) hS.fwd hS'.fwd (fun _ _ _=>rfl) g1 g2 (by rw [hX]) (by rw [hX]) (by rw [hX]; rfl) (by rw [hX]; rfl)
  have hXok:KL X:=by
   rw [hX]
   exact ⟨Q0 u1.2.symm u1.1 hbm,Q0 u2.2.symm u2.1 hbm,by show (Ei A s.v.2 all).length≤_; rw [Iu]; omega,by show (Ei B s'.v.2 all).length≤_; rw [Iu]; omega⟩
  have hput:=AJy (c:=c) (cap:=cap) hok hXok (by omega)
  rw [show ON X = .agg [i64 (max s.f s'.f),i64 (min s.t s'.t),i64 s.f,i64 s.t,i64 s.v.1,FE (Ei A s.v.2 all),i64 s'.f,i64 s'.t,i64 s'.v.1,FE (Ei B s'.v.2 all)] by rw [hX]] at hput
  have hokn:∀x∈Er L X,KL x:=XA (P:=fun a b=>(∀l∈a.2,E2 l)∧(∀l∈b.2,E2 l)∧a.2.length≤1000000∧b.2.length≤1000000) hok hXok
  have hln:(Er L X).length≤L.length+1:=Vw
  have hXt:X.t=min s.t s'.t:=by rw [hX]
  have hp1:=(hI.a s g1).2
  have hp2:=(hI.b s' g2).2
  simp -implicitDefEqProofs -proj only [go_sem,seval,Im,Ii,Iw,If,IM,hH,k3,k2,H8,decide_eq_true (show (i:Int)<S.length by omega),decide_eq_true (show (k:Int)<S'.length by omega)]
  refine EG _ (by omega) e1 ?_
  simp -implicitDefEqProofs -proj only [go_sem,seval,k3,k2]
  refine EG _ (by omega) e2 ?_
  simp -implicitDefEqProofs -proj only [go_sem,seval,k3,k2]
  refine AN (fun b11 hb11=>?_)
  replace hb11:H b11=none:=hb11
  simp -implicitDefEqProofs -proj only [go_sem,seval,k3,k2]
  refine AN (fun b12 hb12=>?_)
  replace hb12:upd H b11 _ b12=none:=hb12
  obtain ⟨m1,m2⟩:=Ac hb12 Ad
  have hb12':H b12=none:=by rw [EH m2] at hb12; exact hb12
  obtain ⟨x1,x2⟩:=Ac hb11 k3
  obtain ⟨x3,x4⟩:=Ac hb11 k2
  obtain ⟨x5,x6⟩:=Ac hb12' k3
  obtain ⟨x7,x8⟩:=Ac hb12' k2
  simp -implicitDefEqProofs -proj only [go_sem,seval,m1,m2,x1,x2,x3,x4,x5,x6,x7,x8,k3,k2]
  rw [V1 m2]
  refine Ew w1 ?_
  simp -implicitDefEqProofs -proj only [go_sem,seval,m1,m2,x1,x2,x3,x4,x5,x6,x7,x8,k3,k2]
  refine Ew w2 ?_
  simp -implicitDefEqProofs -proj only [go_sem,seval,m1,m2,x1,x2,x3,x4,x5,x6,x7,x8,k3,k2]
  refine AN (fun b13 hb13=>?_)
  replace hb13:upd (upd H b11 _) b12 _ b13=none:=hb13
  obtain ⟨m3,m4⟩:=Ac hb13 Ad
  obtain ⟨m5,m6⟩:=Ac hb13 (by rw [EH m1]; exact Ad)
  have hb13':H b13=none:=by rw [EH m4,EH m6] at hb13; exact hb13
  obtain ⟨x9,x10⟩:=Ac hb13' k3
  obtain ⟨x11,x12⟩:=Ac hb13' k2
  simp -implicitDefEqProofs -proj only [go_sem,seval,m1,m2,m3,m4,m5,m6,x1,x2,x3,x4,x5,x6,x7,x8,x9,x10,x11,x12,k3,k2]
  have hn12:∀X,upd H b11 (some X) b12=none:=fun X=>by rw [EH m2]; exact hb12'
  have hn13:∀X Y,upd (upd H b11 (some X)) b12 (some Y) b13=none:=fun X Y=>by rw [EH m4,EH m6]; exact hb13'
  have hA13:∀X Y Z,AR (upd (upd (upd H b11 (some X)) b12 (some Y)) b13 (some Z)) ((b13,Z)::(b12,Y)::(b11,X)::(EK 48 10 c cap (EP L)++[(b3,FK cu' f t B S'),(b2,FK cu f t A S)])):=fun X Y Z=>HA (hn13 X Y) (HA (hn12 X) (HA hb11 hall))
  have hA13:=hA13 (JY s) (JY s') (.box 48 [i64 (max s.f s'.f),i64 (min s.t s'.t),i64 s.f,i64 s.t,i64 s.v.1,FE (Ei A s.v.2 all),i64 s'.f,i64 s'.t,i64 s'.v.1,FE (Ei B s'.v.2 all)])
  obtain ⟨H3,hH3⟩:∃H3,upd (upd (upd H b11 (some (JY s))) b12 (some (JY s'))) b13 (some (.box 48 [i64 (max s.f s'.f),i64 (min s.t s'.t),i64 s.f,i64 s.t,i64 s.v.1,FE (Ei A s.v.2 all),i64 s'.f,i64 s'.t,i64 s'.v.1,FE (Ei B s'.v.2 all)]))=H3:=⟨_,rfl⟩
  rw [hH3] at hA13 ⊢
  obtain ⟨a13,a12,a11,a0⟩:=hA13
  obtain ⟨arow,a3,a2,_⟩:=EO.1 a0
  refine Fy (G6 hput (Ib arow)) (fun r H4 hr=>?_)
  obtain ⟨H5,⟨c',cap',rfl,hr5⟩,hsub,hkp⟩:=hr
  have hkx:∀b t cells,H3 b=some (.box t cells)→H4 b=some (.box t cells):=fun b t cells hb=>hkp b _ hb (by
   have:=Ib arow b
   rcases this with h | h
   ·exact h
   ·rw [hb] at h
    exact absurd h (by
     unfold EK
     split
     ·intro e; cases e
     ·rw [Aw]
      split
      ·intro e; cases e
      ·intro e; cases e))
  have z13:=hkx _ _ _ a13
  have z12:=hkx _ _ _ a12
  have z11:=hkx _ _ _ a11
  have z3:=hkx _ _ _ a3
  have z2:=hkx _ _ _ a2
  have hr4:AR H4 (EK 48 10 c' cap' (EP (Er L X))):=Fb.2 fun q hq=>hsub _ _ (Fb.1 hr5 q hq)
  have hall4:AR H4 (I7 b2 b3 (FK cu f t A S) (FK cu' f t B S') ⟨if s.t=X.t then i+1 else i,if s'.t=X.t then k+1 else k,c',cap',Er L X⟩):=EO.2 ⟨hr4,z3,z2,trivial⟩
  have hnd4:(AP (I7 b2 b3 (FK cu f t A S) (FK cu' f t B S') ⟨if s.t=X.t then i+1 else i,if s'.t=X.t then k+1 else k,c',cap',Er L X⟩)).Nodup:=Wg hr4 ⟨z3,z2,trivial⟩ (fun q hq=>by
   simp -implicitDefEqProofs only [List.mem_cons,List.not_mem_nil,or_false] at hq
   rcases hq with rfl | rfl
   ·exact ⟨_,_,rfl⟩
   ·exact ⟨_,_,rfl⟩) (by simp [AP,n1])
  rw [←hXt]
  rw [←hXt] at z13
  have hone:s.t=X.t∨s'.t=X.t:=by rw [hXt]; omega
  by_cases d1:s.t=X.t
  ·by_cases d2:s'.t=X.t
   ·rw [if_pos d1,if_pos d2] at hst hall4 hnd4
    simp -implicitDefEqProofs -proj only [go_sem,seval,z13,z12,z11,decide_eq_true d1,decide_eq_true d2]
    refine AX ⟨i+1,k+1,c',cap',Er L X⟩ ⟨⟨_,hst⟩,by show i+1≤_; omega,by show k+1≤_; omega,by show (Er L X).length≤i+1+(k+1); omega,hokn,hnd4⟩ (by show S.length-(i+1)+(S'.length-(k+1))<S.length-i+(S'.length-k); omega) rfl ?_ hall4
    simp -implicitDefEqProofs -proj only [go_sem,seval,AK,Im,Ii,Iw,If,IM,Ab (show i<9223372036854775807 by omega),Ab (show k<9223372036854775807 by omega)]
   ·rw [if_pos d1,if_neg d2] at hst hall4 hnd4
    simp -implicitDefEqProofs -proj only [go_sem,seval,z13,z12,z11,decide_eq_true d1,decide_eq_false d2]
    refine AX ⟨i+1,k,c',cap',Er L X⟩ ⟨⟨_,hst⟩,by show i+1≤_; omega,by show k≤_; omega,by show (Er L X).length≤i+1+k; omega,hokn,hnd4⟩ (by show S.length-(i+1)+(S'.length-k)<S.length-i+(S'.length-k); omega) rfl ?_ hall4
    simp -implicitDefEqProofs -proj only [go_sem,seval,AK,Im,Ii,Iw,If,IM,Ab (show i<9223372036854775807 by omega)]
  ·have d2:s'.t=X.t:=hone.resolve_left d1
   rw [if_neg d1,if_pos d2] at hst hall4 hnd4
   simp -implicitDefEqProofs -proj only [go_sem,seval,z13,z12,z11,decide_eq_false d1,decide_eq_true d2]
   refine AX ⟨i,k+1,c',cap',Er L X⟩ ⟨⟨_,hst⟩,by show i≤_; omega,by show k+1≤_; omega,by show (Er L X).length≤i+(k+1); omega,hokn,hnd4⟩ (by show S.length-i+(S'.length-(k+1))<S.length-i+(S'.length-k); omega) rfl ?_ hall4
   simp -implicitDefEqProofs -proj only [go_sem,seval,AK,Im,Ii,Iw,If,IM,Ab (show k<9223372036854775807 by omega)]
 ·have hle:FwdB (Mq va vb A B all) f (t+1) (L.map Hi):=hI.last (by
   rcases (by omega:¬i<S.length∨¬k<S'.length) with h | h
   ·exact .inl (List.getElem?_eq_none (by omega))
   ·exact .inr (List.getElem?_eq_none (by omega)))
  have hTe:L.map Hi=T:=FwdB.canon hle hT
  have hcs:(¬i<S.length)∨(i<S.length∧¬k<S'.length):=by omega
  rcases hcs with hc1 | ⟨hc1,hc2⟩
  case' inl=>simp -implicitDefEqProofs -proj only [go_sem,seval,Im,Ii,Iw,If,IM,hH,k3,k2,H8,decide_eq_false (show ¬(i:Int)<S.length by omega),A9,Fu]
  case' inr=>simp -implicitDefEqProofs -proj only [go_sem,seval,Im,Ii,Iw,If,IM,hH,k3,k2,H8,decide_eq_true (show (i:Int)<S.length by omega),decide_eq_false (show ¬(k:Int)<S'.length by omega),A9,Fu]
  all_goals
   refine EN (fun j:Nat=>j≤L.length) 126 (fun j=>[(7,.d (.sl 5 (AS all))),(8,EU 0 10 c cap (EP L)),(84,i64 L.length),(85,i64 j)]) (fun j=>EK 48 10 c cap (EP (Ft L j))) (fun j=>L.length-j) 0 (Nat.zero_le _) rfl ?_ hrow ?_
   ·simp -implicitDefEqProofs -proj only [go_sem,seval,AK]
    try rfl
   intro j hj
   have hfr:EP (Ft L j)≠[]↔L≠[]:=⟨fun h e=>h (by subst e; simp [Ft,EP]),fun h e=>h (by
    have:=congrArg List.length e
    rw [Fu,Lo] at this
    exact List.eq_nil_of_length_eq_zero this)⟩
   by_cases hjl:j<L.length
   ·have hne:L≠[]:=fun e=>by subst e; simp at hjl
    have hne2:EP L≠[]:=fun e=>hne (by
     have:=congrArg List.length e
     rw [Fu] at this
     exact List.eq_nil_of_length_eq_zero this)
    have q1:=Qy (ADG hjl)
    have q2:=US hjl
    have hr:Ak (EK 48 10 c cap (EP (Ft L j))) c=some (.row 48 10 cap (EP (Ft L j))):=by
     rw [Fj (hfr.2 hne)]; exact Ad
    generalize L[j]=x at *
    simp -implicitDefEqProofs only [GN] at q1
    rw [Eq hne2,Fu]
    simp -implicitDefEqProofs -proj only [go_sem,seval,hr,decide_eq_true (show (j:Int)<L.length by omega),Int.toNat_natCast,Nat.zero_add]
    refine Aq (by omega) (fun _=>?_)
    iterate 4
     refine EW _ q1 (by simp) ?_
     simp -implicitDefEqProofs -proj only [go_sem,seval,hr]
    have hjx:j<(EP (Ft L j)).length:=by rw [Fu,Lo]; exact hjl
    refine IS (cap:=cap) (t:=48) hr q1 (by simp) ?_
    simp -implicitDefEqProofs -proj only [go_sem,seval,Fe]
    refine IS (cap:=cap) (t:=48) Ad (List.getElem?_set_self hjx) (by simp) ?_
    simp -implicitDefEqProofs -proj only [go_sem,seval,Fe,List.set_set]
    refine IS (cap:=cap) (t:=48) Ad (List.getElem?_set_self hjx) (by simp) ?_
    simp -implicitDefEqProofs -proj only [go_sem,seval,Fe,List.set_set]
    refine IS (cap:=cap) (t:=48) Ad (List.getElem?_set_self hjx) (by simp) ?_
    simp -implicitDefEqProofs -proj only [go_sem,seval,Fe,List.set_set]
    have q3:(EP (Ft L j)).set j (GN (Kf x))=EP (Ft L (j+1)):=by rw [OH,q2]
    refine AX (j+1) (by show j+1≤L.length; omega) (by show L.length-(j+1)<L.length-j; omega) rfl ?_ ?_
    ·simp -implicitDefEqProofs -proj only [go_sem,seval,AK,Ab (show j<9223372036854775807 by omega)]
    ·have hne3:EP (Ft L (j+1))≠[]:=fun e=>by
      have:=congrArg List.length e
      rw [Fu,Lo,List.length_nil] at this
      omega
     rw [Fj hne3]
     exact ⟨by rw [←q3]; exact Ad,trivial⟩
   ·obtain rfl:j=L.length:=by omega
    have hrr:AR (Ak (EK 48 10 c cap (EP (Ft L L.length)))) (EK 48 10 c cap (EP (Ft L L.length))):=EZ (by unfold EK; split <;> simp [AP])
    rw [AGM (z:=0) (sz:=10) (c:=c) (cap:=cap) (show (EP L).length=(EP (Ft L L.length)).length by rw [Fu,Fu,Lo])]
    simp -implicitDefEqProofs -proj only [go_sem,seval,decide_eq_false (show ¬(L.length:Int)<L.length by omega)]
    rw [←hTe,←AJF]
    exact .tupL (Hs (.refl _) (Hs (MQ hrr) (Hs (.refl _) K3)))
def GD:MeterX:=⟨⟨⟨[99]⟩⟩,⟨⟨[]⟩⟩,3,0,0⟩
def GA:MeterX:=⟨⟨⟨[98]⟩⟩,⟨⟨[]⟩⟩,3,0,0⟩
def s22:Seg EM:=⟨0,9,(5,[[0,0,0,0]])⟩
theorem AHi:FU [0,0,0,0]=[⟨0,0,0,0,1⟩]:=by decide +kernel
theorem Uh:ER [s22]=[[.int .i64 0,.int .i64 9,.int .i64 5,.sl 2 [[.int .i64 3,.sl 5 [[.int .i64 0,.int .i64 0,.int .i64 0,.int .i64 0,.int .i64 1]]]]]]:=by
 simp [ER,JG,s22,EL,H9,AHi,A0,Grp.el]
theorem YZ:HE [GD,GA]=[GA,GD]:=by kernel_rfl
theorem PX:Gd [GD] [GA]=[GA,GD]:=by
 unfold Gd Gu
 rw [List.singleton_append,YZ]
 rw [Ky (Nat.le_refl _) (fun i hi hd=>?_)]
 ·rfl
 ·obtain ⟨h0,h1⟩:=hd
  have:i=1:=by have:i<2:=hi; omega
  subst this
  revert h1
  simp [GA,GD]
theorem AHs:E2 [0,0,0,0]:=⟨by simp,by decide,by intro v hv; simp -implicitDefEqProofs only [List.mem_cons,List.not_mem_nil,or_false] at hv; rcases hv with rfl | rfl | rfl | rfl <;> decide⟩
theorem QX (m:MeterX) (hm:m.mx=3):FormOK (fun _=>s22.v) 0 9 [m] [s22]:=by
 refine ⟨⟨rfl,by decide,fun _ _ _=>rfl,fun s h=>(by cases h),rfl⟩,by decide,by decide,by simp,fun x hx=>?_,fun s hs=>?_⟩
 ·rw [List.mem_singleton.1 hx,hm]; decide
 ·rw [List.mem_singleton.1 hs]
  refine ⟨fun l hl=>?_,rfl⟩
  have hl:l∈[[0,0,0,0]]:=hl
  rw [List.mem_singleton.1 hl]; exact AHs
theorem Zt:JW ⟨⟨[]⟩⟩ ⟨⟨[]⟩⟩ 0 9 0 9 [GD] [GA]=true:=by decide +kernel
theorem R5:DataW Try.prog AIq [] (bv true):=by
 have h:=R8 (cu:=⟨⟨[]⟩⟩) (cu':=⟨⟨[]⟩⟩) (T:=[⟨0,9,(IC [GD] [GA,GD] s22.v,IC [GA] [GA,GD] s22.v)⟩]) (QX GD rfl) (QX GA rfl) Zt (by rw [PX]; exact ⟨rfl,by decide,fun _ _ _=>rfl,fun s h=>(by cases h),rfl⟩)
 rw [PX] at h
 simp -implicitDefEqProofs only [Gf,Ls,Uh] at h
 have e1:AS [GD]=[[.str ⟨⟨[99]⟩⟩,.str ⟨⟨[]⟩⟩,.int .i64 3,.int .i64 0,.int .i64 0]]:=rfl
 have e2:AS [GA]=[[.str ⟨⟨[98]⟩⟩,.str ⟨⟨[]⟩⟩,.int .i64 3,.int .i64 0,.int .i64 0]]:=rfl
 have e3:AS [GA,GD]=[[.str ⟨⟨[98]⟩⟩,.str ⟨⟨[]⟩⟩,.int .i64 3,.int .i64 0,.int .i64 0],[.str ⟨⟨[99]⟩⟩,.str ⟨⟨[]⟩⟩,.int .i64 3,.int .i64 0,.int .i64 0]]:=rfl
 obtain ⟨W1,hW1⟩:∃W,EL (Ei [GD] s22.v.2 [GA,GD])=W:=⟨_,rfl⟩
 obtain ⟨W2,hW2⟩:∃W,EL (Ei [GA] s22.v.2 [GA,GD])=W:=⟨_,rfl⟩
 have l2:W2.length=2:=by rw [←hW2,GG,Iu]; rfl
 have e4:EP (List.map Lc [⟨0,9,(IC [GD] [GA,GD] s22.v,IC [GA] [GA,GD] s22.v)⟩])=[[.int .i64 0,.int .i64 9,.int .i64 0,.int .i64 9,.int .i64 5,.sl 2 W1,.int .i64 0,.int .i64 9,.int .i64 5,.sl 2 W2]]:=by
  rw [←hW1,←hW2]; rfl
 rw [e1,e2,e3,e4] at h
 refine Am Tn (by simp) ?_
 simp -implicitDefEqProofs -proj only [go_sem,seval]
 refine EJ (fun b8 h8=>?_)
 simp -implicitDefEqProofs -proj only [go_sem,seval]
 refine EJ (fun b10 h10=>?_)
 simp -implicitDefEqProofs -proj only [go_sem,seval]
 obtain ⟨H0,hH0⟩:∃H0,upd (upd Heap.none b8 none) b10 none=H0:=⟨_,rfl⟩
 rw [hH0]
 obtain ⟨R12,hR12⟩:∃R,Blk.row 46 4 1 [[D.int .i64 0,D.int .i64 9,D.int .i64 5,D.sl 2 [[D.int .i64 3,D.sl 5 [[D.int .i64 0,D.int .i64 0,D.int .i64 0,D.int .i64 0,D.int .i64 1]]]]]]=R:=⟨_,rfl⟩
 rw [hR12]
 refine EJ (fun b12 h12=>?_)
 replace h12:H0 b12=none:=h12
 simp -implicitDefEqProofs -proj only [go_sem,seval]
 refine EJ (fun b14 h14=>?_)
 replace h14:upd H0 b12 _ b14=none:=h14
 simp -implicitDefEqProofs -proj only [go_sem,seval]
 obtain ⟨R14,hR14⟩:∃R,Blk.row 39 5 1 [[D.str ⟨⟨[99]⟩⟩,D.str ⟨⟨[]⟩⟩,D.int .i64 3,D.int .i64 0,D.int .i64 0]]=R:=⟨_,rfl⟩
 rw [hR14]
 refine AN (fun b2 hb2=>?_)
 replace hb2:upd (upd H0 b12 _) b14 _ b2=none:=hb2
 simp -implicitDefEqProofs -proj only [go_sem,seval]
 refine EJ (fun b18 h18=>?_)
 simp -implicitDefEqProofs -proj only [go_sem,seval]
 obtain ⟨R18,hR18⟩:∃R,Blk.row 39 5 1 [[D.str ⟨⟨[98]⟩⟩,D.str ⟨⟨[]⟩⟩,D.int .i64 3,D.int .i64 0,D.int .i64 0]]=R:=⟨_,rfl⟩
 rw [hR18]
 have A12:AR (upd H0 b12 (some R12)) [(b12,R12)]:=⟨Ad,trivial⟩
 have A14:=HA (x:=R14) h14 A12
 have N14:=HU (x:=R14) h14 A12 (by simp [AP])
 have A2:=HA (x:=.box 30 [.d (.str ⟨⟨[]⟩⟩),i64 0,i64 9,.own b14 5 0 1 1,.own b12 4 0 1 1]) hb2 A14
 have N2:=HU (x:=.box 30 [.d (.str ⟨⟨[]⟩⟩),i64 0,i64 9,.own b14 5 0 1 1,.own b12 4 0 1 1]) hb2 A14 N14
 have A18:=HA (x:=R18) h18 A2
 have N18:=HU (x:=R18) h18 A2 N2
 refine AN (fun b3 hb3=>?_)
 have hb3':=Kj hb3 A18
 have hn3:¬b3=b2:=fun e=>hb3' (by subst e; simp [AP])
 have hn4:¬b2=b3:=fun e=>hn3 e.symm
 have hn5:¬b18=b2:=fun e=>(List.nodup_cons.1 N18).1 (by subst e; simp [AP])
 have A3:∀X,AR (upd (upd (upd (upd (upd H0 b12 (some R12)) b14 (some R14)) b2 (some (.box 30 [.d (.str ⟨⟨[]⟩⟩),i64 0,i64 9,.own b14 5 0 1 1,.own b12 4 0 1 1]))) b18 (some R18)) b3 X) _:=fun X=>FS A18 hb3'
 simp -implicitDefEqProofs -proj only [go_sem,seval,hn3,hn4,hn5]
 have hsub:AR (upd (upd (upd (upd (upd H0 b12 (some R12)) b14 (some R14)) b2 (some (.box 30 [.d (.str ⟨⟨[]⟩⟩),i64 0,i64 9,.own b14 5 0 1 1,.own b12 4 0 1 1]))) b18 (some R18)) b3 (some (.box 30 [.d (.str ⟨⟨[]⟩⟩),i64 0,i64 9,.own b18 5 0 1 1,.own b12 4 0 1 1]))) [(b18,R18),(b14,R14),(b12,R12)]:=WU (A3 _) (fun q hq=>by
  simp -implicitDefEqProofs only [List.mem_cons,List.not_mem_nil,or_false] at hq ⊢
  rcases hq with rfl | rfl | rfl <;> simp)
 have nsub:(AP [(b18,R18),(b14,R14),(b12,R12)]).Nodup:=by
  refine List.Nodup.sublist ?_ N18
  simp [AP]
 obtain ⟨l18,l14,l12,_⟩:=EZ nsub
 replace l18:=l18.trans (congrArg some hR18.symm)
 replace l14:=l14.trans (congrArg some hR14.symm)
 replace l12:=l12.trans (congrArg some hR12.symm)
 refine AAI h (Hs ?_ (Hs ?_ K3)) (Ib hsub) (fun k=>.inl (Heap.none_get k)) ?_
 ·exact .agg _ _ rfl fun j u v e1 e2=>by
   match j with
   | 0=>cases e1; cases e2; exact .refl _
   | 1=>cases e1; cases e2; exact .refl _
   | 2=>cases e1; cases e2; exact .refl _
   | 3=>cases e1; cases e2; exact JF l14 rfl
   | 4=>cases e1; cases e2; exact JF l12 rfl
   | j+5=>cases e1
 ·exact .agg _ _ rfl fun j u v e1 e2=>by
   match j with
   | 0=>cases e1; cases e2; exact .refl _
   | 1=>cases e1; cases e2; exact .refl _
   | 2=>cases e1; cases e2; exact .refl _
   | 3=>cases e1; cases e2; exact JF l18 rfl
   | 4=>cases e1; cases e2; exact JF l12 rfl
   | j+5=>cases e1
 simp -implicitDefEqProofs -proj only [go_sem,seval]
 have hs:((⟨⟨[98]⟩⟩:ByteArray).toList == (⟨⟨[98]⟩⟩:ByteArray).toList)=true:=by decide +kernel
 iterate 4 (refine EG _ (by decide) rfl ?_; simp -implicitDefEqProofs -proj only [go_sem,seval,Ig,hs,l2])
 exact AJ rfl
theorem Qo {l:List MeterX} {m:MeterX} (h:m∈l):HZ l m.nm=true:=List.any_eq_true.2 ⟨m,h,by simp⟩
theorem AH3 {l:List MeterX} {m o:MeterX} (h:o∈l) (e:o.nm=m.nm):HZ l m.nm=true:=List.any_eq_true.2 ⟨o,h,by simp [e]⟩
theorem ABR {a b:CoreX} (ha:a.Fit) (hb:b.Fit) (g:¬(fitsC a∧fitsC b)):DataW Try.prog Pw [Gm a,Gm b] (.tup [Gf ⟨⟨[]⟩⟩ 0 0 [] [],Gf ⟨⟨[]⟩⟩ 0 0 [] [],bv false]):=by
 have fa:=Lj ha
 have fb:=Lj hb
 have fin:∀H:Heap,LendV H (.tup [.agg [.d (.str ⟨⟨[]⟩⟩),i64 0,i64 0,.nilsl 5,.nilsl 4],.agg [.d (.str ⟨⟨[]⟩⟩),i64 0,i64 0,.nilsl 5,.nilsl 4],bv false]) (.tup [Gf ⟨⟨[]⟩⟩ 0 0 [] [],Gf ⟨⟨[]⟩⟩ 0 0 [] [],bv false]):=fun H=>.tupL (Hs (MH (.nilsl _ _) (.nilsl _ _)) (Hs (MH (.nilsl _ _) (.nilsl _ _)) (Hs (.refl _) K3)))
 refine Am QY (by simp) ?_
 simp -implicitDefEqProofs -proj only [go_sem,seval]
 refine AN (fun b1 hb1=>?_)
 simp -implicitDefEqProofs -proj only [go_sem,seval]
 refine AN (fun b2 hb2=>?_)
 replace hb2:upd Heap.none b1 _ b2=none:=hb2
 obtain ⟨n1,n2⟩:=Ac hb2 Ad
 simp -implicitDefEqProofs -proj only [go_sem,seval,n1,n2]
 refine AN (fun b3 hb3=>?_)
 have h31:¬b3=b1:=by rintro rfl; simp [AL,n1,n2] at hb3
 have h32:¬b3=b2:=by rintro rfl; simp [AL,n1,n2] at hb3
 have h13:¬b1=b3:=fun e=>h31 e.symm
 have h23:¬b2=b3:=fun e=>h32 e.symm
 simp -implicitDefEqProofs -proj only [go_sem,seval,n1,n2,h31,h32,h13,h23]
 refine AN (fun b4 hb4=>?_)
 have h41:¬b4=b1:=by rintro rfl; simp [AL,n1,n2,h31,h32] at hb4
 have h42:¬b4=b2:=by rintro rfl; simp [AL,n1,n2,h31,h32] at hb4
 have h43:¬b4=b3:=by rintro rfl; simp [AL] at hb4
 have h14:¬b1=b4:=fun e=>h41 e.symm
 have h24:¬b2=b4:=fun e=>h42 e.symm
 have h34:¬b3=b4:=fun e=>h43 e.symm
 simp -implicitDefEqProofs -proj only [go_sem,seval,n1,n2,h31,h32,h13,h23,h41,h42,h43,h14,h24,h34]
 refine AH fa ?_
 by_cases ga:fitsC a
 ·simp -implicitDefEqProofs -proj only [go_sem,seval,decide_eq_true ga,n1,n2,h31,h32,h13,h23,h41,h42,h43,h14,h24,h34]
  refine AH fb ?_
  simp -implicitDefEqProofs -proj only [go_sem,seval,decide_eq_false (fun k=>g ⟨ga,k⟩),n1,n2,h31,h32,h13,h23,h41,h42,h43,h14,h24,h34]
  exact fin _
 ·simp -implicitDefEqProofs -proj only [go_sem,seval,decide_eq_false ga,n1,n2,h31,h32,h13,h23,h41,h42,h43,h14,h24,h34]
  exact fin _
theorem AE3 {l:List MeterX} (h:l.Pairwise MM) {i:Nat} (hi:i+1<l.length):Op.bytesLess l[i].nm.toList l[i+1].nm.toList=true:=(List.pairwise_iff_getElem.1 h) i (i+1) (by omega) hi (by omega)
theorem PairMeters_ok {a b:CoreX} (ha:a.Fit) (hb:b.Fit):DataW Try.prog AHX [Gm a,Gm b] (bv true):=by
 refine Am SG (by simp) ?_
 simp -implicitDefEqProofs -proj only [go_sem,seval]
 refine AN (fun b2 hb2=>?_)
 simp -implicitDefEqProofs -proj only [go_sem,seval]
 refine AN (fun b3 hb3=>?_)
 replace hb3:upd Heap.none b2 _ b3=none:=hb3
 obtain ⟨n1,n2⟩:=Ac hb3 Ad
 simp -implicitDefEqProofs -proj only [go_sem,seval,n1,n2]
 refine AH R5 ?_
 simp -implicitDefEqProofs -proj only [go_sem,seval,n1,n2]
 by_cases g:fitsC a∧fitsC b
 rotate_left
 ·refine AH (ABR ha hb g) ?_
  simp -implicitDefEqProofs -proj only [go_sem,seval,n1,n2]
  refine AN (fun b5 hb5=>?_)
  simp -implicitDefEqProofs -proj only [go_sem,seval]
  refine AN (fun b6 hb6=>?_)
  replace hb6:upd (upd (upd Heap.none b2 _) b3 _) b5 _ b6=none:=hb6
  obtain ⟨m1,m2⟩:=Ac hb6 Ad
  simp -implicitDefEqProofs -proj only [go_sem,seval,m1,m2]
  exact AJ rfl
 obtain ⟨ga,gb⟩:=g
 have hA:a.ms.length≤4:=ga.good.hd.2.2.2.1
 have hB:b.ms.length≤4:=gb.good.hd.2.2.2.1
 have hfo:=ABJ ha hb ga gb
 have hme:=QT (cu:=a.cur) (cu':=b.cur) (f:=a.f) (t:=a.t) (f':=b.f) (t':=b.t) (S:=Ip a) (S':=Ip b) (A:=a.ms) (B:=b.ms) (by omega) (by omega)
 obtain ⟨f1,f2,f3⟩:=O0 a.ms b.ms
 have hbl:=NC a.ms b.ms
 generalize Gd a.ms b.ms=l at *
 generalize Ip a=Sa at *
 generalize Ip b=Sb at *
 refine AH hfo ?_
 simp -implicitDefEqProofs -proj only [go_sem,seval,n1,n2]
 refine AN (fun b5 hb5=>?_)
 simp -implicitDefEqProofs -proj only [go_sem,seval]
 refine AN (fun b6 hb6=>?_)
 replace hb6:upd (upd (upd Heap.none b2 _) b3 _) b5 _ b6=none:=hb6
 obtain ⟨m1,m2⟩:=Ac hb6 Ad
 simp -implicitDefEqProofs -proj only [go_sem,seval,m1,m2]
 refine AH hme ?_
 simp -implicitDefEqProofs -proj only [go_sem,seval,m1,m2,Gj]
 refine EN (fun i:Nat=>i≤l.length) 83 (fun i=>[(5,.ptr b5 0),(6,.ptr b6 0),(8,.d (.sl 5 (AS l))),(27,.d (.sl 5 (AS l))),(28,i64 l.length),(29,i64 i)]) (fun _=>[(b6,FK b.cur b.f b.t b.ms Sb),(b5,FK a.cur a.f a.t a.ms Sa)]) (fun i=>l.length-i) 0 (Nat.zero_le _) rfl ?_ ?_ ?_
 ·simp -implicitDefEqProofs -proj only [go_sem,seval,AK]
  try rfl
 ·refine ⟨Ad,?_,trivial⟩
  simp -implicitDefEqProofs -proj only [go_sem,seval,m1,m2]
 intro i hi
 have hall:AR (Ak [(b6,FK b.cur b.f b.t b.ms Sb),(b5,FK a.cur a.f a.t a.ms Sa)]) [(b6,FK b.cur b.f b.t b.ms Sb),(b5,FK a.cur a.f a.t a.ms Sa)]:=EZ (by simp [AP,m1])
 obtain ⟨k6,k5,_⟩:=id hall
 by_cases h:i<l.length
 ·have hel:=Hf h
  have hmem:=f2 _ (List.getElem_mem h)
  have hlt:0<i→∃(hj:i-1<l.length),Op.bytesLess (l[i-1]'hj).nm.toList l[i].nm.toList=true:=fun h0=>by
   have:=AE3 f1 (i:=i-1) (by omega)
   refine ⟨by omega,?_⟩
   simpa only [show i-1+1=i by omega] using this
  have hnA:=Nm (l:=a.ms) (nm:=l[i].nm) (by omega)
  have hnB:=Nm (l:=b.ms) (nm:=l[i].nm) (by omega)
  have hor:HZ a.ms l[i].nm=false→HZ b.ms l[i].nm=true:=fun e=>by
   rcases hmem with hm | hm
   ·rw [Qo hm] at e; cases e
   ·exact Qo hm
  generalize hx:l[i]=m at *
  simp -implicitDefEqProofs -proj only [go_sem,seval,decide_eq_true (show (i:Int)<l.length by omega)]
  refine EG _ (by omega) hel ?_
  simp -implicitDefEqProofs -proj only [go_sem,seval]
  refine AN (fun b10 hb10=>?_)
  obtain ⟨x1,x2⟩:=Ac hb10 k6
  obtain ⟨x3,x4⟩:=Ac hb10 k5
  have hnext:AR (upd (Ak [(b6,FK b.cur b.f b.t b.ms Sb),(b5,FK a.cur a.f a.t a.ms Sa)]) b10 (some (Gt m))) [(b6,FK b.cur b.f b.t b.ms Sb),(b5,FK a.cur a.f a.t a.ms Sa)]:=Ar hb10 hall
  by_cases h0:0<i
  ·obtain ⟨hj,hlt⟩:=hlt h0
   have hel2:=Hf hj
   have hw:IntKind.i64.wrap ((i:Int)-1)=((i-1:Nat):Int):=by rw [IntKind.wrap_i64]; omega
   simp -implicitDefEqProofs -proj only [go_sem,seval,decide_eq_true (show (0:Int)<(i:Int) by omega),hw,x1,x2,x3,x4,m1,m2]
   refine EG _ (by omega) hel2 ?_
   simp -implicitDefEqProofs -proj only [go_sem,seval,J0,hlt,x1,x2,x3,x4,m1,m2]
   refine AH hnA ?_
   cases e:HZ a.ms m.nm
   ·simp -implicitDefEqProofs -proj only [go_sem,seval,x1,x2,x3,x4,m1,m2]
    refine AH hnB ?_
    simp -implicitDefEqProofs -proj only [go_sem,seval,hor e,x1,x2,x3,x4,m1,m2]
    refine AX (i+1) (by show i+1≤l.length; omega) (by show l.length-(i+1)<l.length-i; omega) rfl ?_ hnext
    simp -implicitDefEqProofs -proj only [go_sem,seval,AK,Ab (show i<9223372036854775807 by omega)]
   ·simp -implicitDefEqProofs -proj only [go_sem,seval,x1,x2,x3,x4,m1,m2]
    refine AX (i+1) (by show i+1≤l.length; omega) (by show l.length-(i+1)<l.length-i; omega) rfl ?_ hnext
    simp -implicitDefEqProofs -proj only [go_sem,seval,AK,Ab (show i<9223372036854775807 by omega)]
  ·simp -implicitDefEqProofs -proj only [go_sem,seval,decide_eq_false (show ¬(0:Int)<(i:Int) by omega),x1,x2,x3,x4,m1,m2]
   refine AH hnA ?_
   cases e:HZ a.ms m.nm
   ·simp -implicitDefEqProofs -proj only [go_sem,seval,x1,x2,x3,x4,m1,m2]
    refine AH hnB ?_
    simp -implicitDefEqProofs -proj only [go_sem,seval,hor e,x1,x2,x3,x4,m1,m2]
    refine AX (i+1) (by show i+1≤l.length; omega) (by show l.length-(i+1)<l.length-i; omega) rfl ?_ hnext
    simp -implicitDefEqProofs -proj only [go_sem,seval,AK,Ab (show i<9223372036854775807 by omega)]
   ·simp -implicitDefEqProofs -proj only [go_sem,seval,x1,x2,x3,x4,m1,m2]
    refine AX (i+1) (by show i+1≤l.length; omega) (by show l.length-(i+1)<l.length-i; omega) rfl ?_ hnext
    simp -implicitDefEqProofs -proj only [go_sem,seval,AK,Ab (show i<9223372036854775807 by omega)]
 ·simp -implicitDefEqProofs -proj only [go_sem,seval,decide_eq_false (show ¬(i:Int)<l.length by omega),m1,m2]
  refine Mu (ds:=[]) rfl (fun bs hs=>?_)
  simp -implicitDefEqProofs -proj only [go_sem,seval]
  refine LB (xs:=[]) (by exact Ad) rfl (by rfl) (by rw [Gj]; constructor <;> simp [maxLen] <;> omega) (fun bm capm H1 hm hfr=>?_)
  simp -implicitDefEqProofs -proj only [go_sem,seval]
  refine LB (xs:=[]++AS a.ms) hm (by simp) (by rfl) (by rw [List.nil_append,Gj,Gj]; (simp -implicitDefEqProofs only [maxLen]; first | done | omega)) (fun bn capn H2 hn hfr2=>?_)
  clear hfr hfr2 hm
  have hrow:[]++AS a.ms++AS b.ms=AS (a.ms++b.ms):=by rw [List.nil_append,QP]
  have hln:(AS a.ms).length+(AS b.ms).length=(a.ms++b.ms).length:=by rw [Gj,Gj,List.length_append]
  rw [hrow] at hn
  rw [hln]
  have hin:∀m∈a.ms++b.ms,HZ l m.nm=true:=fun m hm=>by
   obtain ⟨y,hy,e⟩:=f3 m (List.mem_append.1 hm)
   exact AH3 hy e
  have hL8:(a.ms++b.ms).length≤8:=by rw [List.length_append]; omega
  generalize a.ms++b.ms=L at *
  simp -implicitDefEqProofs -proj only [go_sem,seval]
  refine EN (fun j:Nat=>j≤L.length) 83 (fun j=>[(8,.d (.sl 5 (AS l))),(71,.own bn 5 0 L.length capn),(72,i64 L.length),(73,i64 j)]) (fun _=>[(bn,.row 39 5 capn (AS L))]) (fun j=>L.length-j) 0 (Nat.zero_le _) rfl ?_ ⟨hn,trivial⟩ ?_
  ·simp -implicitDefEqProofs -proj only [go_sem,seval,AK]
   try rfl
  intro j hj
  have hall2:AR (Ak [(bn,.row 39 5 capn (AS L))]) [(bn,.row 39 5 capn (AS L))]:=EZ (by simp [AP])
  obtain ⟨kn,_⟩:=id hall2
  by_cases hjl:j<L.length
  ·have hel:=Hf hjl
   have hnm:=Nm (l:=l) (nm:=L[j].nm) (by omega)
   rw [hin _ (List.getElem_mem hjl)] at hnm
   generalize L[j]=m at *
   rw [Int.toNat_natCast] at hel
   simp -implicitDefEqProofs -proj only [go_sem,seval,decide_eq_true (show (j:Int)<L.length by omega),Int.toNat_natCast,Nat.zero_add]
   refine Aq (by omega) (fun _=>?_)
   refine EX _ hel (by simp) ?_
   simp -implicitDefEqProofs -proj only [go_sem,seval]
   refine AN (fun b12 hb12=>?_)
   simp -implicitDefEqProofs -proj only [go_sem,seval]
   refine AH hnm ?_
   simp -implicitDefEqProofs -proj only [go_sem,seval]
   refine AX (j+1) (by show j+1≤L.length; omega) (by show L.length-(j+1)<L.length-j; omega) rfl ?_ (Ar hb12 hall2)
   simp -implicitDefEqProofs -proj only [go_sem,seval,AK,Ab (show j<9223372036854775807 by omega)]
  ·simp -implicitDefEqProofs -proj only [go_sem,seval,decide_eq_false (show ¬(j:Int)<L.length by omega)]
   exact AJ rfl
end Go.Proofs.Ytmhmmomnfbfkiaa.Abs
