/- Contracts of the machine and the contracts of one law (joined by kmerge.py). No claim stands here. -/
import Derived.Below
import Derived.Carry
import Derived.ChangeCalls
import Derived.ChangeOld
import Derived.IntWalk
import Derived.KernelRfl
import Derived.Laws.Append
import Derived.Laws.AppendOwn
import Derived.Laws.Cells
import Derived.Laws.CopyRow
import Derived.Laws.Entries
import Derived.Laws.MakeOwn
import Derived.Laws.NewFold
import Derived.Laws.Rows
import Derived.Laws.StructEq
import Derived.OpenShut
import Derived.Orders
import Derived.OrdersIn
import Derived.ProofKit
import Derived.RangeFuncLeaves
import Derived.RangeFuncSeq
import Derived.SizedLaws
import Derived.TacticsIn
import Derived.WalkKit
import Derived.Test.YtbihahpaalcjjaaGreatMaf
set_option maxRecDepth 100000
set_option linter.unusedSimpArgs false
set_option linter.unusedVariables false
namespace Go.Proofs.YtbihahpaalcjjaaGreat.Abs
open Go Go.RowKit Go.Proofs
attribute [local go_sem] Ci Cq Ck Cf Bv EH Dv Al As Bx Ce Dp DS CM Do Cj Ba CK Bq DU D7 Dj CH DJ CI DD C5 Dc EF CU C2 DI Ct CW Dy DG DH CB Cz Bg Bd B0 Cs Bi C0 B9 CQ CZ Cr D1 Dg Db Cc CR C7 Cy Dx Dh Bl Cn EC C4 De C8 D0 D6 C9 DN Di B3 CE BO Dl Cx BT CL CY BF Ca Bk CD C6 CA DR DT Bw DF EE B1 DM Cg Dt CO DC Cb C1 BS CV BW BD CX DZ Bc AM ev Am A0 Ax BP A8 Dr EA Da D3 Aq Av Bz Cm By Bs D4 Dn D5 CG CS Bo D2 DX CJ DK Cl DL Be C3 DQ B7 Ch Ds Df Aj setSeg nth seg mapD Aw BC AX BG D8 Du Ar Ag cond_true cond_false Bh BL BQ BH BY Dz Bt List.cons_append List.nil_append Bool.not_true Bool.not_false Bool.and_true Bool.and_self Nat.lt_add_left_iff_pos Nat.zero_add Nat.add_zero List.drop_succ_cons List.drop_zero List.take_succ_cons List.take_zero beq_self_eq_true Bool.false_eq_true Bp EB Dd CN B8 DE CF CT DA A6 and_self and_true true_and Bm DO Bj Cp B2 DV Co Bn D9 Bb Dk CC Dq DW ED Dm DP Ay A7 A9 Ap DB Bu Bf EG BZ Br List.length_cons List.length_nil Nat.min_def Int.cast_ofNat_Int Int.natCast_zero Int.natCast_one decide_true decide_false List.getElem?_cons_zero List.getElem?_cons_succ Cu Cd CP Dw Cw Cv
def Is (f t:Int):PartX:=⟨0,f,t,0,1,1,[⟨0,2000000⟩],0,[]⟩
def core18:CoreX:=⟨⟨⟨[]⟩⟩,0,9,[⟨⟨⟨[109]⟩⟩,⟨⟨[]⟩⟩,3,0,0⟩],[],[Is 2 4,Is 5 9]⟩
theorem Mk {x:PartX} (h:x∈core18.ps):x=Is 2 4∨x=Is 5 9:=by
 rw [show core18.ps=[Is 2 4,Is 5 9] from rfl,List.mem_cons,List.mem_singleton] at h
 exact h
theorem QO {f t:Int} (hf:Fit f) (ht:Fit t):(Is f t).Fit:=by
 refine ⟨by show Fit 0; decide,hf,ht,by show Fit 0; decide,by show Fit 1; decide,by show Fit 1; decide,?_,by show (1:Nat)≤_; decide,by show Fit 0; decide,?_,by show (0:Nat)≤_; decide⟩
 ·intro a h
  rw [show (Is f t).ts=[⟨0,2000000⟩] from rfl,List.mem_singleton] at h
  subst h
  exact ⟨by decide,by decide⟩
 ·intro a h
  cases h
theorem AFa:core18.Fit:=by
 refine ⟨by decide,by decide,?_,by decide,?_,by decide,?_,by decide⟩
 ·intro a h
  rw [show core18.ms=[⟨⟨⟨[109]⟩⟩,⟨⟨[]⟩⟩,3,0,0⟩] from rfl,List.mem_singleton] at h
  subst h
  exact ⟨by decide,by decide,by decide⟩
 ·intro a h
  cases h
 ·intro a h
  rcases Mk h with rfl | rfl
  ·exact QO (by decide) (by decide)
  ·exact QO (by decide) (by decide)
theorem NH:goodC core18:=by
 refine ⟨by unfold Ju; decide,?_,?_,?_⟩
 ·intro i h
  have:i=0:=by have:i<1:=h; omega
  subst this
  exact ⟨by decide +revert,by decide +revert,by decide +revert,fun p _ h=>absurd h (Nat.lt_irrefl _)⟩
 ·intro a h
  cases h
 ·intro a h
  have ht:∀(i:Nat) (h:i<1),GS [⟨0,2000000⟩] i ([⟨0,2000000⟩][i]'h):=by
   intro i h
   have:i=0:=by omega
   subst this
   unfold GS
   decide +revert
  rcases Mk h with rfl | rfl
  ·exact ⟨by unfold Hz; decide,ht,fun a h=>by cases h⟩
  ·exact ⟨by unfold Hz; decide,ht,fun a h=>by cases h⟩
theorem Qz (q:Nat) (h:q<4):GW (Is 2 4) q=some ((2*q:Nat):Int)∧GW (Is 5 9) q=some ((2*q:Nat):Int):=by
 have:q=0∨q=1∨q=2∨q=3:=by omega
 rcases this with rfl | rfl | rfl | rfl <;> decide +kernel
theorem OQ:fitsC core18:=by
 refine ⟨?_,NH,?_,?_⟩
 ·rintro (h | ⟨m,hm,h⟩ | ⟨x,hx,h⟩)
  ·revert h; decide
  ·rw [show core18.ms=[⟨⟨⟨[109]⟩⟩,⟨⟨[]⟩⟩,3,0,0⟩] from rfl,List.mem_singleton] at hm
   subst hm
   revert h; unfold K5; decide
  ·rcases Mk hx with rfl | rfl
   ·revert h; unfold KZ; decide
   ·revert h; unfold KZ; decide
 ·intro x hx q hq
  rcases Mk hx with rfl | rfl
  ·have hq:q<4:=hq
   exact ⟨_,(Qz q hq).1,by omega,by omega⟩
  ·have hq:q<4:=hq
   exact ⟨_,(Qz q hq).2,by omega,by omega⟩
 ·intro i hi
  have hi:i≤2:=hi
  have:i=0∨i=1∨i=2:=by omega
  rcases this with rfl | rfl | rfl <;> decide +kernel
def Ln:List (Seg EU):=[⟨0,1,(0,[[0,0,0,0]])⟩,⟨2,9,(0,[[0,2,4,6]])⟩]
theorem ASj {d:Int} (h0:0≤d) (h1:d≤1):Ed core18 d=(0,[[0,0,0,0]]):=by
 have:d=0∨d=1:=by omega
 rcases this with rfl | rfl <;> decide +kernel
theorem AQ5 {d:Int} (h0:2≤d) (h1:d≤9):Ed core18 d=(0,[[0,2,4,6]]):=by
 have:d=2∨d=3∨d=4∨d=5∨d=6∨d=7∨d=8∨d=9:=by omega
 rcases this with rfl | rfl | rfl | rfl | rfl | rfl | rfl | rfl <;> decide +kernel
theorem AUn:¬((0,[[0,0,0,0]]):EU)=(0,[[0,2,4,6]]):=fun e=>by
 have:=congrArg (fun v:EU=>v.2) e
 revert this
 decide
theorem Wv {val:Int→EU} (ha:∀x,0≤x→x≤1→val x=(0,[[0,0,0,0]])) (hb:∀x,2≤x→x≤9→val x=(0,[[0,2,4,6]])):FwdB val 0 10 Ln:=by
 unfold Ln
 refine ⟨rfl,by show (0:Int)≤1; decide,fun x a b=>ha x a b,fun s hs=>?_,rfl,by show (2:Int)≤9; decide,fun x a b=>hb x a b,?_,rfl⟩
 ·cases hs
  exact AUn
 ·intro s hs
  cases hs
theorem ATN {c:CoreX} (hg:goodC c) {lo hi:Int} (e1:c.f=lo) (e2:c.t+1=hi) {S:List (Seg EU)} (h:FwdB (Ed c) lo hi S):El c=S:=by
 subst e1; subst e2
 exact FwdB.canon (KL hg) h
theorem AGa:El core18=Ln:=ATN NH (lo:=0) (hi:=10) rfl (by decide) (Wv (fun x a b=>ASj a b) (fun x a b=>AQ5 a b))
theorem AMT:ES [0,0,0,0]=[⟨0,0,0,0,1⟩]:=by decide +kernel
theorem XI:ES [0,2,4,6]=[⟨0,0,1,2,4⟩]:=by decide +kernel
theorem AM7:Ao Ln=[[.int .i64 0,.int .i64 1,.int .i64 0,.sl 2 [[.int .i64 3,.sl 5 [[.int .i64 0,.int .i64 0,.int .i64 0,.int .i64 0,.int .i64 1]]]]],[.int .i64 2,.int .i64 9,.int .i64 0,.sl 2 [[.int .i64 3,.sl 5 [[.int .i64 0,.int .i64 0,.int .i64 1,.int .i64 2,.int .i64 4]]]]]]:=by
 simp [Ao,JP,Ln,Ai,G8,AMT,XI,BA,Grp.el]
theorem JJ {c:CoreX} (hf:fitsC c):∀s∈El c,Ie s:=by
 intro s hs
 obtain ⟨i,hi,rfl⟩:=List.getElem_of_mem hs
 obtain ⟨_,h2,_,h4,_⟩:=(KL hf.good).nth i _ (List.getElem?_eq_getElem hi)
 have:=h4 _ (Int.le_refl _) h2
 obtain ⟨_,_,_,g6,_⟩:=hf.good.hd
 refine ⟨fun l hl=>?_,?_⟩
 ·rw [←this] at hl; exact LF hf _ l hl
 ·rw [←this]; show (Eb c _ c.ms.length).length≤1000000; rw [Hq]; omega
theorem I6 {c:CoreX} (hg:goodC c):(El c).length≤1000000:=by
 have h:=(KL hg).len
 have:=hg.hd.2.2.1
 omega
theorem Pn:∀a:List MeterX,F9 a a=true
 | []=>rfl
 | x::a=>by simp [F9,mq,Pn a]
theorem AQs {H:Heap} {cur:ByteArray} {f t:Int} {a b c:AV} {ms ss ps:List (List D)} (h1:LendV H a (.d (.sl 5 ms))) (h2:LendV H b (.d (.sl 3 ss))) (h3:LendV H c (.d (.sl 9 ps))):LendV H (.agg [.d (.str cur),i64 f,i64 t,a,b,c]) (Kv cur f t ms ss ps):=by
 refine .agg _ _ rfl fun j u v e1 e2=>?_
 match j with
 | 0=>cases e1; cases e2; exact .refl _
 | 1=>cases e1; cases e2; exact .refl _
 | 2=>cases e1; cases e2; exact .refl _
 | 3=>cases e1; cases e2; exact h1
 | 4=>cases e1; cases e2; exact h2
 | 5=>cases e1; cases e2; exact h3
 | j+6=>cases e1
open Classical in
theorem Nx:DataW Tryz.prog ATm [] (bv true):=by
 have h1:=PZ AFa OQ
 have h2:=Qy (cu:=core18.cur) (cu':=core18.cur) (f:=core18.f) (t:=core18.t) (f':=core18.f) (t':=core18.t) (ms:=core18.ms) (ms':=core18.ms) (S:=El core18) (S':=El core18) (by decide) (by decide) (JJ OQ) (JJ OQ) (I6 NH) (I6 NH)
 rw [AGa] at h1 h2
 simp -implicitDefEqProofs only [Pn,decide_true,beq_self_eq_true,Bool.and_self,IF,Gk,AM7] at h1 h2
 refine Aa Zw (by simp) ?_
 simp -implicitDefEqProofs -proj only [go_sem,seval]
 refine An (fun b6 h6=>?_)
 simp -implicitDefEqProofs -proj only [go_sem,seval]
 refine AK (fun b1 hb1=>?_)
 replace hb1:upd Heap.none b6 (some _) b1=none:=hb1
 obtain ⟨n1,n2⟩:=AH hb1 AQ
 simp -implicitDefEqProofs -proj only [go_sem,seval,n1,n2]
 refine AK (fun b2 hb2=>?_)
 replace hb2:upd (upd Heap.none b6 (some _)) b1 _ b2=none:=hb2
 obtain ⟨n3,n4⟩:=AH hb2 AQ
 obtain ⟨n5,n6⟩:=AH hb2 (by rw [AE n1]; exact AQ)
 simp -implicitDefEqProofs -proj only [go_sem,seval,n1,n2,n3,n4,n5,n6]
 refine An (fun b13 h13=>?_)
 replace h13:upd (upd (upd Heap.none b6 (some _)) b1 _) b2 _ b13=none:=h13
 obtain ⟨n7,n8⟩:=AH h13 AQ
 obtain ⟨n9,n10⟩:=AH h13 (by rw [AE n3]; exact AQ)
 obtain ⟨n11,n12⟩:=AH h13 (by rw [AE n5,AE n1]; exact AQ)
 simp -implicitDefEqProofs -proj only [go_sem,seval,n1,n2,n3,n4,n5,n6,n7,n8,n9,n10,n11,n12]
 refine An (fun b16 h16=>?_)
 obtain ⟨H0,hH0⟩:∃H0,upd (upd (upd (upd (upd Heap.none b6 (some (.row 63 2 1 [[.int .i64 0,.int .i64 2000000]]))) b1 (some (.box 40 [zI,i64 2,i64 4,zI,i64 1,i64 1,.own b6 2 0 1 1,zI,.nilsl 3]))) b2 (some (.box 40 [zI,i64 5,i64 9,zI,i64 1,i64 1,.own b6 2 0 1 1,zI,.nilsl 3]))) b13 (some (.row 42 5 1 [[.str ⟨⟨[109]⟩⟩,.str ⟨⟨[]⟩⟩,.int .i64 3,.int .i64 0,.int .i64 0]]))) b6 none=H0:=⟨_,rfl⟩
 have q13:H0 b13=some (.row 42 5 1 [[.str ⟨⟨[109]⟩⟩,.str ⟨⟨[]⟩⟩,.int .i64 3,.int .i64 0,.int .i64 0]]):=by
  rw [←hH0,AE n12]; exact AQ
 replace h16:H0 b16=none:=by rw [←hH0]; exact h16
 obtain ⟨m1,m2⟩:=AH h16 q13
 have r13:=Ak (y:=some (.row 40 9 2 [[.int .i64 0,.int .i64 2,.int .i64 4,.int .i64 0,.int .i64 1,.int .i64 1,.sl 2 [[.int .i64 0,.int .i64 2000000]],.int .i64 0,.sl 3 []],[.int .i64 0,.int .i64 5,.int .i64 9,.int .i64 0,.int .i64 1,.int .i64 1,.sl 2 [[.int .i64 0,.int .i64 2000000]],.int .i64 0,.sl 3 []]])) h16 (show AU H0 [(b13,_)] from ⟨q13,trivial⟩)
 have a16:AU (upd H0 b16 (some (.row 40 9 2 [[.int .i64 0,.int .i64 2,.int .i64 4,.int .i64 0,.int .i64 1,.int .i64 1,.sl 2 [[.int .i64 0,.int .i64 2000000]],.int .i64 0,.sl 3 []],[.int .i64 0,.int .i64 5,.int .i64 9,.int .i64 0,.int .i64 1,.int .i64 1,.sl 2 [[.int .i64 0,.int .i64 2000000]],.int .i64 0,.sl 3 []]]))) ((b16,_)::[(b13,_)]):=⟨AQ,r13⟩
 have hnd:(AN [(b16,Blk.row 40 9 2 [[.int .i64 0,.int .i64 2,.int .i64 4,.int .i64 0,.int .i64 1,.int .i64 1,.sl 2 [[.int .i64 0,.int .i64 2000000]],.int .i64 0,.sl 3 []],[.int .i64 0,.int .i64 5,.int .i64 9,.int .i64 0,.int .i64 1,.int .i64 1,.sl 2 [[.int .i64 0,.int .i64 2000000]],.int .i64 0,.sl 3 []]]),(b13,.row 42 5 1 [[.str ⟨⟨[109]⟩⟩,.str ⟨⟨[]⟩⟩,.int .i64 3,.int .i64 0,.int .i64 0]])]).Nodup:=by simp [AN,m1]
 have hk:=EQ hnd
 simp -implicitDefEqProofs -proj only [go_sem,seval,hH0]
 refine V9 h1 (Gb (AQs (KX hk.2.1 rfl) (.nilsl _ _) (KX hk.1 rfl)) IO) (Kg a16) (fun k=>.inl (Heap.none_get k)) ?_
 simp -implicitDefEqProofs -proj only [go_sem,seval]
 refine AK (fun b3 hb3=>?_)
 simp -implicitDefEqProofs -proj only [go_sem,seval]
 iterate 6 (refine Ah _ (by decide) rfl ?_; simp -implicitDefEqProofs -proj only [go_sem,seval])
 refine AJ h2 ?_
 simp -implicitDefEqProofs -proj only [go_sem,seval]
 exact AI rfl
open Classical in
theorem AYU {cu cu':ByteArray} {f t f' t':Int} {ms ms':List MeterX} {S S':List (Seg EU)} (hm:ms.length≤1000000) (hm':ms'.length≤1000000) (hS:∀s∈S,Ie s) (hS':∀s∈S',Ie s) (hl:S.length≤1000000) (hl':S'.length≤1000000):DataW Tryz.prog Tg [IF cu f t ms S,IF cu' f' t' ms' S'] (bv ((cu.toList == cu'.toList)&&(decide (f=f')&&(decide (t=t')&&(F9 ms ms'&&decide (S=S')))))):=by
 refine Aa XQ (by simp) ?_
 simp -implicitDefEqProofs -proj only [go_sem,seval]
 refine AK (fun b2 hb2=>?_)
 simp -implicitDefEqProofs -proj only [go_sem,seval]
 refine AK (fun b3 hb3=>?_)
 replace hb3:upd Heap.none b2 _ b3=none:=hb3
 obtain ⟨n1,n2⟩:=AH hb3 AQ
 cases c1:cu.toList == cu'.toList
 ·simp -implicitDefEqProofs -proj only [go_sem,seval,n1,n2,Ky,c1]
  exact AI (by simp)
 by_cases hf:f=f'
 rotate_left
 ·simp -implicitDefEqProofs -proj only [go_sem,seval,n1,n2,Ky,c1,decide_eq_false hf]
  exact AI (by simp)
 by_cases ht:t=t'
 rotate_left
 ·simp -implicitDefEqProofs -proj only [go_sem,seval,n1,n2,Ky,c1,decide_eq_true hf,decide_eq_false ht]
  exact AI (by simp)
 by_cases h3:ms.length=ms'.length
 rotate_left
 ·rw [PF h3]
  simp -implicitDefEqProofs -proj only [go_sem,seval,n1,n2,Ky,c1,decide_eq_true hf,decide_eq_true ht,FA,decide_eq_false (show ¬(ms.length:Int)=ms'.length by omega)]
  exact AI (by simp)
 by_cases h4:S.length=S'.length
 rotate_left
 ·rw [decide_eq_false (show ¬S=S' from fun e=>h4 (by rw [e]))]
  simp -implicitDefEqProofs -proj only [go_sem,seval,n1,n2,Ky,c1,decide_eq_true hf,decide_eq_true ht,FA,Gj,decide_eq_true (show (ms.length:Int)=ms'.length by omega),decide_eq_false (show ¬(S.length:Int)=S'.length by omega)]
  exact AI (by simp)
 rw [decide_eq_true hf,decide_eq_true ht]
 simp -implicitDefEqProofs only [Bool.true_and]
 have hk:AU (Ae [(b3,Eg cu' f' t' ms' S'),(b2,Eg cu f t ms S)]) [(b3,Eg cu' f' t' ms' S'),(b2,Eg cu f t ms S)]:=EQ (by simp [AN,n1])
 obtain ⟨k3,k2,_⟩:=id hk
 simp -implicitDefEqProofs only [Eg] at k3 k2
 simp -implicitDefEqProofs -proj only [go_sem,seval,n1,n2,Ky,c1,decide_eq_true hf,decide_eq_true ht,FA,Gj,decide_eq_true (show (ms.length:Int)=ms'.length by omega),decide_eq_true (show (S.length:Int)=S'.length by omega)]
 refine BE (fun i:Nat=>i≤ms.length∧F9 (ms.drop i) (ms'.drop i)=F9 ms ms') 111 (fun i=>[(2,.ptr b2 0),(3,.ptr b3 0),(46,i64 ms.length),(47,i64 i)]) (fun _=>[(b3,Eg cu' f' t' ms' S'),(b2,Eg cu f t ms S)]) (fun i=>ms.length-i) 0 ⟨Nat.zero_le _,by simp⟩ rfl ?_ ?_ ?_
 ·simp -implicitDefEqProofs -proj only [go_sem,seval,AL]
 ·exact ⟨AQ,(AE n1).trans AQ,trivial⟩
 ·rintro i ⟨hi,hat⟩
  simp -implicitDefEqProofs only [Eg]
  by_cases h:i<ms.length
  ·have h':i<ms'.length:=by omega
   have e1:=HS h
   have e2:=HS h'
   rw [List.drop_eq_getElem_cons h,List.drop_eq_getElem_cons h',F9] at hat
   generalize ms[i]=x at *
   generalize ms'[i]=y at *
   simp -implicitDefEqProofs -proj only [go_sem,seval,k3,k2,n1,n2,decide_eq_true (show (i:Int)<ms.length by omega)]
   refine Ah _ (by omega) e1 ?_
   simp -implicitDefEqProofs -proj only [go_sem,seval,k3,k2,n1,n2]
   refine Ah _ (by omega) e2 ?_
   cases hp:mq x y
   ·rw [hp,Bool.false_and] at hat
    unfold mq at hp
    simp -implicitDefEqProofs -proj only [go_sem,seval,hp]
    rw [←hat]
    exact AI rfl
   ·rw [hp,Bool.true_and] at hat
    unfold mq at hp
    simp -implicitDefEqProofs -proj only [go_sem,seval,hp]
    refine AZ (i+1) ⟨by omega,hat⟩ (by omega) rfl ?_ hk
    simp -implicitDefEqProofs -proj only [go_sem,seval,AL,AP (show i<9223372036854775807 by omega)]
  ·have hi':i=ms.length:=by omega
   subst hi'
   rw [List.drop_length,h3,List.drop_length] at hat
   rw [←hat]
   simp -implicitDefEqProofs only [F9,Bool.true_and]
   simp -implicitDefEqProofs -proj only [go_sem,seval,k3,k2,n1,n2,decide_eq_false (show ¬(ms.length:Int)<ms.length by omega),Gj]
   refine BE (fun i:Nat=>i≤S.length∧∀(j:Nat) (h:j<S.length) (h2:j<S'.length),j<i→S[j]=S'[j]) 111 (fun i=>[(2,.ptr b2 0),(3,.ptr b3 0),(64,i64 S.length),(65,i64 i)]) (fun _=>[(b3,Eg cu' f' t' ms' S'),(b2,Eg cu f t ms S)]) (fun i=>S.length-i) 0 ⟨Nat.zero_le _,fun j _ _ h=>absurd h (Nat.not_lt_zero _)⟩ rfl ?_ hk ?_
   ·simp -implicitDefEqProofs -proj only [go_sem,seval,AL]
   ·rintro i ⟨hi,hat⟩
    simp -implicitDefEqProofs only [Eg]
    by_cases h:i<S.length
    ·have h':i<S'.length:=by omega
     have e1:=JN h
     have e2:=JN h'
     have ca:=hS _ (List.getElem_mem h)
     have cb:=hS' _ (List.getElem_mem h')
     have hst:=fun (e:S[i]=S'[i])=>Il (l:=List.range S.length) (P:=fun j _=>∀(h:j<S.length) (h2:j<S'.length),S[j]=S'[j]) (i:=i) (x:=i) (by simp [h]) (fun j hj hji=>fun h1 h2=>hat j h1 h2 hji) (fun _ _=>e)
     have hne:=fun (e:¬S[i]=S'[i])=>show ¬S=S' from fun k=>e (by subst k; rfl)
     have hcall:=NB ca.1 cb.1 ca.2 cb.2
     generalize S[i]=x at *
     generalize S'[i]=y at *
     by_cases p1:x.f=y.f
     rotate_left
     ·rw [decide_eq_false (hne (fun e=>p1 (by rw [e])))]
      simp -implicitDefEqProofs -proj only [go_sem,seval,k3,k2,n1,n2,decide_eq_true (show (i:Int)<S.length by omega)]
      refine Ah _ (by omega) e1 ?_
      simp -implicitDefEqProofs -proj only [go_sem,seval,k3,k2,n1,n2]
      refine Ah _ (by omega) e2 ?_
      simp -implicitDefEqProofs -proj only [go_sem,seval,k3,k2,n1,n2,decide_eq_false p1]
      exact AI rfl
     by_cases p2:x.t=y.t
     rotate_left
     ·rw [decide_eq_false (hne (fun e=>p2 (by rw [e])))]
      simp -implicitDefEqProofs -proj only [go_sem,seval,k3,k2,n1,n2,decide_eq_true (show (i:Int)<S.length by omega)]
      refine Ah _ (by omega) e1 ?_
      simp -implicitDefEqProofs -proj only [go_sem,seval,k3,k2,n1,n2]
      refine Ah _ (by omega) e2 ?_
      simp -implicitDefEqProofs -proj only [go_sem,seval,k3,k2,n1,n2,decide_eq_true p1]
      refine Ah _ (by omega) e1 ?_
      simp -implicitDefEqProofs -proj only [go_sem,seval,k3,k2,n1,n2]
      refine Ah _ (by omega) e2 ?_
      simp -implicitDefEqProofs -proj only [go_sem,seval,k3,k2,n1,n2,decide_eq_false p2]
      exact AI rfl
     simp -implicitDefEqProofs -proj only [go_sem,seval,k3,k2,n1,n2,decide_eq_true (show (i:Int)<S.length by omega)]
     refine Ah _ (by omega) e1 ?_
     simp -implicitDefEqProofs -proj only [go_sem,seval,k3,k2,n1,n2]
     refine Ah _ (by omega) e2 ?_
     simp -implicitDefEqProofs -proj only [go_sem,seval,k3,k2,n1,n2,decide_eq_true p1]
     refine Ah _ (by omega) e1 ?_
     simp -implicitDefEqProofs -proj only [go_sem,seval,k3,k2,n1,n2]
     refine Ah _ (by omega) e2 ?_
     simp -implicitDefEqProofs -proj only [go_sem,seval,k3,k2,n1,n2,decide_eq_true p2]
     refine Ah _ (by omega) e1 ?_
     simp -implicitDefEqProofs -proj only [go_sem,seval,k3,k2,n1,n2]
     refine Ah _ (by omega) e2 ?_
     simp -implicitDefEqProofs -proj only [go_sem,seval,k3,k2,n1,n2]
     refine AJ hcall ?_
     by_cases p3:x.v=y.v
     ·simp -implicitDefEqProofs -proj only [go_sem,seval,decide_eq_true p3]
      refine AZ (i+1) ⟨by omega,fun j h1 h2 hj=>hst (OY.1 ⟨p1,p2,p3⟩) j (by simpa using h1) (by omega) h1 h2⟩ (by omega) rfl ?_ hk
      simp -implicitDefEqProofs -proj only [go_sem,seval,AL,AP (show i<9223372036854775807 by omega)]
     ·rw [decide_eq_false (hne (fun e=>p3 (by rw [e])))]
      simp -implicitDefEqProofs -proj only [go_sem,seval,decide_eq_false p3]
      exact AI rfl
    ·have hi':i=S.length:=by omega
     subst hi'
     rw [decide_eq_true (List.ext_getElem h4 fun j h1 h2=>hat j h1 h2 h1)]
     simp -implicitDefEqProofs -proj only [go_sem,seval,k3,k2,decide_eq_false (show ¬(S.length:Int)<S.length by omega)]
     exact AI rfl
open Classical in
noncomputable def J1 (a b:CoreX):Bool:=(a.cur.toList == b.cur.toList)&&(decide (a.f=b.f)&&(decide (a.t=b.t)&&(F9 a.ms b.ms&&decide (El a=El b))))
theorem AKH {x y:MeterX}:mq x y=mq y x:=by
 unfold mq
 rw [show (x.nm.toList == y.nm.toList)=(y.nm.toList == x.nm.toList) from Bool.beq_comm ..,show (x.un.toList == y.un.toList)=(y.un.toList == x.un.toList) from Bool.beq_comm ..,decide_eq_decide.2 (show x.mx=y.mx↔y.mx=x.mx from eq_comm),decide_eq_decide.2 (show x.ln=y.ln↔y.ln=x.ln from eq_comm),decide_eq_decide.2 (show x.co=y.co↔y.co=x.co from eq_comm)]
theorem Tw:∀{a b:List MeterX},F9 a b=F9 b a
 | [],[]=>rfl
 | [],_::_=>rfl
 | _::_,[]=>rfl
 | x::a,y::b=>by rw [F9,F9,AKH,Tw (a:=a)]
open Classical in
theorem AUB {a b:CoreX}:J1 a b=J1 b a:=by
 unfold J1
 rw [show (a.cur.toList == b.cur.toList)=(b.cur.toList == a.cur.toList) from Bool.beq_comm ..,decide_eq_decide.2 (show a.f=b.f↔b.f=a.f from eq_comm),decide_eq_decide.2 (show a.t=b.t↔b.t=a.t from eq_comm),Tw,decide_eq_decide.2 (show El a=El b↔El b=El a from eq_comm)]
theorem AO6 {a:CoreX}:J1 a a=true:=by simp [J1,Pn]
theorem PW {a b:CoreX} (ha:fitsC a) (hb:fitsC b):DataW Tryz.prog Sf [IF a.cur a.f a.t a.ms (El a),IF b.cur b.f b.t b.ms (El b)] (bv (J1 a b)):=by
 obtain ⟨_,_,_,g1,_⟩:=ha.good.hd
 obtain ⟨_,_,_,g2,_⟩:=hb.good.hd
 exact Qy (by omega) (by omega) (JJ ha) (JJ hb) (I6 ha.good) (I6 hb.good)
theorem AEZ {a b:CoreX} (ha:fitsC a) (hb:fitsC b):DataW Tryz.prog Tg [IF a.cur a.f a.t a.ms (El a),IF b.cur b.f b.t b.ms (El b)] (bv (J1 a b)):=by
 obtain ⟨_,_,_,g1,_⟩:=ha.good.hd
 obtain ⟨_,_,_,g2,_⟩:=hb.good.hd
 exact AYU (by omega) (by omega) (JJ ha) (JJ hb) (I6 ha.good) (I6 hb.good)
theorem NormalSides_ok {a b:CoreX} (ha:a.Fit) (hb:b.Fit):DataW Tryz.prog AXQ [GV a,GV b] (bv true):=by
 have hfa:=NL ha
 have hfb:=NL hb
 refine Aa AJu (by simp) ?_
 simp -implicitDefEqProofs -proj only [go_sem,seval]
 refine AK (fun b2 hb2=>?_)
 simp -implicitDefEqProofs -proj only [go_sem,seval]
 refine AK (fun b3 hb3=>?_)
 replace hb3:upd Heap.none b2 _ b3=none:=hb3
 obtain ⟨n1,n2⟩:=AH hb3 AQ
 simp -implicitDefEqProofs -proj only [go_sem,seval,n1,n2]
 refine AJ Nx ?_
 simp -implicitDefEqProofs -proj only [go_sem,seval,n1,n2]
 refine AJ hfa ?_
 by_cases ga:fitsC a
 rotate_left
 ·simp -implicitDefEqProofs -proj only [go_sem,seval,decide_eq_false ga,Bool.not_false]
  exact AI rfl
 simp -implicitDefEqProofs -proj only [go_sem,seval,n1,n2,decide_eq_true ga,Bool.not_true]
 refine AJ hfb ?_
 by_cases gb:fitsC b
 rotate_left
 ·simp -implicitDefEqProofs -proj only [go_sem,seval,decide_eq_false gb,Bool.not_false]
  exact AI rfl
 have hma:=Rd ha ga
 have hmb:=Rd hb gb
 have h1:=AEZ ga gb
 have h2:=PW ga gb
 have h3:=PW gb ga
 have h4:=PW ga ga
 rw [AUB] at h3
 rw [AO6] at h4
 have hSa:=JJ ga
 have hSb:=JJ gb
 have hla:=I6 ga.good
 have hlb:=I6 gb.good
 generalize J1 a b=w at *
 generalize El a=S at *
 generalize El b=S' at *
 simp -implicitDefEqProofs -proj only [go_sem,seval,n1,n2,decide_eq_true gb,Bool.not_true]
 refine EW hma ?_
 simp -implicitDefEqProofs -proj only [go_sem,seval,n1,n2]
 refine EW hmb ?_
 simp -implicitDefEqProofs -proj only [go_sem,seval,n1,n2]
 refine AK (fun b5 hb5=>?_)
 simp -implicitDefEqProofs -proj only [go_sem,seval,n1,n2]
 refine AK (fun b6 hb6=>?_)
 replace hb6:upd _ b5 (some _) b6=none:=hb6
 obtain ⟨n3,n4⟩:=AH hb6 AQ
 simp -implicitDefEqProofs -proj only [go_sem,seval,n3,n4]
 refine AJ h1 ?_
 simp -implicitDefEqProofs -proj only [go_sem,seval,n3,n4]
 refine AJ h2 ?_
 simp -implicitDefEqProofs -proj only [go_sem,seval,n3,n4,beq_self_eq_true]
 refine AJ h3 ?_
 simp -implicitDefEqProofs -proj only [go_sem,seval,n3,n4,beq_self_eq_true]
 refine AJ h4 ?_
 simp -implicitDefEqProofs -proj only [go_sem,seval,n3,n4,Gj]
 have hk:AU (Ae [(b5,Eg a.cur a.f a.t a.ms S),(b6,Eg b.cur b.f b.t b.ms S')]) [(b5,Eg a.cur a.f a.t a.ms S),(b6,Eg b.cur b.f b.t b.ms S')]:=EQ (by simp [AN,n4])
 obtain ⟨k5,k6,_⟩:=id hk
 simp -implicitDefEqProofs only [Eg] at k5 k6
 refine BE (fun i:Nat=>i≤S.length) 79 (fun i=>[(5,.ptr b5 0),(6,.ptr b6 0),(48,Gk S),(49,i64 S.length),(50,i64 i)]) (fun _=>[(b5,Eg a.cur a.f a.t a.ms S),(b6,Eg b.cur b.f b.t b.ms S')]) (fun i=>S.length-i) 0 (Nat.zero_le _) rfl ?_ ?_ ?_
 ·simp -implicitDefEqProofs -proj only [go_sem,seval,AL]
  try rfl
 ·exact ⟨(AE n3).trans AQ,AQ,trivial⟩
 intro i hi
 simp -implicitDefEqProofs only [Eg]
 by_cases h:i<S.length
 rotate_left
 ·simp -implicitDefEqProofs -proj only [go_sem,seval,decide_eq_false (show ¬(i:Int)<S.length by omega)]
  exact AI rfl
 have e1:=JN h
 have cx:=hSa _ (List.getElem_mem h)
 generalize S[i]=x at *
 simp -implicitDefEqProofs -proj only [go_sem,seval,decide_eq_true (show (i:Int)<S.length by omega)]
 refine Ah _ (by omega) e1 ?_
 simp -implicitDefEqProofs -proj only [go_sem,seval]
 refine AK (fun b9 hb9=>?_)
 replace hb9:Ae [(b5,Eg a.cur a.f a.t a.ms S),(b6,Eg b.cur b.f b.t b.ms S')] b9=none:=hb9
 obtain ⟨m1,m2⟩:=AH hb9 k5
 obtain ⟨m3,m4⟩:=AH hb9 k6
 simp -implicitDefEqProofs -proj only [go_sem,seval,m1,m2,m3,m4,k5,k6,n3,n4,Gj]
 have hk9:AU (Ae [(b9,.box 47 [i64 x.f,i64 x.t,i64 x.v.1,FO x.v.2]),(b5,Eg a.cur a.f a.t a.ms S),(b6,Eg b.cur b.f b.t b.ms S')]) [(b9,.box 47 [i64 x.f,i64 x.t,i64 x.v.1,FO x.v.2]),(b5,Eg a.cur a.f a.t a.ms S),(b6,Eg b.cur b.f b.t b.ms S')]:=EQ (by simp [AN,n4,m1,m3])
 obtain ⟨q9,q5,q6,_⟩:=id hk9
 refine BE (fun j:Nat=>j≤S'.length) 79 (fun j=>[(5,.ptr b5 0),(6,.ptr b6 0),(48,Gk S),(49,i64 S.length),(50,i64 i),(9,.ptr b9 0),(55,Gk S'),(56,i64 S'.length),(57,i64 j)]) (fun _=>[(b9,.box 47 [i64 x.f,i64 x.t,i64 x.v.1,FO x.v.2]),(b5,Eg a.cur a.f a.t a.ms S),(b6,Eg b.cur b.f b.t b.ms S')]) (fun j=>S'.length-j) 0 (Nat.zero_le _) rfl ?_ ?_ ?_
 ·simp -implicitDefEqProofs -proj only [go_sem,seval,AL]
  try rfl
 ·exact ⟨AQ,(AE m1).trans k5,(AE m3).trans k6,trivial⟩
 intro j hj
 simp -implicitDefEqProofs only [Eg]
 by_cases h':j<S'.length
 rotate_left
 ·simp -implicitDefEqProofs -proj only [go_sem,seval,decide_eq_false (show ¬(j:Int)<S'.length by omega)]
  refine AZ (i+1) (by omega) (by omega) rfl ?_ ⟨q5,q6,trivial⟩
  simp -implicitDefEqProofs -proj only [go_sem,seval,AL,AP (show i<9223372036854775807 by omega)]
 have e2:=JN h'
 have cy:=hSb _ (List.getElem_mem h')
 generalize S'[j]=y at *
 have c1:=Lw cx.1 cy.1 cx.2 cy.2
 have c2:=NB cx.1 cy.1 cx.2 cy.2
 have c3:=Lw cy.1 cx.1 cy.2 cx.2
 rw [decide_eq_decide.2 (show y.v=x.v↔x.v=y.v from eq_comm)] at c3
 generalize decide (x.v=y.v)=u at *
 simp -implicitDefEqProofs -proj only [go_sem,seval,decide_eq_true (show (j:Int)<S'.length by omega)]
 refine Ah _ (by omega) e2 ?_
 simp -implicitDefEqProofs -proj only [go_sem,seval]
 refine AK (fun b11 hb11=>?_)
 obtain ⟨p1,p2⟩:=AH hb11 q9
 simp -implicitDefEqProofs -proj only [go_sem,seval,p1,p2,q9]
 refine EW c1 ?_
 simp -implicitDefEqProofs -proj only [go_sem,seval,p1,p2,q9]
 refine AJ c2 ?_
 simp -implicitDefEqProofs -proj only [go_sem,seval,p1,p2,q9,beq_self_eq_true]
 refine EW c3 ?_
 simp -implicitDefEqProofs -proj only [go_sem,seval,p1,p2,q9,beq_self_eq_true]
 refine AJ c2 ?_
 simp -implicitDefEqProofs -proj only [go_sem,seval,p1,p2,q9,beq_self_eq_true]
 refine AZ (j+1) (by omega) (by omega) rfl ?_ (Ak hb11 hk9)
 simp -implicitDefEqProofs -proj only [go_sem,seval,AL,AP (show j<9223372036854775807 by omega)]
theorem Xl {c:CoreX} (hg:goodC c):Jf c (List.replicate c.ms.length 0):=by
 refine ⟨by simp,fun m h1 h2=>?_⟩
 have:=(fitsC.bnd hg).mx m (by simpa using h1)
 simp -implicitDefEqProofs only [List.getElem_replicate]
 omega
theorem AVi {n:Nat}:List.replicate n [D.int .i64 0]=AY (List.replicate n 0):=by simp [AY]
theorem AW0 {c:CoreX} (hc:c.Fit) (hf:fitsC c) (d:Int):DataW Tryz.prog RP [GV c,i64 d,Gq (List.replicate c.ms.length 0)] (.tup [i64 (IE c d),i64 0]):=by
 have hb:=Xl hf.good
 have h:=AAa (d:=d) hc hf.good hb
 obtain ⟨l,h1,h2⟩:=AGY hf (d:=d) hb
 rw [h1] at h
 simp -implicitDefEqProofs only [h2] at h
 rw [Qh (fitsC.bnd hf.good).me d c.ms.length] at h
 exact h
theorem ACd {c:CoreX} (hg:goodC c) {i:Nat} {s:Seg EU} (h:(El c)[i]? = some s) {d:Int} (h1:s.f≤d) (h2:d≤s.t):Ed c d=s.v:=((KL hg).nth i s h).2.2.2.1 d h1 h2
theorem NormalFixed_ok {c:CoreX} {d:Int} (hc:c.Fit) (hd:Fit d):DataW Tryz.prog AWi [GV c,i64 d] (bv true):=by
 have hft:=NL hc
 refine Aa Vy (by simp) ?_
 simp -implicitDefEqProofs -proj only [go_sem,seval]
 refine AK (fun b2 hb2=>?_)
 simp -implicitDefEqProofs -proj only [go_sem,seval]
 refine AJ Nx ?_
 simp -implicitDefEqProofs -proj only [go_sem,seval]
 refine AJ hft ?_
 by_cases g1:fitsC c
 rotate_left
 ·simp -implicitDefEqProofs -proj only [go_sem,seval,decide_eq_false g1,Bool.not_false]
  exact AI rfl
 by_cases g2:d<c.f
 ·simp -implicitDefEqProofs -proj only [go_sem,seval,decide_eq_true g1,Bool.not_true,decide_eq_true g2]
  exact AI rfl
 by_cases g3:c.t<d
 ·simp -implicitDefEqProofs -proj only [go_sem,seval,decide_eq_true g1,Bool.not_true,decide_eq_false g2,decide_eq_true g3]
  exact AI rfl
 have hmk:=PZ hc g1
 have hco:=AW0 hc g1 d
 obtain ⟨a,b,hfi,q1,q2⟩:=(KL g1.good).find (d:=d) (by omega) (by omega)
 have hat:=fun i s h=>@ACd c g1.good i s h d
 have hl:=I6 g1.good
 obtain ⟨_,_,_,g6,_⟩:=g1.good.hd
 generalize El c=S at *
 simp -implicitDefEqProofs -proj only [go_sem,seval,decide_eq_true g1,Bool.not_true,decide_eq_false g2,decide_eq_false g3]
 refine AJ hmk ?_
 simp -implicitDefEqProofs -proj only [go_sem,seval]
 refine AK (fun b5 hb5=>?_)
 replace hb5:upd Heap.none b2 _ b5=none:=hb5
 obtain ⟨n1,n2⟩:=AH hb5 AQ
 simp -implicitDefEqProofs -proj only [go_sem,seval,n1,n2,FA]
 refine SP (n:=c.ms.length) (by omega) (by omega) (fun b6 hb6=>?_)
 replace hb6:upd (upd Heap.none b2 _) b5 (some _) b6=none:=hb6
 obtain ⟨n3,n4⟩:=AH hb6 AQ
 rw [AVi]
 simp -implicitDefEqProofs -proj only [go_sem,seval,n1,n2,n3,n4]
 refine Ne hco (Gb (.refl _) (Gb (.refl _) (Gb (KX AQ (by rw [rowI_len,List.length_replicate])) IO))) rfl ?_
 simp -implicitDefEqProofs -proj only [go_sem,seval,n1,n2,n3,n4,Gj]
 have hia:a<S.length:=(List.getElem?_eq_some_iff.1 hfi).1
 refine BE (fun i:Nat=>i≤a) 69 (fun i=>[(1,i64 d),(6,i64 0),(7,i64 (IE c d)),(44,Gk S),(45,i64 S.length),(46,i64 i)]) (fun _=>[]) (fun i=>a-i) 0 (Nat.zero_le _) rfl ?_ ?_ ?_
 ·simp -implicitDefEqProofs -proj only [go_sem,seval,AL]
 ·trivial
 intro i hi
 have h:i<S.length:=by omega
 have e1:=JN h
 have hs:=hat i _ (List.getElem?_eq_getElem h)
 have hia2:a=i→S[i].f≤d∧d≤S[i].t:=fun e=>by
  subst e
  rw [List.getElem?_eq_getElem h] at hfi
  cases hfi
  exact ⟨q1,q2⟩
 generalize S[i]=x at *
 simp -implicitDefEqProofs -proj only [go_sem,seval,decide_eq_true (show (i:Int)<S.length by omega)]
 refine Ah _ (by omega) e1 ?_
 simp -implicitDefEqProofs -proj only [go_sem,seval]
 refine AK (fun b10 hb10=>?_)
 by_cases p1:x.f≤d
 rotate_left
 ·have hlt:i<a:=by
   rcases Nat.lt_or_eq_of_le hi with h | h
   ·exact h
   ·exact absurd (hia2 h.symm).1 p1
  simp -implicitDefEqProofs -proj only [go_sem,seval,decide_eq_false p1]
  refine AZ (i+1) (by omega) (by omega) rfl ?_ trivial
  simp -implicitDefEqProofs -proj only [go_sem,seval,AL,AP (show i<9223372036854775807 by omega)]
 by_cases p2:d≤x.t
 rotate_left
 ·have hlt:i<a:=by
   rcases Nat.lt_or_eq_of_le hi with h | h
   ·exact h
   ·exact absurd (hia2 h.symm).2 p2
  simp -implicitDefEqProofs -proj only [go_sem,seval,decide_eq_true p1,decide_eq_false p2]
  refine AZ (i+1) (by omega) (by omega) rfl ?_ trivial
  simp -implicitDefEqProofs -proj only [go_sem,seval,AL,AP (show i<9223372036854775807 by omega)]
 have hv:x.v.1=IE c d:=by rw [←hs p1 p2]; rfl
 simp -implicitDefEqProofs -proj only [go_sem,seval,decide_eq_true p1,decide_eq_true p2,decide_eq_true hv]
 exact AI rfl
theorem ACI {l:List Int}:∀el∈AY l,∀d∈el,Gs d=true:=by
 intro el he d hd
 obtain ⟨r,_,rfl⟩:=List.mem_map.1 he
 simp -implicitDefEqProofs only [List.mem_singleton] at hd
 subst hd; rfl
def I8 (G:List Grp) (q:Int):Int×Bool:=match F5 G q with
 | some v=>(v,true)
 | none=>(0,false)
set_option maxRecDepth 20000 in
theorem AG1 {m q:Int} {G:List Grp} (hG:∀g∈G,GrpOK g) (hl:G.length≤3001) (hq:Fit q) (hm:m≤3000):DataW Tryz.prog Si [Ew m G,i64 q] (BV (if q<0∨m<q then none else F5 G q)):=by
 refine Aa ZQ (by simp) ?_
 simp -implicitDefEqProofs -proj only [go_sem,seval]
 refine AK (fun b2 hb2=>?_)
 by_cases h1:q<0
 ·rw [if_pos (.inl h1)]
  simp -implicitDefEqProofs -proj only [go_sem,seval,decide_eq_true h1]
  exact AI rfl
 by_cases h2:m<q
 ·rw [if_pos (.inr h2)]
  simp -implicitDefEqProofs -proj only [go_sem,seval,decide_eq_false h1,decide_eq_true h2]
  exact AI rfl
 rw [if_neg (by omega)]
 simp -implicitDefEqProofs -proj only [go_sem,seval,decide_eq_false h1,decide_eq_false h2,GA]
 refine BE (fun i:Nat=>i≤G.length) 61 (fun i=>[(1,i64 q),(20,Fa G),(21,i64 G.length),(22,i64 i),(6,i64 (I8 (G.take i) q).1),(7,bv (I8 (G.take i) q).2)]) (fun _=>[]) (fun i=>G.length-i) 0 (Nat.zero_le _) rfl ?_ ?_ ?_
 ·simp -implicitDefEqProofs -proj only [go_sem,seval,AL]
  exact ⟨rfl,rfl⟩
 ·trivial
 ·intro i hi
  by_cases h:i<G.length
  ·have hel:=Ji h
   have hok:=hG _ (List.getElem_mem h)
   have hts:G.take (i+1)=G.take i++[G[i]]:=List.take_succ_eq_append_getElem h
   have hsf:I8 (G.take (i+1)) q=if G[i].f≤q then (Hx G[i] q,true) else I8 (G.take i) q:=by
    unfold I8
    rw [hts,Rv]
    by_cases hf:G[i].f≤q
    ·rw [if_pos hf,if_pos hf]
    ·rw [if_neg hf,if_neg hf]
   generalize hsn:I8 (G.take (i+1)) q=sn at *
   generalize hsi:I8 (G.take i) q=si at *
   obtain ⟨sv,sb⟩:=si
   generalize G[i]=g at *
   simp -implicitDefEqProofs only []
   simp -implicitDefEqProofs -proj only [go_sem,seval,hsi,decide_eq_true (show (i:Int)<G.length by omega)]
   refine Ah _ (by omega) hel ?_
   simp -implicitDefEqProofs -proj only [go_sem,seval]
   refine AK (fun b9 hb9=>?_)
   by_cases hf:q<g.f
   ·rw [if_neg (by omega)] at hsf
    subst hsf
    simp -implicitDefEqProofs -proj only [go_sem,seval,decide_eq_true hf,if_pos (rfl:(1:Nat)=1)]
    refine AZ (i+1) (by omega) (by omega) rfl ?_ trivial
    simp -implicitDefEqProofs -proj only [go_sem,seval,AL,hsn,AP (show i<9223372036854775807 by omega)]
   ·rw [if_pos (by omega)] at hsf
    subst hsf
    have gf:=hok.f
    have gw:=hok.w
    have gc:=hok.c
    have gv:=hok.v
    have hQ:1≤g.w→0≤(q-g.f).tdiv g.w∧(q-g.f).tdiv g.w≤q-g.f:=fun h=>QA (q:=q) hok (by omega) (by omega)
    unfold Fit at hq
    have w1:IntKind.i64.wrap (q-g.f)=q-g.f:=by rw [IntKind.wrap_i64]; omega
    have w2:1≤g.w→IntKind.i64.wrap ((q-g.f).tdiv g.w)=(q-g.f).tdiv g.w:=fun h=>by have:=hQ h; rw [IntKind.wrap_i64]; omega
    simp -implicitDefEqProofs -proj only [go_sem,seval,decide_eq_false hf]
    refine BE (fun k:Nat=>1≤k∧(k:Int)≤g.c∧(k=1∨(1≤g.w∧(k:Int)-1≤(q-g.f).tdiv g.w))) 61 (fun k=>[(1,i64 q),(20,Fa G),(21,i64 G.length),(22,i64 i),(9,.ptr b9 0),(10,i64 k),(6,i64 (g.v+((k:Int)-1)*g.r)),(7,bv true)]) (fun _=>[(b9,.box 65 [i64 g.f,i64 g.v,i64 g.w,i64 g.r,i64 g.c])]) (fun k=>(g.c-k).toNat) 1 ⟨Nat.le_refl _,by omega,.inl rfl⟩ rfl ?_ ?_ ?_
    ·simp -implicitDefEqProofs -proj only [go_sem,seval,AL,Int.sub_self,Int.zero_mul,Int.add_zero]
    ·simp -implicitDefEqProofs -proj only [go_sem,seval,AU]
    ·rintro k ⟨hk1,hk2,hk3⟩
     have hk:AU (Ae [(b9,.box 65 [i64 g.f,i64 g.v,i64 g.w,i64 g.r,i64 g.c])]) [(b9,.box 65 [i64 g.f,i64 g.v,i64 g.w,i64 g.r,i64 g.c])]:=EQ (by simp [AN])
     have k9:=hk.1
     have hval:g.v+((k:Int)-1)*g.r=Hx g q→i64 (g.v+((k:Int)-1)*g.r)=i64 (Hx g q):=fun e=>by rw [e]
     by_cases hw:0<g.w
     ·have hq0:=hQ (by omega)
      have w2':=w2 (by omega)
      have gr:=hok.r ((k:Int)-1) (by omega) (by omega)
      by_cases hkc:(k:Int)<g.c
      ·by_cases hkq:(k:Int)≤(q-g.f).tdiv g.w
       ·have gr2:=hok.r (k:Int) (by omega) (by omega)
        have e1:((k:Int)-1)*g.r+g.r=(k:Int)*g.r:=by rw [Int.sub_mul]; omega
        have w3:IntKind.i64.wrap (g.v+((k:Int)-1)*g.r+g.r)=g.v+(((k+1:Nat):Int)-1)*g.r:=by
         rw [show ((k+1:Nat):Int)-1=(k:Int) by omega,IntKind.wrap_i64]
         omega
        simp -implicitDefEqProofs -proj only [go_sem,seval,k9,decide_eq_true hw,decide_eq_true hkc,w1,w2',decide_eq_true hkq]
        (repeat' (with_reducible refine Af ?_ (fun h=>?_); (focus first | decide | omega); clear h; try simp -implicitDefEqProofs -proj only [go_sem,seval,w1]))
        try simp -implicitDefEqProofs -proj only [go_sem,seval,k9,w2',w3,decide_eq_true hkq]
        refine AZ (k+1) ⟨by omega,by omega,.inr ⟨by omega,by omega⟩⟩ (by omega) rfl ?_ hk
        simp -implicitDefEqProofs -proj only [go_sem,seval,AL,AP (show k<9223372036854775807 by omega),w3]
       ·have e:g.v+((k:Int)-1)*g.r=Hx g q:=by
         unfold Hx
         rw [if_neg (by omega),show min ((q-g.f).tdiv g.w) (g.c-1)=(k:Int)-1 by omega]
        simp -implicitDefEqProofs -proj only [go_sem,seval,k9,decide_eq_true hw,decide_eq_true hkc,w1,w2',decide_eq_false hkq]
        (repeat' (with_reducible refine Af ?_ (fun h=>?_); (focus first | decide | omega); clear h; try simp -implicitDefEqProofs -proj only [go_sem,seval,w1]))
        try simp -implicitDefEqProofs -proj only [go_sem,seval,k9,w2',decide_eq_false hkq,if_neg (show ¬(2:Nat)=3 by decide)]
        refine AZ (i+1) (by omega) (by omega) rfl ?_ trivial
        simp -implicitDefEqProofs -proj only [go_sem,seval,AL,hsn,e,AP (show i<9223372036854775807 by omega)]
      ·have e:g.v+((k:Int)-1)*g.r=Hx g q:=by
        unfold Hx
        rw [if_neg (by omega),show min ((q-g.f).tdiv g.w) (g.c-1)=(k:Int)-1 by omega]
       simp -implicitDefEqProofs -proj only [go_sem,seval,k9,decide_eq_true hw,decide_eq_false hkc,if_neg (show ¬(2:Nat)=3 by decide)]
       refine AZ (i+1) (by omega) (by omega) rfl ?_ trivial
       simp -implicitDefEqProofs -proj only [go_sem,seval,AL,hsn,e,AP (show i<9223372036854775807 by omega)]
     ·have e:g.v+((k:Int)-1)*g.r=Hx g q:=by
       unfold Hx
       rw [if_pos (by omega)]
       have:k=1:=by omega
       subst this
       simp
      simp -implicitDefEqProofs -proj only [go_sem,seval,k9,decide_eq_false hw,if_neg (show ¬(2:Nat)=3 by decide)]
      refine AZ (i+1) (by omega) (by omega) rfl ?_ trivial
      simp -implicitDefEqProofs -proj only [go_sem,seval,AL,hsn,e,AP (show i<9223372036854775807 by omega)]
  ·have hi':i=G.length:=by omega
   subst hi'
   rw [List.take_length]
   have:BV (F5 G q) = .tup [i64 (I8 G q).1,bv (I8 G q).2]:=by
    unfold I8
    cases F5 G q <;> rfl
   rw [this]
   simp -implicitDefEqProofs -proj only [go_sem,seval,decide_eq_false (show ¬(G.length:Int)<G.length by omega)]
   exact AI rfl
theorem Qe {l:List Int} (h:BN l) {i:Nat} (hi:i<l.length):DataW Tryz.prog Si [Em l,i64 i] (.tup [i64 l[i],bv true]):=by
 have h1:=h.2.1
 have:=AG1 (m:=(l.length:Int)-1) (q:=(i:Int)) (Sb h) (Nat.le_trans Jc (by omega)) (by unfold Fit; omega) (by omega)
 rwa [if_neg (by omega),Mj hi] at this
def NC (b1:Nat) (l:List Int) (y:BackY):List (Nat×Blk):=Au 3 1 y.c y.cap (AY (l.take y.i))++[(b1,.box 51 [i64 ((l.length:Int)-1),Fa (ES l)])]
theorem ACV {l:List Int} (h:BN l):NewW Tryz.prog AGD [Em l] (Gq l):=by
 obtain ⟨hne,h1,h2⟩:=id h
 refine Aa XW (by simp) ?_
 simp -implicitDefEqProofs -proj only [go_sem,seval]
 refine AK (fun b1 hb1=>?_)
 have a1:=G4 (x:=.box 51 [i64 ((l.length:Int)-1),Fa (ES l)]) hb1 (l:=[]) trivial
 have k1:=HD (x:=.box 51 [i64 ((l.length:Int)-1),Fa (ES l)]) hb1 (l:=[]) trivial List.nodup_nil
 simp -implicitDefEqProofs -proj only [go_sem,seval]
 refine BE (fun y:BackY=>y.i≤l.length∧(AN (NC b1 l y)).Nodup) 24 (fun y=>[(1,.ptr b1 0),(3,BU 0 1 y.c y.cap (AY (l.take y.i))),(4,i64 y.i)]) (NC b1 l) (fun y=>l.length-y.i) ⟨0,0,0⟩ ⟨Nat.zero_le _,k1⟩ rfl ?_ ?_ ?_
 ·simp -implicitDefEqProofs -proj only [go_sem,seval,AL,GO,G9,Gu]
  rfl
 ·simp -implicitDefEqProofs -proj only [go_sem,seval]
  exact a1
 ·rintro ⟨i,c,cap⟩ ⟨hi,hn⟩
  simp -implicitDefEqProofs only [GO] at hi
  have hall:=EQ hn
  obtain ⟨H,hH⟩:∃H,Ae (NC b1 l ⟨i,c,cap⟩)=H:=⟨_,rfl⟩
  rw [hH] at hall
  simp -implicitDefEqProofs only [NC,GO,G9,Gu] at hall hn
  obtain ⟨hrow,e1,_⟩:=BI.1 hall
  by_cases hlt:i<l.length
  ·have hat:=Qe h hlt
   have htk:l.take (i+1)=l.take i++[l[i]]:=List.take_succ_eq_append_getElem hlt
   have hl1:(AY (l.take i)).length=i:=by rw [rowI_len,List.length_take]; omega
   have hl2:(AY (l.take (i+1))).length=i+1:=by rw [rowI_len,List.length_take]; omega
   have hne2:AY (l.take (i+1))≠[]:=by intro e; rw [e] at hl2; simp at hl2
   generalize l[i]=v at *
   simp -implicitDefEqProofs -proj only [go_sem,seval,GO,G9,Gu,hH,e1,decide_eq_true (show (i:Int)≤(l.length:Int)-1 by omega)]
   refine AJ hat ?_
   simp -implicitDefEqProofs -proj only [go_sem,seval]
   refine An (fun bs hs'=>?_)
   replace hs':H bs=none:=hs'
   simp -implicitDefEqProofs -proj only [go_sem,seval]
   refine FL (xs:=AY (l.take i)) (y:=[.int .i64 v]) (t:=3) (capc:=1) [(b1,.box 51 [i64 ((l.length:Int)-1),Fa (ES l)])] rfl (Ak hs' hall) hn (by simp -implicitDefEqProofs -proj only [go_sem,seval]) (by rw [hl1]; omega) (by rw [hl1]; omega) (fun H' c' cap' ha hk=>?_)
   rw [show AY (l.take i)++[[.int .i64 v]]=AY (l.take (i+1)) by rw [htk]; simp [AY]] at ha hk
   simp -implicitDefEqProofs -proj only [go_sem,seval]
   refine AZ ⟨i+1,c',cap'⟩ ⟨by show i+1≤l.length; omega,hk⟩ (by show l.length-(i+1)<l.length-i; omega) rfl ?_ ha
   simp -implicitDefEqProofs -proj only [go_sem,seval,AL,GO,G9,Gu,AP (show i<9223372036854775807 by omega),ET hne2,hl1,hl2]
  ·have hi':i=l.length:=by omega
   subst hi'
   rw [List.take_length] at hrow
   simp -implicitDefEqProofs -proj only [go_sem,seval,GO,G9,Gu,hH,e1,decide_eq_false (show ¬(l.length:Int)≤(l.length:Int)-1 by omega),List.take_length]
   exact J4 hrow ACI
set_option maxRecDepth 20000 in
theorem ASo {l:List Int} (hfl:JC l) (h:BN l):DataW Tryz.prog ADL [Em l] (bv true):=by
 obtain ⟨hne,h1,h2⟩:=id h
 have hn0:0<l.length:=List.length_pos_iff.2 hne
 have hgl:=Jc (l:=l)
 obtain ⟨hg0,hgf⟩:=S4 hne
 have hel0:=Ji hg0
 rw [hgf] at hel0
 have hwl:IntKind.i64.wrap ((l.length:Int)-1+1)=(l.length:Int):=by rw [IntKind.wrap_i64]; omega
 have hlist:=(ACV h).data
 have ro:=AIH hfl (show l.length≤3000 by omega)
 rw [if_pos h] at ro
 have hs:=RL (m:=(l.length:Int)-1) (n:=(l.length:Int)-1) (a:=ES l) (b:=ES l) (by omega) (by omega)
 rw [decide_eq_true ⟨rfl,rfl⟩] at hs
 refine Aa AW3 (by simp) ?_
 simp -implicitDefEqProofs -proj only [go_sem,seval]
 refine AK (fun b1 hb1=>?_)
 simp -implicitDefEqProofs -proj only [go_sem,seval,GA,decide_eq_false (show ¬(l.length:Int)-1<0 by omega),decide_eq_false (show ¬2000<(l.length:Int)-1 by omega),decide_eq_false (show ¬((ES l).length:Int)=0 by omega),hwl,decide_eq_false (show ¬(l.length:Int)<(ES l).length by omega)]
 refine Ah _ (by omega) (i:=0) hel0 ?_
 simp -implicitDefEqProofs -proj only [go_sem,seval,hwl,decide_eq_true (rfl:(0:Int)=0)]
 refine AJ hlist ?_
 simp -implicitDefEqProofs -proj only [go_sem,seval]
 refine AJ ro ?_
 simp -implicitDefEqProofs -proj only [go_sem,seval]
 refine AK (fun b3 hb3=>?_)
 replace hb3:upd Heap.none b1 _ b3=none:=hb3
 obtain ⟨n1,n2⟩:=AH hb3 AQ
 simp -implicitDefEqProofs -proj only [go_sem,seval,n1,n2]
 refine AJ hs ?_
 simp -implicitDefEqProofs -proj only [go_sem,seval]
 exact AI rfl
def J0 (lo:Int) (S:List (Seg EU)):Nat→Int
 | 0=>lo
 | i+1=>match S[i]? with
  | some r=>r.t+1
  | none=>0
structure SpW (c:CoreX) (S:List (Seg EU)):Prop where
 f:∀(i:Nat) (h:i<S.length),S[i].f=J0 c.f S i
 ft:∀(i:Nat) (h:i<S.length),c.f≤S[i].f∧S[i].f≤S[i].t∧S[i].t≤c.t
 ne:∀(i:Nat) (h:i+1<S.length),¬S[i].v=S[i+1].v
 n:∀(i:Nat) (h:i<S.length),S[i].v.2.length=c.ms.length
 cu:∀(i:Nat) (h:i<S.length),Ie S[i]
 mx:∀(i:Nat) (h:i<S.length) (k:Nat) (h2:k<S[i].v.2.length) (h3:k<c.ms.length),(S[i].v.2[k].length:Int)-1=c.ms[k].mx∧∃h4:0<S[i].v.2[k].length,S[i].v.2[k][0]=0
 hi:J0 c.f S S.length=c.t+1
theorem AUo {c:CoreX} (hf:fitsC c):SpW c (El c):=by
 have hw:=KL hf.good
 obtain ⟨⟨g1,g2⟩,⟨g3,g4⟩,g5,g6,g7,g8⟩:=hf.good.hd
 have hv:∀(i:Nat) (h:i<(El c).length),(El c)[i].v=Ed c (El c)[i].f:=fun i h=>by
  obtain ⟨_,h2,_,h4,_⟩:=hw.nth i _ (List.getElem?_eq_getElem h)
  exact (h4 _ (Int.le_refl _) h2).symm
 refine ⟨fun i h=>?_,fun i h=>?_,fun i h=>?_,fun i h=>?_,fun i h=>JJ hf _ (List.getElem_mem h),fun i h k h2 h3=>?_,?_⟩
 ·cases i with
  | zero=>exact (hw.nth 0 _ (List.getElem?_eq_getElem h)).2.2.2.2.2.2 rfl
  | succ i =>
   obtain ⟨_,_,_,_,h5,_⟩:=hw.nth i _ (List.getElem?_eq_getElem (show i<(El c).length by omega))
   have:=(h5 _ (List.getElem?_eq_getElem h)).1
   rw [J0,List.getElem?_eq_getElem (show i<(El c).length by omega)]
   exact this
 ·obtain ⟨h1,h2,h3,_⟩:=hw.nth i _ (List.getElem?_eq_getElem h)
  omega
 ·obtain ⟨_,_,_,_,h5,_⟩:=hw.nth i _ (List.getElem?_eq_getElem (show i<(El c).length by omega))
  exact (h5 _ (List.getElem?_eq_getElem h)).2
 ·rw [hv i h]; exact Hq
 ·have e:(El c)[i].v.2[k]=Gx c (El c)[i].f k c.ms[k].mx:=by
   have h6:(El c)[i].v.2[k]? = some (Gx c (El c)[i].f k c.ms[k].mx):=by
    rw [hv i h]
    show (Eb c _ c.ms.length)[k]? = _
    rw [List.getElem?_eq_getElem (by rw [Hq]; exact h3),Sz h3 h3]
   rw [List.getElem?_eq_getElem h2] at h6
   exact Option.some.inj h6
  have hm:=(fitsC.bnd hf.good).mx k h3
  refine ⟨by rw [e,KK]; omega,by rw [e,KK]; omega,?_⟩
  have h0:0<(c.ms[k].mx+1).toNat:=by omega
  simp -implicitDefEqProofs only [e]
  rw [Z6 h0]
  exact TE
 ·have hne:(El c).length≠0:=fun e=>by
   have h0:El c=[]:=List.length_eq_zero_iff.1 e
   rw [h0] at hw
   have:c.f=c.t+1:=hw
   omega
  obtain ⟨n,hn⟩:=Nat.exists_eq_succ_of_ne_zero hne
  rw [hn,J0]
  have hlt:n<(El c).length:=by omega
  rw [List.getElem?_eq_getElem hlt]
  exact (hw.nth n _ (List.getElem?_eq_getElem hlt)).2.2.2.2.2.1 (List.getElem?_eq_none (by omega))
theorem NormalSpans_ok {c:CoreX} (hc:c.Fit):DataW Tryz.prog ARe [GV c] (bv true):=by
 have hft:=NL hc
 refine Aa ADu (by simp) ?_
 simp -implicitDefEqProofs -proj only [go_sem,seval]
 refine AK (fun b1 hb1=>?_)
 simp -implicitDefEqProofs -proj only [go_sem,seval]
 refine AJ Nx ?_
 simp -implicitDefEqProofs -proj only [go_sem,seval]
 refine AJ hft ?_
 by_cases g0:fitsC c
 rotate_left
 ·simp -implicitDefEqProofs -proj only [go_sem,seval,decide_eq_false g0,Bool.not_false]
  exact AI rfl
 have hmk:=PZ hc g0
 have W:=AUo g0
 have hl:=I6 g0.good
 obtain ⟨⟨g1,g2⟩,⟨g3,g4⟩,g5,g6,g7,g8⟩:=g0.good.hd
 generalize El c=S at *
 simp -implicitDefEqProofs -proj only [go_sem,seval,decide_eq_true g0,Bool.not_true]
 refine AJ hmk ?_
 simp -implicitDefEqProofs -proj only [go_sem,seval]
 refine AK (fun b3 hb3=>?_)
 replace hb3:upd Heap.none b1 _ b3=none:=hb3
 obtain ⟨n1,n2⟩:=AH hb3 AQ
 simp -implicitDefEqProofs -proj only [go_sem,seval,n1,n2,Gj]
 have hk:AU (Ae [(b3,Eg c.cur c.f c.t c.ms S),(b1,BJ c)]) [(b3,Eg c.cur c.f c.t c.ms S),(b1,BJ c)]:=EQ (by simp [AN,n1])
 obtain ⟨k3,k1,_⟩:=id hk
 simp -implicitDefEqProofs only [Eg,BJ] at k3 k1
 refine BE (fun i:Nat=>i≤S.length) 125 (fun i=>[(1,.ptr b1 0),(3,.ptr b3 0),(4,i64 0),(5,i64 (J0 c.f S i)),(25,Gk S),(26,i64 S.length),(27,i64 i)]) (fun _=>[(b3,Eg c.cur c.f c.t c.ms S),(b1,BJ c)]) (fun i=>S.length-i) 0 (Nat.zero_le _) rfl ?_ ?_ ?_
 ·simp -implicitDefEqProofs -proj only [go_sem,seval,AL]
  try rfl
 ·exact ⟨AQ,(AE n1).trans AQ,trivial⟩
 intro i hi
 simp -implicitDefEqProofs only [Eg,BJ]
 by_cases h:i<S.length
 rotate_left
 ·have hi':i=S.length:=by omega
  subst hi'
  have hw:IntKind.i64.wrap (c.t+1)=c.t+1:=by rw [IntKind.wrap_i64]; omega
  simp -implicitDefEqProofs -proj only [go_sem,seval,k3,k1,n1,n2,decide_eq_false (show ¬(S.length:Int)<S.length by omega),hw,W.hi]
  exact AI rfl
 have e1:=JN h
 have w1:=W.f i h
 have w2:=W.ft i h
 have w3:=W.n i h
 have w4:=W.cu i h
 have w5:=W.mx i h
 have hat2:J0 c.f S (i+1)=S[i].t+1:=by rw [J0,List.getElem?_eq_getElem h]
 have hprev:∀j:Nat,i=j+1→∃y:Seg EU,(Ao S)[((j:Int)).toNat]? = some [.int .i64 y.f,.int .i64 y.t,.int .i64 y.v.1,.sl 2 (Ai y.v.2)]∧Ie y∧¬y.v=S[i].v:=fun j e=>by
  subst e
  have hj:j<S.length:=by omega
  exact ⟨S[j],JN hj,W.cu j hj,W.ne j h⟩
 have hwt:IntKind.i64.wrap (S[i].t+1)=S[i].t+1:=by rw [IntKind.wrap_i64]; omega
 generalize S[i]=x at *
 simp -implicitDefEqProofs -proj only [go_sem,seval,decide_eq_true (show (i:Int)<S.length by omega)]
 refine Ah _ (by omega) e1 ?_
 simp -implicitDefEqProofs -proj only [go_sem,seval]
 refine AK (fun b7 hb7=>?_)
 obtain ⟨m1,m2⟩:=AH hb7 k3
 obtain ⟨m3,m4⟩:=AH hb7 k1
 replace hb7:Ae [(b3,Eg c.cur c.f c.t c.ms S),(b1,BJ c)] b7=none:=hb7
 have hk7:AU (Ae [(b7,.box 47 [i64 x.f,i64 x.t,i64 x.v.1,FO x.v.2]),(b3,Eg c.cur c.f c.t c.ms S),(b1,BJ c)]) [(b7,.box 47 [i64 x.f,i64 x.t,i64 x.v.1,FO x.v.2]),(b3,Eg c.cur c.f c.t c.ms S),(b1,BJ c)]:=EQ (by simp [AN,n1,m1,m3])
 obtain ⟨q7,q3,q1,_⟩:=id hk7
 simp -implicitDefEqProofs only [Eg,BJ] at q3 q1
 have dfi:decide (x.v.2.length=c.ms.length)=true:=decide_eq_true w3
 have hjoin:∀(t:TM) (H:Heap),AL t [(1,.ptr b1 0),(3,.ptr b3 0),(4,i64 0),(7,.ptr b7 0),(25,Gk S),(26,i64 S.length),(27,i64 i),(77,FO x.v.2),(78,i64 x.v.2.length),(79,i64 0)]→AU H [(b7,.box 47 [i64 x.f,i64 x.t,i64 x.v.1,FO x.v.2]),(b3,Eg c.cur c.f c.t c.ms S),(b1,BJ c)] →
   LK Tryz.prog (Im (fun i=>i≤S.length) (fun i=>⟨125,E6 [(1,.ptr b1 0),(3,.ptr b3 0),(4,i64 0),(5,i64 (J0 c.f S i)),(25,Gk S),(26,i64 S.length),(27,i64 i)],Ae [(b3,Eg c.cur c.f c.t c.ms S),(b1,BJ c)]⟩) (fun i=>S.length-i) i (Ev Tryz.prog (BL [.tmp 2] fun r' H'=>LendV H' r' (bv true)) [.blk 0,.code ((ACode.ops Qu).seq .ret)]))
    QL [.blk 2,.code (.ops QM),.blk 1,.code (.ops RN)] ⟨125,t,H⟩:=by
  intro t H ht hH
  refine BE (fun k:Nat=>k≤x.v.2.length) 125 (fun k=>[(1,.ptr b1 0),(3,.ptr b3 0),(4,i64 0),(7,.ptr b7 0),(25,Gk S),(26,i64 S.length),(27,i64 i),(77,FO x.v.2),(78,i64 x.v.2.length),(79,i64 k)]) (fun _=>[(b7,.box 47 [i64 x.f,i64 x.t,i64 x.v.1,FO x.v.2]),(b3,Eg c.cur c.f c.t c.ms S),(b1,BJ c)]) (fun k=>x.v.2.length-k) 0 (Nat.zero_le _) rfl ht hH ?_
  intro k hkl
  simp -implicitDefEqProofs only [Eg,BJ]
  by_cases hk2:k<x.v.2.length
  rotate_left
  ·simp -implicitDefEqProofs -proj only [go_sem,seval,decide_eq_false (show ¬(k:Int)<x.v.2.length by omega),q7,q3,q1,hwt]
   refine AZ (i+1) (by omega) (by omega) rfl ?_ ⟨q3,q1,trivial⟩
   simp -implicitDefEqProofs -proj only [go_sem,seval,AL,hat2,AP (show i<9223372036854775807 by omega)]
  have hkm:k<c.ms.length:=by omega
  have e3:=Kc hk2
  have e4:=HS hkm
  have hcur:=w4.1 _ (List.getElem_mem hk2)
  obtain ⟨hmx,h40,h41⟩:=w5 k hk2 hkm
  generalize x.v.2[k]=l at *
  generalize c.ms[k]=m at *
  have hAt:=Qe hcur (i:=0) h40
  rw [h41] at hAt
  have hfl:JC l:=fun j hj=>by
   have:=hcur.2.2 _ (List.getElem_mem hj)
   unfold E0 at this
   unfold Fit
   omega
  have hGd:=ASo hfl hcur
  simp -implicitDefEqProofs -proj only [go_sem,seval,decide_eq_true (show (k:Int)<x.v.2.length by omega)]
  refine Ah _ (by omega) e3 ?_
  simp -implicitDefEqProofs -proj only [go_sem,seval]
  refine AK (fun b9 hb9=>?_)
  replace hb9:Ae [(b7,.box 47 [i64 x.f,i64 x.t,i64 x.v.1,FO x.v.2]),(b3,Eg c.cur c.f c.t c.ms S),(b1,BJ c)] b9=none:=hb9
  obtain ⟨z1,z2⟩:=AH hb9 q7
  obtain ⟨z3,z4⟩:=AH hb9 q3
  obtain ⟨z5,z6⟩:=AH hb9 q1
  simp -implicitDefEqProofs -proj only [go_sem,seval,z1,z2,z3,z4,z5,z6]
  refine AJ hAt ?_
  simp -implicitDefEqProofs -proj only [go_sem,seval,z1,z2,z3,z4,z5,z6,q7,q3,q1]
  refine Ah _ (by omega) e4 ?_
  simp -implicitDefEqProofs -proj only [go_sem,seval,z1,z2,z3,z4,z5,z6,q7,q3,q1,decide_eq_true hmx]
  refine AJ hGd ?_
  simp -implicitDefEqProofs -proj only [go_sem,seval]
  refine AZ (k+1) (by omega) (by omega) rfl ?_ (Ak hb9 hk7)
  simp -implicitDefEqProofs -proj only [go_sem,seval,AL,AP (show k<9223372036854775807 by omega)]
 cases i with
 | zero =>
  simp -implicitDefEqProofs -proj only [go_sem,seval,m1,m2,m3,m4,k3,k1,Ft,FA,decide_eq_true w1,decide_eq_false (show ¬x.t<x.f by omega),decide_eq_true (show (x.v.2.length:Int)=c.ms.length by omega)]
  refine hjoin _ _ ?_ (G4 hb7 hk)
  simp -implicitDefEqProofs -proj only [go_sem,seval,AL]
  try rfl
 | succ j =>
  obtain ⟨y,e2,cy,hny⟩:=hprev j rfl
  have hc1:=Lw cy.1 w4.1 cy.2 w4.2
  have hc2:=NB cy.1 w4.1 cy.2 w4.2
  rw [decide_eq_false hny] at hc1 hc2
  have wj:IntKind.i64.wrap (((j+1:Nat):Int)-1)=(j:Int):=by rw [IntKind.wrap_i64]; omega
  simp -implicitDefEqProofs -proj only [go_sem,seval,m1,m2,m3,m4,k3,k1,Ft,FA,decide_eq_true w1,decide_eq_false (show ¬x.t<x.f by omega),decide_eq_true (show (x.v.2.length:Int)=c.ms.length by omega),decide_eq_true (show (0:Int)<((j+1:Nat):Int) by omega),wj]
  refine Ah _ (by omega) e2 ?_
  simp -implicitDefEqProofs -proj only [go_sem,seval,m1,m2,m3,m4,k3,k1]
  refine AJ hc1 ?_
  simp -implicitDefEqProofs -proj only [go_sem,seval,m1,m2,m3,m4,k3,k1,wj]
  refine Ah _ (by omega) e2 ?_
  simp -implicitDefEqProofs -proj only [go_sem,seval,m1,m2,m3,m4,k3,k1]
  refine AJ hc2 ?_
  simp -implicitDefEqProofs -proj only [go_sem,seval,m1,m2,m3,m4,k3,k1,Ft]
  refine hjoin _ _ ?_ (G4 hb7 hk)
  simp -implicitDefEqProofs -proj only [go_sem,seval,AL]
  try rfl
end Go.Proofs.YtbihahpaalcjjaaGreat.Abs
