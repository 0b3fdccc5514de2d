/- Contracts of the machine and the contracts of one law (joined by kmerge.py). No claim stands here. -/
import Derived.Below
import Derived.Carry
import Derived.ChangeCalls
import Derived.ChangeOld
import Derived.IntWalk
import Derived.KernelRfl
import Derived.Laws.Append
import Derived.Laws.AppendOwn
import Derived.Laws.Cells
import Derived.Laws.CopyRow
import Derived.Laws.Entries
import Derived.Laws.MakeOwn
import Derived.Laws.NewFold
import Derived.Laws.Rows
import Derived.Laws.StructEq
import Derived.OpenShut
import Derived.Orders
import Derived.OrdersIn
import Derived.ProofKit
import Derived.RangeFuncLeaves
import Derived.RangeFuncSeq
import Derived.SizedLaws
import Derived.TacticsIn
import Derived.WalkKit
import Derived.Test.YtmhmmomnfbfkiaaMbe
set_option maxRecDepth 100000
set_option linter.unusedSimpArgs false
set_option linter.unusedVariables false
namespace Go.Proofs.Ytmhmmomnfbfkiaa.Abs
open Go Go.RowKit Go.Proofs
attribute [local go_sem] B8 Bd Dh DC Cs C9 Bb Al Ax DE DU BV CI DK Dm CQ BM DF Du B2 CO Cd DM DH DL Bg De C7 EJ CF EF DR B3 EL D3 Cf CB EC CP Da Bj C2 CK Co Bc DD Cq Bm Be Dr C8 Ck Bq CE Ca Cu Cm DS Ba CR Bv BS D7 DQ CJ Bt EK Cn DO Cb BW BI DA B1 BJ C3 Bn BB CG EI Dg D2 EA Df Cr Bi Cl Db DW EH Ce Bo Dj By D5 Dc EG Cw Di D8 C5 CN DI CH Bk BF BY BG A8 Bs C6 CL AH ev Ah Ai Aw BK A6 Cg CM DJ BX Aq As Bu Bf CC Bp CX Dn Ci Bw Do Dv BU DX B7 Cc Ch BZ B0 B9 Dt D9 Dq C4 A9 Ae setSeg nth seg mapD Au A7 AQ BC Cx DZ Av Af cond_true cond_false D6 BO BH BE BL EM D1 List.cons_append List.nil_append Bool.not_true Bool.not_false Bool.and_true Bool.and_self Nat.lt_add_left_iff_pos Nat.zero_add Nat.add_zero List.drop_succ_cons List.drop_zero List.take_succ_cons List.take_zero beq_self_eq_true Bool.false_eq_true CU Cj BQ Bx ED Dy DV D0 Bz A0 and_self and_true true_and CT Ds CZ Cp Cv BP Cz Ct Dw Dz C0 CV Dk EB DB DT CW CS Az A5 BA Ao Dx CD Br EE BN Bh Cy Dd BT DN CA List.length_cons List.length_nil Nat.min_def Int.cast_ofNat_Int Int.natCast_zero Int.natCast_one decide_true decide_false List.getElem?_cons_zero List.getElem?_cons_succ Dp Bl CY C1 DG DP
theorem Tg {a b:List Run}:∀(n i k:Nat),GI (fun _ _=>false) a b n i k false=false
 | 0,i,k=>by rw [GI]
 | n+1,i,k=>by
  rw [GI]
  split
  ·rw [Bool.or_false,ite_self]
   exact Tg n _ _
  ·rfl
theorem AHb {g:Int→Int→Int} {a b:List Int} (h:a.length=b.length):IB g 0 0 a b=List.zipWith g a b:=by
 have hn:Kw 0 0 a b=a.length:=by unfold Kw; omega
 refine List.ext_getElem (by rw [Nj,hn,List.length_zipWith]; omega) fun i h1 h2=>?_
 rw [Nj,hn] at h1
 have e1:=MD (f:=0) (l:=a) (i:=i) h1
 have e2:=MD (f:=0) (l:=b) (i:=i) (by omega)
 rw [Int.zero_add] at e1 e2
 simp -implicitDefEqProofs only [IB,List.getElem_map,List.getElem_range,List.getElem_zipWith,show (max (0:Int) 0)=0 from rfl,Int.zero_add,e1,e2]
open Classical in
theorem AFk {la lb:List Int} {of:FuncId} {g:Int→Int→Int} (ha:ER la) (hb:ER lb) (hlen:la.length=lb.length) (hof:∀u v,F4 u→F4 v→DataW Try.prog of [i64 u,i64 v] (.tup [i64 (g u v),bv true])):DataW Try.prog OQ [FV la,FV lb,.fn of []] (if ER (List.zipWith g la lb) then .tup [FV (List.zipWith g la lb),bv true] else .tup [Fg 0 [],bv false]):=by
 have h:=AUF (bad:=fun _ _=>false) ha hb hlen hof
 unfold NJ at h
 rw [Tg,if_neg (by simp),AHb hlen] at h
 exact h
theorem AQP (u v:Int) (hu:F4 u) (hv:F4 v):DataW Try.prog M3 [i64 u,i64 v] (.tup [i64 ((fun u v=>u-v) u v),bv true]):=by
 unfold F4 at hu hv
 have h:=Su (a:=u) (b:=v) (by unfold Fit; omega) (by unfold Fit; omega)
 rwa [Iq (by unfold Fit; omega)] at h
theorem Q6 {m n k:Int} {A B G:List Grp} {u:Bool} (h:DataW Try.prog OQ [Fg m A,Fg n B,.fn M3 []] (.tup [Fg k G,bv u])):DataW Try.prog Pn [Fg m A,Fg n B] (.tup [Fg k G,bv u]):=by
 refine Aj ANU (by simp) ?_
 simp -implicitDefEqProofs -proj only [go_sem,seval]
 refine AI (fun b2 hb2=>?_)
 simp -implicitDefEqProofs -proj only [go_sem,seval]
 refine AI (fun b3 hb3=>?_)
 replace hb3:upd Heap.none b2 _ b3=none:=hb3
 obtain ⟨n1,n2⟩:=AK hb3 AN
 simp -implicitDefEqProofs -proj only [go_sem,seval,n1,n2]
 refine AI (fun b4 hb4=>?_)
 replace hb4:upd (upd Heap.none b2 _) b3 _ b4=none:=hb4
 obtain ⟨n3,n4⟩:=AK hb4 AN
 obtain ⟨n5,n6⟩:=AK hb4 (by rw [AF n1]; exact AN)
 simp -implicitDefEqProofs -proj only [go_sem,seval,n1,n2,n3,n4,n5,n6]
 refine AL h ?_
 simp -implicitDefEqProofs -proj only [go_sem,seval,n1,n2,n3,n4,n5,n6]
 exact AM rfl
open Classical in
theorem ADm {la lb:List Int} (ha:ER la) (hb:ER lb) (hlen:la.length=lb.length):DataW Try.prog Pn [FV la,FV lb] (if ER (List.zipWith (fun u v=>u-v) la lb) then .tup [FV (List.zipWith (fun u v=>u-v) la lb),bv true] else .tup [Fg 0 [],bv false]):=by
 have h:=AFk (of:=M3) (g:=(fun u v=>u-v)) ha hb hlen (fun u v hu hv=>AQP u v hu hv)
 by_cases hc:ER (List.zipWith (fun u v=>u-v) la lb)
 ·rw [if_pos hc] at h ⊢; exact Q6 h
 ·rw [if_neg hc] at h ⊢; exact Q6 h
theorem Vz {la lb ls:List Int} (ha:ER la) (hb:ER lb) (hlen:la.length=lb.length) (e:List.zipWith (fun u v=>u-v) la lb=ls) (hs:ER ls):DataW Try.prog Pn [FV la,FV lb] (.tup [FV ls,bv true]):=by
 subst e
 have h:=ADm ha hb hlen
 rwa [if_pos hs] at h
theorem AAo {n:Nat} {v:Int} (h:0<n):Ef (List.replicate n v)=[⟨0,v,0,0,1⟩]:=by
 have e:[(⟨0,(n:Int)-1,v⟩:Run)]=EP 0 (List.replicate n v):=by
  refine PQ (val:=fun _=>v) ⟨rfl,by show (0:Int)≤(n:Int)-1; omega,fun _ _ _=>rfl,fun s hs=>by simp at hs,?_⟩ (fun i hi=>by simp)
  show (n:Int)-1+1=0+((List.replicate n v).length:Int)
  rw [List.length_replicate]; omega
 unfold Ef
 rw [←e]
 rfl
theorem M8 {n:Nat} {v:Int} (h0:0<n) (h1:n≤2001) (hv:F4 v):ER (List.replicate n v) :=
 ⟨fun e=>by have:=congrArg List.length e; rw [List.length_replicate] at this; simp at this; omega,by rw [List.length_replicate]; exact h1,fun x hx=>by rw [(List.mem_replicate.1 hx).2]; exact hv⟩
theorem ACg {n:Nat} {v:Int} (h:0<n):EP 0 (List.replicate n v)=[(⟨0,(n:Int)-1,v⟩:Run)]:=by
 have e:[(⟨0,(n:Int)-1,v⟩:Run)]=EP 0 (List.replicate n v):=by
  refine PQ (val:=fun _=>v) ⟨rfl,by show (0:Int)≤(n:Int)-1; omega,fun _ _ _=>rfl,fun s hs=>by simp at hs,?_⟩ (fun i hi=>by simp)
  show (n:Int)-1+1=0+((List.replicate n v).length:Int)
  rw [List.length_replicate]; omega
 exact e.symm
theorem AKg {n:Nat} {v:Int} (h0:0<n):NewW Try.prog XY [i64 0,i64 ((n:Int)-1),i64 v] (Hm (EP 0 (List.replicate n v))):=by
 rw [ACg h0]
 generalize hm:(n:Int)-1=m
 refine Aj WL (by simp) ?_
 simp -implicitDefEqProofs -proj only [go_sem,seval,decide_eq_false (show ¬m<0 by omega)]
 refine AI (fun b6 hb6=>?_)
 simp -implicitDefEqProofs -proj only [go_sem,seval,decide_eq_false (show ¬m<0 by omega)]
 refine EO (fun bs hs=>?_)
 replace hs:upd Heap.none b6 _ bs=none:=hs
 obtain ⟨n1,n2⟩:=AK hs AN
 simp -implicitDefEqProofs -proj only [go_sem,seval,n1,n2]
 refine OE ?_
 exact .own _ _ _ _ _ [[.int .i64 0,.int .i64 m,.int .i64 v]] (by simp -implicitDefEqProofs -proj only [go_sem,seval,n1,n2]; rfl) (by intro el he d hd; simp -implicitDefEqProofs only [List.mem_singleton] at he; subst he; simp -implicitDefEqProofs only [List.mem_cons,List.not_mem_nil,or_false] at hd; rcases hd with rfl | rfl | rfl <;> rfl)
theorem AO7 {n:Nat} {v:Int} (h0:0<n) (h1:n≤2001) (hv:F4 v):DataW Try.prog ARc [i64 ((n:Int)-1),i64 v] (.tup [FV (List.replicate n v),bv true]):=by
 have h:=PP (l:=List.replicate n v) (by rw [List.length_replicate]; omega)
 rw [if_pos (M8 h0 h1 hv)] at h
 have hl:=AKg (v:=v) h0
 generalize EP 0 (List.replicate n v)=R at *
 refine Aj ACx (by simp) ?_
 simp -implicitDefEqProofs -proj only [go_sem,seval]
 refine AI (fun b4 hb4=>?_)
 simp -implicitDefEqProofs -proj only [go_sem,seval]
 refine AL hl.data ?_
 simp -implicitDefEqProofs -proj only [go_sem,seval]
 refine AL h.data ?_
 simp -implicitDefEqProofs -proj only [go_sem,seval]
 exact AM rfl
theorem AUq {a b:List (List Int)} (ha:∀l∈a,ER l) (hb:∀l∈b,ER l) (hla:a.length≤1000000) (hlb:b.length≤1000000):DataW Try.prog AFw [Ee a,Ee b,.fn Ou []] (bv (decide (a=b))):=by
 refine Aj AKJ (by simp) ?_
 by_cases hl:a.length=b.length
 rotate_left
 ·simp -implicitDefEqProofs -proj only [go_sem,seval,FS,decide_eq_false (show ¬(a.length:Int)=b.length by omega)]
  exact AM (by rw [decide_eq_false (fun e=>hl (by rw [e]))])
 simp -implicitDefEqProofs -proj only [go_sem,seval,FS,decide_eq_true (show (a.length:Int)=b.length by omega)]
 refine EN (fun i:Nat=>i≤a.length∧∀(j:Nat) (h:j<a.length) (h2:j<b.length),j<i→a[j]=b[j]) 32 (fun i=>[(0,Ee a),(1,Ee b),(2,.fn Ou []),(15,Ee a),(16,i64 a.length),(17,i64 i)]) (fun _=>[]) (fun i=>a.length-i) 0 ⟨Nat.zero_le _,fun j _ _ h=>absurd h (Nat.not_lt_zero _)⟩ rfl ?_ ?_ ?_
 ·simp -implicitDefEqProofs -proj only [go_sem,seval,AJ]
  try simp [hl]
 ·simp -implicitDefEqProofs -proj only [go_sem,seval,AZ]
 ·rintro i ⟨hi,hat⟩
  by_cases h:i<a.length
  ·have h':i<b.length:=by omega
   have e1:=JB h
   have e2:=JB h'
   have ca:=ha _ (List.getElem_mem h)
   have cb:=hb _ (List.getElem_mem h')
   have hst:=fun (e:a[i]=b[i])=>K6 (l:=List.range a.length) (P:=fun j _=>∀(h:j<a.length) (h2:j<b.length),a[j]=b[j]) (i:=i) (x:=i) (by simp [h]) (fun j hj hji=>fun h1 h2=>hat j h1 h2 hji) (fun _ _=>e)
   have hne:=fun (e:¬a[i]=b[i])=>show ¬a=b from fun k=>e (by subst k; rfl)
   have hcall:=SC (m:=(a[i].length:Int)-1) (n:=(b[i].length:Int)-1) (a:=Ef a[i]) (b:=Ef b[i]) (by have:=@JQ a[i]; have:=ca.2.1; omega) (by have:=@JQ b[i]; have:=cb.2.1; omega)
   rw [show decide ((a[i].length:Int)-1=(b[i].length:Int)-1∧Ef a[i]=Ef b[i])=decide (a[i]=b[i]) from decide_eq_decide.2 RU] at hcall
   generalize a[i]=x at *
   generalize b[i]=y at *
   simp -implicitDefEqProofs -proj only [go_sem,seval,decide_eq_true (show (i:Int)<a.length by omega)]
   refine Ag _ (by omega) e1 ?_
   simp -implicitDefEqProofs -proj only [go_sem,seval]
   refine AI (fun b8 hb8=>?_)
   simp -implicitDefEqProofs -proj only [go_sem,seval]
   refine Ag _ (by omega) e2 ?_
   simp -implicitDefEqProofs -proj only [go_sem,seval]
   refine AI (fun b9 hb9=>?_)
   simp -implicitDefEqProofs only [AQ] at hb9
   have n1:¬b8=b9:=fun e=>by subst e; simp at hb9
   have n2:¬b9=b8:=fun e=>n1 e.symm
   simp -implicitDefEqProofs -proj only [go_sem,seval,n1,n2]
   refine AL hcall ?_
   by_cases hp:x=y
   ·simp -implicitDefEqProofs -proj only [go_sem,seval,decide_eq_true hp]
    refine AY (i+1) ⟨by omega,fun j h1 h2 hj=>hst hp j (by simpa using h1) (by omega) h1 h2⟩ (by omega) rfl ?_ trivial
    simp -implicitDefEqProofs -proj only [go_sem,seval,AJ,AU (show i<9223372036854775807 by omega)]
   ·simp -implicitDefEqProofs -proj only [go_sem,seval,decide_eq_false hp]
    exact AM (by rw [decide_eq_false (hne hp)])
  ·have hi':i=a.length:=by omega
   subst hi'
   simp -implicitDefEqProofs -proj only [go_sem,seval,decide_eq_false (show ¬(a.length:Int)<a.length by omega)]
   exact AM (by rw [decide_eq_true (List.ext_getElem hl fun j h1 h2=>hat j h1 h2 h1)])
theorem Qv {a b:Seg D4} (ha:∀l∈a.v.2,ER l) (hb:∀l∈b.v.2,ER l) (hla:a.v.2.length≤1000000) (hlb:b.v.2.length≤1000000):DataW Try.prog AVI [JY a,JY b] (bv (decide (a.v=b.v))):=by
 have h1:=AUq ha hb hla hlb
 obtain ⟨f,t,⟨x,la⟩⟩:=a
 obtain ⟨g,u,⟨y,lb⟩⟩:=b
 simp -implicitDefEqProofs only [] at h1 ⊢
 refine Aj AHt (by simp) ?_
 simp -implicitDefEqProofs -proj only [go_sem,seval]
 refine AI (fun b2 hb2=>?_)
 simp -implicitDefEqProofs -proj only [go_sem,seval]
 refine AI (fun b3 hb3=>?_)
 replace hb3:upd Heap.none b2 _ b3=none:=hb3
 obtain ⟨n1,n2⟩:=AK hb3 AN
 by_cases hxy:x=y
 ·simp -implicitDefEqProofs -proj only [go_sem,seval,n1,n2,decide_eq_true hxy]
  refine AL h1 ?_
  simp -implicitDefEqProofs -proj only [go_sem,seval]
  exact AM (by rw [decide_eq_decide.2 (show (x,la)=(y,lb)↔la=lb from ⟨fun e=>(Prod.mk.inj e).2,fun e=>by rw [hxy,e]⟩)])
 ·simp -implicitDefEqProofs -proj only [go_sem,seval,n1,n2,decide_eq_false hxy]
  exact AM (by rw [decide_eq_false (fun e=>hxy (Prod.mk.inj e).1)])
def I2 (m o:MeterX):Bool:=o.nm.toList == m.nm.toList
def GS (own:List MeterX) (ls:List (List Int)) (m:MeterX):List Int:=match own.findIdx? (I2 m) with
 | some i=>ls.getD i []
 | none=>List.replicate (m.mx+1).toNat 0
def Am (own:List MeterX) (ls:List (List Int)) (all:List MeterX):List (List Int):=all.map (GS own ls)
def FO (own all:List MeterX) (v:D4):D4:=(v.1,Am own v.2 all)
theorem Ft {own all:List MeterX} {ls:List (List Int)}:(Am own ls all).length=all.length:=List.length_map ..
theorem ASm {own:List MeterX} {ls:List (List Int)} {m:MeterX} (hn:own.length=ls.length) (hl:∀l∈ls,ER l) (hm:0≤m.mx∧m.mx≤2000):ER (GS own ls m):=by
 unfold GS
 split
 ·next i hi =>
  obtain ⟨h,_⟩:=List.findIdx?_eq_some_iff_getElem.1 hi
  rw [List.getD_eq_getElem?_getD,List.getElem?_eq_getElem (by omega:i<ls.length)]
  exact hl _ (List.getElem_mem _)
 ·exact M8 (by omega) (by omega) (by decide)
theorem K5 {own all:List MeterX} {ls:List (List Int)} (hn:own.length=ls.length) (hl:∀l∈ls,ER l) (hm:∀m∈all,0≤m.mx∧m.mx≤2000):∀l∈Am own ls all,ER l:=by
 intro l h
 obtain ⟨m,h1,rfl⟩:=List.mem_map.1 h
 exact ASm hn hl (hm m h1)
theorem AIN {H:Heap} {b:Nat} {m o:MeterX} (hb:H b=some (F6 m)):CallW Try.prog Ro [Mb o,.ptr b 0] H fun r H'=>r=bv (I2 m o)∧H' b=some (F6 m):=by
 refine Aj ALd (by simp) ?_
 simp -implicitDefEqProofs -proj only [go_sem,seval]
 refine AI (fun b2 hb2=>?_)
 replace hb2:H b2=none:=hb2
 obtain ⟨n1,n2⟩:=AK hb2 hb
 simp -implicitDefEqProofs -proj only [go_sem,seval,n1,n2,hb,IN]
 rfl
abbrev IW (s:Seg D4):Blk:=.box 46 [i64 s.f,i64 s.t,i64 s.v.1,Ee s.v.2]
abbrev JG:Blk:=.box 46 [i64 0,i64 0,i64 0,.nilsl 2]
def H8 (b3 b6 b7:Nat) (s:Seg D4) (own all:List MeterX) (y:DY):List (Nat×Blk):=BD 58 2 y.c y.cap (Ay ((Am own s.v.2 all).take y.i))++[(b7,.box 46 [i64 s.f,i64 s.t,i64 s.v.1,EU 2 2 y.c y.cap (Ay ((Am own s.v.2 all).take y.i))]),(b3,IW s),(b6,JG)]
theorem Tc {s:Seg D4} {own all:List MeterX} (hn:own.length=s.v.2.length) (hl:∀l∈s.v.2,ER l) (hm:∀m∈all,0≤m.mx∧m.mx≤2000) (ho:own.length≤100000) (ha:all.length≤100000):DataW Try.prog P9 [JY s,.d (.sl 5 (AX own)),.d (.sl 5 (AX all))] (JY ⟨s.f,s.t,FO own all s.v⟩):=by
 refine Aj AMA (by simp) ?_
 simp -implicitDefEqProofs -proj only [go_sem,seval]
 refine AI (fun b3 hb3=>?_)
 simp -implicitDefEqProofs -proj only [go_sem,seval]
 refine AI (fun b6 hb6=>?_)
 replace hb6:upd Heap.none b3 _ b6=none:=hb6
 obtain ⟨n1,n2⟩:=AK hb6 AN
 simp -implicitDefEqProofs -proj only [go_sem,seval,n1,n2]
 refine AI (fun b7 hb7=>?_)
 replace hb7:upd (upd Heap.none b3 _) b6 _ b7=none:=hb7
 obtain ⟨n3,n4⟩:=AK hb7 AN
 obtain ⟨n5,n6⟩:=AK hb7 (by rw [AF n1]; exact AN)
 simp -implicitDefEqProofs -proj only [go_sem,seval,n1,n2,n3,n4,n5,n6,Fy]
 refine EN (fun y:DY=>y.i≤all.length∧(AP (H8 b3 b6 b7 s own all y)).Nodup) 50 (fun y=>[(1,.d (.sl 5 (AX own))),(3,.ptr b3 0),(6,.ptr b6 0),(7,.ptr b7 0),(20,.d (.sl 5 (AX all))),(21,i64 all.length),(22,i64 y.i)]) (H8 b3 b6 b7 s own all) (fun y=>all.length-y.i) ⟨0,0,0⟩ ⟨Nat.zero_le _,by simp [AP,H8,Ay,BD,n1,n2,n3,n4,n5,n6]⟩ rfl ?_ ?_ ?_
 ·simp -implicitDefEqProofs -proj only [go_sem,seval,AJ,EZ,Fy]
  try rfl
 ·simp -implicitDefEqProofs only [H8,EZ,List.take_zero,List.map_nil,Ay,BD,EU,List.nil_append]
  refine ⟨AN,?_,?_,trivial⟩
  ·show upd (upd (upd Heap.none b3 _) b6 _) b7 _ b3=_
   rw [AF n5,AF n1]; exact AN
  ·show upd (upd (upd Heap.none b3 _) b6 _) b7 _ b6=_
   rw [AF n3]; exact AN
 ·rintro ⟨i,c1,cap⟩ ⟨hi,hnd⟩
  simp -implicitDefEqProofs only [EZ] at hi
  have hall:=EV hnd
  obtain ⟨H,hH⟩:∃H,Ac (H8 b3 b6 b7 s own all ⟨i,c1,cap⟩)=H:=⟨_,rfl⟩
  rw [hH] at hall
  simp -implicitDefEqProofs only [H8,EZ,FF,FH] at hall hnd
  obtain ⟨hrow,k7,k3,k6,_⟩:=EQ.1 hall
  by_cases h:i<all.length
  ·have hel:=G2 h
   have hb:=hm _ (List.getElem_mem h)
   have hsn:(Am own s.v.2 all).take (i+1)=(Am own s.v.2 all).take i++[GS own s.v.2 all[i]]:=by
    rw [List.take_succ_eq_append_getElem (by rw [Ft]; exact h)]; simp -implicitDefEqProofs only [Am,List.getElem_map]
   have hlen:((Am own s.v.2 all).take i).length=i:=by rw [List.length_take,Ft]; omega
   generalize all[i]=m at *
   have hfl:=AO7 (n:=(m.mx+1).toNat) (v:=0) (by omega) (by omega) (by decide)
   rw [show (((m.mx+1).toNat:Nat):Int)-1=m.mx by omega] at hfl
   simp -implicitDefEqProofs -proj only [go_sem,seval,EZ,FF,FH,hH,decide_eq_true (show (i:Int)<all.length by omega)]
   refine Ag _ (by omega) hel ?_
   simp -implicitDefEqProofs -proj only [go_sem,seval]
   refine AI (fun b9 hb9=>?_)
   replace hb9:H b9=none:=hb9
   simp -implicitDefEqProofs -proj only [go_sem,seval]
   refine AL hfl ?_
   simp -implicitDefEqProofs -proj only [go_sem,seval]
   refine AI (fun b10 hb10=>?_)
   replace hb10:upd H b9 _ b10=none:=hb10
   obtain ⟨e1,e2⟩:=AK hb10 AN
   have hb10':H b10=none:=by rw [AF e2] at hb10; exact hb10
   obtain ⟨x1,x2⟩:=AK hb9 k3
   obtain ⟨x3,x4⟩:=AK hb10' k3
   simp -implicitDefEqProofs -proj only [go_sem,seval,e1,e2]
   obtain ⟨L0,hL0⟩:∃L0,HP (List.replicate (m.mx+1).toNat 0)=L0:=⟨_,rfl⟩
   obtain ⟨H1,hH1⟩:∃H1,upd (upd H b9 (some (F6 m))) b10 (some (.box 58 [i64 (((List.replicate (m.mx+1).toNat (0:Int)).length:Int)-1),FW (Ef (List.replicate (m.mx+1).toNat 0))]))=H1:=⟨_,rfl⟩
   have q9:H1 b9=some (F6 m):=by rw [←hH1,AF e1]; exact AN
   have q10:H1 b10=some (.box 58 [i64 (((List.replicate (m.mx+1).toNat (0:Int)).length:Int)-1),FW (Ef (List.replicate (m.mx+1).toNat 0))]):=by rw [←hH1]; exact AN
   have qall:AZ H1 (H8 b3 b6 b7 s own all ⟨i,c1,cap⟩):=by rw [←hH1]; exact Ap hb10 (Ap hb9 hall)
   rw [hH1]
   refine Fm (IL (Te (H:=Ac [(b9,F6 m)]) (x:=F6 m) (b:=b9) (p:=I2 m) (l:=own) (f:=Ro) (EV (l:=[(_,_)]) (by simp [AP])).1 (fun o _ H h=>AIN h) (by omega)) (Mm q9)) (fun r H2 hk=>?_)
   obtain ⟨H3,⟨rfl,h1⟩,hsub,hkp⟩:=hk
   have hne9:∀k x,H k=some x→¬k=b9:=fun k x hx=>(AK hb9 hx).2
   have r10:H2 b10=some (.box 58 [i64 (((List.replicate (m.mx+1).toNat (0:Int)).length:Int)-1),FW (Ef (List.replicate (m.mx+1).toNat 0))]):=hkp _ _ q10 (by simp -implicitDefEqProofs -proj only [go_sem,seval,e1,e2])
   have rall:AZ H2 (H8 b3 b6 b7 s own all ⟨i,c1,cap⟩):=GU.2 fun p hp=>hkp _ _ (GU.1 qall p hp) (by
    have:=hne9 _ _ (GU.1 hall p hp)
    rw [Av,if_neg this]; rfl)
   have hf10:b10∉AP (H8 b3 b6 b7 s own all ⟨i,c1,cap⟩):=Ln hb10' hall
   clear hkp hsub q9 q10 qall hne9 h1
   cases hix:own.findIdx? (I2 m) with
   | none =>
    have e:GP (I2 m) own = -1:=by unfold GP; rw [hix]
    have hw:GS own s.v.2 m=List.replicate (m.mx+1).toNat 0:=by unfold GS; rw [hix]
    generalize List.replicate (m.mx+1).toNat (0:Int)=L at *
    obtain ⟨g3,g10,g7⟩:H2 b3=_∧H2 b10=_∧H2 b7=_:=⟨(EQ.1 rall).2.2.1,r10,(EQ.1 rall).2.1⟩
    simp -implicitDefEqProofs only [EZ,FF,FH] at g3 g10 g7
    simp -implicitDefEqProofs -proj only [go_sem,seval,e,g3,g10,g7]
    refine EO (fun bs hs=>?_)
    replace hs:H2 bs=none:=hs
    simp -implicitDefEqProofs -proj only [go_sem,seval]
    refine FX (xs:=Ay ((Am own s.v.2 all).take i)) (y:=HP L) (t:=58) (capc:=1) [(b7,.box 46 [i64 s.f,i64 s.t,i64 s.v.1,EU 2 2 c1 cap (Ay ((Am own s.v.2 all).take i))]),(b3,IW s),(b6,JG)] rfl (Ap hs rall) hnd (by simp -implicitDefEqProofs -proj only [go_sem,seval]; try rfl) (by rw [FS,hlen]; omega) (by rw [FS,hlen]; omega) (fun H6 c2 cap2 ha6 hk6=>?_)
    have esn:Ay ((Am own s.v.2 all).take i)++[HP L]=Ay ((Am own s.v.2 all).take (i+1)):=by rw [hsn,hw]; simp [Ay]
    rw [esn] at ha6 hk6
    obtain ⟨hrow6,u7,u3,u6,_⟩:=EQ.1 ha6
    have hne:Ay ((Am own s.v.2 all).take (i+1))≠[]:=by rw [←esn]; simp
    have hl1:(Ay ((Am own s.v.2 all).take (i+1))).length=i+1:=by rw [FS,List.length_take,Ft]; omega
    simp -implicitDefEqProofs -proj only [go_sem,seval,u7,FS,hlen]
    have hk7:b7∉AP (BD 58 2 c2 cap2 (Ay ((Am own s.v.2 all).take (i+1)))):=by
     simp -implicitDefEqProofs only [AP,List.map_append,List.map_cons] at hk6
     exact fun hm=>(List.nodup_append.1 hk6).2.2 _ hm _ (List.mem_cons_self ..) rfl
    refine AY ⟨i+1,c2,cap2⟩ ⟨by rw [EZ]; omega,by simpa only [H8,EZ,FF,FH,AP,List.map_append,List.map_cons] using hk6⟩ (by show all.length-(i+1)<all.length-i; omega) rfl ?_ ?_
    ·simp -implicitDefEqProofs -proj only [go_sem,seval,AJ,EZ,AU (show i<9223372036854775807 by omega)]
    ·simp -implicitDefEqProofs only [H8,EZ,FF,FH,Eg hne,hl1]
     exact EQ.2 ⟨Fk hrow6 hk7,AN,(AF n5).trans u3,(AF n3).trans u6,trivial⟩
   | some j =>
    have e:GP (I2 m) own=j:=by unfold GP; rw [hix]
    obtain ⟨hj,_⟩:=List.findIdx?_eq_some_iff_getElem.1 hix
    have hj2:j<s.v.2.length:=by omega
    have hw:GS own s.v.2 m=s.v.2[j]:=by unfold GS; rw [hix]; simp [hj2]
    have elj:=JB hj2
    generalize List.replicate (m.mx+1).toNat (0:Int)=L0 at *
    generalize s.v.2[j]=L at *
    obtain ⟨g3,g10,g7⟩:H2 b3=_∧H2 b10=_∧H2 b7=_:=⟨(EQ.1 rall).2.2.1,r10,(EQ.1 rall).2.1⟩
    simp -implicitDefEqProofs only [EZ,FF,FH] at g3 g10 g7
    simp -implicitDefEqProofs -proj only [go_sem,seval,e,g3,g10,g7,decide_eq_true (show (0:Int)≤(j:Int) by omega)]
    refine Ag _ (by omega) elj ?_
    obtain ⟨z1,z2⟩:=AK hb10' k7
    simp -implicitDefEqProofs -proj only [go_sem,seval,g3,g10,g7,z1,z2]
    obtain ⟨H5,hH5⟩:∃H5,upd H2 b10 (some (.box 58 [i64 ((L.length:Int)-1),FW (Ef L)]))=H5:=⟨_,rfl⟩
    have g7':H5 b7=H2 b7:=by rw [←hH5,AF z1]
    have g10':H5 b10=some (.box 58 [i64 ((L.length:Int)-1),FW (Ef L)]):=by rw [←hH5,AN]
    have rall':AZ H5 (H8 b3 b6 b7 s own all ⟨i,c1,cap⟩):=by rw [←hH5]; exact Fk rall hf10
    rw [g7] at g7'
    clear rall g10 g7 g3 r10
    have rall:=rall'
    rw [hH5]
    refine EO (fun bs hs=>?_)
    replace hs:H5 bs=none:=hs
    simp -implicitDefEqProofs -proj only [go_sem,seval]
    refine FX (xs:=Ay ((Am own s.v.2 all).take i)) (y:=HP L) (t:=58) (capc:=1) [(b7,.box 46 [i64 s.f,i64 s.t,i64 s.v.1,EU 2 2 c1 cap (Ay ((Am own s.v.2 all).take i))]),(b3,IW s),(b6,JG)] rfl (Ap hs rall) hnd (by simp -implicitDefEqProofs -proj only [go_sem,seval]; try rfl) (by rw [FS,hlen]; omega) (by rw [FS,hlen]; omega) (fun H6 c2 cap2 ha6 hk6=>?_)
    have esn:Ay ((Am own s.v.2 all).take i)++[HP L]=Ay ((Am own s.v.2 all).take (i+1)):=by rw [hsn,hw]; simp [Ay]
    rw [esn] at ha6 hk6
    obtain ⟨hrow6,u7,u3,u6,_⟩:=EQ.1 ha6
    have hne:Ay ((Am own s.v.2 all).take (i+1))≠[]:=by rw [←esn]; simp
    have hl1:(Ay ((Am own s.v.2 all).take (i+1))).length=i+1:=by rw [FS,List.length_take,Ft]; omega
    simp -implicitDefEqProofs -proj only [go_sem,seval,u7,FS,hlen]
    have hk7:b7∉AP (BD 58 2 c2 cap2 (Ay ((Am own s.v.2 all).take (i+1)))):=by
     simp -implicitDefEqProofs only [AP,List.map_append,List.map_cons] at hk6
     exact fun hm=>(List.nodup_append.1 hk6).2.2 _ hm _ (List.mem_cons_self ..) rfl
    refine AY ⟨i+1,c2,cap2⟩ ⟨by rw [EZ]; omega,by simpa only [H8,EZ,FF,FH,AP,List.map_append,List.map_cons] using hk6⟩ (by show all.length-(i+1)<all.length-i; omega) rfl ?_ ?_
    ·simp -implicitDefEqProofs -proj only [go_sem,seval,AJ,EZ,AU (show i<9223372036854775807 by omega)]
    ·simp -implicitDefEqProofs only [H8,EZ,FF,FH,Eg hne,hl1]
     exact EQ.2 ⟨Fk hrow6 hk7,AN,(AF n5).trans u3,(AF n3).trans u6,trivial⟩
  ·have hi':i=all.length:=by omega
   subst hi'
   have htk:(Am own s.v.2 all).take all.length=Am own s.v.2 all:=List.take_of_length_le (by rw [Ft]; exact Nat.le_refl _)
   rw [htk] at k7 hrow hnd
   simp -implicitDefEqProofs -proj only [go_sem,seval,EZ,FF,FH,hH,k7,k6,decide_eq_false (show ¬(all.length:Int)<all.length by omega)]
   exact OP (Id (Fk hrow (by
    have:=hnd
    simp -implicitDefEqProofs only [AP,List.map_append,List.map_cons] at this
    exact fun hm=>(List.nodup_append.1 this).2.2 _ hm _ (by simp) rfl)))
structure TwX where
 f:Int
 t:Int
 a:Seg D4
 b:Seg D4
def E2 (x:TwX):List D:=[.int .i64 x.f,.int .i64 x.t,.int .i64 x.a.f,.int .i64 x.a.t,.int .i64 x.a.v.1,.sl 2 (Ay x.a.v.2),.int .i64 x.b.f,.int .i64 x.b.t,.int .i64 x.b.v.1,.sl 2 (Ay x.b.v.2)]
def An (L:List TwX):List (List D):=L.map E2
abbrev Ly (x:TwX):AV:=.agg [i64 x.f,i64 x.t,i64 x.a.f,i64 x.a.t,i64 x.a.v.1,Ee x.a.v.2,i64 x.b.f,i64 x.b.t,i64 x.b.v.1,Ee x.b.v.2]
theorem Ej {L:List TwX}:(An L).length=L.length:=List.length_map ..
theorem Lr {L:List TwX} {i:Nat} {x:TwX} (h:L[i]? = some x):(An L)[i]? = some (E2 x):=by simp [An,h]
theorem Mq {L:List TwX} {i:Nat} {x:TwX}:(An L).set i (E2 x)=An (L.set i x):=by simp [An,List.map_set]
theorem Jx {L:List TwX} {x:TwX}:An L++[E2 x]=An (L++[x]):=by simp [An]
noncomputable def EX (L:List TwX) (x:TwX):List TwX:=match L.getLast? with
 | some y=>if y.a.v=x.a.v∧y.b.v=x.b.v then L.set (L.length-1) { y with t:=x.t } else L++[x]
 | none=>L++[x]
def IP (x:TwX):Prop:=(∀l∈x.a.v.2,ER l)∧(∀l∈x.b.v.2,ER l)∧x.a.v.2.length≤1000000∧x.b.v.2.length≤1000000
def VE (L:List TwX) (x:TwX) (r:AV) (H':Heap):Prop:=∃c' cap',r=EU 0 10 c' cap' (An (EX L x))∧AZ H' (BD 48 10 c' cap' (An (EX L x)))
theorem AD6 {L:List TwX} {x:TwX} {c cap:Nat} (hL:∀y∈L,IP y) (hx:IP x) (hl:L.length≤1000000):CallW Try.prog ARU [EU 0 10 c cap (An L),Ly x] (Ac (BD 48 10 c cap (An L))) (VE L x):=by
 have hnd:∀M:List TwX,(AP (BD 48 10 c cap (An M))).Nodup:=fun M=>by
  unfold BD; split <;> simp [AP]
 have hall:=EV (hnd L)
 obtain ⟨H,hH⟩:∃H,Ac (BD 48 10 c cap (An L))=H:=⟨_,rfl⟩
 rw [hH] at hall ⊢
 refine Aj ACI (by simp) ?_
 simp -implicitDefEqProofs -proj only [go_sem,seval]
 refine AI (fun b3 hb3=>?_)
 replace hb3:H b3=none:=hb3
 have happ:∀x:TwX,True:=fun _=>trivial
 cases hlast:L.getLast? with
 | none =>
  have e0:L=[]:=List.getLast?_eq_none_iff.1 hlast
  have hput:EX L x=L++[x]:=by unfold EX; rw [hlast]
  have hl0:(An L).length=0:=by rw [e0]; rfl
  simp -implicitDefEqProofs -proj only [go_sem,seval,A9,hl0]
  refine EO (fun bs hs=>?_)
  simp -implicitDefEqProofs -proj only [go_sem,seval]
  refine FX (xs:=An L) (y:=E2 x) (t:=48) (capc:=1) [] rfl (by rw [List.append_nil]; exact Ap hs (Ap hb3 hall)) (by rw [List.append_nil]; exact hnd L) (by simp -implicitDefEqProofs -proj only [go_sem,seval]; try rfl) (by rw [Ej]; omega) (by rw [Ej]; omega) (fun H6 c2 cap2 ha6 hk6=>?_)
  rw [List.append_nil,Jx,←hput] at ha6
  have hne:An (EX L x)≠[]:=by rw [hput,←Jx]; simp
  have hl2:(An (EX L x)).length=0+1:=by rw [hput,Ej,List.length_append,e0]; rfl
  simp -implicitDefEqProofs -proj only [go_sem,seval]
  exact ⟨c2,cap2,by rw [Eg hne,hl2,hl0],ha6⟩
 | some y =>
  have hLne:L≠[]:=fun e=>by rw [e] at hlast; cases hlast
  have hL0:0<L.length:=List.length_pos_iff.2 hLne
  have hy:L[L.length-1]? = some y:=by rw [←List.getLast?_eq_getElem?]; exact hlast
  have hyL:y∈L:=List.mem_of_getElem? hy
  have hrn:An L≠[]:=fun e=>by have:=congrArg List.length e; rw [Ej] at this; simp at this; exact hLne this
  have hy2:=hL y hyL
  rw [Eg hrn,Ej]
  have hr:H c=some (.row 48 10 cap (An L)):=by
   have:=hall
   rw [FA hrn] at this
   exact this.1
  obtain ⟨n1,n2⟩:=AK hb3 hr
  have hw:IntKind.i64.wrap ((L.length:Int)-1)=((L.length-1:Nat):Int):=by rw [IntKind.wrap_i64]; omega
  have hel:=Lr hy
  simp -implicitDefEqProofs -proj only [go_sem,seval,decide_eq_true (show (0:Int)<(L.length:Int) by omega),hw,n1,n2,hr,Int.toNat_natCast,Nat.zero_add]
  refine Ak (by omega) (fun _=>?_)
  refine En _ hel (by simp [E2]) ?_
  simp -implicitDefEqProofs only [E2]
  simp -implicitDefEqProofs -proj only [go_sem,seval,n1,n2,hr]
  refine AL (Qv (a:=y.a) (b:=x.a) hy2.1 hx.1 hy2.2.2.1 hx.2.2.1) ?_
  by_cases ca:y.a.v=x.a.v
  ·simp -implicitDefEqProofs -proj only [go_sem,seval,n1,n2,hr,decide_eq_true ca,hw,Int.toNat_natCast,Nat.zero_add]
   refine Ak (by omega) (fun _=>?_)
   refine En _ hel (by simp [E2]) ?_
   simp -implicitDefEqProofs only [E2]
   simp -implicitDefEqProofs -proj only [go_sem,seval,n1,n2,hr]
   refine AL (Qv (a:=y.b) (b:=x.b) hy2.2.1 hx.2.1 hy2.2.2.2 hx.2.2.2) ?_
   by_cases cb:y.b.v=x.b.v
   ·have hput:EX L x=L.set (L.length-1) { y with t:=x.t }:=by unfold EX; rw [hlast]; exact if_pos ⟨ca,cb⟩
    simp -implicitDefEqProofs -proj only [go_sem,seval,n1,n2,hr,decide_eq_true cb,hw,Int.toNat_natCast,Nat.zero_add]
    refine Ak (by omega) (fun _=>?_)
    refine IK (el:=E2 y) (xs:=An L) (cap:=cap) (t:=48) (by simp -implicitDefEqProofs -proj only [go_sem,seval,n1,n2,hr]) hel (by simp [E2]) ?_
    have es:Fr (E2 y) 1 [.int .i64 x.t]=E2 { y with t:=x.t }:=rfl
    rw [es,Mq,←hput]
    have hl2:(An (EX L x)).length=L.length:=by rw [hput,Ej,List.length_set]
    have hne:An (EX L x)≠[]:=fun e=>by have:=congrArg List.length e; rw [hl2] at this; simp at this; exact hLne this
    simp -implicitDefEqProofs -proj only [go_sem,seval]
    exact ⟨c,cap,by rw [Eg hne,hl2],by rw [FA hne]; exact ⟨AN,trivial⟩⟩
   ·have hput:EX L x=L++[x]:=by unfold EX; rw [hlast]; exact if_neg (fun k=>cb k.2)
    simp -implicitDefEqProofs -proj only [go_sem,seval,n1,n2,hr,decide_eq_false cb]
    refine EO (fun bs hs=>?_)
    simp -implicitDefEqProofs -proj only [go_sem,seval]
    refine Li (xs:=An L) (ys:=[E2 x]) (e:=48) (t:=48) (capc:=1) (by
     obtain ⟨f1,f2⟩:=AK hs (show upd H b3 _ c=_ by rw [AF n1]; exact hr)
     simp -implicitDefEqProofs -proj only [go_sem,seval,f1,f2,n1,n2,hr]) (by simp -implicitDefEqProofs -proj only [go_sem,seval]; try rfl) (by rw [Ej]) rfl (by simp) rfl (by rw [Ej]; simp [maxLen]; omega) (fun b' cap' hb'=>?_)
    rw [Jx,←hput]
    have hl2:(An (EX L x)).length=L.length+1:=by rw [hput,Ej,List.length_append]; rfl
    have hne:An (EX L x)≠[]:=fun e=>by have:=congrArg List.length e; rw [hl2] at this; simp at this
    simp -implicitDefEqProofs -proj only [go_sem,seval]
    exact ⟨b',cap',by rw [Eg hne,hl2],by rw [FA hne]; exact ⟨AN,trivial⟩⟩
  ·have hput:EX L x=L++[x]:=by unfold EX; rw [hlast]; exact if_neg (fun k=>ca k.1)
   simp -implicitDefEqProofs -proj only [go_sem,seval,n1,n2,hr,decide_eq_false ca]
   refine EO (fun bs hs=>?_)
   simp -implicitDefEqProofs -proj only [go_sem,seval]
   refine Li (xs:=An L) (ys:=[E2 x]) (e:=48) (t:=48) (capc:=1) (by
    obtain ⟨f1,f2⟩:=AK hs (show upd H b3 _ c=_ by rw [AF n1]; exact hr)
    simp -implicitDefEqProofs -proj only [go_sem,seval,f1,f2,n1,n2,hr]) (by simp -implicitDefEqProofs -proj only [go_sem,seval]; try rfl) (by rw [Ej]) rfl (by simp) rfl (by rw [Ej]; simp [maxLen]; omega) (fun b' cap' hb'=>?_)
   rw [Jx,←hput]
   have hl2:(An (EX L x)).length=L.length+1:=by rw [hput,Ej,List.length_append]; rfl
   have hne:An (EX L x)≠[]:=fun e=>by have:=congrArg List.length e; rw [hl2] at this; simp at this
   simp -implicitDefEqProofs -proj only [go_sem,seval]
   exact ⟨b',cap',by rw [Eg hne,hl2],by rw [FA hne]; exact ⟨AN,trivial⟩⟩
abbrev HC:Type:=D4×D4
def Hb (x:TwX):Seg HC:=⟨x.f,x.t,(x.a.v,x.b.v)⟩
def FL (s:Seg HC):TwX:=⟨s.f,s.t,⟨s.f,s.t,s.v.1⟩,⟨s.f,s.t,s.v.2⟩⟩
def LW (x:TwX):TwX:=⟨x.f,x.t,⟨x.f,x.t,x.a.v⟩,⟨x.f,x.t,x.b.v⟩⟩
theorem AQd (x:TwX):LW x=FL (Hb x):=rfl
theorem FwdB.last {β:Type} {val:Int→β} {lo hi:Int} {A:List (Seg β)} {s:Seg β} (h:FwdB val lo hi (A++[s])):s.f≤s.t∧s.t+1=hi∧∀x,s.f≤x→x≤s.t→val x=s.v:=by
 obtain ⟨_,h2,_,h4,_,h6,_⟩:=h.nth A.length s (by simp)
 exact ⟨h2,h6 (by simp),h4⟩
theorem FwdB.more {β:Type} {val:Int→β} {lo hi x:Int} {A:List (Seg β)} {s:Seg β} (h:FwdB val lo hi (A++[s])) (h1:hi≤x+1) (h3:∀d,hi≤d→d≤x→val d=s.v):FwdB val lo (x+1) (A++[⟨s.f,x,s.v⟩]):=by
 obtain ⟨g1,g2,g3⟩:=h.last
 exact h.setLast (by omega) (fun y a b=>if k:y≤s.t then g3 y a k else h3 y (by omega) b)
theorem QW {α:Type} {L:List α} {y : α} (h:L.getLast? = some y):L=L.dropLast++[y]:=by
 have hne:L≠[]:=fun e=>by rw [e] at h; cases h
 rw [List.getLast?_eq_some_getLast hne] at h
 cases h
 exact (List.dropLast_concat_getLast hne).symm
theorem TH {val:Int→HC} {lo p:Int} {L:List TwX} {x:TwX} (h:FwdB val lo p (L.map Hb)) (hf:x.f=p) (hft:x.f≤x.t) (hv:∀d,x.f≤d→d≤x.t→val d=(x.a.v,x.b.v)):FwdB val lo (x.t+1) ((EX L x).map Hb):=by
 unfold EX
 split
 ·next y hy =>
  have hs:=QW hy
  split
  ·next hc =>
   have e:L.set (L.length-1) { y with t:=x.t }=L.dropLast++[{ y with t:=x.t }]:=by
    have hl:L.length-1=L.dropLast.length:=by rw [List.length_dropLast]
    rw [hl]
    conv=>lhs; arg 1; rw [hs]
    rw [List.set_append_right _ _ (Nat.le_refl _),Nat.sub_self]; rfl
   rw [e,List.map_append]
   rw [hs,List.map_append] at h
   exact h.more (x:=x.t) (by omega) (fun d a b=>by rw [hv d (by omega) b]; show (x.a.v,x.b.v)=(y.a.v,y.b.v); rw [hc.1,hc.2])
  ·next hc =>
   rw [List.map_append]
   refine h.push (r:=Hb x) hf hft hv (fun s hs=>?_)
   rw [List.getLast?_map,hy] at hs
   cases hs
   exact fun e=>hc ⟨(Prod.mk.inj e).1,(Prod.mk.inj e).2⟩
 ·next hy =>
  rw [List.map_append]
  refine h.push (r:=Hb x) hf hft hv (fun s hs=>?_)
  rw [List.getLast?_map,hy] at hs
  cases hs
theorem Qe {L:List TwX} {x:TwX} {P:D4→D4→Prop} (hL:∀y∈L,P y.a.v y.b.v) (hx:P x.a.v x.b.v):∀y∈EX L x,P y.a.v y.b.v:=by
 intro y hy
 unfold EX at hy
 split at hy
 ·next z hz =>
  split at hy
  ·rcases List.mem_or_eq_of_mem_set hy with h | rfl
   ·exact hL y h
   ·exact hL z (List.mem_of_getLast? hz)
  ·rcases List.mem_append.1 hy with h | h
   ·exact hL y h
   ·rw [List.mem_singleton.1 h]; exact hx
 ·rcases List.mem_append.1 hy with h | h
  ·exact hL y h
  ·rw [List.mem_singleton.1 h]; exact hx
theorem Ug {L:List TwX} {x:TwX}:(EX L x).length≤L.length+1:=by
 unfold EX
 split
 ·split
  ·rw [List.length_set]; omega
  ·rw [List.length_append]; exact Nat.le_refl _
 ·rw [List.length_append]; exact Nat.le_refl _
theorem FwdB.exists {β:Type} (val:Int→β) (lo:Int):∀n:Nat,∃S,FwdB val lo (lo+n) S
 | 0=>⟨[],by show lo=lo+((0:Nat):Int); omega⟩
 | n+1=>by
  obtain ⟨S,h⟩:=FwdB.exists val lo n
  by_cases hc:∃s,S.getLast? = some s∧s.v=val (lo+n)
  ·obtain ⟨s,h1,h2⟩:=hc
   rw [QW h1] at h
   have:=h.more (x:=lo+n) (by omega) (fun d a b=>by rw [h2,show d=lo+n by omega])
   rw [show lo+((n+1:Nat):Int)=lo+(n:Int)+1 by omega]
   exact ⟨_,this⟩
  ·have:=h.push (r:=⟨lo+n,lo+n,val (lo+n)⟩) rfl (Int.le_refl _) (fun x (a:lo+(n:Int)≤x) (b:x≤lo+(n:Int))=>by rw [show x=lo+n by omega]) (fun s hs e=>hc ⟨s,hs,e⟩)
   rw [show lo+((n+1:Nat):Int)=lo+(n:Int)+1 by omega]
   exact ⟨_,this⟩
structure TwI {va vb:Int→D4} (val:Int→HC) (lo hi:Int) (S S':List (Seg D4)) (i k:Nat) (L:List TwX) (p:Int):Prop where
 fwd:FwdB val lo p (L.map Hb)
 le:p≤hi
 a:∀s,S[i]? = some s→s.f≤p∧p≤s.t
 a0:S[i]? = none→p=hi
 b:∀s,S'[k]? = some s→s.f≤p∧p≤s.t
 b0:S'[k]? = none→p=hi
 one:∀s s',S[i]? = some s→S'[k]? = some s'→s.f=p∨s'.f=p
theorem TwI.start {va vb:Int→D4} {val:Int→HC} {lo hi:Int} {S S':List (Seg D4)} (h:FwdB va lo hi S) (h':FwdB vb lo hi S'):TwI (va:=va) (vb:=vb) val lo hi S S' 0 0 [] lo:=by
 refine ⟨rfl,h.le,fun s hs=>?_,fun hn=>?_,fun s hs=>?_,fun hn=>?_,fun s s' hs hs'=>?_⟩
 ·obtain ⟨_,h2,_,_,_,_,h7⟩:=h.nth 0 s hs
  have:=h7 rfl
  omega
 ·cases S with
  | nil=>exact h
  | cons a b=>cases hn
 ·obtain ⟨_,h2,_,_,_,_,h7⟩:=h'.nth 0 s hs
  have:=h7 rfl
  omega
 ·cases S' with
  | nil=>exact h'
  | cons a b=>cases hn
 ·exact .inl ((h.nth 0 s hs).2.2.2.2.2.2 rfl)
theorem TwI.step {va vb:Int→D4} {val:Int→HC} {lo hi:Int} {S S':List (Seg D4)} {i k:Nat} {L:List TwX} {p:Int} {wa wb:D4→D4} (h:FwdB va lo hi S) (h':FwdB vb lo hi S') (hw:∀d,lo≤d→d<hi→val d=(wa (va d),wb (vb d))) (hI:TwI (va:=va) (vb:=vb) val lo hi S S' i k L p) {s s':Seg D4} (hs:S[i]? = some s) (hs':S'[k]? = some s') {x:TwX} (xf:x.f=max s.f s'.f) (xt:x.t=min s.t s'.t) (xa:x.a.v=wa s.v) (xb:x.b.v=wb s'.v):TwI (va:=va) (vb:=vb) val lo hi S S' (if s.t=x.t then i+1 else i) (if s'.t=x.t then k+1 else k) (EX L x) (x.t+1):=by
 obtain ⟨h1,h2,h3,h4,h5,h6,_⟩:=h.nth i s hs
 obtain ⟨k1,k2,k3,k4,k5,k6,_⟩:=h'.nth k s' hs'
 obtain ⟨a1,a2⟩:=hI.a s hs
 obtain ⟨b1,b2⟩:=hI.b s' hs'
 have hone:=hI.one s s' hs hs'
 have hlo:lo≤p:=by
  have:=hI.fwd.le
  exact this
 refine ⟨TH hI.fwd (by omega) (by omega) (fun d c1 c2=>?_),by omega,fun q hq=>?_,fun hq=>?_,fun q hq=>?_,fun hq=>?_,fun q q' hq hq'=>?_⟩
 ·rw [hw d (by omega) (by omega),h4 d (by omega) (by omega),k4 d (by omega) (by omega),xa,xb]
 ·by_cases c:s.t=x.t
  ·rw [if_pos c] at hq
   obtain ⟨e1,_⟩:=h5 q hq
   have:=(h.nth (i+1) q hq).2.1
   omega
  ·rw [if_neg c] at hq
   rw [hs] at hq; cases hq
   omega
 ·by_cases c:s.t=x.t
  ·rw [if_pos c] at hq
   have:=h6 hq
   omega
  ·rw [if_neg c,hs] at hq; cases hq
 ·by_cases c:s'.t=x.t
  ·rw [if_pos c] at hq
   obtain ⟨e1,_⟩:=k5 q hq
   have:=(h'.nth (k+1) q hq).2.1
   omega
  ·rw [if_neg c] at hq
   rw [hs'] at hq; cases hq
   omega
 ·by_cases c:s'.t=x.t
  ·rw [if_pos c] at hq
   have:=k6 hq
   omega
  ·rw [if_neg c,hs'] at hq; cases hq
 ·by_cases c:s.t=x.t
  ·rw [if_pos c] at hq
   obtain ⟨e1,_⟩:=h5 q hq
   exact .inl (by omega)
  ·by_cases c':s'.t=x.t
   ·rw [if_pos c'] at hq'
    obtain ⟨e1,_⟩:=k5 q' hq'
    exact .inr (by omega)
   ·omega
theorem TwI.last {va vb:Int→D4} {val:Int→HC} {lo hi:Int} {S S':List (Seg D4)} {i k:Nat} {L:List TwX} {p:Int} (hI:TwI (va:=va) (vb:=vb) val lo hi S S' i k L p) (h:S[i]? = none∨S'[k]? = none):FwdB val lo hi (L.map Hb):=by
 have:p=hi:=by
  rcases h with h | h
  ·exact hI.a0 h
  ·exact hI.b0 h
 subst this
 exact hI.fwd
structure FormOK (va:Int→D4) (f t:Int) (ms:List MeterX) (S:List (Seg D4)):Prop where
 fwd:FwdB va f (t+1) S
 f0:0≤f
 t1:t≤4000000
 tf:t-f≤4000
 ms8:ms.length≤8
 mx:∀m∈ms,0≤m.mx∧m.mx≤2000
 cur:∀s∈S,(∀l∈s.v.2,ER l)∧s.v.2.length=ms.length
theorem FormOK.len {va:Int→D4} {f t:Int} {ms:List MeterX} {S:List (Seg D4)} (h:FormOK va f t ms S):S.length≤100001:=by
 have:=h.fwd.len
 have:=h.tf
 omega
def ID (va vb:Int→D4) (A B all:List MeterX) (d:Int):HC:=(FO A all (va d),FO B all (vb d))
theorem AHF {H:Heap} {a b:Nat} {x y z w:Option Blk} (h:¬a=b):upd (upd (upd (upd H a x) b y) a z) b w=upd (upd H a z) b w:=by
 funext k
 simp -implicitDefEqProofs only [AQ]
 split
 ·rfl
 ·split
  ·rfl
  ·rfl
theorem Pe {H:Heap} {t:TypeId} {sz c cap:Nat} {xs:List (List D)} {l:List (Nat×Blk)} (hr:AZ H (BD t sz c cap xs)) (hl:AZ H l) (hb:∀q∈l,∃t cells,q.2 = .box t cells) (hn:(AP l).Nodup):(AP (BD t sz c cap xs++l)).Nodup:=by
 by_cases h:xs=[]
 ·subst h; exact hn
 ·rw [FA h] at hr ⊢
  refine List.nodup_cons.2 ⟨fun hm=>?_,hn⟩
  obtain ⟨q,hq,e⟩:=List.mem_map.1 hm
  obtain ⟨t',cells,e2⟩:=hb q hq
  have h1:=GU.1 hl q hq
  have h2:=hr.1
  rw [e,e2] at h1
  rw [h1] at h2
  cases h2
theorem Rt {z sz c cap:Nat} {xs ys:List (List D)} (h:xs.length=ys.length):EU z sz c cap xs=EU z sz c cap ys:=by
 by_cases e:xs=[]
 ·subst e
  rw [show ys=[] from List.eq_nil_of_length_eq_zero (by rw [←h]; rfl)]
 ·have e2:ys≠[]:=fun k=>e (List.eq_nil_of_length_eq_zero (by rw [h,k]; rfl))
  rw [Eg e,Eg e2,h]
def Fh (L:List TwX) (j:Nat):List TwX:=(L.take j).map LW++L.drop j
theorem LG {L:List TwX} {j:Nat}:(Fh L j).length=L.length:=by
 unfold Fh
 rw [List.length_append,List.length_map,List.length_take,List.length_drop]; omega
theorem UX {L:List TwX} {j:Nat} (h:j<L.length):(Fh L j)[j]? = some L[j]:=by
 unfold Fh
 rw [List.getElem?_append_right (by rw [List.length_map,List.length_take]; omega),List.length_map,List.length_take,List.getElem?_drop]
 rw [show j+(j-min j L.length)=j by omega]
 exact List.getElem?_eq_getElem h
theorem RW {L:List TwX} {j:Nat} (h:j<L.length):(Fh L j).set j (LW L[j])=Fh L (j+1):=by
 unfold Fh
 have hl:((L.take j).map LW).length=j:=by rw [List.length_map,List.length_take]; omega
 rw [List.set_append_right _ _ (by omega),hl,Nat.sub_self,List.take_succ_eq_append_getElem h,List.drop_eq_getElem_cons h,List.map_append,List.append_assoc]
 rfl
theorem TE {L:List TwX}:Fh L L.length=(L.map Hb).map FL:=by
 unfold Fh
 rw [List.take_length,List.drop_length,List.append_nil,List.map_map]
 exact List.map_congr_left fun x _=>AQd x
structure MkZ where
 i:Nat
 k:Nat
 c:Nat
 cap:Nat
 L:List TwX
theorem KQ {i k c cap:Nat} {L:List TwX}:(MkZ.mk i k c cap L).i=i:=(rfl)
theorem KA {i k c cap:Nat} {L:List TwX}:(MkZ.mk i k c cap L).k=k:=(rfl)
theorem J0 {i k c cap:Nat} {L:List TwX}:(MkZ.mk i k c cap L).c=c:=(rfl)
theorem Jq {i k c cap:Nat} {L:List TwX}:(MkZ.mk i k c cap L).cap=cap:=(rfl)
theorem Jk {i k c cap:Nat} {L:List TwX}:(MkZ.mk i k c cap L).L=L:=(rfl)
def K3 (b2 b3:Nat) (x2 x3:Blk) (y:MkZ):List (Nat×Blk):=BD 48 10 y.c y.cap (An y.L)++[(b3,x3),(b2,x2)]
theorem QP {cu cu':ByteArray} {f t f' t':Int} {A B:List MeterX} {S S':List (Seg D4)} (hA:A.length≤1000000) (hB:B.length≤1000000) (h:Fz cu cu' f t f' t' A B=false):DataW Try.prog Ku [E7 cu f t A S,E7 cu' f' t' B S'] (.tup [.d (.sl 5 []),.d (.sl 10 []),i64 7]):=by
 have hl:=T2 (cu:=cu) (cu':=cu') (f:=f) (t:=t) (f':=f') (t':=t') (S:=S) (S':=S') hA hB
 rw [h] at hl
 refine Aj T3 (by simp) ?_
 simp -implicitDefEqProofs -proj only [go_sem,seval]
 refine AI (fun b2 hb2=>?_)
 simp -implicitDefEqProofs -proj only [go_sem,seval]
 refine AI (fun b3 hb3=>?_)
 replace hb3:upd Heap.none b2 _ b3=none:=hb3
 obtain ⟨n1,n2⟩:=AK hb3 AN
 simp -implicitDefEqProofs -proj only [go_sem,seval,n1,n2]
 refine AL hl ?_
 simp -implicitDefEqProofs -proj only [go_sem,seval]
 exact .tupL (GA (.nilsl _ _) (GA (.nilsl _ _) (GA (.refl _) Hl)))
set_option maxHeartbeats 2000000 in
theorem Lj {cu cu':ByteArray} {f t:Int} {A B:List MeterX} {S S':List (Seg D4)} {va vb:Int→D4} {T:List (Seg HC)} (hS:FormOK va f t A S) (hS':FormOK vb f t B S') (hlk:Fz cu cu' f t f t A B=true) (hT:FwdB (ID va vb A B (ES A B)) f (t+1) T):DataW Try.prog Ku [E7 cu f t A S,E7 cu' f t B S'] (.tup [.d (.sl 5 (AX (ES A B))),.d (.sl 10 (An (T.map FL))),i64 0]):=by
 have hl:=T2 (cu:=cu) (cu':=cu') (f:=f) (t:=t) (f':=f) (t':=t) (S:=S) (S':=S') (A:=A) (B:=B) (by have:=hS.ms8; omega) (by have:=hS'.ms8; omega)
 rw [hlk] at hl
 have hme:=Qx (cu:=cu) (cu':=cu') (f:=f) (t:=t) (f':=f) (t':=t) (S:=S) (S':=S') hS.ms8 hS'.ms8
 have hbm:∀m∈ES A B,0≤m.mx∧m.mx≤2000:=fun m hm=>by
  rcases (JR A B).2.1 m hm with h | h
  ·exact hS.mx m h
  ·exact hS'.mx m h
 have hbl:(ES A B).length≤16:=by have:=NN A B; have:=hS.ms8; have:=hS'.ms8; omega
 generalize ES A B=all at *
 have hwa:=fun (s:Seg D4) (h:s∈S)=>show DataW Try.prog P9 [JY s,.d (.sl 5 (AX A)),.d (.sl 5 (AX all))] (.agg [i64 s.f,i64 s.t,i64 s.v.1,Ee (Am A s.v.2 all)]) from Tc (hS.cur s h).2.symm (hS.cur s h).1 hbm (by have:=hS.ms8; omega) (by omega)
 have hwb:=fun (s:Seg D4) (h:s∈S')=>show DataW Try.prog P9 [JY s,.d (.sl 5 (AX B)),.d (.sl 5 (AX all))] (.agg [i64 s.f,i64 s.t,i64 s.v.1,Ee (Am B s.v.2 all)]) from Tc (hS'.cur s h).2.symm (hS'.cur s h).1 hbm (by have:=hS'.ms8; omega) (by omega)
 have hlen:=hS.len
 have hlen':=hS'.len
 refine Aj T3 (by simp) ?_
 simp -implicitDefEqProofs -proj only [go_sem,seval]
 refine AI (fun b2 hb2=>?_)
 simp -implicitDefEqProofs -proj only [go_sem,seval]
 refine AI (fun b3 hb3=>?_)
 replace hb3:upd Heap.none b2 _ b3=none:=hb3
 obtain ⟨n1,n2⟩:=AK hb3 AN
 simp -implicitDefEqProofs -proj only [go_sem,seval,n1,n2]
 refine AL hl ?_
 simp -implicitDefEqProofs -proj only [go_sem,seval,n1,n2]
 refine AL hme ?_
 simp -implicitDefEqProofs -proj only [go_sem,seval,n1,n2]
 refine EN (fun y:MkZ=>(∃p,TwI (va:=va) (vb:=vb) (ID va vb A B all) f (t+1) S S' y.i y.k y.L p)∧y.i≤S.length∧y.k≤S'.length∧y.L.length≤y.i+y.k∧(∀x∈y.L,IP x)∧(AP (K3 b2 b3 (Ec cu f t A S) (Ec cu' f t B S') y)).Nodup) 126 (fun y=>[(2,.ptr b2 0),(3,.ptr b3 0),(7,.d (.sl 5 (AX all))),(8,EU 0 10 y.c y.cap (An y.L)),(9,i64 y.i),(10,i64 y.k)]) (K3 b2 b3 (Ec cu f t A S) (Ec cu' f t B S')) (fun y=>(S.length-y.i)+(S'.length-y.k)) ⟨0,0,0,0,[]⟩ ⟨⟨f,TwI.start hS.fwd hS'.fwd⟩,Nat.zero_le _,Nat.zero_le _,Nat.zero_le _,fun x h=>by (cases h),by simp [AP,K3,An,BD,n1,n2]⟩ rfl ?_ ?_ ?_
 ·simp -implicitDefEqProofs -proj only [go_sem,seval,AJ,KQ,KA,J0,Jq,Jk,An,List.map_nil,JX]
  try rfl
 ·exact ⟨AN,(AF n1).trans AN,trivial⟩
 rintro ⟨i,k,c,cap,L⟩ ⟨⟨p,hI⟩,hi,hk,hL,hok,hnd⟩
 simp -implicitDefEqProofs only [KQ,KA,Jk] at hi hk hL hI hok
 have hall:=EV hnd
 obtain ⟨H,hH⟩:∃H,Ac (K3 b2 b3 (Ec cu f t A S) (Ec cu' f t B S') ⟨i,k,c,cap,L⟩)=H:=⟨_,rfl⟩
 rw [hH] at hall
 simp -implicitDefEqProofs only [K3,J0,Jq,Jk] at hall hnd
 obtain ⟨hrow,k3,k2,_⟩:=EQ.1 hall
 by_cases hc:i<S.length∧k<S'.length
 ·obtain ⟨hc1,hc2⟩:=hc
  have e1:=PD hc1
  have e2:=PD hc2
  have g1:=List.getElem?_eq_getElem hc1
  have g2:=List.getElem?_eq_getElem hc2
  have w1:=hwa _ (List.getElem_mem hc1)
  have w2:=hwb _ (List.getElem_mem hc2)
  have u1:=hS.cur _ (List.getElem_mem hc1)
  have u2:=hS'.cur _ (List.getElem_mem hc2)
  generalize S[i]=s at *
  generalize S'[k]=s' at *
  obtain ⟨X,hX⟩:∃X:TwX,X=⟨max s.f s'.f,min s.t s'.t,⟨s.f,s.t,(s.v.1,Am A s.v.2 all)⟩,⟨s'.f,s'.t,(s'.v.1,Am B s'.v.2 all)⟩⟩:=⟨_,rfl⟩
  have hst:=hI.step (x:=X) (wa:=FO A all) (wb:=FO B all) hS.fwd hS'.fwd (fun _ _ _=>rfl) g1 g2 (by rw [hX]) (by rw [hX]) (by rw [hX]; rfl) (by rw [hX]; rfl)
  have hXok:IP X:=by
   rw [hX]
   exact ⟨K5 u1.2.symm u1.1 hbm,K5 u2.2.symm u2.1 hbm,by show (Am A s.v.2 all).length≤_; rw [Ft]; omega,by show (Am B s'.v.2 all).length≤_; rw [Ft]; omega⟩
  have hput:=AD6 (c:=c) (cap:=cap) hok hXok (by omega)
  rw [show Ly X = .agg [i64 (max s.f s'.f),i64 (min s.t s'.t),i64 s.f,i64 s.t,i64 s.v.1,Ee (Am A s.v.2 all),i64 s'.f,i64 s'.t,i64 s'.v.1,Ee (Am B s'.v.2 all)] by rw [hX]] at hput
  have hokn:∀x∈EX L X,IP x:=Qe (P:=fun a b=>(∀l∈a.2,ER l)∧(∀l∈b.2,ER l)∧a.2.length≤1000000∧b.2.length≤1000000) hok hXok
  have hln:(EX L X).length≤L.length+1:=Ug
  have hXt:X.t=min s.t s'.t:=by rw [hX]
  have hp1:=(hI.a s g1).2
  have hp2:=(hI.b s' g2).2
  simp -implicitDefEqProofs -proj only [go_sem,seval,KQ,KA,J0,Jq,Jk,hH,k3,k2,Ic,decide_eq_true (show (i:Int)<S.length by omega),decide_eq_true (show (k:Int)<S'.length by omega)]
  refine Ag _ (by omega) e1 ?_
  simp -implicitDefEqProofs -proj only [go_sem,seval,k3,k2]
  refine Ag _ (by omega) e2 ?_
  simp -implicitDefEqProofs -proj only [go_sem,seval,k3,k2]
  refine AI (fun b11 hb11=>?_)
  replace hb11:H b11=none:=hb11
  simp -implicitDefEqProofs -proj only [go_sem,seval,k3,k2]
  refine AI (fun b12 hb12=>?_)
  replace hb12:upd H b11 _ b12=none:=hb12
  obtain ⟨m1,m2⟩:=AK hb12 AN
  have hb12':H b12=none:=by rw [AF m2] at hb12; exact hb12
  obtain ⟨x1,x2⟩:=AK hb11 k3
  obtain ⟨x3,x4⟩:=AK hb11 k2
  obtain ⟨x5,x6⟩:=AK hb12' k3
  obtain ⟨x7,x8⟩:=AK hb12' k2
  simp -implicitDefEqProofs -proj only [go_sem,seval,m1,m2,x1,x2,x3,x4,x5,x6,x7,x8,k3,k2]
  rw [AHF m2]
  refine Eu w1 ?_
  simp -implicitDefEqProofs -proj only [go_sem,seval,m1,m2,x1,x2,x3,x4,x5,x6,x7,x8,k3,k2]
  refine Eu w2 ?_
  simp -implicitDefEqProofs -proj only [go_sem,seval,m1,m2,x1,x2,x3,x4,x5,x6,x7,x8,k3,k2]
  refine AI (fun b13 hb13=>?_)
  replace hb13:upd (upd H b11 _) b12 _ b13=none:=hb13
  obtain ⟨m3,m4⟩:=AK hb13 AN
  obtain ⟨m5,m6⟩:=AK hb13 (by rw [AF m1]; exact AN)
  have hb13':H b13=none:=by rw [AF m4,AF m6] at hb13; exact hb13
  obtain ⟨x9,x10⟩:=AK hb13' k3
  obtain ⟨x11,x12⟩:=AK hb13' k2
  simp -implicitDefEqProofs -proj only [go_sem,seval,m1,m2,m3,m4,m5,m6,x1,x2,x3,x4,x5,x6,x7,x8,x9,x10,x11,x12,k3,k2]
  have hn12:∀X,upd H b11 (some X) b12=none:=fun X=>by rw [AF m2]; exact hb12'
  have hn13:∀X Y,upd (upd H b11 (some X)) b12 (some Y) b13=none:=fun X Y=>by rw [AF m4,AF m6]; exact hb13'
  have hA13:∀X Y Z,AZ (upd (upd (upd H b11 (some X)) b12 (some Y)) b13 (some Z)) ((b13,Z)::(b12,Y)::(b11,X)::(BD 48 10 c cap (An L)++[(b3,Ec cu' f t B S'),(b2,Ec cu f t A S)])):=fun X Y Z=>HU (hn13 X Y) (HU (hn12 X) (HU hb11 hall))
  have hA13:=hA13 (IW s) (IW s') (.box 48 [i64 (max s.f s'.f),i64 (min s.t s'.t),i64 s.f,i64 s.t,i64 s.v.1,Ee (Am A s.v.2 all),i64 s'.f,i64 s'.t,i64 s'.v.1,Ee (Am B s'.v.2 all)])
  obtain ⟨H3,hH3⟩:∃H3,upd (upd (upd H b11 (some (IW s))) b12 (some (IW s'))) b13 (some (.box 48 [i64 (max s.f s'.f),i64 (min s.t s'.t),i64 s.f,i64 s.t,i64 s.v.1,Ee (Am A s.v.2 all),i64 s'.f,i64 s'.t,i64 s'.v.1,Ee (Am B s'.v.2 all)]))=H3:=⟨_,rfl⟩
  rw [hH3] at hA13 ⊢
  obtain ⟨a13,a12,a11,a0⟩:=hA13
  obtain ⟨arow,a3,a2,_⟩:=EQ.1 a0
  refine Fm (IL hput (J1 arow)) (fun r H4 hr=>?_)
  obtain ⟨H5,⟨c',cap',rfl,hr5⟩,hsub,hkp⟩:=hr
  have hkx:∀b t cells,H3 b=some (.box t cells)→H4 b=some (.box t cells):=fun b t cells hb=>hkp b _ hb (by
   have:=J1 arow b
   rcases this with h | h
   ·exact h
   ·rw [hb] at h
    exact absurd h (by
     unfold BD
     split
     ·intro e; cases e
     ·rw [Av]
      split
      ·intro e; cases e
      ·intro e; cases e))
  have z13:=hkx _ _ _ a13
  have z12:=hkx _ _ _ a12
  have z11:=hkx _ _ _ a11
  have z3:=hkx _ _ _ a3
  have z2:=hkx _ _ _ a2
  have hr4:AZ H4 (BD 48 10 c' cap' (An (EX L X))):=GU.2 fun q hq=>hsub _ _ (GU.1 hr5 q hq)
  have hall4:AZ H4 (K3 b2 b3 (Ec cu f t A S) (Ec cu' f t B S') ⟨if s.t=X.t then i+1 else i,if s'.t=X.t then k+1 else k,c',cap',EX L X⟩):=EQ.2 ⟨hr4,z3,z2,trivial⟩
  have hnd4:(AP (K3 b2 b3 (Ec cu f t A S) (Ec cu' f t B S') ⟨if s.t=X.t then i+1 else i,if s'.t=X.t then k+1 else k,c',cap',EX L X⟩)).Nodup:=Pe hr4 ⟨z3,z2,trivial⟩ (fun q hq=>by
   simp -implicitDefEqProofs only [List.mem_cons,List.not_mem_nil,or_false] at hq
   rcases hq with rfl | rfl
   ·exact ⟨_,_,rfl⟩
   ·exact ⟨_,_,rfl⟩) (by simp [AP,n1])
  rw [←hXt]
  rw [←hXt] at z13
  have hone:s.t=X.t∨s'.t=X.t:=by rw [hXt]; omega
  by_cases d1:s.t=X.t
  ·by_cases d2:s'.t=X.t
   ·rw [if_pos d1,if_pos d2] at hst hall4 hnd4
    simp -implicitDefEqProofs -proj only [go_sem,seval,z13,z12,z11,decide_eq_true d1,decide_eq_true d2]
    refine AY ⟨i+1,k+1,c',cap',EX L X⟩ ⟨⟨_,hst⟩,by show i+1≤_; omega,by show k+1≤_; omega,by show (EX L X).length≤i+1+(k+1); omega,hokn,hnd4⟩ (by show S.length-(i+1)+(S'.length-(k+1))<S.length-i+(S'.length-k); omega) rfl ?_ hall4
    simp -implicitDefEqProofs -proj only [go_sem,seval,AJ,KQ,KA,J0,Jq,Jk,AU (show i<9223372036854775807 by omega),AU (show k<9223372036854775807 by omega)]
   ·rw [if_pos d1,if_neg d2] at hst hall4 hnd4
    simp -implicitDefEqProofs -proj only [go_sem,seval,z13,z12,z11,decide_eq_true d1,decide_eq_false d2]
    refine AY ⟨i+1,k,c',cap',EX L X⟩ ⟨⟨_,hst⟩,by show i+1≤_; omega,by show k≤_; omega,by show (EX L X).length≤i+1+k; omega,hokn,hnd4⟩ (by show S.length-(i+1)+(S'.length-k)<S.length-i+(S'.length-k); omega) rfl ?_ hall4
    simp -implicitDefEqProofs -proj only [go_sem,seval,AJ,KQ,KA,J0,Jq,Jk,AU (show i<9223372036854775807 by omega)]
  ·have d2:s'.t=X.t:=hone.resolve_left d1
   rw [if_neg d1,if_pos d2] at hst hall4 hnd4
   simp -implicitDefEqProofs -proj only [go_sem,seval,z13,z12,z11,decide_eq_false d1,decide_eq_true d2]
   refine AY ⟨i,k+1,c',cap',EX L X⟩ ⟨⟨_,hst⟩,by show i≤_; omega,by show k+1≤_; omega,by show (EX L X).length≤i+(k+1); omega,hokn,hnd4⟩ (by show S.length-i+(S'.length-(k+1))<S.length-i+(S'.length-k); omega) rfl ?_ hall4
   simp -implicitDefEqProofs -proj only [go_sem,seval,AJ,KQ,KA,J0,Jq,Jk,AU (show k<9223372036854775807 by omega)]
 ·have hle:FwdB (ID va vb A B all) f (t+1) (L.map Hb):=hI.last (by
   rcases (by omega:¬i<S.length∨¬k<S'.length) with h | h
   ·exact .inl (List.getElem?_eq_none (by omega))
   ·exact .inr (List.getElem?_eq_none (by omega)))
  have hTe:L.map Hb=T:=FwdB.canon hle hT
  have hcs:(¬i<S.length)∨(i<S.length∧¬k<S'.length):=by omega
  rcases hcs with hc1 | ⟨hc1,hc2⟩
  case' inl=>simp -implicitDefEqProofs -proj only [go_sem,seval,KQ,KA,J0,Jq,Jk,hH,k3,k2,Ic,decide_eq_false (show ¬(i:Int)<S.length by omega),A9,Ej]
  case' inr=>simp -implicitDefEqProofs -proj only [go_sem,seval,KQ,KA,J0,Jq,Jk,hH,k3,k2,Ic,decide_eq_true (show (i:Int)<S.length by omega),decide_eq_false (show ¬(k:Int)<S'.length by omega),A9,Ej]
  all_goals
   refine EN (fun j:Nat=>j≤L.length) 126 (fun j=>[(7,.d (.sl 5 (AX all))),(8,EU 0 10 c cap (An L)),(84,i64 L.length),(85,i64 j)]) (fun j=>BD 48 10 c cap (An (Fh L j))) (fun j=>L.length-j) 0 (Nat.zero_le _) rfl ?_ hrow ?_
   ·simp -implicitDefEqProofs -proj only [go_sem,seval,AJ]
    try rfl
   intro j hj
   have hfr:An (Fh L j)≠[]↔L≠[]:=⟨fun h e=>h (by subst e; simp [Fh,An]),fun h e=>h (by
    have:=congrArg List.length e
    rw [Ej,LG] at this
    exact List.eq_nil_of_length_eq_zero this)⟩
   by_cases hjl:j<L.length
   ·have hne:L≠[]:=fun e=>by subst e; simp at hjl
    have hne2:An L≠[]:=fun e=>hne (by
     have:=congrArg List.length e
     rw [Ej] at this
     exact List.eq_nil_of_length_eq_zero this)
    have q1:=Lr (UX hjl)
    have q2:=RW hjl
    have hr:Ac (BD 48 10 c cap (An (Fh L j))) c=some (.row 48 10 cap (An (Fh L j))):=by
     rw [FA (hfr.2 hne)]; exact AN
    generalize L[j]=x at *
    simp -implicitDefEqProofs only [E2] at q1
    rw [Eg hne2,Ej]
    simp -implicitDefEqProofs -proj only [go_sem,seval,hr,decide_eq_true (show (j:Int)<L.length by omega),Int.toNat_natCast,Nat.zero_add]
    refine Ak (by omega) (fun _=>?_)
    iterate 4
     refine Ed _ q1 (by simp) ?_
     simp -implicitDefEqProofs -proj only [go_sem,seval,hr]
    have hjx:j<(An (Fh L j)).length:=by rw [Ej,LG]; exact hjl
    refine IK (cap:=cap) (t:=48) hr q1 (by simp) ?_
    simp -implicitDefEqProofs -proj only [go_sem,seval,Fr]
    refine IK (cap:=cap) (t:=48) AN (List.getElem?_set_self hjx) (by simp) ?_
    simp -implicitDefEqProofs -proj only [go_sem,seval,Fr,List.set_set]
    refine IK (cap:=cap) (t:=48) AN (List.getElem?_set_self hjx) (by simp) ?_
    simp -implicitDefEqProofs -proj only [go_sem,seval,Fr,List.set_set]
    refine IK (cap:=cap) (t:=48) AN (List.getElem?_set_self hjx) (by simp) ?_
    simp -implicitDefEqProofs -proj only [go_sem,seval,Fr,List.set_set]
    have q3:(An (Fh L j)).set j (E2 (LW x))=An (Fh L (j+1)):=by rw [Mq,q2]
    refine AY (j+1) (by show j+1≤L.length; omega) (by show L.length-(j+1)<L.length-j; omega) rfl ?_ ?_
    ·simp -implicitDefEqProofs -proj only [go_sem,seval,AJ,AU (show j<9223372036854775807 by omega)]
    ·have hne3:An (Fh L (j+1))≠[]:=fun e=>by
      have:=congrArg List.length e
      rw [Ej,LG,List.length_nil] at this
      omega
     rw [FA hne3]
     exact ⟨by rw [←q3]; exact AN,trivial⟩
   ·obtain rfl:j=L.length:=by omega
    have hrr:AZ (Ac (BD 48 10 c cap (An (Fh L L.length)))) (BD 48 10 c cap (An (Fh L L.length))):=EV (by unfold BD; split <;> simp [AP])
    rw [Rt (z:=0) (sz:=10) (c:=c) (cap:=cap) (show (An L).length=(An (Fh L L.length)).length by rw [Ej,Ej,LG])]
    simp -implicitDefEqProofs -proj only [go_sem,seval,decide_eq_false (show ¬(L.length:Int)<L.length by omega)]
    rw [←hTe,←TE]
    exact .tupL (GA (.refl _) (GA (Id hrr) (GA (.refl _) Hl)))
def HB:MeterX:=⟨⟨⟨[99]⟩⟩,⟨⟨[]⟩⟩,3,0,0⟩
def HA:MeterX:=⟨⟨⟨[98]⟩⟩,⟨⟨[]⟩⟩,3,0,0⟩
def s22:Seg D4:=⟨0,9,(5,[[0,0,0,0]])⟩
theorem Vs:Ef [0,0,0,0]=[⟨0,0,0,0,1⟩]:=by decide +kernel
theorem AVL:Em [s22]=[[.int .i64 0,.int .i64 9,.int .i64 5,.sl 2 [[.int .i64 3,.sl 5 [[.int .i64 0,.int .i64 0,.int .i64 0,.int .i64 0,.int .i64 1]]]]]]:=by
 simp [Em,Kc,s22,Ay,HP,Vs,ET,Grp.el]
theorem AAK:Hu [HB,HA]=[HA,HB]:=by kernel_rfl
theorem Uu:ES [HB] [HA]=[HA,HB]:=by
 unfold ES IO
 rw [List.singleton_append,AAK]
 rw [Mz (Nat.le_refl _) (fun i hi hd=>?_)]
 ·rfl
 ·obtain ⟨h0,h1⟩:=hd
  have:i=1:=by have:i<2:=hi; omega
  subst this
  revert h1
  simp [HA,HB]
theorem ASE:ER [0,0,0,0]:=⟨by simp,by decide,by intro v hv; simp -implicitDefEqProofs only [List.mem_cons,List.not_mem_nil,or_false] at hv; rcases hv with rfl | rfl | rfl | rfl <;> decide⟩
theorem Rh (m:MeterX) (hm:m.mx=3):FormOK (fun _=>s22.v) 0 9 [m] [s22]:=by
 refine ⟨⟨rfl,by decide,fun _ _ _=>rfl,fun s h=>(by cases h),rfl⟩,by decide,by decide,by decide,by simp,fun x hx=>?_,fun s hs=>?_⟩
 ·rw [List.mem_singleton.1 hx,hm]; decide
 ·rw [List.mem_singleton.1 hs]
  refine ⟨fun l hl=>?_,rfl⟩
  have hl:l∈[[0,0,0,0]]:=hl
  rw [List.mem_singleton.1 hl]; exact ASE
theorem AKt:Fz ⟨⟨[]⟩⟩ ⟨⟨[]⟩⟩ 0 9 0 9 [HB] [HA]=true:=by decide +kernel
theorem NM:DataW Try.prog AP3 [] (bv true):=by
 have h:=Lj (cu:=⟨⟨[]⟩⟩) (cu':=⟨⟨[]⟩⟩) (T:=[⟨0,9,(FO [HB] [HA,HB] s22.v,FO [HA] [HA,HB] s22.v)⟩]) (Rh HB rfl) (Rh HA rfl) AKt (by rw [Uu]; exact ⟨rfl,by decide,fun _ _ _=>rfl,fun s h=>(by cases h),rfl⟩)
 rw [Uu] at h
 simp -implicitDefEqProofs only [E7,MW,AVL] at h
 have e1:AX [HB]=[[.str ⟨⟨[99]⟩⟩,.str ⟨⟨[]⟩⟩,.int .i64 3,.int .i64 0,.int .i64 0]]:=rfl
 have e2:AX [HA]=[[.str ⟨⟨[98]⟩⟩,.str ⟨⟨[]⟩⟩,.int .i64 3,.int .i64 0,.int .i64 0]]:=rfl
 have e3:AX [HA,HB]=[[.str ⟨⟨[98]⟩⟩,.str ⟨⟨[]⟩⟩,.int .i64 3,.int .i64 0,.int .i64 0],[.str ⟨⟨[99]⟩⟩,.str ⟨⟨[]⟩⟩,.int .i64 3,.int .i64 0,.int .i64 0]]:=rfl
 obtain ⟨W1,hW1⟩:∃W,Ay (Am [HB] s22.v.2 [HA,HB])=W:=⟨_,rfl⟩
 obtain ⟨W2,hW2⟩:∃W,Ay (Am [HA] s22.v.2 [HA,HB])=W:=⟨_,rfl⟩
 have l2:W2.length=2:=by rw [←hW2,FS,Ft]; rfl
 have e4:An (List.map FL [⟨0,9,(FO [HB] [HA,HB] s22.v,FO [HA] [HA,HB] s22.v)⟩])=[[.int .i64 0,.int .i64 9,.int .i64 0,.int .i64 9,.int .i64 5,.sl 2 W1,.int .i64 0,.int .i64 9,.int .i64 5,.sl 2 W2]]:=by
  rw [←hW1,←hW2]; rfl
 rw [e1,e2,e3,e4] at h
 refine Aj XN (by simp) ?_
 simp -implicitDefEqProofs -proj only [go_sem,seval]
 refine EO (fun b8 h8=>?_)
 simp -implicitDefEqProofs -proj only [go_sem,seval]
 refine EO (fun b10 h10=>?_)
 simp -implicitDefEqProofs -proj only [go_sem,seval]
 obtain ⟨H0,hH0⟩:∃H0,upd (upd Heap.none b8 none) b10 none=H0:=⟨_,rfl⟩
 rw [hH0]
 obtain ⟨R12,hR12⟩:∃R,Blk.row 46 4 1 [[D.int .i64 0,D.int .i64 9,D.int .i64 5,D.sl 2 [[D.int .i64 3,D.sl 5 [[D.int .i64 0,D.int .i64 0,D.int .i64 0,D.int .i64 0,D.int .i64 1]]]]]]=R:=⟨_,rfl⟩
 rw [hR12]
 refine EO (fun b12 h12=>?_)
 replace h12:H0 b12=none:=h12
 simp -implicitDefEqProofs -proj only [go_sem,seval]
 refine EO (fun b14 h14=>?_)
 replace h14:upd H0 b12 _ b14=none:=h14
 simp -implicitDefEqProofs -proj only [go_sem,seval]
 obtain ⟨R14,hR14⟩:∃R,Blk.row 39 5 1 [[D.str ⟨⟨[99]⟩⟩,D.str ⟨⟨[]⟩⟩,D.int .i64 3,D.int .i64 0,D.int .i64 0]]=R:=⟨_,rfl⟩
 rw [hR14]
 refine AI (fun b2 hb2=>?_)
 replace hb2:upd (upd H0 b12 _) b14 _ b2=none:=hb2
 simp -implicitDefEqProofs -proj only [go_sem,seval]
 refine EO (fun b18 h18=>?_)
 simp -implicitDefEqProofs -proj only [go_sem,seval]
 obtain ⟨R18,hR18⟩:∃R,Blk.row 39 5 1 [[D.str ⟨⟨[98]⟩⟩,D.str ⟨⟨[]⟩⟩,D.int .i64 3,D.int .i64 0,D.int .i64 0]]=R:=⟨_,rfl⟩
 rw [hR18]
 have A12:AZ (upd H0 b12 (some R12)) [(b12,R12)]:=⟨AN,trivial⟩
 have A14:=HU (x:=R14) h14 A12
 have N14:=HT (x:=R14) h14 A12 (by simp [AP])
 have A2:=HU (x:=.box 30 [.d (.str ⟨⟨[]⟩⟩),i64 0,i64 9,.own b14 5 0 1 1,.own b12 4 0 1 1]) hb2 A14
 have N2:=HT (x:=.box 30 [.d (.str ⟨⟨[]⟩⟩),i64 0,i64 9,.own b14 5 0 1 1,.own b12 4 0 1 1]) hb2 A14 N14
 have A18:=HU (x:=R18) h18 A2
 have N18:=HT (x:=R18) h18 A2 N2
 refine AI (fun b3 hb3=>?_)
 have hb3':=Ln hb3 A18
 have hn3:¬b3=b2:=fun e=>hb3' (by subst e; simp [AP])
 have hn4:¬b2=b3:=fun e=>hn3 e.symm
 have hn5:¬b18=b2:=fun e=>(List.nodup_cons.1 N18).1 (by subst e; simp [AP])
 have A3:∀X,AZ (upd (upd (upd (upd (upd H0 b12 (some R12)) b14 (some R14)) b2 (some (.box 30 [.d (.str ⟨⟨[]⟩⟩),i64 0,i64 9,.own b14 5 0 1 1,.own b12 4 0 1 1]))) b18 (some R18)) b3 X) _:=fun X=>Fk A18 hb3'
 simp -implicitDefEqProofs -proj only [go_sem,seval,hn3,hn4,hn5]
 have hsub:AZ (upd (upd (upd (upd (upd H0 b12 (some R12)) b14 (some R14)) b2 (some (.box 30 [.d (.str ⟨⟨[]⟩⟩),i64 0,i64 9,.own b14 5 0 1 1,.own b12 4 0 1 1]))) b18 (some R18)) b3 (some (.box 30 [.d (.str ⟨⟨[]⟩⟩),i64 0,i64 9,.own b18 5 0 1 1,.own b12 4 0 1 1]))) [(b18,R18),(b14,R14),(b12,R12)]:=Vv (A3 _) (fun q hq=>by
  simp -implicitDefEqProofs only [List.mem_cons,List.not_mem_nil,or_false] at hq ⊢
  rcases hq with rfl | rfl | rfl <;> simp)
 have nsub:(AP [(b18,R18),(b14,R14),(b12,R12)]).Nodup:=by
  refine List.Nodup.sublist ?_ N18
  simp [AP]
 obtain ⟨l18,l14,l12,_⟩:=EV nsub
 replace l18:=l18.trans (congrArg some hR18.symm)
 replace l14:=l14.trans (congrArg some hR14.symm)
 replace l12:=l12.trans (congrArg some hR12.symm)
 refine AHp h (GA ?_ (GA ?_ Hl)) (J1 hsub) (fun k=>.inl (Heap.none_get k)) ?_
 ·exact .agg _ _ rfl fun j u v e1 e2=>by
   match j with
   | 0=>cases e1; cases e2; exact .refl _
   | 1=>cases e1; cases e2; exact .refl _
   | 2=>cases e1; cases e2; exact .refl _
   | 3=>cases e1; cases e2; exact KR l14 rfl
   | 4=>cases e1; cases e2; exact KR l12 rfl
   | j+5=>cases e1
 ·exact .agg _ _ rfl fun j u v e1 e2=>by
   match j with
   | 0=>cases e1; cases e2; exact .refl _
   | 1=>cases e1; cases e2; exact .refl _
   | 2=>cases e1; cases e2; exact .refl _
   | 3=>cases e1; cases e2; exact KR l18 rfl
   | 4=>cases e1; cases e2; exact KR l12 rfl
   | j+5=>cases e1
 simp -implicitDefEqProofs -proj only [go_sem,seval]
 have hs:((⟨⟨[98]⟩⟩:ByteArray).toList == (⟨⟨[98]⟩⟩:ByteArray).toList)=true:=by decide +kernel
 iterate 4 (refine Ag _ (by decide) rfl ?_; simp -implicitDefEqProofs -proj only [go_sem,seval,IN,hs,l2])
 exact AM rfl
theorem Oi {a b:CoreX} (ha:a.Fit) (hb:b.Fit) (g:¬(fitsC a∧fitsC b)):DataW Try.prog Og [F9 a,F9 b] (.tup [E7 ⟨⟨[]⟩⟩ 0 0 [] [],E7 ⟨⟨[]⟩⟩ 0 0 [] [],bv false]):=by
 have fa:=N3 ha
 have fb:=N3 hb
 have fin:∀H:Heap,LendV H (.tup [.agg [.d (.str ⟨⟨[]⟩⟩),i64 0,i64 0,.nilsl 5,.nilsl 4],.agg [.d (.str ⟨⟨[]⟩⟩),i64 0,i64 0,.nilsl 5,.nilsl 4],bv false]) (.tup [E7 ⟨⟨[]⟩⟩ 0 0 [] [],E7 ⟨⟨[]⟩⟩ 0 0 [] [],bv false]):=fun H=>.tupL (GA (OV (.nilsl _ _) (.nilsl _ _)) (GA (OV (.nilsl _ _) (.nilsl _ _)) (GA (.refl _) Hl)))
 refine Aj Ux (by simp) ?_
 simp -implicitDefEqProofs -proj only [go_sem,seval]
 refine AI (fun b1 hb1=>?_)
 simp -implicitDefEqProofs -proj only [go_sem,seval]
 refine AI (fun b2 hb2=>?_)
 replace hb2:upd Heap.none b1 _ b2=none:=hb2
 obtain ⟨n1,n2⟩:=AK hb2 AN
 simp -implicitDefEqProofs -proj only [go_sem,seval,n1,n2]
 refine AI (fun b3 hb3=>?_)
 have h31:¬b3=b1:=by rintro rfl; simp [AQ,n1,n2] at hb3
 have h32:¬b3=b2:=by rintro rfl; simp [AQ,n1,n2] at hb3
 have h13:¬b1=b3:=fun e=>h31 e.symm
 have h23:¬b2=b3:=fun e=>h32 e.symm
 simp -implicitDefEqProofs -proj only [go_sem,seval,n1,n2,h31,h32,h13,h23]
 refine AI (fun b4 hb4=>?_)
 have h41:¬b4=b1:=by rintro rfl; simp [AQ,n1,n2,h31,h32] at hb4
 have h42:¬b4=b2:=by rintro rfl; simp [AQ,n1,n2,h31,h32] at hb4
 have h43:¬b4=b3:=by rintro rfl; simp [AQ] at hb4
 have h14:¬b1=b4:=fun e=>h41 e.symm
 have h24:¬b2=b4:=fun e=>h42 e.symm
 have h34:¬b3=b4:=fun e=>h43 e.symm
 simp -implicitDefEqProofs -proj only [go_sem,seval,n1,n2,h31,h32,h13,h23,h41,h42,h43,h14,h24,h34]
 refine AL fa ?_
 by_cases ga:fitsC a
 ·simp -implicitDefEqProofs -proj only [go_sem,seval,decide_eq_true ga,n1,n2,h31,h32,h13,h23,h41,h42,h43,h14,h24,h34]
  refine AL fb ?_
  simp -implicitDefEqProofs -proj only [go_sem,seval,decide_eq_false (fun k=>g ⟨ga,k⟩),n1,n2,h31,h32,h13,h23,h41,h42,h43,h14,h24,h34]
  exact fin _
 ·simp -implicitDefEqProofs -proj only [go_sem,seval,decide_eq_false ga,n1,n2,h31,h32,h13,h23,h41,h42,h43,h14,h24,h34]
  exact fin _
def Ht (a b:List Int):List Int:=List.zipWith (fun u v=>u-v) a b
def FY (a b:List (List Int)):List (List Int):=List.zipWith Ht a b
structure GapOK (x:TwX):Prop where
 len:x.a.v.2.length=x.b.v.2.length
 n:x.a.v.2.length≤1000000
 fit:Fit x.a.v.1∧Fit x.b.v.1∧Fit (x.a.v.1-x.b.v.1)
 ca:∀l∈x.a.v.2,ER l
 cb:∀l∈x.b.v.2,ER l
 wide:∀(i:Nat) (h1:i<x.a.v.2.length) (h2:i<x.b.v.2.length),x.a.v.2[i].length=x.b.v.2[i].length∧ER (Ht x.a.v.2[i] x.b.v.2[i])
def Jo (b1 b2 b6:Nat) (x:TwX) (y:DY):List (Nat×Blk):=BD 58 2 y.c y.cap (Ay ((FY x.a.v.2 x.b.v.2).take y.i))++[(b6,.box 46 [i64 x.f,i64 x.t,i64 (x.a.v.1-x.b.v.1),EU 2 2 y.c y.cap (Ay ((FY x.a.v.2 x.b.v.2).take y.i))]),(b1,.box 48 [i64 x.f,i64 x.t,i64 x.a.f,i64 x.a.t,i64 x.a.v.1,Ee x.a.v.2,i64 x.b.f,i64 x.b.t,i64 x.b.v.1,Ee x.b.v.2]),(b2,JG)]
theorem Q0 {x:TwX} (h:GapOK x):DataW Try.prog AEE [Ly x] (.tup [.agg [i64 x.f,i64 x.t,i64 (x.a.v.1-x.b.v.1),Ee (FY x.a.v.2 x.b.v.2)],bv true]):=by
 have hsub:=Su h.fit.1 h.fit.2.1
 rw [Iq h.fit.2.2] at hsub
 have hlen:(FY x.a.v.2 x.b.v.2).length=x.a.v.2.length:=by unfold FY; rw [List.length_zipWith]; have:=h.len; omega
 have hn:=h.n
 have hl:=h.len
 refine Aj AS0 (by simp) ?_
 simp -implicitDefEqProofs -proj only [go_sem,seval]
 refine AI (fun b1 hb1=>?_)
 simp -implicitDefEqProofs -proj only [go_sem,seval]
 refine AI (fun b2 hb2=>?_)
 replace hb2:upd Heap.none b1 _ b2=none:=hb2
 obtain ⟨n1,n2⟩:=AK hb2 AN
 simp -implicitDefEqProofs -proj only [go_sem,seval,n1,n2]
 refine AL hsub ?_
 simp -implicitDefEqProofs -proj only [go_sem,seval,n1,n2]
 refine AI (fun b6 hb6=>?_)
 replace hb6:upd (upd Heap.none b1 _) b2 _ b6=none:=hb6
 obtain ⟨n3,n4⟩:=AK hb6 AN
 obtain ⟨n5,n6⟩:=AK hb6 (by rw [AF n1]; exact AN)
 simp -implicitDefEqProofs -proj only [go_sem,seval,n1,n2,n3,n4,n5,n6,FS,decide_eq_true (show (x.a.v.2.length:Int)=x.b.v.2.length by omega)]
 refine EN (fun y:DY=>y.i≤x.a.v.2.length∧(AP (Jo b1 b2 b6 x y)).Nodup) 72 (fun y=>[(1,.ptr b1 0),(2,.ptr b2 0),(6,.ptr b6 0),(43,Ee x.a.v.2),(44,i64 x.a.v.2.length),(45,i64 y.i)]) (Jo b1 b2 b6 x) (fun y=>x.a.v.2.length-y.i) ⟨0,0,0⟩ ⟨Nat.zero_le _,by simp [AP,Jo,Ay,BD,n1,n2,n3,n4,n5,n6]⟩ rfl ?_ ?_ ?_
 ·simp -implicitDefEqProofs -proj only [go_sem,seval,AJ,EZ,FS]
  try rfl
 ·simp -implicitDefEqProofs only [Jo,EZ,List.take_zero,List.map_nil,Ay,BD,EU,List.nil_append]
  refine ⟨AN,?_,?_,trivial⟩
  ·show upd (upd (upd Heap.none b1 _) b2 _) b6 _ b1=_
   rw [AF n5,AF n1]; exact AN
  ·show upd (upd (upd Heap.none b1 _) b2 _) b6 _ b2=_
   rw [AF n3]; exact AN
 rintro ⟨i,c1,cap⟩ ⟨hi,hnd⟩
 simp -implicitDefEqProofs only [EZ] at hi
 have hall:=EV hnd
 obtain ⟨H,hH⟩:∃H,Ac (Jo b1 b2 b6 x ⟨i,c1,cap⟩)=H:=⟨_,rfl⟩
 rw [hH] at hall
 simp -implicitDefEqProofs only [Jo,EZ,FF,FH] at hall hnd
 obtain ⟨hrow,k6,k1,k2,_⟩:=EQ.1 hall
 by_cases hlt:i<x.a.v.2.length
 ·have hlt2:i<x.b.v.2.length:=by omega
  have e1:=JB hlt
  have e2:=JB hlt2
  obtain ⟨w1,w2⟩:=h.wide i hlt hlt2
  have ca:=h.ca _ (List.getElem_mem hlt)
  have cb:=h.cb _ (List.getElem_mem hlt2)
  have hsn:(FY x.a.v.2 x.b.v.2).take (i+1)=(FY x.a.v.2 x.b.v.2).take i++[Ht x.a.v.2[i] x.b.v.2[i]]:=by
   rw [List.take_succ_eq_append_getElem (by rw [hlen]; exact hlt)]; simp -implicitDefEqProofs only [FY,List.getElem_zipWith]
  have hlt3:((FY x.a.v.2 x.b.v.2).take i).length=i:=by rw [List.length_take,hlen]; omega
  generalize x.a.v.2[i]=la at *
  generalize x.b.v.2[i]=lb at *
  have hd:=Vz ca cb w1 rfl w2
  rw [show List.zipWith (fun u v=>u-v) la lb=Ht la lb from rfl] at hd
  generalize Ht la lb=L at *
  simp -implicitDefEqProofs -proj only [go_sem,seval,EZ,FF,FH,hH,decide_eq_true (show (i:Int)<x.a.v.2.length by omega)]
  refine Ag _ (by omega) e1 ?_
  simp -implicitDefEqProofs -proj only [go_sem,seval]
  refine AI (fun b8 hb8=>?_)
  replace hb8:H b8=none:=hb8
  obtain ⟨x1,x2⟩:=AK hb8 k1
  obtain ⟨x3,x4⟩:=AK hb8 k6
  simp -implicitDefEqProofs -proj only [go_sem,seval,x1,x2,x3,x4,k1,k6]
  refine Ag _ (by omega) e2 ?_
  simp -implicitDefEqProofs -proj only [go_sem,seval,x1,x2,x3,x4,k1,k6]
  refine Eu hd ?_
  simp -implicitDefEqProofs -proj only [go_sem,seval,x1,x2,x3,x4,k1,k6]
  refine AI (fun b9 hb9=>?_)
  replace hb9:upd H b8 _ b9=none:=hb9
  obtain ⟨m1,m2⟩:=AK hb9 AN
  have hb9':H b9=none:=by rw [AF m2] at hb9; exact hb9
  obtain ⟨x5,x6⟩:=AK hb9' k1
  obtain ⟨x7,x8⟩:=AK hb9' k6
  simp -implicitDefEqProofs -proj only [go_sem,seval,m1,m2,x1,x2,x3,x4,x5,x6,x7,x8,k1,k6]
  refine EO (fun bs hs=>?_)
  have hs':upd (upd H b8 _) b9 _ bs=none:=hs
  simp -implicitDefEqProofs -proj only [go_sem,seval]
  refine FX (xs:=Ay ((FY x.a.v.2 x.b.v.2).take i)) (y:=HP L) (t:=58) (capc:=1) [(b6,.box 46 [i64 x.f,i64 x.t,i64 (x.a.v.1-x.b.v.1),EU 2 2 c1 cap (Ay ((FY x.a.v.2 x.b.v.2).take i))]),(b1,.box 48 [i64 x.f,i64 x.t,i64 x.a.f,i64 x.a.t,i64 x.a.v.1,Ee x.a.v.2,i64 x.b.f,i64 x.b.t,i64 x.b.v.1,Ee x.b.v.2]),(b2,JG)] rfl (Ap hs' (Ap hb9 (Ap hb8 hall))) hnd (by simp -implicitDefEqProofs -proj only [go_sem,seval]; try rfl) (by rw [FS,hlt3]; omega) (by rw [FS,hlt3]; omega) (fun H6 c2 cap2 ha6 hk6=>?_)
  have esn:Ay ((FY x.a.v.2 x.b.v.2).take i)++[HP L]=Ay ((FY x.a.v.2 x.b.v.2).take (i+1)):=by rw [hsn]; simp [Ay]
  rw [esn] at ha6 hk6
  obtain ⟨hrow6,u6,u1,u2,_⟩:=EQ.1 ha6
  have hne:Ay ((FY x.a.v.2 x.b.v.2).take (i+1))≠[]:=by rw [←esn]; simp
  have hl1:(Ay ((FY x.a.v.2 x.b.v.2).take (i+1))).length=i+1:=by rw [FS,List.length_take,hlen]; omega
  simp -implicitDefEqProofs -proj only [go_sem,seval,u6,FS,hlt3]
  have hk7:b6∉AP (BD 58 2 c2 cap2 (Ay ((FY x.a.v.2 x.b.v.2).take (i+1)))):=by
   simp -implicitDefEqProofs only [AP,List.map_append,List.map_cons] at hk6
   exact fun hm=>(List.nodup_append.1 hk6).2.2 _ hm _ (List.mem_cons_self ..) rfl
  refine AY ⟨i+1,c2,cap2⟩ ⟨by rw [EZ]; omega,by simpa only [Jo,EZ,FF,FH,AP,List.map_append,List.map_cons] using hk6⟩ (by show x.a.v.2.length-(i+1)<x.a.v.2.length-i; omega) rfl ?_ ?_
  ·simp -implicitDefEqProofs -proj only [go_sem,seval,AJ,EZ,AU (show i<9223372036854775807 by omega)]
  ·simp -implicitDefEqProofs only [Jo,EZ,FF,FH,Eg hne,hl1]
   exact EQ.2 ⟨Fk hrow6 hk7,AN,(AF n5).trans u1,(AF n3).trans u2,trivial⟩
 ·have hi':i=x.a.v.2.length:=by omega
  subst hi'
  have htk:(FY x.a.v.2 x.b.v.2).take x.a.v.2.length=FY x.a.v.2 x.b.v.2:=List.take_of_length_le (by rw [hlen]; exact Nat.le_refl _)
  rw [htk] at k6 hrow hnd
  simp -implicitDefEqProofs -proj only [go_sem,seval,EZ,FF,FH,hH,k6,k2,n3,n4,decide_eq_false (show ¬(x.a.v.2.length:Int)<x.a.v.2.length by omega)]
  refine .tupL (GA (OP (Id (Fk hrow (by
   have:=hnd
   simp -implicitDefEqProofs only [AP,List.map_append,List.map_cons] at this
   exact fun hm=>(List.nodup_append.1 this).2.2 _ hm _ (by simp) rfl)))) (GA (.refl _) Hl))
theorem ACj {l:List Int}:∀el∈Ad l,∀d∈el,Hi d=true:=by
 intro el he d hd
 obtain ⟨r,_,rfl⟩:=List.mem_map.1 he
 simp -implicitDefEqProofs only [List.mem_singleton] at hd
 subst hd; rfl
def JD (G:List Grp) (q:Int):Int×Bool:=match Gb G q with
 | some v=>(v,true)
 | none=>(0,false)
set_option maxRecDepth 20000 in
theorem ATn {m q:Int} {G:List Grp} (hG:∀g∈G,GrpOK g) (hl:G.length≤3001) (hq:Fit q) (hm:m≤3000):DataW Try.prog S7 [Fg m G,i64 q] (Es (if q<0∨m<q then none else Gb G q)):=by
 refine Aj ABG (by simp) ?_
 simp -implicitDefEqProofs -proj only [go_sem,seval]
 refine AI (fun b2 hb2=>?_)
 by_cases h1:q<0
 ·rw [if_pos (.inl h1)]
  simp -implicitDefEqProofs -proj only [go_sem,seval,decide_eq_true h1]
  exact AM rfl
 by_cases h2:m<q
 ·rw [if_pos (.inr h2)]
  simp -implicitDefEqProofs -proj only [go_sem,seval,decide_eq_false h1,decide_eq_true h2]
  exact AM rfl
 rw [if_neg (by omega)]
 simp -implicitDefEqProofs -proj only [go_sem,seval,decide_eq_false h1,decide_eq_false h2,Gp]
 refine EN (fun i:Nat=>i≤G.length) 61 (fun i=>[(1,i64 q),(20,FW G),(21,i64 G.length),(22,i64 i),(6,i64 (JD (G.take i) q).1),(7,bv (JD (G.take i) q).2)]) (fun _=>[]) (fun i=>G.length-i) 0 (Nat.zero_le _) rfl ?_ ?_ ?_
 ·simp -implicitDefEqProofs -proj only [go_sem,seval,AJ]
  exact ⟨rfl,rfl⟩
 ·trivial
 ·intro i hi
  by_cases h:i<G.length
  ·have hel:=Jr h
   have hok:=hG _ (List.getElem_mem h)
   have hts:G.take (i+1)=G.take i++[G[i]]:=List.take_succ_eq_append_getElem h
   have hsf:JD (G.take (i+1)) q=if G[i].f≤q then (IE G[i] q,true) else JD (G.take i) q:=by
    unfold JD
    rw [hts,Sn]
    by_cases hf:G[i].f≤q
    ·rw [if_pos hf,if_pos hf]
    ·rw [if_neg hf,if_neg hf]
   generalize hsn:JD (G.take (i+1)) q=sn at *
   generalize hsi:JD (G.take i) q=si at *
   obtain ⟨sv,sb⟩:=si
   generalize G[i]=g at *
   simp -implicitDefEqProofs only []
   simp -implicitDefEqProofs -proj only [go_sem,seval,hsi,decide_eq_true (show (i:Int)<G.length by omega)]
   refine Ag _ (by omega) hel ?_
   simp -implicitDefEqProofs -proj only [go_sem,seval]
   refine AI (fun b9 hb9=>?_)
   by_cases hf:q<g.f
   ·rw [if_neg (by omega)] at hsf
    subst hsf
    simp -implicitDefEqProofs -proj only [go_sem,seval,decide_eq_true hf,if_pos (rfl:(1:Nat)=1)]
    refine AY (i+1) (by omega) (by omega) rfl ?_ trivial
    simp -implicitDefEqProofs -proj only [go_sem,seval,AJ,hsn,AU (show i<9223372036854775807 by omega)]
   ·rw [if_pos (by omega)] at hsf
    subst hsf
    have gf:=hok.f
    have gw:=hok.w
    have gc:=hok.c
    have gv:=hok.v
    have hQ:1≤g.w→0≤(q-g.f).tdiv g.w∧(q-g.f).tdiv g.w≤q-g.f:=fun h=>Qi (q:=q) hok (by omega) (by omega)
    unfold Fit at hq
    have w1:IntKind.i64.wrap (q-g.f)=q-g.f:=by rw [IntKind.wrap_i64]; omega
    have w2:1≤g.w→IntKind.i64.wrap ((q-g.f).tdiv g.w)=(q-g.f).tdiv g.w:=fun h=>by have:=hQ h; rw [IntKind.wrap_i64]; omega
    simp -implicitDefEqProofs -proj only [go_sem,seval,decide_eq_false hf]
    refine EN (fun k:Nat=>1≤k∧(k:Int)≤g.c∧(k=1∨(1≤g.w∧(k:Int)-1≤(q-g.f).tdiv g.w))) 61 (fun k=>[(1,i64 q),(20,FW G),(21,i64 G.length),(22,i64 i),(9,.ptr b9 0),(10,i64 k),(6,i64 (g.v+((k:Int)-1)*g.r)),(7,bv true)]) (fun _=>[(b9,.box 66 [i64 g.f,i64 g.v,i64 g.w,i64 g.r,i64 g.c])]) (fun k=>(g.c-k).toNat) 1 ⟨Nat.le_refl _,by omega,.inl rfl⟩ rfl ?_ ?_ ?_
    ·simp -implicitDefEqProofs -proj only [go_sem,seval,AJ,Int.sub_self,Int.zero_mul,Int.add_zero]
    ·simp -implicitDefEqProofs -proj only [go_sem,seval,AZ]
    ·rintro k ⟨hk1,hk2,hk3⟩
     have hk:AZ (Ac [(b9,.box 66 [i64 g.f,i64 g.v,i64 g.w,i64 g.r,i64 g.c])]) [(b9,.box 66 [i64 g.f,i64 g.v,i64 g.w,i64 g.r,i64 g.c])]:=EV (by simp [AP])
     have k9:=hk.1
     have hval:g.v+((k:Int)-1)*g.r=IE g q→i64 (g.v+((k:Int)-1)*g.r)=i64 (IE g q):=fun e=>by rw [e]
     by_cases hw:0<g.w
     ·have hq0:=hQ (by omega)
      have w2':=w2 (by omega)
      have gr:=hok.r ((k:Int)-1) (by omega) (by omega)
      by_cases hkc:(k:Int)<g.c
      ·by_cases hkq:(k:Int)≤(q-g.f).tdiv g.w
       ·have gr2:=hok.r (k:Int) (by omega) (by omega)
        have e1:((k:Int)-1)*g.r+g.r=(k:Int)*g.r:=by rw [Int.sub_mul]; omega
        have w3:IntKind.i64.wrap (g.v+((k:Int)-1)*g.r+g.r)=g.v+(((k+1:Nat):Int)-1)*g.r:=by
         rw [show ((k+1:Nat):Int)-1=(k:Int) by omega,IntKind.wrap_i64]
         omega
        simp -implicitDefEqProofs -proj only [go_sem,seval,k9,decide_eq_true hw,decide_eq_true hkc,w1,w2',decide_eq_true hkq]
        (repeat' (with_reducible refine Ak ?_ (fun h=>?_); (focus first | decide | omega); clear h; try simp -implicitDefEqProofs -proj only [go_sem,seval,w1]))
        try simp -implicitDefEqProofs -proj only [go_sem,seval,k9,w2',w3,decide_eq_true hkq]
        refine AY (k+1) ⟨by omega,by omega,.inr ⟨by omega,by omega⟩⟩ (by omega) rfl ?_ hk
        simp -implicitDefEqProofs -proj only [go_sem,seval,AJ,AU (show k<9223372036854775807 by omega),w3]
       ·have e:g.v+((k:Int)-1)*g.r=IE g q:=by
         unfold IE
         rw [if_neg (by omega),show min ((q-g.f).tdiv g.w) (g.c-1)=(k:Int)-1 by omega]
        simp -implicitDefEqProofs -proj only [go_sem,seval,k9,decide_eq_true hw,decide_eq_true hkc,w1,w2',decide_eq_false hkq]
        (repeat' (with_reducible refine Ak ?_ (fun h=>?_); (focus first | decide | omega); clear h; try simp -implicitDefEqProofs -proj only [go_sem,seval,w1]))
        try simp -implicitDefEqProofs -proj only [go_sem,seval,k9,w2',decide_eq_false hkq,if_neg (show ¬(2:Nat)=3 by decide)]
        refine AY (i+1) (by omega) (by omega) rfl ?_ trivial
        simp -implicitDefEqProofs -proj only [go_sem,seval,AJ,hsn,e,AU (show i<9223372036854775807 by omega)]
      ·have e:g.v+((k:Int)-1)*g.r=IE g q:=by
        unfold IE
        rw [if_neg (by omega),show min ((q-g.f).tdiv g.w) (g.c-1)=(k:Int)-1 by omega]
       simp -implicitDefEqProofs -proj only [go_sem,seval,k9,decide_eq_true hw,decide_eq_false hkc,if_neg (show ¬(2:Nat)=3 by decide)]
       refine AY (i+1) (by omega) (by omega) rfl ?_ trivial
       simp -implicitDefEqProofs -proj only [go_sem,seval,AJ,hsn,e,AU (show i<9223372036854775807 by omega)]
     ·have e:g.v+((k:Int)-1)*g.r=IE g q:=by
       unfold IE
       rw [if_pos (by omega)]
       have:k=1:=by omega
       subst this
       simp
      simp -implicitDefEqProofs -proj only [go_sem,seval,k9,decide_eq_false hw,if_neg (show ¬(2:Nat)=3 by decide)]
      refine AY (i+1) (by omega) (by omega) rfl ?_ trivial
      simp -implicitDefEqProofs -proj only [go_sem,seval,AJ,hsn,e,AU (show i<9223372036854775807 by omega)]
  ·have hi':i=G.length:=by omega
   subst hi'
   rw [List.take_length]
   have:Es (Gb G q) = .tup [i64 (JD G q).1,bv (JD G q).2]:=by
    unfold JD
    cases Gb G q <;> rfl
   rw [this]
   simp -implicitDefEqProofs -proj only [go_sem,seval,decide_eq_false (show ¬(G.length:Int)<G.length by omega)]
   exact AM rfl
theorem SP {l:List Int} (h:ER l) {i:Nat} (hi:i<l.length):DataW Try.prog S7 [FV l,i64 i] (.tup [i64 l[i],bv true]):=by
 have h1:=h.2.1
 have:=ATn (m:=(l.length:Int)-1) (q:=(i:Int)) (Rv h) (Nat.le_trans JQ (by omega)) (by unfold Fit; omega) (by omega)
 rwa [if_neg (by omega),Nf hi] at this
def NI (b1:Nat) (l:List Int) (y:BackY):List (Nat×Blk):=BD 3 1 y.c y.cap (Ad (l.take y.i))++[(b1,.box 58 [i64 ((l.length:Int)-1),FW (Ef l)])]
theorem ARX {l:List Int} (h:ER l):NewW Try.prog AU3 [FV l] (Fu l):=by
 obtain ⟨hne,h1,h2⟩:=id h
 refine Aj XP (by simp) ?_
 simp -implicitDefEqProofs -proj only [go_sem,seval]
 refine AI (fun b1 hb1=>?_)
 have a1:=HU (x:=.box 58 [i64 ((l.length:Int)-1),FW (Ef l)]) hb1 (l:=[]) trivial
 have k1:=HT (x:=.box 58 [i64 ((l.length:Int)-1),FW (Ef l)]) hb1 (l:=[]) trivial List.nodup_nil
 simp -implicitDefEqProofs -proj only [go_sem,seval]
 refine EN (fun y:BackY=>y.i≤l.length∧(AP (NI b1 l y)).Nodup) 24 (fun y=>[(1,.ptr b1 0),(3,EU 0 1 y.c y.cap (Ad (l.take y.i))),(4,i64 y.i)]) (NI b1 l) (fun y=>l.length-y.i) ⟨0,0,0⟩ ⟨Nat.zero_le _,k1⟩ rfl ?_ ?_ ?_
 ·simp -implicitDefEqProofs -proj only [go_sem,seval,AJ,Ik,JI,I3]
  rfl
 ·simp -implicitDefEqProofs -proj only [go_sem,seval]
  exact a1
 ·rintro ⟨i,c,cap⟩ ⟨hi,hn⟩
  simp -implicitDefEqProofs only [Ik] at hi
  have hall:=EV hn
  obtain ⟨H,hH⟩:∃H,Ac (NI b1 l ⟨i,c,cap⟩)=H:=⟨_,rfl⟩
  rw [hH] at hall
  simp -implicitDefEqProofs only [NI,Ik,JI,I3] at hall hn
  obtain ⟨hrow,e1,_⟩:=EQ.1 hall
  by_cases hlt:i<l.length
  ·have hat:=SP h hlt
   have htk:l.take (i+1)=l.take i++[l[i]]:=List.take_succ_eq_append_getElem hlt
   have hl1:(Ad (l.take i)).length=i:=by rw [Ei,List.length_take]; omega
   have hl2:(Ad (l.take (i+1))).length=i+1:=by rw [Ei,List.length_take]; omega
   have hne2:Ad (l.take (i+1))≠[]:=by intro e; rw [e] at hl2; simp at hl2
   generalize l[i]=v at *
   simp -implicitDefEqProofs -proj only [go_sem,seval,Ik,JI,I3,hH,e1,decide_eq_true (show (i:Int)≤(l.length:Int)-1 by omega)]
   refine AL hat ?_
   simp -implicitDefEqProofs -proj only [go_sem,seval]
   refine EO (fun bs hs'=>?_)
   replace hs':H bs=none:=hs'
   simp -implicitDefEqProofs -proj only [go_sem,seval]
   refine FX (xs:=Ad (l.take i)) (y:=[.int .i64 v]) (t:=3) (capc:=1) [(b1,.box 58 [i64 ((l.length:Int)-1),FW (Ef l)])] rfl (Ap hs' hall) hn (by simp -implicitDefEqProofs -proj only [go_sem,seval]) (by rw [hl1]; omega) (by rw [hl1]; omega) (fun H' c' cap' ha hk=>?_)
   rw [show Ad (l.take i)++[[.int .i64 v]]=Ad (l.take (i+1)) by rw [htk]; simp [Ad]] at ha hk
   simp -implicitDefEqProofs -proj only [go_sem,seval]
   refine AY ⟨i+1,c',cap'⟩ ⟨by show i+1≤l.length; omega,hk⟩ (by show l.length-(i+1)<l.length-i; omega) rfl ?_ ha
   simp -implicitDefEqProofs -proj only [go_sem,seval,AJ,Ik,JI,I3,AU (show i<9223372036854775807 by omega),Eg hne2,hl1,hl2]
  ·have hi':i=l.length:=by omega
   subst hi'
   rw [List.take_length] at hrow
   simp -implicitDefEqProofs -proj only [go_sem,seval,Ik,JI,I3,hH,e1,decide_eq_false (show ¬(l.length:Int)≤(l.length:Int)-1 by omega),List.take_length]
   exact KL hrow ACj
set_option maxRecDepth 20000 in
theorem ACS {l:List Int} (hfl:Jb l) (h:ER l):DataW Try.prog ANE [FV l] (bv true):=by
 obtain ⟨hne,h1,h2⟩:=id h
 have hn0:0<l.length:=List.length_pos_iff.2 hne
 have hgl:=JQ (l:=l)
 obtain ⟨hg0,hgf⟩:=Ul hne
 have hel0:=Jr hg0
 rw [hgf] at hel0
 have hwl:IntKind.i64.wrap ((l.length:Int)-1+1)=(l.length:Int):=by rw [IntKind.wrap_i64]; omega
 have hlist:=(ARX h).data
 have ro:=AHv hfl (show l.length≤3000 by omega)
 rw [if_pos h] at ro
 have hs:=R3 (m:=(l.length:Int)-1) (n:=(l.length:Int)-1) (a:=Ef l) (b:=Ef l) (by omega) (by omega)
 rw [decide_eq_true ⟨rfl,rfl⟩] at hs
 refine Aj VV (by simp) ?_
 simp -implicitDefEqProofs -proj only [go_sem,seval]
 refine AI (fun b1 hb1=>?_)
 simp -implicitDefEqProofs -proj only [go_sem,seval,Gp,decide_eq_false (show ¬(l.length:Int)-1<0 by omega),decide_eq_false (show ¬2000<(l.length:Int)-1 by omega),decide_eq_false (show ¬((Ef l).length:Int)=0 by omega),hwl,decide_eq_false (show ¬(l.length:Int)<(Ef l).length by omega)]
 refine Ag _ (by omega) (i:=0) hel0 ?_
 simp -implicitDefEqProofs -proj only [go_sem,seval,hwl,decide_eq_true (rfl:(0:Int)=0)]
 refine AL hlist ?_
 simp -implicitDefEqProofs -proj only [go_sem,seval]
 refine AL ro ?_
 simp -implicitDefEqProofs -proj only [go_sem,seval]
 refine AI (fun b3 hb3=>?_)
 replace hb3:upd Heap.none b1 _ b3=none:=hb3
 obtain ⟨n1,n2⟩:=AK hb3 AN
 simp -implicitDefEqProofs -proj only [go_sem,seval,n1,n2]
 refine AL hs ?_
 simp -implicitDefEqProofs -proj only [go_sem,seval]
 exact AM rfl
section
variable {cur:ByteArray} {f t:Int} {ms:List MeterX} {S:List (Seg D4)} {val:Int→D4} {lo hi d:Int}
theorem O9 (hl:S.length≤1000000) (h:FwdB val lo hi S) {i:Nat} {r:Seg D4} (hr:S[i]? = some r) (h1:r.f≤d) (h2:d≤r.t):DataW Try.prog AAD [E7 cur f t ms S,i64 d] (i64 i):=by
 have hi:=(List.getElem?_eq_some_iff.1 hr).1
 have hap:=fun (j:Nat) (hj:j<S.length) (hji:j<i)=>h.apart j i _ _ hji (List.getElem?_eq_getElem hj) hr
 refine Aj APq (by simp) ?_
 simp -implicitDefEqProofs -proj only [go_sem,seval]
 refine AI (fun b2 hb2=>?_)
 simp -implicitDefEqProofs -proj only [go_sem,seval,Ic]
 refine EN (fun j:Nat=>j≤i) 27 (fun j=>[(1,i64 d),(8,MW S),(9,i64 S.length),(10,i64 j)]) (fun _=>[]) (fun j=>i-j) 0 (Nat.zero_le _) rfl ?_ ?_ ?_
 ·simp -implicitDefEqProofs -proj only [go_sem,seval,AJ,Ic]
 ·trivial
 ·intro j hj
  have hjl:j<S.length:=by omega
  have hel:=PD hjl
  by_cases e:j=i
  ·subst e
   rw [List.getElem?_eq_getElem hjl] at hr
   rw [Option.some.inj hr] at hel
   simp -implicitDefEqProofs -proj only [go_sem,seval,decide_eq_true (show (j:Int)<S.length by omega)]
   refine Ag _ (by omega) hel ?_
   simp -implicitDefEqProofs -proj only [go_sem,seval]
   refine AI (fun b6 hb6=>?_)
   simp -implicitDefEqProofs -proj only [go_sem,seval,decide_eq_true h1,decide_eq_true h2]
   exact AM rfl
  ·have hlt:=hap j hjl (by omega)
   generalize S[j]=q at *
   simp -implicitDefEqProofs -proj only [go_sem,seval,decide_eq_true (show (j:Int)<S.length by omega)]
   refine Ag _ (by omega) hel ?_
   simp -implicitDefEqProofs -proj only [go_sem,seval]
   refine AI (fun b6 hb6=>?_)
   by_cases c1:q.f≤d
   ·simp -implicitDefEqProofs -proj only [go_sem,seval,decide_eq_true c1,decide_eq_false (show ¬d≤q.t by omega)]
    refine AY (j+1) (by omega) (by show i-(j+1)<i-j; omega) rfl ?_ trivial
    simp -implicitDefEqProofs -proj only [go_sem,seval,AJ,AU (show j<9223372036854775807 by omega)]
   ·simp -implicitDefEqProofs -proj only [go_sem,seval,decide_eq_false c1]
    refine AY (j+1) (by omega) (by show i-(j+1)<i-j; omega) rfl ?_ trivial
    simp -implicitDefEqProofs -proj only [go_sem,seval,AJ,AU (show j<9223372036854775807 by omega)]
end
structure okV (v:D4):Prop where
 f:0≤v.1∧v.1≤1152921504606846976
 n:v.2.length≤4
 c:∀l∈v.2,ER l
 b:∀l∈v.2,∀x∈l,-1152921504606846976≤x∧x≤1152921504606846976
theorem P4 {c:CoreX} (hf:fitsC c) (d:Int):okV (Eo c d):=by
 have hme:=(fitsC.bnd hf.good).me
 refine ⟨?_,?_,Mo hf d,fun l hl x hx=>?_⟩
 ·have h:=ARE hme d c.ms.length
  have hb:=Tr hf (d:=d) (b:=List.replicate c.ms.length 0) ⟨List.length_replicate ..,fun i h1 h2=>by
   have:=(fitsC.bnd hf.good).mx i h2
   rw [List.getElem_replicate]; omega⟩
  rw [h] at hb
  exact hb
 ·show (Eb c d _).length≤4
  rw [HL]; exact hf.good.hd.2.2.2.1
 ·obtain ⟨i,hi,rfl⟩:=List.getElem_of_mem hl
  have hi':i<c.ms.length:=by
   have:(Eb c d c.ms.length).length=c.ms.length:=HL
   exact this▸hi
  have e:(Eo c d).2[i]=Hq c d i c.ms[i].mx:=M4 hi' hi'
  rw [e] at hx
  obtain ⟨q,hq,rfl⟩:=List.mem_map.1 hx
  have hq:=List.mem_range.1 hq
  have:=(fitsC.bnd hf.good).mx i hi'
  exact PE hf d hi' (by omega) (by omega) (Nat.le_refl _)
section
variable {cur:ByteArray} {f t:Int} {ms:List MeterX} {S:List (Seg D4)} {val:Int→D4} {lo hi d:Int} {b:List Int}
end
theorem LC {ms:List MeterX} (h:Mk ms):ms.Pairwise GM:=by
 rw [List.pairwise_iff_getElem]
 have:∀(k i:Nat) (hi:i+k+1<ms.length),EW (ms[i]'(by omega)).nm ms[i+k+1].nm=true:=by
  intro k
  induction k with
  | zero=>intro i hi; exact (h (i+1) hi).2.2.2 _ (by simp) (by omega)
  | succ n ih =>
   intro i hi
   have h1:=ih i (by omega)
   have h2:=(h (i+(n+1)+1) hi).2.2.2 (ms[i+n+1]'(by omega)) (by simp [show i+(n+1)=i+n+1 by omega]) (by omega)
   exact N6 h1 h2
 intro i j hi hj hij
 have:=this (j-i-1) i (by omega)
 show EW _ _=true
 simpa only [show i+(j-i-1)+1=j by omega] using this
theorem MK {L:List MeterX} (h:L.Pairwise GM) {i j:Nat} (hi:i<L.length) (hj:j<L.length) (e:L[i].nm=L[j].nm):i=j:=by
 rw [List.pairwise_iff_getElem] at h
 rcases Nat.lt_trichotomy i j with c | c | c
 ·have:EW L[i].nm L[j].nm=true:=h i j hi hj c
  rw [e,Jw] at this; cases this
 ·exact c
 ·have:EW L[j].nm L[i].nm=true:=h j i hj hi c
  rw [e,Jw] at this; cases this
theorem O6:∀{L M:List MeterX},L.Pairwise GM→M.Pairwise GM→(∀m,m∈L↔m∈M)→L=M
 | [],[],_,_,_=>rfl
 | [],b::M,_,_,h=>by have:=(h b).2 (List.mem_cons_self ..); cases this
 | a::L,[],_,_,h=>by have:=(h a).1 (List.mem_cons_self ..); cases this
 | a::L,b::M,h1,h2,h=>by
  obtain ⟨ha,p1⟩:=List.pairwise_cons.1 h1
  obtain ⟨hb,p2⟩:=List.pairwise_cons.1 h2
  have e:a=b:=by
   rcases List.mem_cons.1 ((h a).1 (List.mem_cons_self ..)) with e | e
   ·exact e
   ·rcases List.mem_cons.1 ((h b).2 (List.mem_cons_self ..)) with k | k
    ·exact k.symm
    ·have x1:=ha b k
     have x2:=hb a e
     unfold GM at x1 x2
     rw [Rs x1] at x2; cases x2
  subst e
  refine congrArg (a::·) (O6 p1 p2 fun m=>⟨fun hm=>?_,fun hm=>?_⟩)
  ·rcases List.mem_cons.1 ((h m).1 (List.mem_cons_of_mem _ hm)) with e | e
   ·subst e
    have:=ha m hm
    unfold GM at this; rw [Jw] at this; cases this
   ·exact e
  ·rcases List.mem_cons.1 ((h m).2 (List.mem_cons_of_mem _ hm)) with e | e
   ·subst e
    have:=hb m hm
    unfold GM at this; rw [Jw] at this; cases this
   ·exact e
def UniqM (A B:List MeterX):Prop:=∀m o,m∈A∨m∈B→o∈A∨o∈B→m.nm=o.nm→m=o
theorem UniqM.symm {A B:List MeterX} (h:UniqM A B):UniqM B A:=fun m o hm ho e=>h m o hm.symm ho.symm e
theorem K8 {A B:List MeterX} (h:UniqM A B) (m:MeterX):m∈ES A B↔m∈A∨m∈B:=by
 obtain ⟨_,f2,f3⟩:=JR A B
 refine ⟨f2 m,fun hm=>?_⟩
 obtain ⟨y,hy,e⟩:=f3 m hm
 rw [←h y m (f2 y hy) hm e]; exact hy
theorem ALR {A B:List MeterX} (h:UniqM A B):ES A B=ES B A:=by
 refine O6 (JR A B).1 (JR B A).1 fun m=>?_
 rw [K8 h,K8 h.symm]
 exact ⟨Or.symm,Or.symm⟩
theorem NF {A:List MeterX} (h:A.Pairwise GM):UniqM A A:=by
 intro m o hm ho e
 obtain ⟨i,hi,rfl⟩:=List.getElem_of_mem (hm.elim id id)
 obtain ⟨j,hj,rfl⟩:=List.getElem_of_mem (ho.elim id id)
 have:=MK h hi hj e
 subst this; rfl
theorem UZ {ms:List MeterX} (h:Mk ms) {m:MeterX} (hm:m∈ms):m.ln=0∧m.co=0:=by
 obtain ⟨i,hi,rfl⟩:=List.getElem_of_mem hm
 exact ⟨(h i hi).2.1,(h i hi).2.2.1⟩
theorem AO2 {A B:List MeterX} (h:(A.any fun m=>B.any (GT m))=false) {m o:MeterX} (hm:m∈A) (ho:o∈B) (e:m.nm=o.nm):o.un=m.un∧o.mx=m.mx:=by
 rw [List.any_eq_false] at h
 have h1:=h m hm
 rw [Bool.not_eq_true,List.any_eq_false] at h1
 have h2:=h1 o ho
 rw [Bool.not_eq_true] at h2
 unfold GT at h2
 rw [e] at h2
 simp -implicitDefEqProofs only [beq_self_eq_true,Bool.true_and,Bool.or_eq_false_iff,Bool.not_eq_false',beq_iff_eq,decide_eq_true_eq] at h2
 exact ⟨H9 h2.1,h2.2⟩
theorem SH {A B:List MeterX} (hA:Mk A) (hB:Mk B) (h:(A.any fun m=>B.any (GT m))=false):UniqM A B:=by
 have hAB:∀m o,m∈A→o∈B→m.nm=o.nm→m=o:=fun m o hm ho e=>by
  obtain ⟨h1,h2⟩:=AO2 h hm ho e
  obtain ⟨a1,a2⟩:=UZ hA hm
  obtain ⟨b1,b2⟩:=UZ hB ho
  cases m; cases o
  simp -implicitDefEqProofs only [] at e h1 h2 a1 a2 b1 b2
  subst e h1 h2 a1 a2 b1 b2
  rfl
 intro m o hm ho e
 rcases hm with hm | hm <;> rcases ho with ho | ho
 ·exact NF (LC hA) m o (.inl hm) (.inl ho) e
 ·exact hAB m o hm ho e
 ·exact (hAB o m ho hm e.symm).symm
 ·exact NF (LC hB) m o (.inl hm) (.inl ho) e
theorem QX {m o:MeterX}:GT m o=GT o m:=by
 unfold GT
 have h1:∀x y:List UInt8,(x == y)=(y == x):=fun x y=>Bool.eq_iff_iff.2 ⟨fun h=>by rw [beq_iff_eq] at h ⊢; exact h.symm,fun h=>by rw [beq_iff_eq] at h ⊢; exact h.symm⟩
 rw [h1 o.nm.toList,h1 o.un.toList]
 rw [show decide (o.mx=m.mx)=decide (m.mx=o.mx) from decide_eq_decide.2 ⟨Eq.symm,Eq.symm⟩]
theorem Ql {cu cu':ByteArray} {f t f' t':Int} {A B:List MeterX}:Fz cu cu' f t f' t' A B=Fz cu' cu f' t' f t B A:=by
 unfold Fz
 have h1:∀x y:List UInt8,(x == y)=(y == x):=fun x y=>Bool.eq_iff_iff.2 ⟨fun h=>by rw [beq_iff_eq] at h ⊢; exact h.symm,fun h=>by rw [beq_iff_eq] at h ⊢; exact h.symm⟩
 rw [h1 cu.toList,show decide (f=f')=decide (f'=f) from decide_eq_decide.2 ⟨Eq.symm,Eq.symm⟩,show decide (t=t')=decide (t'=t) from decide_eq_decide.2 ⟨Eq.symm,Eq.symm⟩]
 congr 3
 congr 1
 rw [Bool.eq_iff_iff,List.any_eq_true,List.any_eq_true]
 constructor
 ·rintro ⟨m,hm,h⟩
  obtain ⟨o,ho,h⟩:=List.any_eq_true.1 h
  exact ⟨o,ho,List.any_eq_true.2 ⟨m,hm,by rw [QX]; exact h⟩⟩
 ·rintro ⟨m,hm,h⟩
  obtain ⟨o,ho,h⟩:=List.any_eq_true.1 h
  exact ⟨o,ho,List.any_eq_true.2 ⟨m,hm,by rw [QX]; exact h⟩⟩
theorem AGu {cu:ByteArray} {f t:Int} {A:List MeterX} (h:A.Pairwise GM):Fz cu cu f t f t A A=true:=by
 unfold Fz
 have:(A.any fun m=>A.any (GT m))=false:=by
  rw [List.any_eq_false]
  intro m hm
  rw [Bool.not_eq_true,List.any_eq_false]
  intro o ho
  rw [Bool.not_eq_true]
  unfold GT
  by_cases e:o.nm.toList=m.nm.toList
  ·have:=NF h o m (.inl ho) (.inl hm) (H9 e)
   subst this
   simp
  ·simp [e]
 simp [this]
theorem QR {cu cu':ByteArray} {f t f' t':Int} {A B:List MeterX} (h:Fz cu cu' f t f' t' A B=true):cu=cu'∧f=f'∧t=t'∧(A.any fun m=>B.any (GT m))=false:=by
 unfold Fz at h
 simp -implicitDefEqProofs only [Bool.and_eq_true,beq_iff_eq,decide_eq_true_eq,Bool.not_eq_true'] at h
 exact ⟨H9 h.1,h.2.1,h.2.2.1,h.2.2.2⟩
theorem KP {c:CoreX} (hf:fitsC c):FormOK (Eo c) c.f c.t c.ms (Fv c):=by
 obtain ⟨⟨a1,a2⟩,⟨a3,a4⟩,a5,a6,a7,a8⟩:=hf.good.hd
 have hfw:=ABD hf.good
 refine ⟨hfw,a1,by omega,by omega,by omega,fun m hm=>?_,fun s hs=>?_⟩
 ·obtain ⟨i,hi,rfl⟩:=List.getElem_of_mem hm
  exact (hf.good.ms i hi).1
 ·obtain ⟨i,hi,rfl⟩:=List.getElem_of_mem hs
  obtain ⟨_,h2,_,h4,_⟩:=hfw.nth i _ (List.getElem?_eq_getElem hi)
  have:=h4 _ (Int.le_refl _) h2
  rw [←this]
  exact ⟨Mo hf _,HL⟩
theorem FwdB.mapV {β γ:Type} {val:Int→β} {g : β→γ} {hi:Int}:∀{S:List (Seg β)} {lo:Int},FwdB val lo hi S→(∀r s,r∈S→s∈S→g r.v=g s.v→r.v=s.v)→FwdB (fun d=>g (val d)) lo hi (S.map fun s=>⟨s.f,s.t,g s.v⟩)
 | [],lo,h,_=>h
 | r::S,lo,h,hg=>by
  obtain ⟨h1,h2,h3,h4,h5⟩:=h
  refine ⟨h1,h2,fun x a b=>congrArg g (h3 x a b),fun s hs=>?_,FwdB.mapV h5 fun a b ha hb=>hg a b (List.mem_cons_of_mem _ ha) (List.mem_cons_of_mem _ hb)⟩
  rw [List.head?_map] at hs
  cases hS:S.head? with
  | none=>rw [hS] at hs; cases hs
  | some q =>
   rw [hS] at hs
   cases hs
   intro e
   exact h4 q hS (hg r q (List.mem_cons_self ..) (List.mem_cons_of_mem _ (List.mem_of_head? hS)) e)
theorem Wt {A:List MeterX} (h:A.Pairwise GM) {i:Nat} (hi:i<A.length):A.findIdx? (I2 A[i])=some i:=by
 rw [List.findIdx?_eq_some_iff_getElem]
 refine ⟨hi,by simp [I2],fun j hj=>?_⟩
 intro e
 have:A[j].nm=A[i].nm:=H9 (by simpa [I2] using e)
 have:=MK h (by omega) hi this
 omega
theorem Z3 {A all:List MeterX} (h:A.Pairwise GM) (hin:∀m∈A,m∈all) {a b:List (List Int)} (ha:a.length=A.length) (hb:b.length=A.length) (e:Am A a all=Am A b all):a=b:=by
 refine List.ext_getElem (by omega) fun i h1 h2=>?_
 have hi:i<A.length:=by omega
 have hall:=hin _ (List.getElem_mem hi)
 have:=List.map_inj_left.1 e _ hall
 unfold GS at this
 rw [Wt h hi] at this
 simpa [h1,h2] using this
theorem Qu {va:Int→D4} {f t:Int} {A:List MeterX} {S:List (Seg D4)} (hS:FormOK va f t A S) (h:A.Pairwise GM):FwdB (ID va va A A (ES A A)) f (t+1) (S.map fun s=>⟨s.f,s.t,(FO A (ES A A) s.v,FO A (ES A A) s.v)⟩):=by
 have hin:∀m∈A,m∈ES A A:=fun m hm=>(K8 (NF h) m).2 (.inl hm)
 refine FwdB.mapV (g:=fun v=>(FO A (ES A A) v,FO A (ES A A) v)) hS.fwd fun r s hr hs e=>?_
 have e1:=(Prod.mk.inj e).1
 unfold FO at e1
 obtain ⟨e2,e3⟩:=Prod.mk.inj e1
 have:=Z3 h hin (hS.cur r hr).2 (hS.cur s hs).2 e3
 exact Prod.ext e2 this
def Rj (s:Seg HC):Seg HC:=⟨s.f,s.t,(s.v.2,s.v.1)⟩
theorem VQ {va vb:Int→D4} {f t:Int} {A B:List MeterX} {T:List (Seg HC)} (hu:UniqM A B) (h:FwdB (ID va vb A B (ES A B)) f (t+1) T):FwdB (ID vb va B A (ES B A)) f (t+1) (T.map Rj):=by
 have:=FwdB.mapV (g:=fun v:HC=>(v.2,v.1)) h fun r s hr hs e=>by
  obtain ⟨e1,e2⟩:=Prod.mk.inj e
  exact Prod.ext e2 e1
 rw [←ALR hu]
 exact this
theorem SB {l:List Int}:Ht l l=List.replicate l.length 0:=by
 unfold Ht
 refine List.ext_getElem (by simp) fun i h1 h2=>?_
 simp
theorem Ob {A all:List MeterX} {v:D4}:(FO A all v).2.length=all.length:=Ft
theorem PX {va vb:Int→D4} {f t:Int} {A B all:List MeterX} {T:List (Seg HC)} (h:FwdB (ID va vb A B all) f (t+1) T) {s:Seg HC} (hs:s∈T):f≤s.f∧s.f≤s.t∧s.t≤t∧s.v=ID va vb A B all s.f:=by
 obtain ⟨i,hi,rfl⟩:=List.getElem_of_mem hs
 obtain ⟨h1,h2,h3,h4,_⟩:=h.nth i _ (List.getElem?_eq_getElem hi)
 exact ⟨by omega,h2,by omega,(h4 _ (Int.le_refl _) h2).symm⟩
def Ek (nm:ByteArray) (o:MeterX):Bool:=o.nm.toList == nm.toList
theorem P2 (m:MeterX):I2 m=Ek m.nm:=rfl
theorem Pp {l:List MeterX} {nm:ByteArray} (hl:l.length≤1000000):DataW Try.prog WP [.d (.sl 5 (AX l)),.d (.str nm)] (i64 (GP (Ek nm) l)):=by
 refine Aj AQW (by simp) ?_
 simp -implicitDefEqProofs -proj only [go_sem,seval,Gf]
 refine EN (fun i:Nat=>i≤l.length∧∀(j:Nat) (h:j<l.length),j<i→Ek nm l[j]=false) 20 (fun i=>[(1,.d (.str nm)),(7,.d (.sl 5 (AX l))),(8,i64 l.length),(9,i64 i)]) (fun _=>[]) (fun i=>l.length-i) 0 ⟨by omega,fun j _ h=>absurd h (Nat.not_lt_zero _)⟩ rfl ?_ trivial ?_
 ·simp -implicitDefEqProofs -proj only [go_sem,seval,AJ]
  try rfl
 rintro i ⟨hi,hs⟩
 by_cases h:i<l.length
 ·have hel:=G2 h
  have hgo:Ek nm l[i]=false→∀(j:Nat) (h:j<l.length),j<i+1→Ek nm l[j]=false:=K6 (P:=fun _ x=>Ek nm x=false) (List.getElem?_eq_getElem h) hs
  have hyes:Ek nm l[i]=true→GP (Ek nm) l=i:=fun e=>Qd h e hs
  generalize l[i]=m at *
  simp -implicitDefEqProofs -proj only [go_sem,seval,decide_eq_true (show (i:Int)<l.length by omega)]
  refine Ag _ (by omega) hel ?_
  simp -implicitDefEqProofs -proj only [go_sem,seval]
  refine AI (fun b hb=>?_)
  cases hd:(m.nm.toList == nm.toList) with
  | true =>
   simp -implicitDefEqProofs -proj only [go_sem,seval,IN,hd]
   rw [hyes hd]
   exact AM rfl
  | false =>
   simp -implicitDefEqProofs -proj only [go_sem,seval,IN,hd,AU (show i<9223372036854775807 by omega)]
   refine AY (i+1) ⟨by omega,hgo hd⟩ (by omega) rfl ?_ trivial
   simp -implicitDefEqProofs -proj only [go_sem,seval,AJ]
   try rfl
 ·obtain rfl:i=l.length:=by omega
  simp -implicitDefEqProofs -proj only [go_sem,seval,decide_eq_false (show ¬(l.length:Int)<l.length by omega)]
  rw [Rl fun j h=>hs j h h]
  exact AM rfl
def IA (B:List MeterX) (m:MeterX):Bool:=match B.findIdx? (Ek m.nm) with
 | some k=>match B[k]? with
  | some o=>!(o.un.toList == m.un.toList)||!decide (o.mx=m.mx)
  | none=>false
 | none=>false
def Lf (cu cu':ByteArray) (f t f' t':Int) (A B:List MeterX):Bool:=!(A.any (IA B))&&((cu.toList == cu'.toList)&&(decide (f=f')&&decide (t=t')))
theorem ME {B:List MeterX} (h:B.Pairwise GM) {nm:ByteArray} {k:Nat} (hk:k<B.length) (e:B[k].nm=nm):B.findIdx? (Ek nm)=some k:=by
 rw [List.findIdx?_eq_some_iff_getElem]
 refine ⟨hk,by simp [Ek,e],fun j hj=>?_⟩
 intro e'
 have:B[j].nm=nm:=H9 (by simpa [Ek] using e')
 have:=MK h (by omega) hk (this.trans e.symm)
 omega
theorem AUt {B:List MeterX} (h:B.Pairwise GM) (m:MeterX):IA B m=B.any (GT m):=by
 unfold IA
 cases hk:B.findIdx? (Ek m.nm) with
 | none =>
  rw [List.findIdx?_eq_none_iff] at hk
  symm
  rw [List.any_eq_false]
  intro o ho
  have:=hk o ho
  unfold Ek at this
  simp [GT,this]
 | some k =>
  obtain ⟨h1,h2,_⟩:=List.findIdx?_eq_some_iff_getElem.1 hk
  simp -implicitDefEqProofs only [List.getElem?_eq_getElem h1]
  rw [Bool.eq_iff_iff,List.any_eq_true]
  constructor
  ·intro hx
   refine ⟨_,List.getElem_mem h1,?_⟩
   unfold Ek at h2
   unfold GT
   rw [h2,hx]; rfl
  ·rintro ⟨o,ho,hx⟩
   obtain ⟨j,hj,rfl⟩:=List.getElem_of_mem ho
   unfold GT at hx
   rw [Bool.and_eq_true] at hx
   have e:=ME h hj (nm:=m.nm) (H9 (by simpa using hx.1))
   rw [hk] at e
   obtain rfl:k=j:=by simpa using e
   exact hx.2
theorem SA {cu cu':ByteArray} {f t f' t':Int} {A B:List MeterX} (h:B.Pairwise GM):Lf cu cu' f t f' t' A B=Fz cu cu' f t f' t' A B:=by
 unfold Lf Fz
 have:A.any (IA B)=A.any fun m=>B.any (GT m):=by
  congr 1
  funext m
  exact AUt h m
 rw [this]
 cases (A.any fun m=>B.any (GT m)) <;> cases (cu.toList == cu'.toList) <;> cases decide (f=f') <;> cases decide (t=t') <;> rfl
theorem SQ {cu cu':ByteArray} {f t f' t':Int} {A B:List MeterX} {S S':List (Seg D4)} (hA:A.length≤1000000) (hB:B.length≤1000000):DataW Try.prog Wh [E7 cu f t A S,E7 cu' f' t' B S'] (bv (Lf cu cu' f t f' t' A B)):=by
 refine Aj AFX (by simp) ?_
 simp -implicitDefEqProofs -proj only [go_sem,seval]
 refine AI (fun b2 hb2=>?_)
 simp -implicitDefEqProofs -proj only [go_sem,seval]
 refine AI (fun b3 hb3=>?_)
 replace hb3:upd Heap.none b2 _ b3=none:=hb3
 obtain ⟨n1,n2⟩:=AK hb3 AN
 simp -implicitDefEqProofs -proj only [go_sem,seval,n1,n2,Gf]
 refine EN (fun i:Nat=>i≤A.length∧∀(j:Nat) (h:j<A.length),j<i→IA B A[j]=false) 64 (fun i=>[(2,.ptr b2 0),(3,.ptr b3 0),(9,.d (.sl 5 (AX A))),(10,i64 A.length),(11,i64 i)]) (fun _=>[(b3,Ec cu' f' t' B S'),(b2,Ec cu f t A S)]) (fun i=>A.length-i) 0 ⟨by omega,fun j _ h=>absurd h (Nat.not_lt_zero _)⟩ rfl ?_ ?_ ?_
 ·simp -implicitDefEqProofs -proj only [go_sem,seval,AJ]
  try rfl
 ·exact ⟨AN,(AF n1).trans AN,trivial⟩
 rintro i ⟨hi,hs⟩
 have hall:AZ (Ac [(b3,Ec cu' f' t' B S'),(b2,Ec cu f t A S)]) [(b3,Ec cu' f' t' B S'),(b2,Ec cu f t A S)]:=EV (by simp [AP,n1])
 by_cases h:i<A.length
 ·have hel:=G2 h
  have hgo:IA B A[i]=false→∀(j:Nat) (h:j<A.length),j<i+1→IA B A[j]=false:=K6 (P:=fun _ x=>IA B x=false) (List.getElem?_eq_getElem h) hs
  have hmem:A[i]∈A:=List.getElem_mem h
  generalize A[i]=m at *
  have hyes:IA B m=true→Lf cu cu' f t f' t' A B=false:=fun e=>by
   unfold Lf
   rw [List.any_eq_true.2 ⟨m,hmem,e⟩]; rfl
  have hf:=Pp (l:=B) (nm:=m.nm) hB
  simp -implicitDefEqProofs -proj only [go_sem,seval,decide_eq_true (show (i:Int)<A.length by omega)]
  refine Ag _ (by omega) hel ?_
  simp -implicitDefEqProofs -proj only [go_sem,seval]
  refine AI (fun b6 hb6=>?_)
  obtain ⟨x1,x2⟩:=AK hb6 hall.1
  obtain ⟨x3,x4⟩:=AK hb6 hall.2.1
  simp -implicitDefEqProofs -proj only [go_sem,seval,x1,x2,x3,x4,n1,n2]
  refine AL hf ?_
  have hnext:AZ (upd (Ac [(b3,Ec cu' f' t' B S'),(b2,Ec cu f t A S)]) b6 (some (F6 m))) [(b3,Ec cu' f' t' B S'),(b2,Ec cu f t A S)]:=Ap hb6 hall
  cases hk:B.findIdx? (Ek m.nm) with
  | none =>
   have e:GP (Ek m.nm) B = -1:=by unfold GP; rw [hk]
   have hc:IA B m=false:=by unfold IA; rw [hk]
   simp -implicitDefEqProofs -proj only [go_sem,seval,e,x1,x2,x3,x4,n1,n2]
   refine AY (i+1) ⟨by omega,hgo hc⟩ (by show A.length-(i+1)<A.length-i; omega) rfl ?_ hnext
   simp -implicitDefEqProofs -proj only [go_sem,seval,AJ,AU (show i<9223372036854775807 by omega)]
  | some k =>
   have e:GP (Ek m.nm) B=k:=by unfold GP; rw [hk]
   obtain ⟨h1,_⟩:=List.findIdx?_eq_some_iff_getElem.1 hk
   have hc:IA B m=(!(B[k].un.toList == m.un.toList)||!decide (B[k].mx=m.mx)):=by unfold IA; rw [hk]; simp -implicitDefEqProofs only [List.getElem?_eq_getElem h1]
   have q1:=G2 h1
   generalize B[k]=o at *
   simp -implicitDefEqProofs -proj only [go_sem,seval,e,x1,x2,x3,x4,n1,n2,decide_eq_true (show (0:Int)≤(k:Int) by omega)]
   refine Ag _ (by omega) q1 ?_
   cases c1:o.un.toList == m.un.toList
   ·simp -implicitDefEqProofs -proj only [go_sem,seval,Ji,c1,x1,x2,x3,x4,n1,n2]
    rw [hyes (by rw [hc,c1]; rfl)]
    exact AM rfl
   ·simp -implicitDefEqProofs -proj only [go_sem,seval,Ji,c1,x1,x2,x3,x4,n1,n2]
    refine Ag _ (by omega) q1 ?_
    by_cases c2:o.mx=m.mx
    ·simp -implicitDefEqProofs -proj only [go_sem,seval,decide_eq_true c2,x1,x2,x3,x4,n1,n2]
     refine AY (i+1) ⟨by omega,hgo (by rw [hc,c1,decide_eq_true c2]; rfl)⟩ (by show A.length-(i+1)<A.length-i; omega) rfl ?_ hnext
     simp -implicitDefEqProofs -proj only [go_sem,seval,AJ,AU (show i<9223372036854775807 by omega)]
    ·simp -implicitDefEqProofs -proj only [go_sem,seval,decide_eq_false c2,x1,x2,x3,x4,n1,n2]
     rw [hyes (by rw [hc,decide_eq_false c2]; cases (o.un.toList == m.un.toList) <;> rfl)]
     exact AM rfl
 ·obtain rfl:i=A.length:=by omega
  have hno:A.any (IA B)=false:=by
   rw [List.any_eq_false]
   intro m hm
   obtain ⟨j,hj,rfl⟩:=List.getElem_of_mem hm
   rw [hs j hj hj]; simp
  unfold Lf
  rw [hno]
  cases c1:cu.toList == cu'.toList
  ·simp -implicitDefEqProofs -proj only [go_sem,seval,IN,c1,n1,n2,decide_eq_false (show ¬(A.length:Int)<A.length by omega)]
   exact AM rfl
  by_cases c2:f=f'
  ·simp -implicitDefEqProofs -proj only [go_sem,seval,IN,c1,n1,n2,decide_eq_false (show ¬(A.length:Int)<A.length by omega),decide_eq_true c2]
   exact AM (by simp)
  ·simp -implicitDefEqProofs -proj only [go_sem,seval,IN,c1,n1,n2,decide_eq_false (show ¬(A.length:Int)<A.length by omega),decide_eq_false c2]
   exact AM (by simp)
structure Firsts (L M:List MeterX):Prop where
 ord:M.Pairwise GM
 fst:∀m∈M,L.find? (Ek m.nm)=some m
 all:∀m∈L,∃y∈M,y.nm=m.nm
theorem Firsts.uniq {L M N:List MeterX} (h:Firsts L M) (k:Firsts L N):M=N:=by
 have one:∀{M N:List MeterX},Firsts L M→Firsts L N→∀m,m∈M→m∈N:=fun {M N} h k m hm=>by
  have h1:=h.fst m hm
  obtain ⟨y,hy,e⟩:=k.all m (List.mem_of_find?_eq_some h1)
  have h2:=k.fst y hy
  rw [e,h1] at h2
  cases h2
  exact hy
 exact O6 h.ord k.ord fun m=>⟨one h k m,one k h m⟩
theorem SF (m:MeterX):Ek m.nm m=true:=by simp [Ek]
theorem L7 {nm:ByteArray} {o:MeterX}:Ek nm o=true↔o.nm=nm:=by
 unfold Ek
 rw [beq_iff_eq]
 exact ⟨H9,fun e=>by rw [e]⟩
theorem AVa {A:List MeterX} {x:MeterX} (nm:ByteArray):(Ia A x).filter (Ek nm)=A.filter (Ek nm)++[x].filter (Ek nm):=by
 unfold Ia Ff
 generalize hp:G3 A x A.length=p
 have hhi:∀y∈A.drop p,EW x.nm y.nm=true:=by
  intro y hy
  obtain ⟨i,hi⟩:=List.mem_iff_getElem?.1 hy
  rw [List.getElem?_drop] at hi
  exact Pt (Nat.le_refl _) (p+i) y (by rw [hp]; omega) (List.getElem?_eq_some_iff.1 hi).1 hi
 have hA:A.filter (Ek nm)=(A.take p).filter (Ek nm)++(A.drop p).filter (Ek nm):=by
  rw [←List.filter_append,List.take_append_drop]
 rw [hA,List.filter_append,List.append_assoc]
 congr 1
 by_cases hx:Ek nm x=true
 ·have hno:(A.drop p).filter (Ek nm)=[]:=by
   rw [List.filter_eq_nil_iff]
   intro y hy hn
   have h1:=hhi y hy
   rw [L7.1 hx,L7.1 hn,Jw] at h1
   cases h1
  rw [List.filter_cons_of_pos hx,hno,List.filter_cons_of_pos hx]
  rfl
 ·rw [List.filter_cons_of_neg hx,List.filter_cons_of_neg hx]
  simp
theorem Rc {l:List MeterX} (nm:ByteArray):∀{n:Nat},n≤l.length→(GO l n).filter (Ek nm)=(l.take n).filter (Ek nm)
 | 0,_=>by simp [GO]
 | n+1,h=>by
  rw [MH (by omega),AVa,Rc nm (by omega),List.take_add_one,List.getElem?_eq_getElem (by omega:n<l.length),List.filter_append]
  rfl
theorem ACp {l:List MeterX} (nm:ByteArray):(Hu l).find? (Ek nm)=l.find? (Ek nm):=by
 have h:=Rc (l:=l) nm (Nat.le_refl _)
 rw [List.take_length] at h
 rw [←List.head?_filter,←List.head?_filter]
 exact congrArg List.head? h
theorem P6 {S:List MeterX} (hs:S.Pairwise K9):∀{n:Nat},n≤S.length→∀m∈FZ S n,S.find? (Ek m.nm)=some m
 | 0,_,m,hm=>by simp [FZ] at hm
 | n+1,h,m,hm=>by
  by_cases hd:Gn S n
  ·rw [LP hd] at hm
   exact P6 hs (by omega) m hm
  ·have hn:n<S.length:=by omega
   rw [Lk hn hd] at hm
   rcases List.mem_append.1 hm with hm | hm
   ·exact P6 hs (by omega) m hm
   ·rw [List.mem_singleton.1 hm]
    rw [List.find?_eq_some_iff_getElem]
    refine ⟨SF _,n,hn,rfl,fun j hj=>?_⟩
    rw [Bool.not_eq_true']
    cases e:Ek S[n].nm S[j] with
    | false=>rfl
    | true =>
     exfalso
     have e:=L7.1 e
     have hp:=List.pairwise_iff_getElem.1 hs
     apply hd
     refine ⟨by omega,?_⟩
     have hn1:n-1<S.length:=by omega
     rw [List.getElem?_eq_getElem hn1,List.getElem?_eq_getElem hn]
     simp -implicitDefEqProofs only [Option.map_some,Option.some.injEq]
     have h1:EW S[n].nm S[n-1].nm=false:=hp (n-1) n hn1 hn (by omega)
     have h2:EW S[n-1].nm S[n].nm=false:=by
      by_cases c:j=n-1
      ·subst c; rw [e]; exact Jw _
      ·have:=hp j (n-1) (by omega) hn1 (by omega)
       unfold K9 at this
       rw [e] at this
       exact this
     exact M7 h2 h1
theorem ANh (A B:List MeterX):Firsts (A++B) (ES A B):=by
 have hs:=Oz (l:=A++B) (Nat.le_refl _)
 obtain ⟨f1,f2,f3⟩:=JR A B
 refine ⟨f1,fun m hm=>?_,fun m hm=>f3 m (List.mem_append.1 hm)⟩
 have:=P6 hs (Nat.le_refl _) m hm
 rwa [show GO (A++B) (A++B).length=Hu (A++B) from rfl,ACp] at this
def atR (M:List MeterX) (x:MeterX):Nat:=(M.takeWhile fun y=>EW y.nm x.nm).length
noncomputable def Im (M:List MeterX) (x:MeterX):List MeterX:=if M.any (Ek x.nm) then M else M.take (atR M x)++x::M.drop (atR M x)
theorem UI {α:Type} {p : α→Bool}:∀{l:List α},l.take (l.takeWhile p).length=l.takeWhile p
 | []=>rfl
 | a::l=>by
  rw [List.takeWhile_cons]
  split
  ·rw [List.length_cons,List.take_succ_cons,UI]
  ·rfl
theorem Uf {α:Type} {p : α→Bool}:∀{l:List α} (h:(l.takeWhile p).length<l.length),p (l[(l.takeWhile p).length])=false
 | [],h=>absurd h (Nat.not_lt_zero _)
 | a::l,h=>by
  by_cases hp:p a=true
  ·have e:(a::l).takeWhile p=a::l.takeWhile p:=by rw [List.takeWhile_cons,if_pos hp]
   have h':(l.takeWhile p).length<l.length:=by rw [e] at h; simpa using h
   have:=Uf h'
   simpa only [e,List.length_cons,List.getElem_cons_succ] using this
  ·have e:(a::l).takeWhile p=[]:=by rw [List.takeWhile_cons,if_neg hp]
   simpa only [e,List.length_nil,List.getElem_cons_zero,Bool.not_eq_true] using hp
theorem Sx {M:List MeterX} {x:MeterX}:atR M x≤M.length:=(List.takeWhile_sublist _).length_le
theorem UA {M:List MeterX} {x:MeterX} {i:Nat} (h:i<atR M x) (h':i<M.length):EW M[i].nm x.nm=true:=by
 have e:(M.take (atR M x))[i]? = some M[i]:=by rw [List.getElem?_take_of_lt h,List.getElem?_eq_getElem h']
 unfold atR at e
 rw [UI] at e
 have:=List.all_eq_true.1 (List.all_takeWhile (p:=fun y:MeterX=>EW y.nm x.nm) (l:=M)) _ (List.mem_of_getElem? e)
 exact this
theorem Uh {M:List MeterX} {x:MeterX} (h:atR M x<M.length):EW M[atR M x].nm x.nm=false:=Uf h
theorem ADK {M:List MeterX} {x:MeterX} {i:Nat} (hi:i≤M.length) (h1:∀(j:Nat) (h:j<M.length),j<i→EW M[j].nm x.nm=true) (h2:∀(h:i<M.length),EW M[i].nm x.nm=false):atR M x=i:=by
 rcases Nat.lt_trichotomy (atR M x) i with c | c | c
 ·have a:=Uh (M:=M) (x:=x) (by omega)
  rw [h1 _ (by omega) c] at a; cases a
 ·exact c
 ·have hl:=Sx (M:=M) (x:=x)
  have a:=UA c (show i<M.length by omega)
  rw [h2 (by omega)] at a; cases a
theorem Firsts.snoc {L M:List MeterX} {x:MeterX} (h:Firsts L M):Firsts (L++[x]) (Im M x):=by
 unfold Im
 by_cases hx:M.any (Ek x.nm)=true
 ·rw [if_pos hx]
  obtain ⟨y,hy,e⟩:=List.any_eq_true.1 hx
  refine ⟨h.ord,fun m hm=>by rw [List.find?_append,h.fst m hm]; rfl,fun m hm=>?_⟩
  rcases List.mem_append.1 hm with hm | hm
  ·exact h.all m hm
  ·rw [List.mem_singleton.1 hm]
   exact ⟨y,hy,L7.1 e⟩
 ·rw [if_neg hx]
  rw [Bool.not_eq_true,List.any_eq_false] at hx
  have hne:∀y∈M,y.nm≠x.nm:=fun y hy e=>hx y hy (L7.2 e)
  have hp:=List.pairwise_iff_getElem.1 h.ord
  have hlo:∀y∈M.take (atR M x),GM y x:=fun y hy=>by
   obtain ⟨i,hi,rfl⟩:=List.getElem_of_mem hy
   rw [List.length_take] at hi
   rw [List.getElem_take]
   exact UA (by omega) (by omega)
  have hhi:∀y∈M.drop (atR M x),GM x y:=fun y hy=>by
   obtain ⟨i,hi,rfl⟩:=List.getElem_of_mem hy
   rw [List.length_drop] at hi
   rw [List.getElem_drop]
   have h0:atR M x<M.length:=by omega
   have h1:=Uh (M:=M) (x:=x) h0
   have h2:EW x.nm M[atR M x].nm=true:=by
    cases e:EW x.nm M[atR M x].nm with
    | true=>rfl
    | false=>exact absurd (M7 h1 e) (hne _ (List.getElem_mem h0))
   by_cases c:i=0
   ·subst c
    exact h2
   ·exact N6 h2 (hp (atR M x) (atR M x+i) h0 (by omega) (by omega))
  have hxin:x∈M.take (atR M x)++x::M.drop (atR M x):=List.mem_append_right _ (List.mem_cons_self ..)
  have hkeep:∀y∈M,y∈M.take (atR M x)++x::M.drop (atR M x):=fun y hy=>by
   rw [←List.take_append_drop (atR M x) M] at hy
   rcases List.mem_append.1 hy with k | k
   ·exact List.mem_append_left _ k
   ·exact List.mem_append_right _ (List.mem_cons_of_mem _ k)
  refine ⟨?_,fun m hm=>?_,fun m hm=>?_⟩
  ·have ho:=h.ord
   rw [←List.take_append_drop (atR M x) M,List.pairwise_append] at ho
   rw [List.pairwise_append]
   refine ⟨ho.1,List.pairwise_cons.2 ⟨hhi,ho.2.1⟩,fun a ha b hb=>?_⟩
   rcases List.mem_cons.1 hb with rfl | hb
   ·exact hlo a ha
   ·exact ho.2.2 a ha b hb
  ·have hm':m=x∨m∈M:=by
    rcases List.mem_append.1 hm with k | k
    ·exact .inr (List.mem_of_mem_take k)
    ·rcases List.mem_cons.1 k with k | k
     ·exact .inl k
     ·exact .inr (List.mem_of_mem_drop k)
   rcases hm' with rfl | hm'
   ·have:L.find? (Ek m.nm)=none:=by
     rw [List.find?_eq_none]
     intro y hy hn
     obtain ⟨z,hz,e⟩:=h.all y hy
     exact hne z hz (e.trans (L7.1 hn))
    rw [List.find?_append,this,List.find?_singleton,if_pos (SF m)]
    rfl
   ·rw [List.find?_append,h.fst m hm']; rfl
  ·rcases List.mem_append.1 hm with k | k
   ·obtain ⟨y,hy,e⟩:=h.all m k
    exact ⟨y,hkeep y hy,e⟩
   ·rw [List.mem_singleton.1 k]
    exact ⟨x,hxin,rfl⟩
noncomputable def Fb (L:List MeterX):Nat→List MeterX
 | 0=>[]
 | n+1=>match L[n]? with
  | some x=>Im (Fb L n) x
  | none=>Fb L n
theorem ANm {L:List MeterX} {n:Nat} (h:n<L.length):Fb L (n+1)=Im (Fb L n) L[n]:=by rw [Fb,List.getElem?_eq_getElem h]
theorem Tx {L:List MeterX}:∀{n:Nat},n≤L.length→Firsts (L.take n) (Fb L n)
 | 0,_=>⟨.nil,fun m h=>by simp [Fb] at h,fun m h=>by simp at h⟩
 | n+1,h=>by
  rw [ANm (by omega),List.take_succ_eq_append_getElem (by omega)]
  exact (Tx (by omega)).snoc
theorem Va (A B:List MeterX):Fb (A++B) (A++B).length=ES A B:=by
 have h:=Tx (L:=A++B) (Nat.le_refl _)
 rw [List.take_length] at h
 exact h.uniq (ANh A B)
theorem ABu {M:List MeterX} {x:MeterX}:(Im M x).length≤M.length+1:=by
 unfold Im
 split
 ·omega
 ·rw [List.length_append,List.length_cons,List.length_take,List.length_drop]
  have:=Sx (M:=M) (x:=x)
  omega
theorem PL {L:List MeterX}:∀n:Nat,(Fb L n).length≤n
 | 0=>Nat.le_refl _
 | n+1=>by
  rw [Fb]
  split
  ·have:=ABu (M:=Fb L n) (x:=‹MeterX›)
   have:=PL (L:=L) n
   omega
  ·have:=PL (L:=L) n
   omega
theorem AMd {P:Program} {Q:Out→St→Prop} {b:ACode} {k:List Item} {s:St} {n c sz off len cap:Nat} (ht:s.t n = .own c sz off len cap) (h:len≤cap→MP P Q b k s):MP P Q b k s:=by
 intro r c0 hc hr B F a w hR
 have hv:=hR.2.2.2 n
 rw [ht] at hv
 generalize hu:a.tmps.getD n undef=u at hv
 cases hv with
 | own _ _ _ _ _ hlc=>exact h hlc r c0 hc hr B F a w hR
theorem AS7 {P:Program} {Q:Out→St→Prop} {k:List Item} {s:St} {d:Option Nat} {l:List AO} {e:TypeId} {sz bytes b n off len cap q:Nat} {z:List AV} (hz:z.length=sz) (hk:AS P Q l k (AH s d (.own b n off len cap) s.H)):Gk e sz bytes z (.own b n off len cap) (.nilsl q) d l k s P Q:=by
 simp -implicitDefEqProofs only [Gk,GN]
 exact .inl ⟨by trivial,hz,hk⟩
theorem AFL {P:Program} {Q:Out→St→Prop} {k:List Item} {s:St} {d:Option Nat} {l:List AO} {e:TypeId} {sz bytes b len cap:Nat} {z:List AV} {xs ys:List (List D)} {x:AV} (hx:∀K,GN s.H x K=K sz ys) (hb:s.H b=some (.row e sz cap xs)) (hlb:len=xs.length) (hz:z.length=sz) (hbd:(xs.length+ys.length)*bytes≤140737488355328∧xs.length+ys.length≤maxLen)
  (hk:∀b' cap' H',H' b'=some (.row e sz cap' (xs++ys))→(∀k x,s.H k=some x→¬k=b→H' k=some x∧¬k=b'∧¬b'=k)→AS P Q l k (AH s d (.own b' sz 0 (len+ys.length) cap') H')):Gk e sz bytes z (.own b sz 0 len cap) x d l k s P Q:=by
 refine Tm hx hb hlb hz hbd (fun h=>?_) (fun h b' cap' hb'=>?_)
 ·subst h
  have:=hk b cap s.H (by rw [List.append_nil]; exact hb) (fun k x h1 h2=>⟨h1,h2,fun e=>h2 e.symm⟩)
  simpa using this
 ·refine hk b' cap' _ AN (fun k x h1 h2=>?_)
  have hne:¬k=b':=by
   rintro rfl
   rw [AF (fun e=>h2 e.symm),h1] at hb'
   cases hb'
  exact ⟨by rw [AF (fun e=>hne e.symm),AF (fun e=>h2 e.symm)]; exact h1,hne,fun e=>hne e.symm⟩
structure RmY where
 i:Nat
 c:Nat
 cap:Nat
theorem Gt {i c cap:Nat}:(RmY.mk i c cap).i=i:=(rfl)
theorem G8 {i c cap:Nat}:(RmY.mk i c cap).c=c:=(rfl)
theorem G7 {i c cap:Nat}:(RmY.mk i c cap).cap=cap:=(rfl)
def IF (ba:Nat) (A B:List MeterX) (M:List MeterX) (c cap:Nat):List (Nat×Blk):=BD 39 5 c cap (AX M)++[(ba,.row 22 1 2 (Hh A B))]
def KF (ba b9:Nat) (A B:List MeterX) (x:MeterX) (M:List MeterX) (c cap:Nat):List (Nat×Blk):=BD 39 5 c cap (AX M)++[(ba,.row 22 1 2 (Hh A B)),(b9,F6 x)]
theorem Ww {p:MeterX→Bool} {l:List MeterX}:decide (0≤GP p l)=l.any p:=TJ
theorem AA6 {A B:List MeterX} {k:Nat} {y:List MeterX} (h:(Hh A B)[k]? = some [.sl 5 (AX y)]) (e:Ep A B (k+1)=Ep A B k++y) (hk:k<2) {i:Nat} (hi:i<y.length):(A++B)[(Ep A B k).length+i]? = some y[i]:=by
 have hpre:∃r,A++B=Ep A B (k+1)++r:=by
  rcases (by omega:k=0∨k=1) with rfl | rfl
  ·exact ⟨B,rfl⟩
  ·exact ⟨[],by rw [List.append_nil]; rfl⟩
 obtain ⟨r,hr⟩:=hpre
 rw [hr,e,List.append_assoc,List.getElem?_append_right (by omega),Nat.add_sub_cancel_left,List.getElem?_append_left hi,List.getElem?_eq_getElem hi]
set_option maxHeartbeats 4000000 in
theorem T1 {cu cu':ByteArray} {f t f' t':Int} {A B:List MeterX} {S S':List (Seg D4)} (hA:A.length≤8) (hB:B.length≤8):DataW Try.prog AAH [E7 cu f t A S,E7 cu' f' t' B S'] (.d (.sl 5 (AX (ES A B)))):=by
 have hrl:=fun n=>PL (L:=A++B) n
 have hcl:∀k,k≤2→(Ep A B k).length≤16:=fun k hk=>by
  rcases (by omega:k=0∨k=1∨k=2) with rfl | rfl | rfl
  ·exact Nat.zero_le _
  ·show A.length≤16; omega
  ·show (A++B).length≤16; rw [List.length_append]; omega
 rw [←Va]
 refine Aj ALO (by simp) ?_
 simp -implicitDefEqProofs -proj only [go_sem,seval]
 refine AI (fun b2 hb2=>?_)
 simp -implicitDefEqProofs -proj only [go_sem,seval]
 refine AI (fun b3 hb3=>?_)
 replace hb3:upd Heap.none b2 _ b3=none:=hb3
 obtain ⟨n1,n2⟩:=AK hb3 AN
 simp -implicitDefEqProofs -proj only [go_sem,seval,n1,n2]
 refine EO (fun ba hba=>?_)
 simp -implicitDefEqProofs -proj only [go_sem,seval]
 refine EN (fun y:RmY=>y.i≤2∧(AP (IF ba A B (Fb (A++B) (Ep A B y.i).length) y.c y.cap)).Nodup) 62 (fun y=>[(5,EU 0 5 y.c y.cap (AX (Fb (A++B) (Ep A B y.i).length))),(15,.own ba 1 0 2 2),(16,i64 2),(17,i64 y.i)]) (fun y=>IF ba A B (Fb (A++B) (Ep A B y.i).length) y.c y.cap) (fun y=>2-y.i) ⟨0,0,0⟩ ⟨Nat.zero_le _,by simp [AP,IF,Ep,Fb,AX,BD]⟩ rfl ?_ ?_ ?_
 ·simp -implicitDefEqProofs -proj only [go_sem,seval,AJ,Gt,G8,G7,Ep,Fb,AX,List.map_nil,JX]
  try rfl
 ·exact ⟨AN,trivial⟩
 rintro ⟨k,c1,cap⟩ ⟨hk,hnd⟩
 simp -implicitDefEqProofs only [Gt] at hk
 have hall:=EV hnd
 obtain ⟨H,hH⟩:∃H,Ac (IF ba A B (Fb (A++B) (Ep A B k).length) c1 cap)=H:=⟨_,rfl⟩
 simp -implicitDefEqProofs only [Gt,G8,G7] at hall hnd
 rw [hH] at hall
 simp -implicitDefEqProofs only [IF] at hall hnd
 obtain ⟨hrow,ka,_⟩:=EQ.1 hall
 by_cases h:k<2
 rotate_left
 ·obtain rfl:k=2:=by omega
  simp -implicitDefEqProofs -proj only [go_sem,seval,Gt,G8,G7,hH,decide_eq_false (show ¬((2:Nat):Int)<2 by omega)]
  exact Id hrow
 obtain ⟨y,e1,e2⟩:=NE (A:=A) (B:=B) h
 have hnx:=fun i (hi:i<y.length)=>AA6 e1 e2 h hi
 have hyl:y.length≤16:=by
  have:=hcl (k+1) (by omega)
  rw [e2,List.length_append] at this
  omega
 have hcl0:=hcl k (by omega)
 have hlen2:(Ep A B (k+1)).length=(Ep A B k).length+y.length:=by rw [e2,List.length_append]
 simp -implicitDefEqProofs -proj only [go_sem,seval,Gt,G8,G7,hH,decide_eq_true (show (k:Int)<2 by omega),ka,Int.toNat_natCast,Nat.zero_add]
 refine Ak (by omega) (fun _=>?_)
 refine Ed _ e1 (Nat.le_refl 1) ?_
 simp -implicitDefEqProofs -proj only [go_sem,seval,Gf]
 refine EN (fun z:RmY=>z.i≤y.length∧(AP (IF ba A B (Fb (A++B) ((Ep A B k).length+z.i)) z.c z.cap)).Nodup) 62 (fun z=>[(5,EU 0 5 z.c z.cap (AX (Fb (A++B) ((Ep A B k).length+z.i)))),(15,.own ba 1 0 2 2),(16,i64 2),(17,i64 k),(21,.d (.sl 5 (AX y))),(22,i64 y.length),(23,i64 z.i)]) (fun z=>IF ba A B (Fb (A++B) ((Ep A B k).length+z.i)) z.c z.cap) (fun z=>y.length-z.i) ⟨0,c1,cap⟩ ⟨Nat.zero_le _,hnd⟩ rfl ?_ hall ?_
 ·simp -implicitDefEqProofs -proj only [go_sem,seval,AJ,Gt,G8,G7,Gf,Nat.add_zero]
  try rfl
 clear hall hnd hrow ka hH
 rintro ⟨i,c1,cap⟩ ⟨hi,hnd⟩
 simp -implicitDefEqProofs only [Gt] at hi
 have hall:=EV hnd
 obtain ⟨H,hH⟩:∃H,Ac (IF ba A B (Fb (A++B) ((Ep A B k).length+i)) c1 cap)=H:=⟨_,rfl⟩
 simp -implicitDefEqProofs only [Gt,G8,G7] at hall hnd
 rw [hH] at hall
 by_cases hil:i<y.length
 rotate_left
 ·obtain rfl:i=y.length:=by omega
  rw [←hlen2] at hall hnd
  simp -implicitDefEqProofs -proj only [go_sem,seval,Gt,G8,G7,hH,decide_eq_false (show ¬(y.length:Int)<y.length by omega),AU (show k<9223372036854775807 by omega)]
  refine AY ⟨k+1,c1,cap⟩ ⟨by show k+1≤2; omega,hnd⟩ (by show 2-(k+1)<2-k; omega) rfl ?_ hall
  simp -implicitDefEqProofs -proj only [go_sem,seval,AJ,Gt,G8,G7,hlen2]
 have hel:=G2 hil
 have hst:Fb (A++B) ((Ep A B k).length+(i+1))=Im (Fb (A++B) ((Ep A B k).length+i)) y[i]:=by
  rw [←Nat.add_assoc,Fb,hnx i hil]
 have hMl:(Fb (A++B) ((Ep A B k).length+i)).length≤32:=by have:=hrl ((Ep A B k).length+i); omega
 generalize y[i]=x at *
 obtain ⟨M,hM⟩:∃M,Fb (A++B) ((Ep A B k).length+i)=M:=⟨_,rfl⟩
 rw [hM] at hall hnd hst hMl hH
 have hfi:=Pp (l:=M) (nm:=x.nm) (by omega)
 have hge:=Ww (p:=Ek x.nm) (l:=M)
 simp -implicitDefEqProofs only [IF] at hall hnd
 obtain ⟨hrow,ka,_⟩:=EQ.1 hall
 simp -implicitDefEqProofs -proj only [go_sem,seval,Gt,G8,G7,hH,hM,decide_eq_true (show (i:Int)<y.length by omega)]
 refine Ag _ (by omega) hel ?_
 simp -implicitDefEqProofs -proj only [go_sem,seval]
 refine AI (fun b9 hb9=>?_)
 replace hb9:H b9=none:=hb9
 obtain ⟨x1,x2⟩:=AK hb9 ka
 have hall9:AZ (upd H b9 (some (F6 x))) (KF ba b9 A B x M c1 cap):=by
  obtain ⟨p1,p2,_⟩:=EQ.1 (Ap (y:=some (F6 x)) hb9 hall)
  exact EQ.2 ⟨p1,p2,AN,trivial⟩
 have hrow9:=(EQ.1 hall9).1
 simp -implicitDefEqProofs -proj only [go_sem,seval]
 refine QS hfi (GA (Id hrow9) (GA (.refl _) Hl)) rfl ?_
 cases hany:M.any (Ek x.nm) with
 | true =>
  have e:Im M x=M:=by unfold Im; rw [if_pos hany]
  rw [e] at hst
  simp -implicitDefEqProofs -proj only [go_sem,seval,hge,hany,AU (show i<9223372036854775807 by omega)]
  refine AY ⟨i+1,c1,cap⟩ ⟨by show i+1≤y.length; omega,by simp -implicitDefEqProofs only [Gt,G8,G7]; rw [hst]; exact hnd⟩ (by show y.length-(i+1)<y.length-i; omega) rfl ?_ ?_
  ·simp -implicitDefEqProofs -proj only [go_sem,seval,AJ,Gt,G8,G7,hst]
  ·simp -implicitDefEqProofs only [Gt,G8,G7]
   rw [hst]
   exact Ap hb9 hall
 | false =>
  have e:Im M x=M.take (atR M x)++x::M.drop (atR M x):=by unfold Im; rw [if_neg (by rw [hany]; simp)]
  rw [e] at hst
  simp -implicitDefEqProofs -proj only [go_sem,seval,hge,hany]
  have hnd9:(AP (KF ba b9 A B x M c1 cap)).Nodup:=by
   have hn2:=HT (x:=F6 x) hb9 hall hnd
   have:=(List.perm_append_comm (l₁:=AP (BD 39 5 c1 cap (AX M)++[(ba,.row 22 1 2 (Hh A B))])) (l₂:=[b9])).nodup_iff.2 (by simpa only [AP,List.map_cons,List.singleton_append] using hn2)
   simpa only [KF,AP,List.map_append,List.map_cons,List.map_nil,List.append_assoc,List.cons_append,List.nil_append] using this
  by_cases hMe:M=[]
  ·subst hMe
   have hat:atR [] x=0:=rfl
   rw [hat,List.take_nil,List.drop_nil,List.nil_append] at hst
   have hr0:AX ([]:List MeterX)=[]:=rfl
   rw [hr0,JX]
   refine EN (fun z:Nat=>z=0) 62 (fun z=>[(5,.nilsl 0),(15,.own ba 1 0 2 2),(16,i64 2),(17,i64 k),(21,.d (.sl 5 (AX y))),(22,i64 y.length),(23,i64 i),(9,.ptr b9 0),(10,i64 0)]) (fun _=>KF ba b9 A B x [] c1 cap) (fun z=>z) 0 rfl rfl ?_ hall9 ?_
   ·simp -implicitDefEqProofs -proj only [go_sem,seval,AJ]
    try rfl
   clear hall9 hb9 hall hrow hH hrow9
   rintro z rfl
   have hall2:=EV hnd9
   obtain ⟨H2,hH2⟩:∃H2,Ac (KF ba b9 A B x [] c1 cap)=H2:=⟨_,rfl⟩
   rw [hH2] at hall2
   obtain ⟨g1,g2,_⟩:=id hall2
   simp -implicitDefEqProofs -proj only [go_sem,seval,hH2,E4,Option.getD_none,Option.getD_some,g2]
   refine Kv (ds:=x.el) rfl (fun bs hs3=>?_)
   replace hs3:H2 bs=none:=hs3
   obtain ⟨y3,y4⟩:=AK hs3 g1
   simp -implicitDefEqProofs -proj only [go_sem,seval]
   refine AS7 rfl ?_
   simp -implicitDefEqProofs -proj only [go_sem,seval]
   refine Oh (ys:=[x.el]) AN rfl (by simp) rfl (by simp [maxLen]) (fun b'' hb'' cap''=>?_)
   have hce:[x.el]=AX (Fb (A++B) ((Ep A B k).length+(i+1))):=by
    rw [hst]; rfl
   have hln:[x.el].length=(AX (Fb (A++B) ((Ep A B k).length+(i+1)))).length:=by rw [←hce]
   have hne5:AX (Fb (A++B) ((Ep A B k).length+(i+1)))≠[]:=by rw [←hce]; simp
   have hbb:¬b''=ba:=fun e=>by
    have hq:upd H2 bs (some (.row 39 5 1 [x.el])) b''=none:=hb''
    rw [e,AF y3,g1] at hq
    cases hq
   rw [hln,hce]
   simp -implicitDefEqProofs -proj only [go_sem,seval,AU (show i<9223372036854775807 by omega)]
   refine AY ⟨i+1,b'',cap''⟩ ⟨by show i+1≤y.length; omega,?_⟩ (by show y.length-(i+1)<y.length-i; omega) rfl ?_ ?_
   ·simp -implicitDefEqProofs only [Gt,G8,G7,IF,FA hne5,AP,List.map_append,List.map_cons,List.map_nil,List.cons_append,List.nil_append]
    simp [hbb]
   ·simp -implicitDefEqProofs -proj only [go_sem,seval,AJ,Gt,G8,G7,Eg hne5]
   ·simp -implicitDefEqProofs only [Gt,G8,G7,IF,FA hne5]
    exact ⟨AN,(AF hbb).trans ((AF y3).trans g1),trivial⟩
  ·have hne:AX M≠[]:=fun e=>hMe (Qo e)
   rw [Eg hne,Gf]
   refine AMd (n:=5) (by simp -implicitDefEqProofs -proj only [go_sem,seval]; rfl) (fun hlc=>?_)
   refine EN (fun z:Nat=>z≤M.length∧∀(j:Nat) (h:j<M.length),j<z→EW M[j].nm x.nm=true) 62 (fun z=>[(5,.own c1 5 0 M.length cap),(15,.own ba 1 0 2 2),(16,i64 2),(17,i64 k),(21,.d (.sl 5 (AX y))),(22,i64 y.length),(23,i64 i),(9,.ptr b9 0),(10,i64 z)]) (fun _=>KF ba b9 A B x M c1 cap) (fun z=>M.length-z) 0 ⟨Nat.zero_le _,fun j _ h=>absurd h (Nat.not_lt_zero _)⟩ rfl ?_ hall9 ?_
   ·simp -implicitDefEqProofs -proj only [go_sem,seval,AJ]
    try rfl
   clear hall9 hb9 hall hrow hH hrow9
   rintro z ⟨hz,hs⟩
   have hall2:=EV hnd9
   obtain ⟨H2,hH2⟩:∃H2,Ac (KF ba b9 A B x M c1 cap)=H2:=⟨_,rfl⟩
   rw [hH2] at hall2
   simp -implicitDefEqProofs only [KF] at hall2
   obtain ⟨hr2,g1,g2,_⟩:=EQ.1 hall2
   rw [FA hne] at hr2
   obtain ⟨hr2,_⟩:=hr2
   have hgo:∀hz:z<M.length,EW M[z].nm x.nm=true→∀(j:Nat) (h:j<M.length),j<z+1→EW M[j].nm x.nm=true:=fun hz e j h1 h2=>by
    by_cases c:j=z
    ·subst c; exact e
    ·exact hs j h1 (by omega)
   by_cases hstop:∃hz:z<M.length,EW M[z].nm x.nm=true
   ·obtain ⟨hzl,hlt⟩:=hstop
    have q1:=G2 hzl
    rw [Int.toNat_natCast] at q1
    have hgo:=hgo hzl hlt
    generalize M[z]=m at *
    unfold EW at hlt
    simp -implicitDefEqProofs -proj only [go_sem,seval,hH2,decide_eq_true (show (z:Int)<M.length by omega),hr2,g2,Int.toNat_natCast,Nat.zero_add]
    refine Ak (by omega) (fun _=>?_)
    refine Ed _ q1 (by simp) ?_
    simp -implicitDefEqProofs -proj only [go_sem,seval,g2,Kb,hlt,AU (show z<9223372036854775807 by omega)]
    rw [←hH2]
    refine AY (z+1) ⟨by omega,hgo⟩ (by show M.length-(z+1)<M.length-z; omega) rfl ?_ (by rw [hH2]; exact hall2)
    simp -implicitDefEqProofs -proj only [go_sem,seval,AJ]
   ·have hat:atR M x=z:=ADK hz hs (fun h=>by
     cases e:EW M[z].nm x.nm with
     | false=>rfl
     | true=>exact absurd ⟨h,e⟩ hstop)
    rw [hat] at hst
    have hzi:((z:Int)).toNat=z:=Int.toNat_natCast _
    have hnl:((M.length:Int)).toNat=M.length:=Int.toNat_natCast _
    rcases (by omega:z<M.length∨z=M.length) with hzl | hzl
    case' inl =>
     have hlt:Op.bytesLess M[z].nm.toList x.nm.toList=false:=by
      cases e:EW M[z].nm x.nm with
      | false=>exact e
      | true=>exact absurd ⟨hzl,e⟩ hstop
     have q1:=G2 hzl
     rw [Int.toNat_natCast] at q1
     simp -implicitDefEqProofs -proj only [go_sem,seval,hH2,decide_eq_true (show (z:Int)<M.length by omega),hr2,g2,Int.toNat_natCast,Nat.zero_add]
     refine Ak (by omega) (fun _=>?_)
     refine Ed _ q1 (by simp) ?_
     simp -implicitDefEqProofs -proj only [go_sem,seval,g2,Kb,hlt,E4,Option.getD_none,Option.getD_some,hzi,hnl]
    case' inr =>
     simp -implicitDefEqProofs -proj only [go_sem,seval,hH2,decide_eq_false (show ¬(z:Int)<M.length by omega),E4,Option.getD_none,Option.getD_some,hzi,hnl]
    all_goals
     refine Ak (by omega) (fun _=>?_)
     try simp -implicitDefEqProofs -proj only [go_sem,seval,E4,Option.getD_none,Option.getD_some,hzi,hnl]
     refine Ak (by omega) (fun _=>?_)
     try simp -implicitDefEqProofs -proj only [go_sem,seval,hH2,g2]
     refine Kv (ds:=x.el) rfl (fun bs hs3=>?_)
     replace hs3:H2 bs=none:=hs3
     obtain ⟨y1,y2⟩:=AK hs3 hr2
     obtain ⟨y3,y4⟩:=AK hs3 g1
     simp -implicitDefEqProofs -proj only [go_sem,seval,Nat.sub_zero,Nat.zero_add]
     refine AFL (xs:=[x.el]) (ys:=((AX M).drop z).take (M.length-z)) (Vk (by rw [←hr2]; exact AF y1) (by rw [Gf]; omega)) AN rfl rfl (by simp -implicitDefEqProofs only [List.length_take,List.length_drop,Gf,List.length_singleton,maxLen]; omega) (fun b' cap' H3 h3 hfr=>?_)
     obtain ⟨u1,u2,u3⟩:=hfr c1 _ ((AF y1).trans hr2) y2
     obtain ⟨v1,v2,v3⟩:=hfr ba _ ((AF y3).trans g1) y4
     have hdt:((AX M).drop z).take (M.length-z)=(AX M).drop z:=List.take_of_length_le (by rw [List.length_drop,Gf]; exact Nat.le_refl _)
     rw [hdt] at h3 ⊢
     have hdl:1+((AX M).drop z).length=([x.el]++(AX M).drop z).length:=by rw [List.length_append]; rfl
     have hdn:((AX M).drop z).length=M.length-z:=by rw [List.length_drop,Gf]
     simp -implicitDefEqProofs -proj only [go_sem,seval,hdl]
     refine ACw (xs:=AX M) (ys:=[x.el]++(AX M).drop z) (Yn h3 rfl) u1 (by rw [Gf]; exact hz) (fun e=>e) (by simp) (by rw [List.length_append,List.length_singleton]; omega) rfl (by rw [List.length_append,hdn]; simp -implicitDefEqProofs only [List.length_singleton,maxLen]; omega) (fun b'' cap'' hb''=>?_)
     have hce:(AX M).take z++([x.el]++(AX M).drop z)=AX (Fb (A++B) ((Ep A B k).length+(i+1))):=by
      rw [hst]; simp [AX,List.map_take,List.map_drop]
     have hln:z+([x.el]++(AX M).drop z).length=(AX (Fb (A++B) ((Ep A B k).length+(i+1)))).length:=by
      rw [←hce]; simp -implicitDefEqProofs only [List.length_append,List.length_take,List.length_drop,Gf,List.length_singleton]; omega
     have hne5:AX (Fb (A++B) ((Ep A B k).length+(i+1)))≠[]:=by rw [←hce]; simp
     have hba:¬ba=c1:=fun e=>by
      rw [e,u1] at v1
      cases v1
     have hbb:¬b''=ba:=fun e=>by
      have hq:upd H3 c1 none b''=none:=hb''
      rw [e,AF (fun e=>hba e.symm),v1] at hq
      cases hq
     rw [hce,hln]
     simp -implicitDefEqProofs -proj only [go_sem,seval,AU (show i<9223372036854775807 by omega)]
     refine AY ⟨i+1,b'',cap''⟩ ⟨by show i+1≤y.length; omega,?_⟩ (by show y.length-(i+1)<y.length-i; omega) rfl ?_ ?_
     ·simp -implicitDefEqProofs only [Gt,G8,G7,IF,FA hne5,AP,List.map_append,List.map_cons,List.map_nil,List.cons_append,List.nil_append]
      simp [hbb]
     ·simp -implicitDefEqProofs -proj only [go_sem,seval,AJ,Gt,G8,G7,Eg hne5]
     ·simp -implicitDefEqProofs only [Gt,G8,G7,IF,FA hne5]
      exact ⟨AN,(AF hbb).trans ((AF (fun e=>hba e.symm)).trans v1),trivial⟩
theorem Mx {L:List TwX} {i:Nat} (h:i<L.length):(An L)[((i:Int)).toNat]? = some [.int .i64 L[i].f,.int .i64 L[i].t,.int .i64 L[i].a.f,.int .i64 L[i].a.t,.int .i64 L[i].a.v.1,.sl 2 (Ay L[i].a.v.2),.int .i64 L[i].b.f,.int .i64 L[i].b.t,.int .i64 L[i].b.v.1,.sl 2 (Ay L[i].b.v.2)]:=by
 rw [Int.toNat_natCast]; exact Lr (List.getElem?_eq_getElem h)
structure TurnT (x y:TwX):Prop where
 f:y.f=x.f
 t:y.t=x.t
 a:x.a.v=y.b.v
 b:x.b.v=y.a.v
 okx:IP x
 oky:IP y
structure SelfT (x:TwX):Prop where
 e:x.b.v=x.a.v
 ok:IP x
 fit:Fit x.a.v.1
theorem SelfT.gap {x:TwX} (h:SelfT x):GapOK x:=by
 obtain ⟨e,⟨c1,c2,c3,c4⟩,hf⟩:=h
 refine ⟨by rw [e],c3,⟨hf,by rw [e]; exact hf,by rw [e,Int.sub_self]; decide⟩,c1,c2,fun i h1 h2=>?_⟩
 have:x.b.v.2[i]=x.a.v.2[i]:=by simp -implicitDefEqProofs only [e]
 rw [this,SB]
 have hc:=c1 _ (List.getElem_mem h1)
 exact ⟨rfl,M8 (List.length_pos_iff.2 hc.1) hc.2.1 (by decide)⟩
theorem SelfT.zero {x:TwX} (h:SelfT x):FY x.a.v.2 x.b.v.2=x.a.v.2.map fun l=>List.replicate l.length 0:=by
 rw [h.e]
 unfold FY
 refine List.ext_getElem (by simp) fun i h1 h2=>?_
 simp [SB]
theorem ALy {ls:List (List Int)} (hc:∀l∈ls,ER l) {i:Nat} (h:i<ls.length):(Ay (ls.map fun l=>List.replicate l.length (0:Int)))[((i:Int)).toNat]? = some [.int .i64 ((ls[i].length:Int)-1),.sl 5 [[.int .i64 0,.int .i64 0,.int .i64 0,.int .i64 0,.int .i64 1]]]:=by
 have hl:=JB (ls:=ls.map fun l=>List.replicate l.length (0:Int)) (i:=i) (by rw [List.length_map]; exact h)
 rw [hl]
 simp -implicitDefEqProofs only [List.getElem_map,List.length_replicate]
 rw [AAo (List.length_pos_iff.2 (hc _ (List.getElem_mem h)).1)]
 rfl
set_option maxHeartbeats 2000000 in
theorem SO {a b:CoreX} {Sa Sb:List (Seg D4)} {W1 W2 W3:List (List D)} {L M N:List TwX} {e:Int} (hfo:DataW Try.prog Og [F9 a,F9 b] (.tup [E7 a.cur a.f a.t a.ms Sa,E7 b.cur b.f b.t b.ms Sb,bv true]))
  (h1:DataW Try.prog Ku [E7 a.cur a.f a.t a.ms Sa,E7 b.cur b.f b.t b.ms Sb] (.tup [.d (.sl 5 W1),.d (.sl 10 (An L)),i64 e]))
  (h2:DataW Try.prog Ku [E7 b.cur b.f b.t b.ms Sb,E7 a.cur a.f a.t a.ms Sa] (.tup [.d (.sl 5 W2),.d (.sl 10 (An M)),i64 e]))
  (h3:DataW Try.prog Ku [E7 a.cur a.f a.t a.ms Sa,E7 a.cur a.f a.t a.ms Sa] (.tup [.d (.sl 5 W3),.d (.sl 10 (An N)),i64 0]))
  (hlM:M.length=L.length) (hLM:∀(i:Nat) (h:i<L.length) (h':i<M.length),TurnT L[i] M[i]) (hN:∀x∈N,SelfT x) (hlN:N.length=Sa.length) (hn1:L.length≤1000000) (hn2:N.length≤1000000):DataW Try.prog Qw [F9 a,F9 b] (bv true):=by
 refine Aj Sz (by simp) ?_
 simp -implicitDefEqProofs -proj only [go_sem,seval]
 refine AI (fun b2 hb2=>?_)
 simp -implicitDefEqProofs -proj only [go_sem,seval]
 refine AI (fun b3 hb3=>?_)
 replace hb3:upd Heap.none b2 _ b3=none:=hb3
 obtain ⟨n1,n2⟩:=AK hb3 AN
 simp -implicitDefEqProofs -proj only [go_sem,seval,n1,n2]
 refine AL NM ?_
 simp -implicitDefEqProofs -proj only [go_sem,seval,n1,n2]
 refine AL hfo ?_
 simp -implicitDefEqProofs -proj only [go_sem,seval,n1,n2]
 refine AI (fun b5 hb5=>?_)
 simp -implicitDefEqProofs -proj only [go_sem,seval]
 refine AI (fun b6 hb6=>?_)
 replace hb6:upd (upd (upd Heap.none b2 _) b3 _) b5 _ b6=none:=hb6
 obtain ⟨m1,m2⟩:=AK hb6 AN
 simp -implicitDefEqProofs -proj only [go_sem,seval,m1,m2]
 refine AL h1 ?_
 simp -implicitDefEqProofs -proj only [go_sem,seval,m1,m2]
 refine AL h2 ?_
 simp -implicitDefEqProofs -proj only [go_sem,seval,m1,m2,Ej,hlM,decide_true]
 refine EN (fun i:Nat=>i≤L.length) 173 (fun i=>[(5,.ptr b5 0),(9,.d (.sl 10 (An L))),(12,.d (.sl 10 (An M))),(60,i64 L.length),(61,i64 i)]) (fun _=>[(b5,Ec a.cur a.f a.t a.ms Sa)]) (fun i=>L.length-i) 0 (Nat.zero_le _) rfl ?_ ?_ ?_
 ·simp -implicitDefEqProofs -proj only [go_sem,seval,AJ]
  try rfl
 ·refine ⟨?_,trivial⟩
  simp -implicitDefEqProofs -proj only [go_sem,seval,m1,m2]
 intro i hi
 by_cases hlt:i<L.length
 ·have q1:=Mx hlt
  have q2:=Mx (L:=M) (i:=i) (by omega)
  have ht:=hLM i hlt (by omega)
  generalize L[i]=x at *
  generalize M[i]=y at *
  obtain ⟨tf,tt,ta,tb,⟨x1,x2,x3,x4⟩,⟨y1,y2,y3,y4⟩⟩:=ht
  rw [tf,tt] at q2
  have ca:=LU (a:=x.a) (b:=y.b) x1 y2 x3 y4
  have cb:=LU (a:=x.b) (b:=y.a) x2 y1 x4 y3
  rw [decide_eq_true ta] at ca
  rw [decide_eq_true tb] at cb
  simp -implicitDefEqProofs -proj only [go_sem,seval,decide_eq_true (show (i:Int)<L.length by omega)]
  iterate 2 (refine Ag _ (by omega) q1 ?_; simp -implicitDefEqProofs -proj only [go_sem,seval]; refine Ag _ (by omega) q2 ?_; simp -implicitDefEqProofs -proj only [go_sem,seval,decide_true])
  refine Ag _ (by omega) q1 ?_
  simp -implicitDefEqProofs -proj only [go_sem,seval]
  refine Ag _ (by omega) q2 ?_
  simp -implicitDefEqProofs -proj only [go_sem,seval]
  refine AL ca ?_
  simp -implicitDefEqProofs -proj only [go_sem,seval]
  refine Ag _ (by omega) q1 ?_
  simp -implicitDefEqProofs -proj only [go_sem,seval]
  refine Ag _ (by omega) q2 ?_
  simp -implicitDefEqProofs -proj only [go_sem,seval]
  refine AL cb ?_
  simp -implicitDefEqProofs -proj only [go_sem,seval]
  refine AY (i+1) (by show i+1≤L.length; omega) (by show L.length-(i+1)<L.length-i; omega) rfl ?_ (EV (l:=[(_,_)]) (by simp [AP]))
  simp -implicitDefEqProofs -proj only [go_sem,seval,AJ,AU (show i<9223372036854775807 by omega)]
 simp -implicitDefEqProofs -proj only [go_sem,seval,decide_eq_false (show ¬(i:Int)<L.length by omega)]
 refine AL h3 ?_
 simp -implicitDefEqProofs -proj only [go_sem,seval,Ej]
 refine EN (fun j:Nat=>j≤N.length) 173 (fun j=>[(5,.ptr b5 0),(16,.d (.sl 10 (An N))),(17,i64 0),(124,.d (.sl 10 (An N))),(125,i64 N.length),(126,i64 j)]) (fun _=>[(b5,Ec a.cur a.f a.t a.ms Sa)]) (fun j=>N.length-j) 0 (Nat.zero_le _) rfl ?_ (EV (l:=[(_,_)]) (by simp [AP])) ?_
 ·simp -implicitDefEqProofs -proj only [go_sem,seval,AJ,Ej]
  try rfl
 intro j hj
 have hall:AZ (Ac [(b5,Ec a.cur a.f a.t a.ms Sa)]) [(b5,Ec a.cur a.f a.t a.ms Sa)]:=EV (by simp [AP])
 by_cases hjl:j<N.length
 ·have q1:=Mx hjl
  have hs:=hN _ (List.getElem_mem hjl)
  generalize N[j]=x at *
  have hg:=Q0 hs.gap
  have hz:=hs.zero
  have hfx:x.a.v.1-x.b.v.1=0:=by rw [hs.e]; omega
  have hcz:=hs.ok.1
  have hcn:=hs.ok.2.2.1
  rw [hz,hfx] at hg
  simp -implicitDefEqProofs -proj only [go_sem,seval,decide_eq_true (show (j:Int)<N.length by omega)]
  refine Ag _ (by omega) q1 ?_
  simp -implicitDefEqProofs -proj only [go_sem,seval]
  refine AI (fun b19 hb19=>?_)
  obtain ⟨z1,z2⟩:=AK hb19 hall.1
  simp -implicitDefEqProofs -proj only [go_sem,seval,z1,z2]
  refine AL hg ?_
  simp -implicitDefEqProofs -proj only [go_sem,seval,z1,z2]
  refine AI (fun b20 hb20=>?_)
  replace hb20:upd (Ac [(b5,Ec a.cur a.f a.t a.ms Sa)]) b19 _ b20=none:=hb20
  obtain ⟨z3,z4⟩:=AK hb20 AN
  obtain ⟨z5,z6⟩:=AK hb20 (by rw [AF z1]; exact hall.1)
  simp -implicitDefEqProofs -proj only [go_sem,seval,z1,z2,z3,z4,z5,z6,FS,List.length_map]
  generalize x.a.v.2=ls at *
  refine EN (fun k:Nat=>k≤ls.length) 173 (fun k=>[(5,.ptr b5 0),(16,.d (.sl 10 (An N))),(17,i64 0),(124,.d (.sl 10 (An N))),(125,i64 N.length),(126,i64 j),(143,.d (.sl 2 (Ay (ls.map fun l=>List.replicate l.length (0:Int))))),(144,i64 ls.length),(145,i64 k)]) (fun _=>[(b5,Ec a.cur a.f a.t a.ms Sa)]) (fun k=>ls.length-k) 0 (Nat.zero_le _) rfl ?_ ?_ ?_
  ·simp -implicitDefEqProofs -proj only [go_sem,seval,AJ]
   try rfl
  ·refine ⟨?_,trivial⟩
   simp -implicitDefEqProofs -proj only [go_sem,seval,z1,z2,z3,z4,z5,z6]
  intro k hk
  by_cases hkl:k<ls.length
  ·have q3:=ALy hcz hkl
   simp -implicitDefEqProofs -proj only [go_sem,seval,decide_eq_true (show (k:Int)<ls.length by omega)]
   refine Ag _ (by omega) q3 ?_
   simp -implicitDefEqProofs -proj only [go_sem,seval]
   refine AI (fun b23 hb23=>?_)
   obtain ⟨z7,z8⟩:=AK hb23 hall.1
   simp -implicitDefEqProofs -proj only [go_sem,seval,z7,z8]
   refine Ag _ (by decide) rfl ?_
   simp -implicitDefEqProofs -proj only [go_sem,seval,z7,z8]
   refine AY (k+1) (by show k+1≤ls.length; omega) (by show ls.length-(k+1)<ls.length-k; omega) rfl ?_ (Ap hb23 hall)
   simp -implicitDefEqProofs -proj only [go_sem,seval,AJ,AU (show k<9223372036854775807 by omega)]
  ·simp -implicitDefEqProofs -proj only [go_sem,seval,decide_eq_false (show ¬(k:Int)<ls.length by omega)]
   refine AY (j+1) (by show j+1≤N.length; omega) (by show N.length-(j+1)<N.length-j; omega) rfl ?_ hall
   simp -implicitDefEqProofs -proj only [go_sem,seval,AJ,AU (show j<9223372036854775807 by omega)]
 ·simp -implicitDefEqProofs -proj only [go_sem,seval,decide_eq_false (show ¬(j:Int)<N.length by omega),Ej,Ic,decide_eq_true (show (N.length:Int)=Sa.length by omega)]
  exact AM rfl
theorem okF {c:CoreX} (hf:fitsC c) (d:Int):Fit (Eo c d).1:=by
 have:=(P4 hf d).f
 unfold Fit; omega
theorem MM {c:CoreX} (hf:fitsC c) {all:List MeterX} (hm:∀m∈all,0≤m.mx∧m.mx≤2000) (ha:all.length≤1000000) (d:Int):(∀l∈(FO c.ms all (Eo c d)).2,ER l)∧(FO c.ms all (Eo c d)).2.length≤1000000:=by
 refine ⟨K5 (by show c.ms.length=(Eb c d c.ms.length).length; rw [HL]) (Mo hf d) hm,by rw [Ob]; exact ha⟩
theorem Nq {a b:CoreX} (ga:fitsC a) (gb:fitsC b):(∀m∈ES a.ms b.ms,0≤m.mx∧m.mx≤2000)∧(ES a.ms b.ms).length≤8:=by
 have fa:=KP ga
 have fb:=KP gb
 have h1:=ga.good.hd.2.2.2.1
 have h2:=gb.good.hd.2.2.2.1
 have h3:=NN a.ms b.ms
 refine ⟨fun m hm=>?_,by omega⟩
 rcases (JR a.ms b.ms).2.1 m hm with h | h
 ·exact fa.mx m h
 ·exact fb.mx m h
theorem PairTurned_ok {a b:CoreX} (ha:a.Fit) (hb:b.Fit):DataW Try.prog Qw [F9 a,F9 b] (bv true):=by
 by_cases g:fitsC a∧fitsC b
 rotate_left
 ·refine Aj Sz (by simp) ?_
  simp -implicitDefEqProofs -proj only [go_sem,seval]
  refine AI (fun b2 hb2=>?_)
  simp -implicitDefEqProofs -proj only [go_sem,seval]
  refine AI (fun b3 hb3=>?_)
  replace hb3:upd Heap.none b2 _ b3=none:=hb3
  obtain ⟨n1,n2⟩:=AK hb3 AN
  simp -implicitDefEqProofs -proj only [go_sem,seval,n1,n2]
  refine AL NM ?_
  simp -implicitDefEqProofs -proj only [go_sem,seval,n1,n2]
  refine AL (Oi ha hb g) ?_
  simp -implicitDefEqProofs -proj only [go_sem,seval,n1,n2]
  refine AI (fun b5 hb5=>?_)
  simp -implicitDefEqProofs -proj only [go_sem,seval]
  refine AI (fun b6 hb6=>?_)
  replace hb6:upd (upd (upd Heap.none b2 _) b3 _) b5 _ b6=none:=hb6
  obtain ⟨m1,m2⟩:=AK hb6 AN
  simp -implicitDefEqProofs -proj only [go_sem,seval,m1,m2]
  exact AM rfl
 obtain ⟨ga,gb⟩:=g
 have fa:=KP ga
 have fb:=KP gb
 have pa:=LC ga.good.ms
 have hfo:=QK ha hb ga gb
 have hself:=Lj (cu:=a.cur) (cu':=a.cur) fa fa (AGu pa) (Qu fa pa)
 obtain ⟨m1,m2⟩:=Nq ga ga
 have hlS:=fa.len
 have hN:∀x∈((Fv a).map fun s=>(⟨s.f,s.t,(FO a.ms (ES a.ms a.ms) s.v,FO a.ms (ES a.ms a.ms) s.v)⟩:Seg HC)).map FL,SelfT x:=by
  intro x hx
  obtain ⟨y,hy,rfl⟩:=List.mem_map.1 hx
  obtain ⟨h1,h2,h3,h4⟩:=PX (Qu fa pa) hy
  obtain ⟨w1,w2⟩:=MM ga m1 (by omega) y.f
  have e1:y.v.1=FO a.ms (ES a.ms a.ms) (Eo a y.f):=congrArg (·.1) h4
  have e2:y.v.2=FO a.ms (ES a.ms a.ms) (Eo a y.f):=congrArg (·.2) h4
  refine ⟨by show y.v.2=y.v.1; rw [e1,e2],⟨?_,?_,?_,?_⟩,?_⟩
  ·show ∀l∈y.v.1.2,ER l; rw [e1]; exact w1
  ·show ∀l∈y.v.2.2,ER l; rw [e2]; exact w1
  ·show y.v.1.2.length≤_; rw [e1]; exact w2
  ·show y.v.2.2.length≤_; rw [e2]; exact w2
  ·show Fit y.v.1.1; rw [e1]; exact okF ga _
 by_cases hl:Fz a.cur b.cur a.f a.t b.f b.t a.ms b.ms=true
 ·obtain ⟨e1,e2,e3,e4⟩:=QR hl
  have hu:=SH ga.good.ms gb.good.ms e4
  have hl2:Fz b.cur a.cur b.f b.t a.f a.t b.ms a.ms=true:=by rw [←Ql]; exact hl
  obtain ⟨n1,n2⟩:=Nq ga gb
  rw [←e2,←e3] at fb hl hl2 hfo
  obtain ⟨T,hT⟩:=FwdB.exists (ID (Eo a) (Eo b) a.ms b.ms (ES a.ms b.ms)) a.f (a.t+1-a.f).toNat
  have htf:=ga.good.hd.2.1.1
  rw [show a.f+((a.t+1-a.f).toNat:Int)=a.t+1 by omega] at hT
  have hlT:=hT.len
  have h39:=fa.tf
  have hmk:=Lj (cu:=a.cur) (cu':=b.cur) fa fb hl hT
  have hmk2:=Lj (cu:=b.cur) (cu':=a.cur) fb fa hl2 (VQ hu hT)
  refine SO (L:=T.map FL) (M:=(T.map Rj).map FL) (by rw [←e2,←e3]; exact hfo) (by rw [←e2,←e3]; exact hmk) (by rw [←e2,←e3]; exact hmk2) hself (by simp) (fun i h h'=>?_) hN (by simp) (by rw [List.length_map]; omega) (by rw [List.length_map,List.length_map]; omega)
  rw [List.length_map] at h
  simp -implicitDefEqProofs only [List.getElem_map]
  obtain ⟨p1,p2,p3,p4⟩:=PX hT (List.getElem_mem h)
  generalize T[i]=y at *
  obtain ⟨wa1,wa2⟩:=MM ga n1 (by omega) y.f
  obtain ⟨wb1,wb2⟩:=MM gb n1 (by omega) y.f
  have e5:y.v.1=FO a.ms (ES a.ms b.ms) (Eo a y.f):=congrArg (·.1) p4
  have e6:y.v.2=FO b.ms (ES a.ms b.ms) (Eo b y.f):=congrArg (·.2) p4
  refine ⟨rfl,rfl,rfl,rfl,⟨?_,?_,?_,?_⟩,⟨?_,?_,?_,?_⟩⟩
  ·show ∀l∈y.v.1.2,ER l; rw [e5]; exact wa1
  ·show ∀l∈y.v.2.2,ER l; rw [e6]; exact wb1
  ·show y.v.1.2.length≤_; rw [e5]; exact wa2
  ·show y.v.2.2.length≤_; rw [e6]; exact wb2
  ·show ∀l∈y.v.2.2,ER l; rw [e6]; exact wb1
  ·show ∀l∈y.v.1.2,ER l; rw [e5]; exact wa1
  ·show y.v.2.2.length≤_; rw [e6]; exact wb2
  ·show y.v.1.2.length≤_; rw [e5]; exact wa2
 ·have hl1:Fz a.cur b.cur a.f a.t b.f b.t a.ms b.ms=false:=by simpa using hl
  have hl2:Fz b.cur a.cur b.f b.t a.f a.t b.ms a.ms=false:=by rw [←Ql]; exact hl1
  have h1:=QP (S:=Fv a) (S':=Fv b) (by have:=fa.ms8; omega) (by have:=fb.ms8; omega) hl1
  have h2:=QP (S:=Fv b) (S':=Fv a) (by have:=fb.ms8; omega) (by have:=fa.ms8; omega) hl2
  exact SO (L:=[]) (M:=[]) hfo h1 h2 hself rfl (fun i h=>absurd h (Nat.not_lt_zero _)) hN (by simp) (by simp) (by rw [List.length_map,List.length_map]; omega)
theorem FormOK.find {va:Int→D4} {f t d:Int} {ms:List MeterX} {S:List (Seg D4)} (h:FormOK va f t ms S) (h1:f≤d) (h2:d≤t):∃(i:Nat) (r:Seg D4),S[i]? = some r∧r.f≤d∧d≤r.t∧r.v=va d:=by
 obtain ⟨i,r,e1,e2,e3⟩:=h.fwd.find (d:=d) h1 (by omega)
 exact ⟨i,r,e1,e2,e3,((h.fwd.nth i r e1).2.2.2.1 d e2 e3).symm⟩
def I6 (b3 b6 b7 b8:Nat) (d:Int) (r:Seg D4) (xf:Blk) (ms all:List MeterX) (y:DY):List (Nat×Blk):=BD 58 2 y.c y.cap (Ay ((Am ms r.v.2 all).take y.i))++[(b8,.box 46 [i64 d,i64 d,i64 r.v.1,EU 2 2 y.c y.cap (Ay ((Am ms r.v.2 all).take y.i))]),(b7,IW r),(b3,xf),(b6,JG)]
set_option maxHeartbeats 2000000 in
theorem Uv {cu:ByteArray} {va:Int→D4} {f t d:Int} {ms all:List MeterX} {S:List (Seg D4)} (hS:FormOK va f t ms S) (h1:f≤d) (h2:d≤t) (hm:∀m∈all,0≤m.mx∧m.mx≤2000) (ha:all.length≤1000):DataW Try.prog AJS [E7 cu f t ms S,i64 d,.d (.sl 5 (AX all))] (.agg [i64 d,i64 d,i64 (va d).1,Ee (Am ms (va d).2 all)]):=by
 obtain ⟨i0,r,e1,e2,e3,e4⟩:=hS.find h1 h2
 have hon:=O9 (cur:=cu) (f:=f) (t:=t) (ms:=ms) (by have:=hS.len; omega) hS.fwd e1 e2 e3
 have hcu:=hS.cur r (List.mem_of_getElem? e1)
 have hx:=L8 e1
 have hms:=hS.ms8
 rw [←e4]
 clear e4
 refine Aj AMe (by simp) ?_
 simp -implicitDefEqProofs -proj only [go_sem,seval]
 refine AI (fun b3 hb3=>?_)
 simp -implicitDefEqProofs -proj only [go_sem,seval]
 refine AI (fun b6 hb6=>?_)
 replace hb6:upd Heap.none b3 _ b6=none:=hb6
 obtain ⟨n1,n2⟩:=AK hb6 AN
 simp -implicitDefEqProofs -proj only [go_sem,seval,n1,n2]
 refine Eu hon ?_
 simp -implicitDefEqProofs -proj only [go_sem,seval,n1,n2]
 refine Ag _ (by omega) (by rw [Int.toNat_natCast]; exact hx) ?_
 simp -implicitDefEqProofs -proj only [go_sem,seval,n1,n2]
 refine AI (fun b7 hb7=>?_)
 replace hb7:upd (upd Heap.none b3 _) b6 _ b7=none:=hb7
 obtain ⟨n3,n4⟩:=AK hb7 AN
 obtain ⟨n5,n6⟩:=AK hb7 (by rw [AF n1]; exact AN)
 simp -implicitDefEqProofs -proj only [go_sem,seval,n1,n2,n3,n4,n5,n6]
 refine AI (fun b8 hb8=>?_)
 replace hb8:upd (upd (upd Heap.none b3 _) b6 _) b7 _ b8=none:=hb8
 obtain ⟨n7,n8⟩:=AK hb8 AN
 obtain ⟨n9,n10⟩:=AK hb8 (by rw [AF n3]; exact AN)
 obtain ⟨n11,n12⟩:=AK hb8 (by rw [AF n5,AF n1]; exact AN)
 simp -implicitDefEqProofs -proj only [go_sem,seval,n1,n2,n3,n4,n5,n6,n7,n8,n9,n10,n11,n12,Fy]
 refine EN (fun y:DY=>y.i≤all.length∧(AP (I6 b3 b6 b7 b8 d r (Ec cu f t ms S) ms all y)).Nodup) 65 (fun y=>[(3,.ptr b3 0),(6,.ptr b6 0),(7,.ptr b7 0),(8,.ptr b8 0),(26,.d (.sl 5 (AX all))),(27,i64 all.length),(28,i64 y.i)]) (I6 b3 b6 b7 b8 d r (Ec cu f t ms S) ms all) (fun y=>all.length-y.i) ⟨0,0,0⟩ ⟨Nat.zero_le _,by simp [AP,I6,Ay,BD,n1,n2,n3,n4,n5,n6,n7,n8,n9,n10,n11,n12]⟩ rfl ?_ ?_ ?_
 ·simp -implicitDefEqProofs -proj only [go_sem,seval,AJ,EZ,Fy]
  try rfl
 ·simp -implicitDefEqProofs only [I6,EZ,List.take_zero,List.map_nil,Ay,BD,EU,List.nil_append]
  refine ⟨AN,?_,?_,?_,trivial⟩
  ·show upd (upd (upd (upd Heap.none b3 _) b6 _) b7 _) b8 _ b7=_
   rw [AF n7]; exact AN
  ·show upd (upd (upd (upd Heap.none b3 _) b6 _) b7 _) b8 _ b3=_
   rw [AF n11,AF n5,AF n1]; exact AN
  ·show upd (upd (upd (upd Heap.none b3 _) b6 _) b7 _) b8 _ b6=_
   rw [AF n9,AF n3]; exact AN
 rintro ⟨i,c1,cap⟩ ⟨hi,hnd⟩
 simp -implicitDefEqProofs only [EZ] at hi
 have hall:=EV hnd
 obtain ⟨H,hH⟩:∃H,Ac (I6 b3 b6 b7 b8 d r (Ec cu f t ms S) ms all ⟨i,c1,cap⟩)=H:=⟨_,rfl⟩
 rw [hH] at hall
 simp -implicitDefEqProofs only [I6,EZ,FF,FH] at hall hnd
 obtain ⟨hrow,k8,k7,k3,k6,_⟩:=EQ.1 hall
 by_cases h:i<all.length
 rotate_left
 ·have hi':i=all.length:=by omega
  subst hi'
  have htk:(Am ms r.v.2 all).take all.length=Am ms r.v.2 all:=List.take_of_length_le (by rw [Ft]; exact Nat.le_refl _)
  rw [htk] at k8 hrow hnd
  simp -implicitDefEqProofs -proj only [go_sem,seval,EZ,FF,FH,hH,k8,k6,decide_eq_false (show ¬(all.length:Int)<all.length by omega)]
  exact OP (Id (Fk hrow (by
   have:=hnd
   simp -implicitDefEqProofs only [AP,List.map_append,List.map_cons] at this
   exact fun hm=>(List.nodup_append.1 this).2.2 _ hm _ (by simp) rfl)))
 have hel:=G2 h
 have hb:=hm _ (List.getElem_mem h)
 have hsn:(Am ms r.v.2 all).take (i+1)=(Am ms r.v.2 all).take i++[GS ms r.v.2 all[i]]:=by
  rw [List.take_succ_eq_append_getElem (by rw [Ft]; exact h)]; simp -implicitDefEqProofs only [Am,List.getElem_map]
 have hlen:((Am ms r.v.2 all).take i).length=i:=by rw [List.length_take,Ft]; omega
 generalize all[i]=m at *
 have hfi:=Pp (l:=ms) (nm:=m.nm) (by omega)
 have hfin:∀(H6:Heap) (c2 cap2:Nat),AZ H6 (BD 58 2 c2 cap2 (Ay ((Am ms r.v.2 all).take (i+1)))++[(b8,.box 46 [i64 d,i64 d,i64 r.v.1,EU 2 2 c1 cap (Ay ((Am ms r.v.2 all).take i))]),(b7,IW r),(b3,Ec cu f t ms S),(b6,JG)])→(AP (BD 58 2 c2 cap2 (Ay ((Am ms r.v.2 all).take (i+1)))++[(b8,.box 46 [i64 d,i64 d,i64 r.v.1,EU 2 2 c1 cap (Ay ((Am ms r.v.2 all).take i))]),(b7,IW r),(b3,Ec cu f t ms S),(b6,JG)])).Nodup→Ay ((Am ms r.v.2 all).take (i+1))≠[]→(Ay ((Am ms r.v.2 all).take (i+1))).length=i+1→AZ (upd H6 b8 (some (.box 46 [i64 d,i64 d,i64 r.v.1,.own c2 2 0 (i+1) cap2]))) (I6 b3 b6 b7 b8 d r (Ec cu f t ms S) ms all ⟨i+1,c2,cap2⟩):=fun H6 c2 cap2 ha6 hk6 hne hl1=>by
  obtain ⟨hrow6,u8,u7,u3,u6,_⟩:=EQ.1 ha6
  have hk8:b8∉AP (BD 58 2 c2 cap2 (Ay ((Am ms r.v.2 all).take (i+1)))):=by
   simp -implicitDefEqProofs only [AP,List.map_append,List.map_cons] at hk6
   exact fun hm=>(List.nodup_append.1 hk6).2.2 _ hm _ (List.mem_cons_self ..) rfl
  simp -implicitDefEqProofs only [I6,EZ,FF,FH,Eg hne,hl1]
  exact EQ.2 ⟨Fk hrow6 hk8,AN,(AF n7).trans u7,(AF n11).trans u3,(AF n9).trans u6,trivial⟩
 simp -implicitDefEqProofs -proj only [go_sem,seval,EZ,FF,FH,hH,decide_eq_true (show (i:Int)<all.length by omega)]
 refine Ag _ (by omega) hel ?_
 simp -implicitDefEqProofs -proj only [go_sem,seval]
 refine AI (fun b10 hb10=>?_)
 replace hb10:H b10=none:=hb10
 obtain ⟨x1,x2⟩:=AK hb10 k3
 obtain ⟨x3,x4⟩:=AK hb10 k8
 obtain ⟨x5,x6⟩:=AK hb10 k7
 simp -implicitDefEqProofs -proj only [go_sem,seval,x1,x2,x3,x4,x5,x6,k3,k8,k7]
 refine AL hfi ?_
 cases hix:ms.findIdx? (Ek m.nm) with
 | none =>
  have e:GP (Ek m.nm) ms = -1:=by unfold GP; rw [hix]
  have hw:GS ms r.v.2 m=List.replicate (m.mx+1).toNat 0:=by unfold GS; rw [P2,hix]
  have hcc:=M8 (n:=(m.mx+1).toNat) (v:=0) (by omega) (by omega) (by decide)
  have hof:=Pa (l:=List.replicate (m.mx+1).toNat 0) (fun j hj=>by rw [List.getElem_replicate]; decide) (by rw [List.length_replicate]; omega)
  rw [if_pos hcc] at hof
  have w1:IntKind.i64.wrap (m.mx+1)=(((m.mx+1).toNat:Nat):Int):=by rw [IntKind.wrap_i64]; omega
  simp -implicitDefEqProofs -proj only [go_sem,seval,e,x1,x2,x3,x4,x5,x6,k3,k8,k7,w1]
  refine Sg (by omega) (by omega) (fun bm hbm=>?_)
  replace hbm:upd H b10 _ bm=none:=hbm
  rw [show List.replicate (m.mx+1).toNat [D.int .i64 0]=Ad (List.replicate (m.mx+1).toNat 0) by simp [Ad]]
  simp -implicitDefEqProofs -proj only [go_sem,seval]
  refine MN hof (GA (KR AN (by rw [Ei,List.length_replicate])) Hl) ?_
  generalize List.replicate (m.mx+1).toNat (0:Int)=L at *
  have halm:=Ap (y:=some (.row 3 1 (m.mx+1).toNat (Ad L))) hbm (Ap (y:=some (F6 m)) hb10 hall)
  simp -implicitDefEqProofs -proj only [go_sem,seval]
  refine AI (fun b12 hb12=>?_)
  replace hb12:upd (upd H b10 (some (F6 m))) bm (some (.row 3 1 (m.mx+1).toNat (Ad L))) b12=none:=hb12
  have hal12:=Ap (y:=some (.box 58 [i64 ((L.length:Int)-1),FW (Ef L)])) hb12 halm
  obtain ⟨H5,hH5⟩:∃H5,upd (upd (upd H b10 (some (F6 m))) bm (some (.row 3 1 (m.mx+1).toNat (Ad L)))) b12 (some (.box 58 [i64 ((L.length:Int)-1),FW (Ef L)]))=H5:=⟨_,rfl⟩
  have q12:H5 b12=some (.box 58 [i64 ((L.length:Int)-1),FW (Ef L)]):=by rw [←hH5]; exact AN
  obtain ⟨f1,f2⟩:=AK hb12 (EQ.1 halm).2.1
  rw [hH5] at hal12
  obtain ⟨g8,g7,_⟩:=(EQ.1 hal12).2
  simp -implicitDefEqProofs -proj only [go_sem,seval,f1,f2,hH5,q12,g8,g7]
  refine EO (fun bs hs=>?_)
  replace hs:H5 bs=none:=hs
  simp -implicitDefEqProofs -proj only [go_sem,seval]
  refine FX (xs:=Ay ((Am ms r.v.2 all).take i)) (y:=HP L) (t:=58) (capc:=1) [(b8,.box 46 [i64 d,i64 d,i64 r.v.1,EU 2 2 c1 cap (Ay ((Am ms r.v.2 all).take i))]),(b7,IW r),(b3,Ec cu f t ms S),(b6,JG)] rfl (Ap hs hal12) hnd (by simp -implicitDefEqProofs -proj only [go_sem,seval]; try rfl) (by rw [FS,hlen]; omega) (by rw [FS,hlen]; omega) (fun H6 c2 cap2 ha6 hk6=>?_)
  have esn:Ay ((Am ms r.v.2 all).take i)++[HP L]=Ay ((Am ms r.v.2 all).take (i+1)):=by rw [hsn,hw]; simp [Ay]
  rw [esn] at ha6 hk6
  obtain ⟨u8,_⟩:=(EQ.1 ha6).2
  have hne:Ay ((Am ms r.v.2 all).take (i+1))≠[]:=by rw [←esn]; simp
  have hl1:(Ay ((Am ms r.v.2 all).take (i+1))).length=i+1:=by rw [FS,List.length_take,Ft]; omega
  simp -implicitDefEqProofs -proj only [go_sem,seval,u8,FS,hlen]
  refine AY ⟨i+1,c2,cap2⟩ ⟨by rw [EZ]; omega,by simpa only [I6,EZ,FF,FH,AP,List.map_append,List.map_cons] using hk6⟩ (by show all.length-(i+1)<all.length-i; omega) rfl ?_ (hfin H6 c2 cap2 ha6 hk6 hne hl1)
  simp -implicitDefEqProofs -proj only [go_sem,seval,AJ,EZ,AU (show i<9223372036854775807 by omega)]
 | some j =>
  have e:GP (Ek m.nm) ms=j:=by unfold GP; rw [hix]
  obtain ⟨hj,_⟩:=List.findIdx?_eq_some_iff_getElem.1 hix
  have hj2:j<r.v.2.length:=by rw [hcu.2]; exact hj
  have hw:GS ms r.v.2 m=r.v.2[j]:=by unfold GS; rw [P2,hix]; simp [hj2]
  have elj:=JB hj2
  generalize r.v.2[j]=L at *
  simp -implicitDefEqProofs -proj only [go_sem,seval,e,x1,x2,x3,x4,x5,x6,k3,k8,k7,decide_eq_true (show (0:Int)≤(j:Int) by omega)]
  refine Ag _ (by omega) elj ?_
  simp -implicitDefEqProofs -proj only [go_sem,seval,x1,x2,x3,x4,x5,x6,k3,k8,k7]
  refine Kv (ds:=HP L) rfl (fun bs hs=>?_)
  replace hs:upd H b10 _ bs=none:=hs
  simp -implicitDefEqProofs -proj only [go_sem,seval]
  refine FX (xs:=Ay ((Am ms r.v.2 all).take i)) (y:=HP L) (t:=58) (capc:=1) [(b8,.box 46 [i64 d,i64 d,i64 r.v.1,EU 2 2 c1 cap (Ay ((Am ms r.v.2 all).take i))]),(b7,IW r),(b3,Ec cu f t ms S),(b6,JG)] rfl (Ap hs (Ap hb10 hall)) hnd (by simp -implicitDefEqProofs -proj only [go_sem,seval]; try rfl) (by rw [FS,hlen]; omega) (by rw [FS,hlen]; omega) (fun H6 c2 cap2 ha6 hk6=>?_)
  have esn:Ay ((Am ms r.v.2 all).take i)++[HP L]=Ay ((Am ms r.v.2 all).take (i+1)):=by rw [hsn,hw]; simp [Ay]
  rw [esn] at ha6 hk6
  obtain ⟨u8,_⟩:=(EQ.1 ha6).2
  have hne:Ay ((Am ms r.v.2 all).take (i+1))≠[]:=by rw [←esn]; simp
  have hl1:(Ay ((Am ms r.v.2 all).take (i+1))).length=i+1:=by rw [FS,List.length_take,Ft]; omega
  simp -implicitDefEqProofs -proj only [go_sem,seval,u8,FS,hlen]
  refine AY ⟨i+1,c2,cap2⟩ ⟨by rw [EZ]; omega,by simpa only [I6,EZ,FF,FH,AP,List.map_append,List.map_cons] using hk6⟩ (by show all.length-(i+1)<all.length-i; omega) rfl ?_ (hfin H6 c2 cap2 ha6 hk6 hne hl1)
  simp -implicitDefEqProofs -proj only [go_sem,seval,AJ,EZ,AU (show i<9223372036854775807 by omega)]
theorem ASn {x:TwX} (h:IP x):DataW Try.prog Yo [Ly x,Ly x] (bv true):=by
 have ca:=LU (a:=x.a) (b:=x.a) h.1 h.1 h.2.2.1 h.2.2.1
 have cb:=LU (a:=x.b) (b:=x.b) h.2.1 h.2.1 h.2.2.2 h.2.2.2
 rw [decide_eq_true rfl] at ca cb
 refine Aj ADQ (by simp) ?_
 simp -implicitDefEqProofs -proj only [go_sem,seval]
 refine AI (fun b2 hb2=>?_)
 simp -implicitDefEqProofs -proj only [go_sem,seval]
 refine AI (fun b3 hb3=>?_)
 replace hb3:upd Heap.none b2 _ b3=none:=hb3
 obtain ⟨n1,n2⟩:=AK hb3 AN
 simp -implicitDefEqProofs -proj only [go_sem,seval,n1,n2,decide_true]
 refine AL ca ?_
 simp -implicitDefEqProofs -proj only [go_sem,seval,n1,n2]
 refine AL cb ?_
 simp -implicitDefEqProofs -proj only [go_sem,seval,n1,n2]
 exact AM rfl
structure RkY where
 n:Nat
 c:Nat
 cap:Nat
 L:List TwX
theorem Gq {n c cap:Nat} {L:List TwX}:(RkY.mk n c cap L).n=n:=(rfl)
theorem Gv {n c cap:Nat} {L:List TwX}:(RkY.mk n c cap L).c=c:=(rfl)
theorem Gs {n c cap:Nat} {L:List TwX}:(RkY.mk n c cap L).cap=cap:=(rfl)
theorem Gi {n c cap:Nat} {L:List TwX}:(RkY.mk n c cap L).L=L:=(rfl)
def II (b2 b3:Nat) (x2 x3:Blk) (y:RkY):List (Nat×Blk):=BD 48 10 y.c y.cap (An y.L)++[(b3,x3),(b2,x2)]
def Ev (A B all:List MeterX) (va vb:Int→D4) (d:Int):TwX:=⟨d,d,⟨d,d,FO A all (va d)⟩,⟨d,d,FO B all (vb d)⟩⟩
theorem Ty {va:Int→D4} {f t d:Int} {ms:List MeterX} {S:List (Seg D4)} (h:FormOK va f t ms S) {i:Nat} {r:Seg D4} (hr:S[i]? = some r) (h1:r.f≤d) (h2:d≤r.t) (hne:r.f≠d):va d=va (d-1):=by
 have:=(h.fwd.nth i r hr).2.2.2.1
 rw [this d h1 h2,this (d-1) (by omega) (by omega)]
theorem AMz {val:Int→HC} {lo p:Int} {L:List TwX} {x y:TwX} (h:FwdB val lo p (L.map Hb)) (hy:L.getLast? = some y) (hv:val (p-1)=(x.a.v,x.b.v)):EX L x=L.set (L.length-1) { y with t:=x.t }:=by
 have hs:=QW hy
 rw [hs,List.map_append] at h
 obtain ⟨h1,h2,h3⟩:=FwdB.last (A:=L.dropLast.map Hb) (s:=Hb y) h
 have:=h3 (p-1) (by omega) (by omega)
 rw [hv] at this
 obtain ⟨e1,e2⟩:=Prod.mk.inj this
 unfold EX
 rw [hy]
 exact if_pos ⟨e1.symm,e2.symm⟩
set_option maxHeartbeats 8000000 in
theorem AR7 {cu cu':ByteArray} {f t:Int} {A B:List MeterX} {S S':List (Seg D4)} {va vb:Int→D4} {T:List (Seg HC)} (hS:FormOK va f t A S) (hS':FormOK vb f t B S') (hft:f≤t) (hT:FwdB (ID va vb A B (ES A B)) f (t+1) T):DataW Try.prog RI [E7 cu f t A S,E7 cu' f t B S'] (.tup [.d (.sl 5 (AX (ES A B))),.d (.sl 10 (An (T.map FL)))]):=by
 have hme:=T1 (cu:=cu) (cu':=cu') (f:=f) (t:=t) (f':=f) (t':=t) (S:=S) (S':=S') hS.ms8 hS'.ms8
 have hbm:∀m∈ES A B,0≤m.mx∧m.mx≤2000:=fun m hm=>by
  rcases (JR A B).2.1 m hm with h | h
  ·exact hS.mx m h
  ·exact hS'.mx m h
 have hbl:(ES A B).length≤16:=by have:=NN A B; have:=hS.ms8; have:=hS'.ms8; omega
 generalize ES A B=all at *
 have hwa:=fun (d:Int) (h1:f≤d) (h2:d≤t)=>Uv (cu:=cu) (all:=all) hS h1 h2 hbm (by omega)
 have hwb:=fun (d:Int) (h1:f≤d) (h2:d≤t)=>Uv (cu:=cu') (all:=all) hS' h1 h2 hbm (by omega)
 have hXok:∀d,f≤d→d≤t→IP (Ev A B all va vb d):=fun d h1 h2=>by
  obtain ⟨i,r,e1,e2,e3,e4⟩:=hS.find h1 h2
  obtain ⟨i',r',e1',e2',e3',e4'⟩:=hS'.find h1 h2
  have u1:=hS.cur r (List.mem_of_getElem? e1)
  have u2:=hS'.cur r' (List.mem_of_getElem? e1')
  rw [e4] at u1
  rw [e4'] at u2
  exact ⟨K5 u1.2.symm u1.1 hbm,K5 u2.2.symm u2.1 hbm,by show (Am A (va d).2 all).length≤_; rw [Ft]; omega,by show (Am B (vb d).2 all).length≤_; rw [Ft]; omega⟩
 have hf0:=hS.f0
 have ht1:=hS.t1
 have htf:=hS.tf
 have hlS:=hS.len
 have hlS':=hS'.len
 refine Aj AVf (by simp) ?_
 simp -implicitDefEqProofs -proj only [go_sem,seval]
 refine AI (fun b2 hb2=>?_)
 simp -implicitDefEqProofs -proj only [go_sem,seval]
 refine AI (fun b3 hb3=>?_)
 replace hb3:upd Heap.none b2 _ b3=none:=hb3
 obtain ⟨n1,n2⟩:=AK hb3 AN
 simp -implicitDefEqProofs -proj only [go_sem,seval,n1,n2]
 refine AL hme ?_
 simp -implicitDefEqProofs -proj only [go_sem,seval,n1,n2]
 refine EN (fun y:RkY=>FwdB (ID va vb A B all) f (f+y.n) (y.L.map Hb)∧f+y.n≤t+1∧y.L.length≤y.n∧(∀x∈y.L,IP x)∧(AP (II b2 b3 (Ec cu f t A S) (Ec cu' f t B S') y)).Nodup) 150 (fun y=>[(2,.ptr b2 0),(3,.ptr b3 0),(6,.d (.sl 5 (AX all))),(7,EU 0 10 y.c y.cap (An y.L)),(8,i64 (f+y.n))]) (II b2 b3 (Ec cu f t A S) (Ec cu' f t B S')) (fun y=>(t+1-f).toNat-y.n) ⟨0,0,0,[]⟩ ⟨by show f=f+((0:Nat):Int); omega,by show f+((0:Nat):Int)≤t+1; omega,Nat.zero_le _,fun x h=>by (cases h),by simp [AP,II,An,BD,n1,n2]⟩ rfl ?_ ?_ ?_
 ·simp -implicitDefEqProofs -proj only [go_sem,seval,AJ,Gq,Gv,Gs,Gi,An,List.map_nil,JX,Int.add_zero]
  try rfl
 ·exact ⟨AN,(AF n1).trans AN,trivial⟩
 rintro ⟨n,c,cap,L⟩ ⟨hfw,hn,hL,hok,hnd⟩
 simp -implicitDefEqProofs only [Gq,Gi] at hfw hn hL hok
 have hall:=EV hnd
 obtain ⟨H,hH⟩:∃H,Ac (II b2 b3 (Ec cu f t A S) (Ec cu' f t B S') ⟨n,c,cap,L⟩)=H:=⟨_,rfl⟩
 rw [hH] at hall
 simp -implicitDefEqProofs only [II,Gv,Gs,Gi] at hall hnd
 obtain ⟨hrow,k3,k2,_⟩:=EQ.1 hall
 obtain ⟨d,hd⟩:∃d,f+(n:Int)=d:=⟨_,rfl⟩
 rw [hd] at hfw hn
 by_cases hdt:d≤t
 ·have hdn:f+((n+1:Nat):Int)=d+1:=by omega
  have hw1:IntKind.i64.wrap (d+1)=f+((n+1:Nat):Int):=by rw [IntKind.wrap_i64]; omega
  obtain ⟨i,r,e1,e2,e3,e4⟩:=hS.find (d:=d) (by omega) hdt
  obtain ⟨i',r',e1',e2',e3',e4'⟩:=hS'.find (d:=d) (by omega) hdt
  have hon:=O9 (cur:=cu) (f:=f) (t:=t) (ms:=A) (by omega) hS.fwd e1 e2 e3
  have hon':=O9 (cur:=cu') (f:=f) (t:=t) (ms:=B) (by omega) hS'.fwd e1' e2' e3'
  have hx:=L8 e1
  have hx':=L8 e1'
  have hah:=Ty hS e1 e2 e3
  have hah':=Ty hS' e1' e2' e3'
  have w1:=hwa d (by omega) hdt
  have w2:=hwb d (by omega) hdt
  have hX:=hXok d (by omega) hdt
  have hfw2:=TH (x:=Ev A B all va vb d) hfw rfl (Int.le_refl _) (fun e h1 h2=>by rw [show e=d by have h1:d≤e:=h1; have h2:e≤d:=h2; omega]; rfl)
  have hfw2:FwdB (ID va vb A B all) f (f+((n+1:Nat):Int)) ((EX L (Ev A B all va vb d)).map Hb):=by rw [hdn]; exact hfw2
  have hok2:∀x∈EX L (Ev A B all va vb d),IP x:=Qe (P:=fun a b=>(∀l∈a.2,ER l)∧(∀l∈b.2,ER l)∧a.2.length≤1000000∧b.2.length≤1000000) hok hX
  have hL2:(EX L (Ev A B all va vb d)).length≤n+1:=by have:=Ug (L:=L) (x:=Ev A B all va vb d); omega
  have hcs:L=[]∨(L≠[]∧r.f=d)∨(L≠[]∧r.f≠d∧r'.f=d)∨(L≠[]∧r.f≠d∧r'.f≠d):=by
   by_cases a1:L=[]
   ·exact .inl a1
   ·by_cases a2:r.f=d
    ·exact .inr (.inl ⟨a1,a2⟩)
    ·by_cases a3:r'.f=d
     ·exact .inr (.inr (.inl ⟨a1,a2,a3⟩))
     ·exact .inr (.inr (.inr ⟨a1,a2,a3⟩))
  have hX1:Ly (Ev A B all va vb d) = .agg [i64 d,i64 d,i64 d,i64 d,i64 (va d).1,Ee (Am A (va d).2 all),i64 d,i64 d,i64 (vb d).1,Ee (Am B (vb d).2 all)]:=rfl
  have hrt:L≠[]→An L≠[]:=fun h e=>h (by
   have:=congrArg List.length e
   rw [Ej] at this
   exact List.eq_nil_of_length_eq_zero this)
  have hlast:L≠[]→∃y,L.getLast? = some y∧L[L.length-1]? = some y∧y∈L:=fun h=>by
   obtain ⟨y,hy⟩:=Option.isSome_iff_exists.1 (List.getLast?_isSome.2 h)
   have:L[L.length-1]? = some y:=by rw [←List.getLast?_eq_getElem?]; exact hy
   exact ⟨y,hy,this,List.mem_of_getElem? this⟩
  have hpos:L≠[]→0<L.length:=fun h=>List.length_pos_iff.2 h
  have hmu:(t+1-f).toNat-(n+1)<(t+1-f).toNat-n:=by omega
  have hset:∀(y:TwX) (b:Heap) ,L.getLast? = some y→y.a.v=(Ev A B all va vb d).a.v→y.b.v=(Ev A B all va vb d).b.v→EX L (Ev A B all va vb d)=L.set (L.length-1) { y with t:=d }:=fun y _ hy h1 h2=>by
   unfold EX; rw [hy]; exact if_pos ⟨h1,h2⟩
  rcases hcs with h0 | ⟨h0,h1⟩ | ⟨h0,h1,h2⟩ | ⟨h0,h1,h2⟩
  rotate_left 3
  ·obtain ⟨y,hy1,hy2,hy3⟩:=hlast h0
   have hp0:=hpos h0
   have hps:EX L (Ev A B all va vb d)=L.set (L.length-1) { y with t:=d }:=AMz hfw hy1 (by
    show (FO A all (va (d-1)),FO B all (vb (d-1)))=(FO A all (va d),FO B all (vb d))
    rw [hah h1,hah' h2])
   have hr:H c=some (.row 48 10 cap (An L)):=by
    have:=hrow
    rw [FA (hrt h0)] at this
    exact this.1
   have hel:=Lr hy2
   have hw:IntKind.i64.wrap ((L.length:Int)-1)=((L.length-1:Nat):Int):=by rw [IntKind.wrap_i64]; omega
   have hl2:(An (EX L (Ev A B all va vb d))).length=L.length:=by rw [hps,Ej,List.length_set]
   have hne:An (EX L (Ev A B all va vb d))≠[]:=fun e=>by have:=congrArg List.length e; rw [hl2,List.length_nil] at this; omega
   have hk3:¬c=b3:=fun e=>by rw [e,k3] at hr; cases hr
   have hk2:¬c=b2:=fun e=>by rw [e,k2] at hr; cases hr
   simp -implicitDefEqProofs -proj only [go_sem,seval,Gq,Gv,Gs,Gi,hH,hd,k2,k3,decide_eq_true hdt,Eg (hrt h0),Ej,decide_eq_true (show (0:Int)<(L.length:Int) by omega)]
   refine Eu hon ?_
   simp -implicitDefEqProofs -proj only [go_sem,seval,k2,k3]
   refine Ag _ (by omega) (by rw [Int.toNat_natCast]; exact hx) ?_
   simp -implicitDefEqProofs -proj only [go_sem,seval,k2,k3,decide_eq_false h1]
   refine Eu hon' ?_
   simp -implicitDefEqProofs -proj only [go_sem,seval,k2,k3]
   refine Ag _ (by omega) (by rw [Int.toNat_natCast]; exact hx') ?_
   simp -implicitDefEqProofs -proj only [go_sem,seval,k2,k3,decide_eq_false h2,hw,Int.toNat_natCast,Nat.zero_add]
   refine Ak (by omega) (fun _=>?_)
   refine IK (el:=E2 y) (xs:=An L) (cap:=cap) (t:=48) hr hel (by simp [E2]) ?_
   have es:Fr (E2 y) 1 [.int .i64 d]=E2 { y with t:=d }:=rfl
   rw [es,Mq,←hps]
   simp -implicitDefEqProofs -proj only [go_sem,seval,hw1]
   refine AY ⟨n+1,c,cap,EX L (Ev A B all va vb d)⟩ ⟨hfw2,by show f+((n+1:Nat):Int)≤t+1; omega,hL2,hok2,?_⟩ hmu rfl ?_ ?_
   ·simp -implicitDefEqProofs only [II,Gq,Gv,Gs,Gi,FA hne,AP,List.map_append,List.map_cons,List.map_nil,List.cons_append,List.nil_append]
    simp [hk3,hk2,n1]
   ·simp -implicitDefEqProofs -proj only [go_sem,seval,AJ,Gq,Gv,Gs,Gi,Eg hne,hl2]
   ·simp -implicitDefEqProofs only [II,Gq,Gv,Gs,Gi,FA hne]
    exact ⟨AN,(AF hk3).trans k3,(AF hk2).trans k2,trivial⟩
  case' inl =>
   simp -implicitDefEqProofs -proj only [go_sem,seval,Gq,Gv,Gs,Gi,hH,hd,k2,k3,decide_eq_true hdt,A9,Ej,show L.length=0 by rw [h0]; rfl]
  case' inr.inl =>
   have hp0:=hpos h0
   simp -implicitDefEqProofs -proj only [go_sem,seval,Gq,Gv,Gs,Gi,hH,hd,k2,k3,decide_eq_true hdt,A9,Ej,decide_eq_true (show (0:Int)<(L.length:Int) by omega)]
   refine Eu hon ?_
   simp -implicitDefEqProofs -proj only [go_sem,seval,k2,k3]
   refine Ag _ (by omega) (by rw [Int.toNat_natCast]; exact hx) ?_
   simp -implicitDefEqProofs -proj only [go_sem,seval,k2,k3,decide_eq_true h1]
  case' inr.inr.inl =>
   have hp0:=hpos h0
   simp -implicitDefEqProofs -proj only [go_sem,seval,Gq,Gv,Gs,Gi,hH,hd,k2,k3,decide_eq_true hdt,A9,Ej,decide_eq_true (show (0:Int)<(L.length:Int) by omega)]
   refine Eu hon ?_
   simp -implicitDefEqProofs -proj only [go_sem,seval,k2,k3]
   refine Ag _ (by omega) (by rw [Int.toNat_natCast]; exact hx) ?_
   simp -implicitDefEqProofs -proj only [go_sem,seval,k2,k3,decide_eq_false h1]
   refine Eu hon' ?_
   simp -implicitDefEqProofs -proj only [go_sem,seval,k2,k3]
   refine Ag _ (by omega) (by rw [Int.toNat_natCast]; exact hx') ?_
   simp -implicitDefEqProofs -proj only [go_sem,seval,k2,k3,decide_eq_true h2]
  all_goals
   refine Eu w1 ?_
   simp -implicitDefEqProofs -proj only [go_sem,seval,k2,k3]
   refine Eu w2 ?_
   simp -implicitDefEqProofs -proj only [go_sem,seval,k2,k3]
   refine AI (fun b10 hb10=>?_)
   replace hb10:H b10=none:=hb10
   obtain ⟨x1,x2⟩:=AK hb10 k3
   obtain ⟨x3,x4⟩:=AK hb10 k2
   have hall10:=Ap (y:=some (.box 48 [i64 d,i64 d,i64 d,i64 d,i64 (va d).1,Ee (Am A (va d).2 all),i64 d,i64 d,i64 (vb d).1,Ee (Am B (vb d).2 all)])) hb10 hall
  case pos.inl =>
   have hput:EX L (Ev A B all va vb d)=L++[Ev A B all va vb d]:=by rw [h0]; rfl
   have hl0:(An L).length=0:=by rw [h0]; rfl
   simp -implicitDefEqProofs -proj only [go_sem,seval]
   refine EO (fun bs hs=>?_)
   simp -implicitDefEqProofs -proj only [go_sem,seval]
   refine FX (xs:=An L) (y:=E2 (Ev A B all va vb d)) (t:=48) (capc:=1) [(b3,Ec cu' f t B S'),(b2,Ec cu f t A S)] rfl (Ap hs hall10) hnd (by simp -implicitDefEqProofs -proj only [go_sem,seval]; try rfl) (by rw [Ej]; omega) (by rw [Ej]; omega) (fun H6 c2 cap2 ha6 hk6=>?_)
   rw [Jx,←hput] at ha6 hk6
   have hne:An (EX L (Ev A B all va vb d))≠[]:=by rw [hput,←Jx]; simp
   have hl2:(An (EX L (Ev A B all va vb d))).length=(An L).length+1:=by rw [hput,Ej,List.length_append,Ej]; rfl
   simp -implicitDefEqProofs -proj only [go_sem,seval,hw1]
   refine AY ⟨n+1,c2,cap2,EX L (Ev A B all va vb d)⟩ ⟨hfw2,by show f+((n+1:Nat):Int)≤t+1; omega,hL2,hok2,hk6⟩ hmu rfl ?_ ha6
   simp -implicitDefEqProofs -proj only [go_sem,seval,AJ,Gq,Gv,Gs,Gi,Eg hne,hl2]
  all_goals
   obtain ⟨y,hy1,hy2,hy3⟩:=hlast h0
   have hp0:=hpos h0
   have hyo:=hok y hy3
   have hr:H c=some (.row 48 10 cap (An L)):=by
    have:=hrow
    rw [FA (hrt h0)] at this
    exact this.1
   obtain ⟨x5,x6⟩:=AK hb10 hr
   have hel:=Lr hy2
   have hw:IntKind.i64.wrap ((L.length:Int)-1)=((L.length-1:Nat):Int):=by rw [IntKind.wrap_i64]; omega
   have hk3:¬c=b3:=fun e=>by rw [e,k3] at hr; cases hr
   have hk2:¬c=b2:=fun e=>by rw [e,k2] at hr; cases hr
   have ca:=LU (a:=y.a) (b:=(Ev A B all va vb d).a) hyo.1 hX.1 hyo.2.2.1 hX.2.2.1
   have cb:=LU (a:=y.b) (b:=(Ev A B all va vb d).b) hyo.2.1 hX.2.1 hyo.2.2.2 hX.2.2.2
   simp -implicitDefEqProofs -proj only [go_sem,seval,decide_eq_true (show (0:Int)<(L.length:Int) by omega),Eg (hrt h0),Ej,hw,hr,x5,x6,Int.toNat_natCast,Nat.zero_add]
   refine Ak (by omega) (fun _=>?_)
   refine En _ hel (by simp [E2]) ?_
   simp -implicitDefEqProofs only [E2]
   simp -implicitDefEqProofs -proj only [go_sem,seval,x5,x6,hr]
   refine AL ca ?_
   by_cases da:y.a.v=(Ev A B all va vb d).a.v
   ·simp -implicitDefEqProofs -proj only [go_sem,seval,decide_eq_true da,hw,hr,x5,x6,Int.toNat_natCast,Nat.zero_add]
    refine Ak (by omega) (fun _=>?_)
    refine En _ hel (by simp [E2]) ?_
    simp -implicitDefEqProofs only [E2]
    simp -implicitDefEqProofs -proj only [go_sem,seval,x5,x6,hr]
    refine AL cb ?_
    by_cases db:y.b.v=(Ev A B all va vb d).b.v
    ·have hps:=hset y H hy1 da db
     have hl2:(An (EX L (Ev A B all va vb d))).length=L.length:=by rw [hps,Ej,List.length_set]
     have hne:An (EX L (Ev A B all va vb d))≠[]:=fun e=>by have:=congrArg List.length e; rw [hl2,List.length_nil] at this; omega
     simp -implicitDefEqProofs -proj only [go_sem,seval,decide_eq_true db,hw,hr,x5,x6,Int.toNat_natCast,Nat.zero_add]
     refine Ak (by omega) (fun _=>?_)
     refine IK (el:=E2 y) (xs:=An L) (cap:=cap) (t:=48) (by simp -implicitDefEqProofs -proj only [go_sem,seval,x5,x6,hr]) hel (by simp [E2]) ?_
     have es:Fr (E2 y) 1 [.int .i64 d]=E2 { y with t:=d }:=rfl
     rw [es,Mq,←hps]
     simp -implicitDefEqProofs -proj only [go_sem,seval,hw1]
     refine AY ⟨n+1,c,cap,EX L (Ev A B all va vb d)⟩ ⟨hfw2,by show f+((n+1:Nat):Int)≤t+1; omega,hL2,hok2,?_⟩ hmu rfl ?_ ?_
     ·simp -implicitDefEqProofs only [II,Gq,Gv,Gs,Gi,FA hne,AP,List.map_append,List.map_cons,List.map_nil,List.cons_append,List.nil_append]
      simp [hk3,hk2,n1]
     ·simp -implicitDefEqProofs -proj only [go_sem,seval,AJ,Gq,Gv,Gs,Gi,Eg hne,hl2]
     ·simp -implicitDefEqProofs only [II,Gq,Gv,Gs,Gi,FA hne]
      exact ⟨AN,(AF hk3).trans ((AF x1).trans k3),(AF hk2).trans ((AF x3).trans k2),trivial⟩
    ·have hput:EX L (Ev A B all va vb d)=L++[Ev A B all va vb d]:=by unfold EX; rw [hy1]; exact if_neg (fun k=>db k.2)
     simp -implicitDefEqProofs -proj only [go_sem,seval,decide_eq_false db,hr,x5,x6]
     refine EO (fun bs hs=>?_)
     replace hs:upd H b10 _ bs=none:=hs
     obtain ⟨f1,f2⟩:=AK hs (show upd H b10 _ c=_ by rw [AF x5]; exact hr)
     obtain ⟨f3,f4⟩:=AK hs (show upd H b10 _ b3=_ by rw [AF x1]; exact k3)
     obtain ⟨f5,f6⟩:=AK hs (show upd H b10 _ b2=_ by rw [AF x3]; exact k2)
     simp -implicitDefEqProofs -proj only [go_sem,seval]
     refine Li (xs:=An L) (ys:=[E2 (Ev A B all va vb d)]) (e:=48) (t:=48) (capc:=1) (by simp -implicitDefEqProofs -proj only [go_sem,seval,f1,f2,x5,x6,hr]) (by simp -implicitDefEqProofs -proj only [go_sem,seval]; try rfl) (by rw [Ej]) rfl (by simp) rfl (by rw [Ej]; simp -implicitDefEqProofs only [List.length_singleton,maxLen]; omega) (fun b' cap' hb'=>?_)
     rw [Jx,←hput]
     have hl2:(An (EX L (Ev A B all va vb d))).length=L.length+1:=by rw [hput,Ej,List.length_append]; rfl
     have hne:An (EX L (Ev A B all va vb d))≠[]:=fun e=>by have:=congrArg List.length e; rw [hl2,List.length_nil] at this; omega
     have q3:upd (upd H b10 (some (.box 48 [i64 d,i64 d,i64 d,i64 d,i64 (va d).1,Ee (Am A (va d).2 all),i64 d,i64 d,i64 (vb d).1,Ee (Am B (vb d).2 all)]))) bs (some (.row 48 10 1 [E2 (Ev A B all va vb d)])) b3=some (Ec cu' f t B S'):=(AF f3).trans ((AF x1).trans k3)
     have q2:upd (upd H b10 (some (.box 48 [i64 d,i64 d,i64 d,i64 d,i64 (va d).1,Ee (Am A (va d).2 all),i64 d,i64 d,i64 (vb d).1,Ee (Am B (vb d).2 all)]))) bs (some (.row 48 10 1 [E2 (Ev A B all va vb d)])) b2=some (Ec cu f t A S):=(AF f5).trans ((AF x3).trans k2)
     replace hb':upd (upd (upd H b10 (some (.box 48 [i64 d,i64 d,i64 d,i64 d,i64 (va d).1,Ee (Am A (va d).2 all),i64 d,i64 d,i64 (vb d).1,Ee (Am B (vb d).2 all)]))) bs (some (.row 48 10 1 [E2 (Ev A B all va vb d)]))) c none b'=none:=hb'
     have g3:¬b'=b3:=fun e=>by
      rw [e,AF hk3,q3] at hb'
      cases hb'
     have g2:¬b'=b2:=fun e=>by
      rw [e,AF hk2,q2] at hb'
      cases hb'
     simp -implicitDefEqProofs -proj only [go_sem,seval,hw1]
     refine AY ⟨n+1,b',cap',EX L (Ev A B all va vb d)⟩ ⟨hfw2,by show f+((n+1:Nat):Int)≤t+1; omega,hL2,hok2,?_⟩ hmu rfl ?_ ?_
     ·simp -implicitDefEqProofs only [II,Gq,Gv,Gs,Gi,FA hne,AP,List.map_append,List.map_cons,List.map_nil,List.cons_append,List.nil_append]
      simp [g3,g2,n1]
     ·simp -implicitDefEqProofs -proj only [go_sem,seval,AJ,Gq,Gv,Gs,Gi,Eg hne,hl2]
      try rfl
     ·simp -implicitDefEqProofs only [II,Gq,Gv,Gs,Gi,FA hne]
      exact ⟨AN,(AF g3).trans ((AF hk3).trans q3),(AF g2).trans ((AF hk2).trans q2),trivial⟩
   ·have hput:EX L (Ev A B all va vb d)=L++[Ev A B all va vb d]:=by unfold EX; rw [hy1]; exact if_neg (fun k=>da k.1)
    simp -implicitDefEqProofs -proj only [go_sem,seval,decide_eq_false da,hr,x5,x6]
    refine EO (fun bs hs=>?_)
    replace hs:upd H b10 _ bs=none:=hs
    obtain ⟨f1,f2⟩:=AK hs (show upd H b10 _ c=_ by rw [AF x5]; exact hr)
    obtain ⟨f3,f4⟩:=AK hs (show upd H b10 _ b3=_ by rw [AF x1]; exact k3)
    obtain ⟨f5,f6⟩:=AK hs (show upd H b10 _ b2=_ by rw [AF x3]; exact k2)
    simp -implicitDefEqProofs -proj only [go_sem,seval]
    refine Li (xs:=An L) (ys:=[E2 (Ev A B all va vb d)]) (e:=48) (t:=48) (capc:=1) (by simp -implicitDefEqProofs -proj only [go_sem,seval,f1,f2,x5,x6,hr]) (by simp -implicitDefEqProofs -proj only [go_sem,seval]; try rfl) (by rw [Ej]) rfl (by simp) rfl (by rw [Ej]; simp -implicitDefEqProofs only [List.length_singleton,maxLen]; omega) (fun b' cap' hb'=>?_)
    rw [Jx,←hput]
    have hl2:(An (EX L (Ev A B all va vb d))).length=L.length+1:=by rw [hput,Ej,List.length_append]; rfl
    have hne:An (EX L (Ev A B all va vb d))≠[]:=fun e=>by have:=congrArg List.length e; rw [hl2,List.length_nil] at this; omega
    have q3:upd (upd H b10 (some (.box 48 [i64 d,i64 d,i64 d,i64 d,i64 (va d).1,Ee (Am A (va d).2 all),i64 d,i64 d,i64 (vb d).1,Ee (Am B (vb d).2 all)]))) bs (some (.row 48 10 1 [E2 (Ev A B all va vb d)])) b3=some (Ec cu' f t B S'):=(AF f3).trans ((AF x1).trans k3)
    have q2:upd (upd H b10 (some (.box 48 [i64 d,i64 d,i64 d,i64 d,i64 (va d).1,Ee (Am A (va d).2 all),i64 d,i64 d,i64 (vb d).1,Ee (Am B (vb d).2 all)]))) bs (some (.row 48 10 1 [E2 (Ev A B all va vb d)])) b2=some (Ec cu f t A S):=(AF f5).trans ((AF x3).trans k2)
    replace hb':upd (upd (upd H b10 (some (.box 48 [i64 d,i64 d,i64 d,i64 d,i64 (va d).1,Ee (Am A (va d).2 all),i64 d,i64 d,i64 (vb d).1,Ee (Am B (vb d).2 all)]))) bs (some (.row 48 10 1 [E2 (Ev A B all va vb d)]))) c none b'=none:=hb'
    have g3:¬b'=b3:=fun e=>by
     rw [e,AF hk3,q3] at hb'
     cases hb'
    have g2:¬b'=b2:=fun e=>by
     rw [e,AF hk2,q2] at hb'
     cases hb'
    simp -implicitDefEqProofs -proj only [go_sem,seval,hw1]
    refine AY ⟨n+1,b',cap',EX L (Ev A B all va vb d)⟩ ⟨hfw2,by show f+((n+1:Nat):Int)≤t+1; omega,hL2,hok2,?_⟩ hmu rfl ?_ ?_
    ·simp -implicitDefEqProofs only [II,Gq,Gv,Gs,Gi,FA hne,AP,List.map_append,List.map_cons,List.map_nil,List.cons_append,List.nil_append]
     simp [g3,g2,n1]
    ·simp -implicitDefEqProofs -proj only [go_sem,seval,AJ,Gq,Gv,Gs,Gi,Eg hne,hl2]
     try rfl
    ·simp -implicitDefEqProofs only [II,Gq,Gv,Gs,Gi,FA hne]
     exact ⟨AN,(AF g3).trans ((AF hk3).trans q3),(AF g2).trans ((AF hk2).trans q2),trivial⟩
 ·have hle:d=t+1:=by omega
  rw [hle] at hfw
  have hTe:L.map Hb=T:=FwdB.canon hfw hT
  simp -implicitDefEqProofs -proj only [go_sem,seval,Gq,Gv,Gs,Gi,hH,hd,k2,k3,decide_eq_false hdt,A9,Ej]
  refine EN (fun j:Nat=>j≤L.length) 150 (fun j=>[(6,.d (.sl 5 (AX all))),(7,EU 0 10 c cap (An L)),(103,i64 L.length),(104,i64 j)]) (fun j=>BD 48 10 c cap (An (Fh L j))) (fun j=>L.length-j) 0 (Nat.zero_le _) rfl ?_ hrow ?_
  ·simp -implicitDefEqProofs -proj only [go_sem,seval,AJ]
   try rfl
  intro j hj
  by_cases hjl:j<L.length
  ·have hne2:An L≠[]:=fun e=>by
    have:=congrArg List.length e
    rw [Ej,List.length_nil] at this
    omega
   have hne1:∀k,An (Fh L k)≠[]:=fun k e=>by
    have:=congrArg List.length e
    rw [Ej,LG,List.length_nil] at this
    omega
   have q1:=Lr (UX hjl)
   have q2:=RW hjl
   have hr:Ac (BD 48 10 c cap (An (Fh L j))) c=some (.row 48 10 cap (An (Fh L j))):=by
    rw [FA (hne1 j)]; exact AN
   have hjx:j<(An (Fh L j)).length:=by rw [Ej,LG]; exact hjl
   generalize L[j]=x at *
   have q3:(An (Fh L j)).set j (E2 (LW x))=An (Fh L (j+1)):=by rw [Mq,q2]
   simp -implicitDefEqProofs only [E2] at q1
   rw [Eg hne2,Ej]
   simp -implicitDefEqProofs -proj only [go_sem,seval,hr,decide_eq_true (show (j:Int)<L.length by omega),Int.toNat_natCast,Nat.zero_add]
   refine Ak (by omega) (fun _=>?_)
   refine Ed _ q1 (by simp) ?_
   simp -implicitDefEqProofs -proj only [go_sem,seval,hr,Int.toNat_natCast,Nat.zero_add]
   refine Ak (by omega) (fun _=>?_)
   refine IK (cap:=cap) (t:=48) hr q1 (by simp) ?_
   simp -implicitDefEqProofs -proj only [go_sem,seval,Fr,Int.toNat_natCast,Nat.zero_add]
   iterate 3
    refine Ak (by omega) (fun _=>?_)
    refine Ed _ (List.getElem?_set_self hjx) (by simp) ?_
    simp -implicitDefEqProofs -proj only [go_sem,seval,Int.toNat_natCast,Nat.zero_add]
    refine Ak (by omega) (fun _=>?_)
    refine IK (cap:=cap) (t:=48) AN (List.getElem?_set_self hjx) (by simp) ?_
    simp -implicitDefEqProofs -proj only [go_sem,seval,Fr,List.set_set,Int.toNat_natCast,Nat.zero_add]
   refine AY (j+1) (by show j+1≤L.length; omega) (by show L.length-(j+1)<L.length-j; omega) rfl ?_ ?_
   ·simp -implicitDefEqProofs -proj only [go_sem,seval,AJ,AU (show j<9223372036854775807 by omega)]
   ·rw [FA (hne1 (j+1))]
    exact ⟨by rw [←q3]; exact AN,trivial⟩
  ·obtain rfl:j=L.length:=by omega
   have hrr:AZ (Ac (BD 48 10 c cap (An (Fh L L.length)))) (BD 48 10 c cap (An (Fh L L.length))):=EV (by unfold BD; split <;> simp [AP])
   rw [Rt (z:=0) (sz:=10) (c:=c) (cap:=cap) (show (An L).length=(An (Fh L L.length)).length by rw [Ej,Ej,LG])]
   simp -implicitDefEqProofs -proj only [go_sem,seval,decide_eq_false (show ¬(L.length:Int)<L.length by omega)]
   rw [←hTe,←TE]
   exact .tupL (GA (.refl _) (GA (Id hrr) Hl))
set_option maxHeartbeats 4000000 in
theorem PairIs_ok {a b:CoreX} (ha:a.Fit) (hb:b.Fit):DataW Try.prog AEf [F9 a,F9 b] (bv true):=by
 refine Aj XA (by simp) ?_
 simp -implicitDefEqProofs -proj only [go_sem,seval]
 refine AI (fun b2 hb2=>?_)
 simp -implicitDefEqProofs -proj only [go_sem,seval]
 refine AI (fun b3 hb3=>?_)
 replace hb3:upd Heap.none b2 _ b3=none:=hb3
 obtain ⟨n1,n2⟩:=AK hb3 AN
 simp -implicitDefEqProofs -proj only [go_sem,seval,n1,n2]
 refine AL NM ?_
 simp -implicitDefEqProofs -proj only [go_sem,seval,n1,n2]
 by_cases g:fitsC a∧fitsC b
 rotate_left
 ·refine AL (Oi ha hb g) ?_
  simp -implicitDefEqProofs -proj only [go_sem,seval,n1,n2]
  refine AI (fun b5 hb5=>?_)
  simp -implicitDefEqProofs -proj only [go_sem,seval]
  refine AI (fun b6 hb6=>?_)
  replace hb6:upd (upd (upd Heap.none b2 _) b3 _) b5 _ b6=none:=hb6
  obtain ⟨m1,m2⟩:=AK hb6 AN
  simp -implicitDefEqProofs -proj only [go_sem,seval,m1,m2]
  exact AM rfl
 obtain ⟨ga,gb⟩:=g
 have fa:=KP ga
 have fb:=KP gb
 have h8a:=fa.ms8
 have h8b:=fb.ms8
 have hfo:=QK ha hb ga gb
 have hme:=Qx (cu:=a.cur) (cu':=b.cur) (f:=a.f) (t:=a.t) (f':=b.f) (t':=b.t) (S:=Fv a) (S':=Fv b) (A:=a.ms) (B:=b.ms) h8a h8b
 have hrm:=T1 (cu:=a.cur) (cu':=b.cur) (f:=a.f) (t:=a.t) (f':=b.f) (t':=b.t) (S:=Fv a) (S':=Fv b) (A:=a.ms) (B:=b.ms) h8a h8b
 have hrl:=SQ (cu:=a.cur) (cu':=b.cur) (f:=a.f) (t:=a.t) (f':=b.f) (t':=b.t) (S:=Fv a) (S':=Fv b) (A:=a.ms) (B:=b.ms) (by omega) (by omega)
 rw [SA (LC gb.good.ms)] at hrl
 obtain ⟨hbm,hbl⟩:=Nq ga gb
 have htf:=ga.good.hd.2.1.1
 have h39:=fa.tf
 obtain ⟨W1,Tw,er,hmk,hrk,hyes,hno,hTok,hTl⟩:∃(W1:List (List D)) (Tw:List TwX) (er:Int),DataW Try.prog Ku [E7 a.cur a.f a.t a.ms (Fv a),E7 b.cur b.f b.t b.ms (Fv b)] (.tup [.d (.sl 5 W1),.d (.sl 10 (An Tw)),i64 er])∧(Fz a.cur b.cur a.f a.t b.f b.t a.ms b.ms=true→DataW Try.prog RI [E7 a.cur a.f a.t a.ms (Fv a),E7 b.cur b.f b.t b.ms (Fv b)] (.tup [.d (.sl 5 (AX (ES a.ms b.ms))),.d (.sl 10 (An Tw))]))∧(Fz a.cur b.cur a.f a.t b.f b.t a.ms b.ms=true→er=0∧W1=AX (ES a.ms b.ms))∧(Fz a.cur b.cur a.f a.t b.f b.t a.ms b.ms=false→er=7∧W1=[]∧Tw=[])∧(∀x∈Tw,IP x)∧Tw.length≤1000000:=by
  cases hl:Fz a.cur b.cur a.f a.t b.f b.t a.ms b.ms with
  | true =>
   obtain ⟨e1,e2,e3,e4⟩:=QR hl
   rw [←e2,←e3] at fb hl ⊢
   obtain ⟨T,hT⟩:=FwdB.exists (ID (Eo a) (Eo b) a.ms b.ms (ES a.ms b.ms)) a.f (a.t+1-a.f).toNat
   rw [show a.f+((a.t+1-a.f).toNat:Int)=a.t+1 by omega] at hT
   have hlT:=hT.len
   refine ⟨_,T.map FL,0,Lj fa fb hl hT,fun _=>AR7 fa fb htf hT,fun _=>⟨rfl,rfl⟩,fun h=>by (cases h),fun x hx=>?_,by rw [List.length_map]; omega⟩
   obtain ⟨y,hy,rfl⟩:=List.mem_map.1 hx
   obtain ⟨p1,p2,p3,p4⟩:=PX hT hy
   obtain ⟨wa1,wa2⟩:=MM ga hbm (by omega) y.f
   obtain ⟨wb1,wb2⟩:=MM gb hbm (by omega) y.f
   have e5:y.v.1=FO a.ms (ES a.ms b.ms) (Eo a y.f):=congrArg (·.1) p4
   have e6:y.v.2=FO b.ms (ES a.ms b.ms) (Eo b y.f):=congrArg (·.2) p4
   refine ⟨?_,?_,?_,?_⟩
   ·show ∀l∈y.v.1.2,ER l; rw [e5]; exact wa1
   ·show ∀l∈y.v.2.2,ER l; rw [e6]; exact wb1
   ·show y.v.1.2.length≤_; rw [e5]; exact wa2
   ·show y.v.2.2.length≤_; rw [e6]; exact wb2
  | false =>
   exact ⟨[],[],7,QP (by omega) (by omega) hl,fun h=>by (cases h),fun h=>by (cases h),fun _=>⟨rfl,rfl,rfl⟩,fun x h=>by (cases h),Nat.zero_le _⟩
 generalize ES a.ms b.ms=all at *
 generalize Fv a=Sa at *
 generalize Fv b=Sb at *
 refine AL hfo ?_
 simp -implicitDefEqProofs -proj only [go_sem,seval,n1,n2]
 refine AI (fun b5 hb5=>?_)
 simp -implicitDefEqProofs -proj only [go_sem,seval]
 refine AI (fun b6 hb6=>?_)
 replace hb6:upd (upd (upd Heap.none b2 _) b3 _) b5 _ b6=none:=hb6
 obtain ⟨m1,m2⟩:=AK hb6 AN
 simp -implicitDefEqProofs -proj only [go_sem,seval,m1,m2]
 refine AL hmk ?_
 simp -implicitDefEqProofs -proj only [go_sem,seval,m1,m2]
 refine AL hrm ?_
 simp -implicitDefEqProofs -proj only [go_sem,seval,m1,m2]
 refine AL hme ?_
 simp -implicitDefEqProofs -proj only [go_sem,seval,m1,m2,Gf,decide_true]
 refine EN (fun i:Nat=>i≤all.length) 131 (fun i=>[(5,.ptr b5 0),(6,.ptr b6 0),(8,.d (.sl 5 W1)),(9,.d (.sl 10 (An Tw))),(10,i64 er),(11,.d (.sl 5 (AX all))),(12,.d (.sl 5 (AX all))),(48,i64 all.length),(49,i64 i)]) (fun _=>[(b6,Ec b.cur b.f b.t b.ms Sb),(b5,Ec a.cur a.f a.t a.ms Sa)]) (fun i=>all.length-i) 0 (Nat.zero_le _) rfl ?_ ?_ ?_
 ·simp -implicitDefEqProofs -proj only [go_sem,seval,AJ]
  try rfl
 ·refine ⟨AN,?_,trivial⟩
  simp -implicitDefEqProofs -proj only [go_sem,seval,m1,m2]
 intro i hi
 have hall:AZ (Ac [(b6,Ec b.cur b.f b.t b.ms Sb),(b5,Ec a.cur a.f a.t a.ms Sa)]) [(b6,Ec b.cur b.f b.t b.ms Sb),(b5,Ec a.cur a.f a.t a.ms Sa)]:=EV (by simp [AP,m1])
 by_cases h:i<all.length
 ·have hel:=G2 h
  generalize all[i]=m at *
  simp -implicitDefEqProofs -proj only [go_sem,seval,decide_eq_true (show (i:Int)<all.length by omega)]
  refine Ag _ (by omega) hel ?_
  simp -implicitDefEqProofs -proj only [go_sem,seval]
  refine Ag _ (by omega) hel ?_
  simp -implicitDefEqProofs -proj only [go_sem,seval,beq_self_eq_true,decide_true,Bool.not_true,Bool.and_self]
  refine AY (i+1) (by show i+1≤all.length; omega) (by show all.length-(i+1)<all.length-i; omega) rfl ?_ hall
  simp -implicitDefEqProofs -proj only [go_sem,seval,AJ,AU (show i<9223372036854775807 by omega)]
 simp -implicitDefEqProofs -proj only [go_sem,seval,decide_eq_false (show ¬(i:Int)<all.length by omega),m1,m2]
 refine AL hrl ?_
 cases hl:Fz a.cur b.cur a.f a.t b.f b.t a.ms b.ms with
 | false =>
  obtain ⟨rfl,rfl,rfl⟩:=hno hl
  have e0:An []=[]:=rfl
  simp -implicitDefEqProofs -proj only [go_sem,seval,e0]
  exact AM rfl
 | true =>
  obtain ⟨rfl,rfl⟩:=hyes hl
  have hrk:=hrk hl
  simp -implicitDefEqProofs -proj only [go_sem,seval,m1,m2]
  refine AL hrk ?_
  simp -implicitDefEqProofs -proj only [go_sem,seval,Gf,Ej,decide_true]
  refine EN (fun i:Nat=>i≤all.length) 131 (fun i=>[(8,.d (.sl 5 (AX all))),(9,.d (.sl 10 (An Tw))),(11,.d (.sl 5 (AX all))),(15,.d (.sl 10 (An Tw))),(101,i64 all.length),(102,i64 i)]) (fun _=>[]) (fun i=>all.length-i) 0 (Nat.zero_le _) rfl ?_ trivial ?_
  ·simp -implicitDefEqProofs -proj only [go_sem,seval,AJ]
   try rfl
  intro j hj
  by_cases h':j<all.length
  ·have hel:=G2 h'
   generalize all[j]=m at *
   simp -implicitDefEqProofs -proj only [go_sem,seval,decide_eq_true (show (j:Int)<all.length by omega)]
   refine Ag _ (by omega) hel ?_
   simp -implicitDefEqProofs -proj only [go_sem,seval]
   refine Ag _ (by omega) hel ?_
   simp -implicitDefEqProofs -proj only [go_sem,seval,beq_self_eq_true,decide_true,Bool.not_true,Bool.and_self]
   refine AY (j+1) (by show j+1≤all.length; omega) (by show all.length-(j+1)<all.length-j; omega) rfl ?_ trivial
   simp -implicitDefEqProofs -proj only [go_sem,seval,AJ,AU (show j<9223372036854775807 by omega)]
  simp -implicitDefEqProofs -proj only [go_sem,seval,decide_eq_false (show ¬(j:Int)<all.length by omega),Ej]
  refine EN (fun i:Nat=>i≤Tw.length) 131 (fun i=>[(9,.d (.sl 10 (An Tw))),(15,.d (.sl 10 (An Tw))),(116,i64 Tw.length),(117,i64 i)]) (fun _=>[]) (fun i=>Tw.length-i) 0 (Nat.zero_le _) rfl ?_ trivial ?_
  ·simp -implicitDefEqProofs -proj only [go_sem,seval,AJ]
   try rfl
  intro k hk
  by_cases h'':k<Tw.length
  ·have hel:=Mx h''
   have hs:=ASn (hTok _ (List.getElem_mem h''))
   generalize Tw[k]=x at *
   simp -implicitDefEqProofs -proj only [go_sem,seval,decide_eq_true (show (k:Int)<Tw.length by omega)]
   refine Ag _ (by omega) hel ?_
   simp -implicitDefEqProofs -proj only [go_sem,seval]
   refine Ag _ (by omega) hel ?_
   simp -implicitDefEqProofs -proj only [go_sem,seval]
   refine AL hs ?_
   simp -implicitDefEqProofs -proj only [go_sem,seval]
   refine AY (k+1) (by show k+1≤Tw.length; omega) (by show Tw.length-(k+1)<Tw.length-k; omega) rfl ?_ trivial
   simp -implicitDefEqProofs -proj only [go_sem,seval,AJ,AU (show k<9223372036854775807 by omega)]
  simp -implicitDefEqProofs -proj only [go_sem,seval,decide_eq_false (show ¬(k:Int)<Tw.length by omega)]
  exact AM rfl
def L9 (all:List MeterX) (bk:List Int) (m:MeterX):Int:=match all.findIdx? (Ek m.nm) with
 | some k=>bk.getD k 0
 | none=>0
def HS (ms all:List MeterX) (bk:List Int):List Int:=ms.map (L9 all bk)
theorem N8 {ms all:List MeterX} {bk:List Int}:(HS ms all bk).length=ms.length:=List.length_map ..
structure OwY where
 i:Nat
 c:Nat
 cap:Nat
 l:List Int
theorem Ho {i c cap:Nat} {l:List Int}:(OwY.mk i c cap l).i=i:=(rfl)
theorem IY {i c cap:Nat} {l:List Int}:(OwY.mk i c cap l).c=c:=(rfl)
theorem Ig {i c cap:Nat} {l:List Int}:(OwY.mk i c cap l).cap=cap:=(rfl)
theorem G9 {i c cap:Nat} {l:List Int}:(OwY.mk i c cap l).l=l:=(rfl)
def LB (b3:Nat) (c:CoreX) (y:OwY):List (Nat×Blk):=BD 3 1 y.c y.cap (Ad y.l)++[(b3,Ea c)]
def J6 (b3 b9:Nat) (c:CoreX) (m:MeterX) (y:OwY):List (Nat×Blk):=BD 3 1 y.c y.cap (Ad y.l)++[(b3,Ea c),(b9,F6 m)]
set_option maxHeartbeats 1000000 in
theorem TZ {c:CoreX} {all:List MeterX} {bk:List Int} (hp:all.Pairwise GM) (hin:∀m∈c.ms,∃o∈all,o.nm=m.nm) (hlen:bk.length=all.length) (hn:all.length≤100) (hm:c.ms.length≤100):DataW Try.prog AQF [F9 c,.d (.sl 5 (AX all)),Fu bk] (Fu (HS c.ms all bk)):=by
 refine Aj AMD (by simp) ?_
 simp -implicitDefEqProofs -proj only [go_sem,seval]
 refine AI (fun b3 hb3=>?_)
 simp -implicitDefEqProofs -proj only [go_sem,seval,Fy]
 refine EN (fun y:OwY=>y.i≤c.ms.length∧y.l=(HS c.ms all bk).take y.i∧(AP (LB b3 c y)).Nodup) 41 (fun y=>[(1,.d (.sl 5 (AX all))),(2,Fu bk),(3,.ptr b3 0),(7,EU 0 1 y.c y.cap (Ad y.l)),(13,.d (.sl 5 (AX c.ms))),(14,i64 c.ms.length),(15,i64 y.i)]) (LB b3 c) (fun y=>c.ms.length-y.i) ⟨0,0,0,[]⟩ ⟨Nat.zero_le _,rfl,by simp [AP,LB,Ad,BD]⟩ rfl ?_ ?_ ?_
 ·simp -implicitDefEqProofs -proj only [go_sem,seval,AJ,Ho,IY,Ig,G9,Ad,List.map_nil,JX]
  try rfl
 ·exact ⟨AN,trivial⟩
 rintro ⟨i,c1,cap,l⟩ ⟨hi,hl,hnd⟩
 simp -implicitDefEqProofs only [Ho,G9] at hi hl
 have hall:=EV hnd
 obtain ⟨H,hH⟩:∃H,Ac (LB b3 c ⟨i,c1,cap,l⟩)=H:=⟨_,rfl⟩
 rw [hH] at hall
 simp -implicitDefEqProofs only [LB,IY,Ig,G9] at hall hnd
 obtain ⟨hrow,k3,_⟩:=EQ.1 hall
 have hll:l.length=i:=by rw [hl,List.length_take,N8]; omega
 by_cases h:i<c.ms.length
 ·have hel:=G2 h
  have htk:(HS c.ms all bk).take (i+1)=l++[L9 all bk c.ms[i]]:=by
   rw [List.take_succ_eq_append_getElem (by rw [N8]; exact h),hl]; simp -implicitDefEqProofs only [HS,List.getElem_map]
  obtain ⟨k0,hk0,hk1⟩:∃k,∃(hk:k<all.length),all[k].nm=c.ms[i].nm:=by
   obtain ⟨o,ho,e⟩:=hin _ (List.getElem_mem h)
   obtain ⟨k,hk,rfl⟩:=List.getElem_of_mem ho
   exact ⟨k,hk,e⟩
  have hfi:=ME hp hk0 hk1
  have hq:L9 all bk c.ms[i]=bk.getD k0 0:=by unfold L9; rw [hfi]
  have hoth:∀(j:Nat) (hj:j<all.length),(all[j].nm.toList == c.ms[i].nm.toList)=decide (j=k0):=fun j hj=>by
   rw [Bool.eq_iff_iff,decide_eq_true_eq,beq_iff_eq]
   constructor
   ·intro e
    exact MK hp hj hk0 ((H9 e).trans hk1.symm)
   ·rintro rfl
    rw [hk1]
  rw [hq] at htk
  generalize c.ms[i]=m at *
  simp -implicitDefEqProofs -proj only [go_sem,seval,Ho,IY,Ig,G9,hH,decide_eq_true (show (i:Int)<c.ms.length by omega)]
  refine Ag _ (by omega) hel ?_
  simp -implicitDefEqProofs -proj only [go_sem,seval]
  refine AI (fun b9 hb9=>?_)
  replace hb9:H b9=none:=hb9
  obtain ⟨x1,x2⟩:=AK hb9 k3
  have hk9:=Ln hb9 hall
  have hall9:AZ (upd H b9 (some (F6 m))) (J6 b3 b9 c m ⟨0,c1,cap,l⟩):=by
   simp -implicitDefEqProofs only [J6,IY,Ig,G9]
   obtain ⟨p1,p2⟩:=EQ.1 (Ap (y:=some (F6 m)) hb9 hall)
   exact EQ.2 ⟨p1,p2.1,AN,trivial⟩
  have hnd9:(AP (J6 b3 b9 c m ⟨0,c1,cap,l⟩)).Nodup:=Pe (EQ.1 hall9).1 (EQ.1 hall9).2 (fun q hq=>by
   simp -implicitDefEqProofs only [List.mem_cons,List.not_mem_nil,or_false] at hq
   rcases hq with rfl | rfl
   ·exact ⟨_,_,rfl⟩
   ·exact ⟨_,_,rfl⟩) (by simp [AP,x1,x2])
  simp -implicitDefEqProofs -proj only [go_sem,seval,Fy]
  refine EN (fun y:OwY=>y.i≤all.length∧y.l=(if k0<y.i then l++[bk.getD k0 0] else l)∧(AP (J6 b3 b9 c m y)).Nodup) 41 (fun y=>[(1,.d (.sl 5 (AX all))),(2,Fu bk),(3,.ptr b3 0),(7,EU 0 1 y.c y.cap (Ad y.l)),(13,.d (.sl 5 (AX c.ms))),(14,i64 c.ms.length),(15,i64 i),(9,.ptr b9 0),(19,.d (.sl 5 (AX all))),(20,i64 all.length),(21,i64 y.i)]) (J6 b3 b9 c m) (fun y=>all.length-y.i) ⟨0,c1,cap,l⟩ ⟨Nat.zero_le _,by simp -implicitDefEqProofs only [Ho,G9]; rw [if_neg (Nat.not_lt_zero _)],hnd9⟩ rfl ?_ hall9 ?_
  ·simp -implicitDefEqProofs -proj only [go_sem,seval,AJ,Ho,IY,Ig,G9]
   try rfl
  clear hall9 hnd9 hall hnd hrow
  rintro ⟨j,c2,cap2,l2⟩ ⟨hj,hl2,hnd2⟩
  simp -implicitDefEqProofs only [Ho,G9] at hj hl2
  have hall2:=EV hnd2
  obtain ⟨H2,hH2⟩:∃H2,Ac (J6 b3 b9 c m ⟨j,c2,cap2,l2⟩)=H2:=⟨_,rfl⟩
  rw [hH2] at hall2
  simp -implicitDefEqProofs only [J6,IY,Ig,G9] at hall2 hnd2
  obtain ⟨hrow2,g3,g9,_⟩:=EQ.1 hall2
  by_cases hjl:j<all.length
  ·have q1:=G2 hjl
   have hot:=hoth j hjl
   generalize all[j]=o at *
   simp -implicitDefEqProofs -proj only [go_sem,seval,Ho,IY,Ig,G9,hH2,decide_eq_true (show (j:Int)<all.length by omega)]
   refine Ag _ (by omega) q1 ?_
   simp -implicitDefEqProofs -proj only [go_sem,seval]
   refine AI (fun b11 hb11=>?_)
   replace hb11:H2 b11=none:=hb11
   obtain ⟨z1,z2⟩:=AK hb11 g9
   have hall11:AZ (upd H2 b11 (some (F6 o))) (J6 b3 b9 c m ⟨j,c2,cap2,l2⟩):=Ap hb11 hall2
   by_cases hjk:j=k0
   ·subst hjk
    rw [decide_eq_true rfl] at hot
    rw [if_neg (Nat.lt_irrefl _)] at hl2
    subst hl2
    have hb:=Lo (l:=bk) (i:=j) (by omega)
    rw [show bk[j]=bk.getD j 0 by simp [show j<bk.length by omega]] at hb
    generalize bk.getD j 0=q at *
    simp -implicitDefEqProofs -proj only [go_sem,seval,z1,z2,g9,IN,hot]
    refine Ag _ (by omega) hb ?_
    simp -implicitDefEqProofs -proj only [go_sem,seval,z1,z2,g9]
    refine EO (fun bs hs=>?_)
    simp -implicitDefEqProofs -proj only [go_sem,seval]
    refine FX (xs:=Ad l2) (y:=[.int .i64 q]) (t:=3) (capc:=1) [(b3,Ea c),(b9,F6 m)] rfl (Ap hs hall11) hnd2 (by simp -implicitDefEqProofs -proj only [go_sem,seval]; try rfl) (by rw [Ei]; omega) (by rw [Ei]; omega) (fun H6 c3 cap3 ha6 hk6=>?_)
    have esn:Ad l2++[[.int .i64 q]]=Ad (l2++[q]):=by simp [Ad]
    have hne:Ad (l2++[q])≠[]:=by rw [←esn]; simp
    have hl3:(Ad (l2++[q])).length=(Ad l2).length+1:=by rw [←esn,List.length_append]; rfl
    rw [esn] at ha6 hk6
    simp -implicitDefEqProofs -proj only [go_sem,seval,AU (show j<9223372036854775807 by omega)]
    refine AY ⟨j+1,c3,cap3,l2++[q]⟩ ⟨by show j+1≤all.length; omega,by simp -implicitDefEqProofs only [Ho,G9]; rw [if_pos (by omega)],hk6⟩ (by show all.length-(j+1)<all.length-j; omega) rfl ?_ ha6
    simp -implicitDefEqProofs -proj only [go_sem,seval,AJ,Ho,IY,Ig,G9,Eg hne,hl3]
   ·rw [decide_eq_false hjk] at hot
    have hl2':l2=(if k0<j+1 then l++[bk.getD k0 0] else l):=by
     rw [hl2]
     by_cases hx:k0<j
     ·rw [if_pos hx,if_pos (by omega)]
     ·rw [if_neg hx,if_neg (by omega)]
    simp -implicitDefEqProofs -proj only [go_sem,seval,z1,z2,g9,IN,hot,AU (show j<9223372036854775807 by omega)]
    refine AY ⟨j+1,c2,cap2,l2⟩ ⟨by show j+1≤all.length; omega,by simp -implicitDefEqProofs only [Ho,G9]; exact hl2',hnd2⟩ (by show all.length-(j+1)<all.length-j; omega) rfl ?_ hall11
    simp -implicitDefEqProofs -proj only [go_sem,seval,AJ,Ho,IY,Ig,G9]
  ·obtain rfl:j=all.length:=by omega
   rw [if_pos hk0] at hl2
   have hall3:AZ H2 (LB b3 c ⟨i+1,c2,cap2,l2⟩):=EQ.2 ⟨hrow2,g3,trivial⟩
   have hnd3:(AP (LB b3 c ⟨i+1,c2,cap2,l2⟩)).Nodup:=Pe hrow2 (show AZ H2 [(b3,Ea c)] from ⟨g3,trivial⟩) (fun q hq=>by
    simp -implicitDefEqProofs only [List.mem_cons,List.not_mem_nil,or_false] at hq
    rcases hq with rfl
    exact ⟨_,_,rfl⟩) (by simp [AP])
   simp -implicitDefEqProofs -proj only [go_sem,seval,Ho,IY,Ig,G9,hH2,decide_eq_false (show ¬(all.length:Int)<all.length by omega),AU (show i<9223372036854775807 by omega)]
   refine AY ⟨i+1,c2,cap2,l2⟩ ⟨by show i+1≤c.ms.length; omega,by simp -implicitDefEqProofs only [Ho,G9]; rw [hl2,htk],hnd3⟩ (by show c.ms.length-(i+1)<c.ms.length-i; omega) rfl ?_ hall3
   simp -implicitDefEqProofs -proj only [go_sem,seval,AJ,Ho,IY,Ig,G9]
 ·obtain rfl:i=c.ms.length:=by omega
  have htk:(HS c.ms all bk).take c.ms.length=HS c.ms all bk:=List.take_of_length_le (by rw [N8]; exact Nat.le_refl _)
  rw [htk] at hl
  subst hl
  simp -implicitDefEqProofs -proj only [go_sem,seval,Ho,IY,Ig,G9,hH,decide_eq_false (show ¬(c.ms.length:Int)<c.ms.length by omega)]
  exact Id hrow
def ALm (c:CoreX) (d:Int):Prop:=(∀s∈c.ss,¬(s.f=d∨s.t=d-1))∧∀x∈c.ps,¬(x.f=d∨x.t=d-1)
noncomputable instance (c:CoreX) (d:Int):Decidable (ALm c d):=Classical.propDecidable _
section
variable (a b:CoreX)
end
theorem ARr {m:Nat} {G:Nat→Int}:∀{o:Option Nat},(∀j,o=some j→j<m)→sg (fun j=>if o=some j then G j else 0) m=(match o with | some j=>G j | none=>0)
 | none,_=>by simp -implicitDefEqProofs only [reduceCtorEq,if_false]; exact Lv m
 | some j0,h=>by
  have e:sg (fun j=>if some j0=some j then G j else 0) m=sg (fun j=>if j=j0 then G j0 else 0) m:=HH fun j _=>by
   by_cases c:j=j0
   ·subst c; rw [if_pos rfl,if_pos rfl]
   ·rw [if_neg (fun k=>c (Option.some.inj k).symm),if_neg c]
  rw [e,OB,if_pos (h j0 rfl)]
theorem ALT {n m:Nat} {G:Nat→Nat→Int} {f:Nat→Option Nat} {g:Nat→Nat} (hf:∀k,k<n→∀j,j<m→(f k=some j↔g j=k)) (hg:∀j,j<m→g j<n) (hfm:∀k,k<n→∀j,f k=some j→j<m):sg (fun k=>match f k with | some j=>G k j | none=>0) n=sg (fun j=>G (g j) j) m:=by
 have e1:sg (fun k=>match f k with | some j=>G k j | none=>0) n=sg (fun k=>sg ((fun k j=>if f k=some j then G k j else 0) k) m) n:=HH fun k hk=>(ARr (hfm k hk)).symm
 rw [e1,N7]
 refine HH fun j hj=>?_
 have e2:sg (fun k=>if f k=some j then G k j else 0) n=sg (fun k=>if k=g j then G (g j) j else 0) n:=HH fun k hk=>by
  by_cases c:k=g j
  ·rw [if_pos ((hf k hk j hj).2 c.symm),if_pos c,c]
  ·rw [if_neg (fun x=>c ((hf k hk j hj).1 x).symm),if_neg c]
 rw [e2,OB,if_pos (hg j hj)]
def Ri (ms:List MeterX) (ls:List (List Int)) (m:MeterX) (q:Int):Int:=(GS ms ls m).getD q.toNat 0
def G1 (ls:List (List Int)) (bk:List Int) (k:Nat):Int:=(ls.getD k []).getD (bk.getD k 0).toNat 0
theorem Md {c:CoreX} {d:Int} {m:MeterX} (h:∀o∈c.ms,o.nm=m.nm→o=m):(GS c.ms (Eb c d c.ms.length) m).length=(m.mx+1).toNat:=by
 unfold GS
 split
 ·next i hi =>
  obtain ⟨h1,h2,_⟩:=List.findIdx?_eq_some_iff_getElem.1 hi
  have e:=h _ (List.getElem_mem h1) (H9 (by simpa [I2] using h2))
  rw [List.getD_eq_getElem?_getD,List.getElem?_eq_getElem (by rw [HL]; exact h1)]
  simp -implicitDefEqProofs only [Option.getD_some]
  rw [M4 h1 h1,Kf,e]
 ·simp
theorem YI {c:CoreX} {d:Int} {m:MeterX} (h:∀o∈c.ms,o.nm=m.nm→o=m) {q:Int} (h0:0≤q) (hq:q≤m.mx):Ri c.ms (Eb c d c.ms.length) m q=(match c.ms.findIdx? (Ek m.nm) with | some j=>HV c d j q | none=>0):=by
 unfold Ri GS
 rw [P2]
 cases hi:c.ms.findIdx? (Ek m.nm) with
 | none =>
  simp -implicitDefEqProofs only [List.getD_eq_getElem?_getD,List.getElem?_replicate]
  split <;> rfl
 | some i =>
  obtain ⟨h1,h2,_⟩:=List.findIdx?_eq_some_iff_getElem.1 hi
  have e:=h _ (List.getElem_mem h1) (H9 (by simpa [Ek] using h2))
  simp -implicitDefEqProofs only [List.getD_eq_getElem?_getD,List.getElem?_eq_getElem (show i<(Eb c d c.ms.length).length by rw [HL]; exact h1),Option.getD_some]
  rw [M4 h1 h1,e,List.getElem?_eq_getElem (by rw [Kf]; omega),Option.getD_some,AMY (by omega)]
  congr 1
  omega
theorem S5 {c:CoreX} {d:Int} {all:List MeterX} {bk:List Int} (hp:all.Pairwise GM) (hc:c.ms.Pairwise GM) (hin:∀m∈c.ms,m∈all) (hu:∀m∈all,∀o∈c.ms,o.nm=m.nm→o=m) (hlen:bk.length=all.length) (hbk:∀(k:Nat) (h:k<all.length) (h':k<bk.length),0≤bk[k]∧bk[k]≤all[k].mx):sg (fun k=>G1 (Am c.ms (Eb c d c.ms.length) all) bk k) all.length=sg (fun m=>HV c d m (bq (HS c.ms all bk) m)) c.ms.length:=by
 have e1:sg (fun k=>G1 (Am c.ms (Eb c d c.ms.length) all) bk k) all.length=sg (fun k=>match (match all[k]? with | some m=>c.ms.findIdx? (Ek m.nm) | none=>none) with | some j=>HV c d j (bk.getD k 0) | none=>0) all.length:=HH fun k hk=>by
  have hb:=hbk k hk (by omega)
  have h1:(Am c.ms (Eb c d c.ms.length) all).getD k []=GS c.ms (Eb c d c.ms.length) all[k]:=by
   rw [List.getD_eq_getElem?_getD,List.getElem?_eq_getElem (by rw [Ft]; exact hk)]
   simp [Am]
  have h2:bk.getD k 0=bk[k]:=by simp [show k<bk.length by omega]
  unfold G1
  rw [h1,h2,List.getElem?_eq_getElem hk]
  exact YI (hu _ (List.getElem_mem hk)) hb.1 hb.2
 rw [e1]
 have hfind:∀j,(hj:j<c.ms.length)→∃k,∃(hk:k<all.length),all.findIdx? (Ek c.ms[j].nm)=some k∧all[k].nm=c.ms[j].nm:=fun j hj=>by
  obtain ⟨k,hk,e⟩:=List.getElem_of_mem (hin _ (List.getElem_mem hj))
  exact ⟨k,hk,ME hp hk (by rw [e]),by rw [e]⟩
 have:=ALT (n:=all.length) (m:=c.ms.length) (G:=fun k j=>HV c d j (bk.getD k 0)) (f:=fun k=>match all[k]? with | some m=>c.ms.findIdx? (Ek m.nm) | none=>none) (g:=fun j=>match c.ms[j]? with | some m=>(all.findIdx? (Ek m.nm)).getD 0 | none=>0)
  (fun k hk j hj=>by
   simp -implicitDefEqProofs only [List.getElem?_eq_getElem hk,List.getElem?_eq_getElem hj]
   obtain ⟨k',hk',f1,f2⟩:=hfind j hj
   rw [f1,Option.getD_some]
   constructor
   ·intro h
    obtain ⟨_,h2,_⟩:=List.findIdx?_eq_some_iff_getElem.1 h
    exact MK hp hk' hk (f2.trans (H9 (by simpa [Ek] using h2)))
   ·rintro rfl
    exact ME hc hj f2.symm)
  (fun j hj=>by
   obtain ⟨k',hk',f1,f2⟩:=hfind j hj
   simp -implicitDefEqProofs only [List.getElem?_eq_getElem hj,f1,Option.getD_some]
   exact hk')
  (fun k hk j h=>by
   simp -implicitDefEqProofs only [List.getElem?_eq_getElem hk] at h
   exact (List.findIdx?_eq_some_iff_getElem.1 h).1)
 rw [this]
 refine HH fun j hj=>?_
 obtain ⟨k',hk',f1,f2⟩:=hfind j hj
 simp -implicitDefEqProofs only [List.getElem?_eq_getElem hj,f1,Option.getD_some]
 congr 1
 unfold bq HS
 simp -implicitDefEqProofs only [Int.toNat_natCast,List.getD_eq_getElem?_getD,List.getElem?_map,List.getElem?_eq_getElem hj,Option.map_some,Option.getD_some]
 unfold L9
 rw [f1]
 simp
theorem T4 {c:CoreX} (hg:goodC c) {all:List MeterX} {bk:List Int} (hp:all.Pairwise GM) (hin:∀m∈c.ms,m∈all) (hlen:bk.length=all.length) (hbk:∀(k:Nat) (h:k<all.length) (h':k<bk.length),0≤bk[k]∧bk[k]≤all[k].mx):Jp c (HS c.ms all bk):=by
 refine ⟨N8,fun m h1 h2=>?_⟩
 obtain ⟨k,hk,e⟩:=List.getElem_of_mem (hin _ (List.getElem_mem h2))
 have f1:=ME hp hk (nm:=c.ms[m].nm) (by rw [e])
 have hb:=hbk k hk (by omega)
 have:(HS c.ms all bk)[m]=bk[k]:=by
  simp -implicitDefEqProofs only [HS,List.getElem_map,L9,f1]
  simp [show k<bk.length by omega]
 rw [this,←e]
 exact hb
theorem AIG {a b:List (List Int)} {bk:List Int} (h:a.length=b.length) {k:Nat} (hk:k<a.length) (hl:(a.getD k []).length=(b.getD k []).length):G1 (FY a b) bk k=G1 a bk k-G1 b bk k:=by
 unfold G1
 have e:(FY a b).getD k []=Ht (a.getD k []) (b.getD k []):=by
  unfold FY
  simp -implicitDefEqProofs only [List.getD_eq_getElem?_getD,List.getElem?_zipWith,List.getElem?_eq_getElem hk,List.getElem?_eq_getElem (show k<b.length by omega),Option.getD_some]
 rw [e]
 generalize a.getD k []=x at *
 generalize b.getD k []=y at *
 generalize (bk.getD k 0).toNat=q
 unfold Ht
 simp -implicitDefEqProofs only [List.getD_eq_getElem?_getD,List.getElem?_zipWith]
 by_cases hq:q<x.length
 ·rw [List.getElem?_eq_getElem hq,List.getElem?_eq_getElem (show q<y.length by omega)]
  rfl
 ·rw [List.getElem?_eq_none (by omega),List.getElem?_eq_none (show y.length≤q by omega)]
  rfl
theorem TS {g h:Nat→Int}:∀n:Nat,sg (fun i=>g i-h i) n=sg g n-sg h n
 | 0=>rfl
 | n+1=>by rw [sg,sg,sg,TS n]; omega
theorem ANP {a b:CoreX} {d:Int} (ga:fitsC a) (gb:fitsC b) (hu:UniqM a.ms b.ms) {bk:List Int} (hlen:bk.length=(ES a.ms b.ms).length) (hbk:∀(k:Nat) (h:k<(ES a.ms b.ms).length) (h':k<bk.length),0≤bk[k]∧bk[k]≤(ES a.ms b.ms)[k].mx):Ir a d-Ir b d+sg (fun k=>G1 (FY (Am a.ms (Eb a d a.ms.length) (ES a.ms b.ms)) (Am b.ms (Eb b d b.ms.length) (ES a.ms b.ms))) bk k) (ES a.ms b.ms).length=IT a d (HS a.ms (ES a.ms b.ms) bk)-IT b d (HS b.ms (ES a.ms b.ms) bk):=by
 have hp:=(JR a.ms b.ms).1
 have hmem:=K8 hu
 generalize ES a.ms b.ms=all at *
 have ua:∀m∈all,∀o∈a.ms,o.nm=m.nm→o=m:=fun m hm o ho e=>hu o m (.inl ho) ((hmem m).1 hm) e
 have ub:∀m∈all,∀o∈b.ms,o.nm=m.nm→o=m:=fun m hm o ho e=>hu o m (.inr ho) ((hmem m).1 hm) e
 have wa:=S5 (d:=d) hp (LC ga.good.ms) (fun m hm=>(hmem m).2 (.inl hm)) ua hlen hbk
 have wb:=S5 (d:=d) hp (LC gb.good.ms) (fun m hm=>(hmem m).2 (.inr hm)) ub hlen hbk
 rw [Py (fitsC.bnd ga.good).me,Py (fitsC.bnd gb.good).me]
 have:sg (fun k=>G1 (FY (Am a.ms (Eb a d a.ms.length) all) (Am b.ms (Eb b d b.ms.length) all)) bk k) all.length=sg (fun k=>G1 (Am a.ms (Eb a d a.ms.length) all) bk k-G1 (Am b.ms (Eb b d b.ms.length) all) bk k) all.length:=HH fun k hk=>by
  refine AIG (by rw [Ft,Ft]) (by rw [Ft]; exact hk) ?_
  have e:∀(ms:List MeterX) (ls:List (List Int)),(Am ms ls all).getD k []=GS ms ls all[k]:=fun ms ls=>by
   rw [List.getD_eq_getElem?_getD,List.getElem?_eq_getElem (by rw [Ft]; exact hk)]
   simp [Am]
  rw [e,e,Md (ua _ (List.getElem_mem hk)),Md (ub _ (List.getElem_mem hk))]
 rw [this,TS]
 have wa':sg (G1 (Am a.ms (Eb a d a.ms.length) all) bk) all.length=_:=wa
 have wb':sg (G1 (Am b.ms (Eb b d b.ms.length) all) bk) all.length=_:=wb
 omega
theorem AC0 {a b:CoreX} {d:Int} (ga:fitsC a) (gb:fitsC b) (hu:UniqM a.ms b.ms) {x:TwX} (e1:x.a.v=FO a.ms (ES a.ms b.ms) (Eo a d)) (e2:x.b.v=FO b.ms (ES a.ms b.ms) (Eo b d)) (hm:∀m∈ES a.ms b.ms,0≤m.mx∧m.mx≤2000) (hl:(ES a.ms b.ms).length≤8):GapOK x:=by
 have hmem:=K8 hu
 generalize ES a.ms b.ms=all at *
 have ua:∀m∈all,∀o∈a.ms,o.nm=m.nm→o=m:=fun m hm o ho e=>hu o m (.inl ho) ((hmem m).1 hm) e
 have ub:∀m∈all,∀o∈b.ms,o.nm=m.nm→o=m:=fun m hm o ho e=>hu o m (.inr ho) ((hmem m).1 hm) e
 have oa:=P4 ga d
 have ob:=P4 gb d
 have ca:=K5 (own:=a.ms) (ls:=Eb a d a.ms.length) (all:=all) (by rw [HL]) oa.c hm
 have cb:=K5 (own:=b.ms) (ls:=Eb b d b.ms.length) (all:=all) (by rw [HL]) ob.c hm
 have hbnd:∀(c:CoreX),okV (Eo c d)→∀m,∀v∈GS c.ms (Eb c d c.ms.length) m,-1152921504606846976≤v∧v≤1152921504606846976:=fun c oc m v hv=>by
  unfold GS at hv
  split at hv
  ·next i hi =>
   obtain ⟨h1,_⟩:=List.findIdx?_eq_some_iff_getElem.1 hi
   rw [List.getD_eq_getElem?_getD,List.getElem?_eq_getElem (by rw [HL]; exact h1),Option.getD_some] at hv
   exact oc.b _ (List.getElem_mem _) v hv
  ·rw [(List.mem_replicate.1 hv).2]; omega
 have fa:=oa.f
 have fb:=ob.f
 have ea:x.a.v.1=(Eo a d).1:=by rw [e1]; rfl
 have eb:x.b.v.1=(Eo b d).1:=by rw [e2]; rfl
 have ea2:x.a.v.2=Am a.ms (Eb a d a.ms.length) all:=by rw [e1]; rfl
 have eb2:x.b.v.2=Am b.ms (Eb b d b.ms.length) all:=by rw [e2]; rfl
 refine ⟨by rw [ea2,eb2,Ft,Ft],by rw [ea2,Ft]; omega,⟨by rw [ea]; unfold Fit; omega,by rw [eb]; unfold Fit; omega,by rw [ea,eb]; unfold Fit; omega⟩,by rw [ea2]; exact ca,by rw [eb2]; exact cb,fun i h1 h2=>?_⟩
 simp -implicitDefEqProofs only [ea2,eb2] at h1 h2 ⊢
 rw [Ft] at h1
 simp -implicitDefEqProofs only [Am,List.getElem_map]
 have l1:=Md (d:=d) (ua _ (List.getElem_mem h1))
 have l2:=Md (d:=d) (ub _ (List.getElem_mem h1))
 have b1:=hbnd a oa all[i]
 have b2:=hbnd b ob all[i]
 have hmx:=hm _ (List.getElem_mem h1)
 refine ⟨by rw [l1,l2],fun e=>?_,?_,fun v hv=>?_⟩
 ·have:=congrArg List.length e
  unfold Ht at this
  rw [List.length_zipWith,l1,l2] at this
  simp at this; omega
 ·unfold Ht
  rw [List.length_zipWith,l1,l2]; omega
 ·unfold Ht at hv
  obtain ⟨j,hj,rfl⟩:=List.getElem_of_mem hv
  rw [List.length_zipWith] at hj
  rw [List.getElem_zipWith]
  have x1:=b1 _ (List.getElem_mem (show j<_ by omega))
  have x2:=b2 _ (List.getElem_mem (show j<_ by omega))
  unfold F4
  omega
theorem RQ {c:CoreX} (hc:c.Fit) (hf:fitsC c) {d:Int} {b:List Int} (hb:Jp c b):DataW Try.prog SD [F9 c,i64 d,Fu b] (.tup [i64 (IT c d b),i64 0]):=by
 have h:=ABn (d:=d) hc hf.good hb
 obtain ⟨l,h1,h2⟩:=ADP hf (d:=d) hb
 rw [h1] at h
 simp -implicitDefEqProofs only [h2] at h
 exact h
noncomputable def Hn (a b:CoreX) (d:Int) (bk:List Int) (i:Nat):Int:=Ir a d-Ir b d+sg (G1 (FY (Am a.ms (Eb a d a.ms.length) (ES a.ms b.ms)) (Am b.ms (Eb b d b.ms.length) (ES a.ms b.ms))) bk) i
theorem Wy {a b:CoreX} {d:Int} {bk:List Int} {i:Nat}:IntKind.i64.wrap (IntKind.i64.wrap (Hn a b d bk i)+G1 (FY (Am a.ms (Eb a d a.ms.length) (ES a.ms b.ms)) (Am b.ms (Eb b d b.ms.length) (ES a.ms b.ms))) bk i)=IntKind.i64.wrap (Hn a b d bk (i+1)):=by
 have e:Hn a b d bk (i+1)=Hn a b d bk i+G1 (FY (Am a.ms (Eb a d a.ms.length) (ES a.ms b.ms)) (Am b.ms (Eb b d b.ms.length) (ES a.ms b.ms))) bk i:=by
  unfold Hn; rw [sg]; omega
 rw [e]
 generalize Hn a b d bk i=n
 generalize G1 _ bk i=m
 simp -implicitDefEqProofs only [IntKind.wrap_i64]
 omega
set_option maxHeartbeats 4000000 in
theorem PairGaps_ok {a b:CoreX} {d:Int} {bk:List Int} (ha:a.Fit) (hb:b.Fit) (hd:Fit d) (hfb:Jb bk) (hbn:bk.length≤9223372036854775807):DataW Try.prog AG0 [F9 a,F9 b,i64 d,Fu bk] (bv true):=by
 refine Aj AGB (by simp) ?_
 simp -implicitDefEqProofs -proj only [go_sem,seval]
 refine AI (fun b4 hb4=>?_)
 simp -implicitDefEqProofs -proj only [go_sem,seval]
 refine AI (fun b5 hb5=>?_)
 replace hb5:upd Heap.none b4 _ b5=none:=hb5
 obtain ⟨n1,n2⟩:=AK hb5 AN
 simp -implicitDefEqProofs -proj only [go_sem,seval,n1,n2]
 refine AL NM ?_
 simp -implicitDefEqProofs -proj only [go_sem,seval,n1,n2]
 by_cases g:fitsC a∧fitsC b
 rotate_left
 ·refine AL (Oi ha hb g) ?_
  simp -implicitDefEqProofs -proj only [go_sem,seval,n1,n2]
  refine AI (fun b9 hb9=>?_)
  simp -implicitDefEqProofs -proj only [go_sem,seval]
  refine AI (fun b10 hb10=>?_)
  replace hb10:upd (upd (upd Heap.none b4 _) b5 _) b9 _ b10=none:=hb10
  obtain ⟨m1,m2⟩:=AK hb10 AN
  simp -implicitDefEqProofs -proj only [go_sem,seval,m1,m2]
  exact AM rfl
 obtain ⟨ga,gb⟩:=g
 refine AL (QK ha hb ga gb) ?_
 simp -implicitDefEqProofs -proj only [go_sem,seval,n1,n2]
 refine AI (fun b9 hb9=>?_)
 replace hb9:upd (upd Heap.none b4 _) b5 _ b9=none:=hb9
 obtain ⟨m3,m4⟩:=AK hb9 AN
 obtain ⟨m5,m6⟩:=AK hb9 (by rw [AF n1]; exact AN)
 simp -implicitDefEqProofs -proj only [go_sem,seval]
 refine AI (fun b10 hb10=>?_)
 replace hb10:upd (upd (upd Heap.none b4 _) b5 _) b9 _ b10=none:=hb10
 obtain ⟨m1,m2⟩:=AK hb10 AN
 obtain ⟨m7,m8⟩:=AK hb10 (by rw [AF m3]; exact AN)
 obtain ⟨m9,m10⟩:=AK hb10 (by rw [AF m5,AF n1]; exact AN)
 simp -implicitDefEqProofs -proj only [go_sem,seval,m1,m2]
 have fa:=KP ga
 have fb:=KP gb
 have hrl:=SQ (cu:=a.cur) (cu':=b.cur) (f:=a.f) (t:=a.t) (f':=b.f) (t':=b.t) (S:=Fv a) (S':=Fv b) (A:=a.ms) (B:=b.ms) (by have:=fa.ms8; omega) (by have:=fb.ms8; omega)
 rw [SA (LC gb.good.ms)] at hrl
 refine AL hrl ?_
 cases hl:Fz a.cur b.cur a.f a.t b.f b.t a.ms b.ms with
 | false =>
  simp -implicitDefEqProofs -proj only [go_sem,seval,m1,m2]
  exact AM rfl
 | true =>
 obtain ⟨q1,q2,q3,q4⟩:=QR hl
 have hu:=SH ga.good.ms gb.good.ms q4
 obtain ⟨hbm,hbl⟩:=Nq ga gb
 by_cases h8:(8:Int)<bk.length
 ·simp -implicitDefEqProofs -proj only [go_sem,seval,m1,m2,Ei,decide_eq_true h8]
  exact AM rfl
 obtain ⟨T,hT⟩:=FwdB.exists (ID (Eo a) (Eo b) a.ms b.ms (ES a.ms b.ms)) a.f (a.t+1-a.f).toNat
 have htf:=ga.good.hd.2.1.1
 rw [show a.f+((a.t+1-a.f).toNat:Int)=a.t+1 by omega] at hT
 have hlT:=hT.len
 have h39:=fa.tf
 have hmk:DataW Try.prog Ku [E7 a.cur a.f a.t a.ms (Fv a),E7 b.cur b.f b.t b.ms (Fv b)] (.tup [.d (.sl 5 (AX (ES a.ms b.ms))),.d (.sl 10 (An (T.map FL))),i64 0]):=by
  have fb2:=fb
  have hl2:=hl
  rw [←q2,←q3] at fb2 hl2
  have:=Lj (cu:=a.cur) (cu':=b.cur) fa fb2 hl2 hT
  rw [←q2,←q3]; exact this
 simp -implicitDefEqProofs -proj only [go_sem,seval,m1,m2,Ei,decide_eq_false h8]
 refine AL hmk ?_
 by_cases hln:(bk.length:Int)=(ES a.ms b.ms).length
 rotate_left
 ·simp -implicitDefEqProofs -proj only [go_sem,seval,m1,m2,Ei,Fy,decide_eq_false hln]
  exact AM rfl
 by_cases hd1:d<a.f
 ·simp -implicitDefEqProofs -proj only [go_sem,seval,m1,m2,m3,m4,m5,m6,m7,m8,m9,m10,n1,n2,Ei,Fy,decide_eq_true hln,decide_eq_true hd1]
  exact AM rfl
 by_cases hd2:a.t<d
 ·simp -implicitDefEqProofs -proj only [go_sem,seval,m1,m2,m3,m4,m5,m6,m7,m8,m9,m10,n1,n2,Ei,Fy,decide_eq_true hln,decide_eq_false hd1,decide_eq_true hd2]
  exact AM rfl
 simp -implicitDefEqProofs -proj only [go_sem,seval,m1,m2,m3,m4,m5,m6,m7,m8,m9,m10,n1,n2,Ei,Fy,decide_eq_true hln,decide_eq_false hd1,decide_eq_false hd2]
 have hln':bk.length=(ES a.ms b.ms).length:=by omega
 have hnn:∀k:Nat,(k:Int)<bk.length→k<bk.length:=fun k h=>by omega
 obtain ⟨all,hAll⟩:∃all,ES a.ms b.ms=all:=⟨_,rfl⟩
 rw [hAll] at hln' hln hT hbm hbl ⊢
 refine EN (fun i:Nat=>i≤bk.length∧∀(j:Nat) (h:j<all.length) (h':j<bk.length),j<i→0≤bk[j]∧bk[j]≤all[j].mx) 202 (fun i=>[(2,i64 d),(3,Fu bk),(4,.ptr b4 0),(5,.ptr b5 0),(12,.d (.sl 5 (AX all))),(13,.d (.sl 10 (An (T.map FL)))),(78,Fu bk),(79,i64 bk.length),(80,i64 i)]) (fun _=>[(b5,Ea b),(b4,Ea a)]) (fun i=>bk.length-i) 0 ⟨Nat.zero_le _,fun j _ _ h=>absurd h (Nat.not_lt_zero _)⟩ rfl ?_ ?_ ?_
 ·simp -implicitDefEqProofs -proj only [go_sem,seval,AJ,Ei]
  try rfl
 ·refine ⟨?_,?_,trivial⟩
  ·simp -implicitDefEqProofs -proj only [go_sem,seval,m1,m2,m3,m4,m5,m6,m7,m8,m9,m10,n1,n2]
  ·simp -implicitDefEqProofs -proj only [go_sem,seval,m1,m2,m3,m4,m5,m6,m7,m8,m9,m10,n1,n2]
 rintro i ⟨hi,hs⟩
 have hall:AZ (Ac [(b5,Ea b),(b4,Ea a)]) [(b5,Ea b),(b4,Ea a)]:=EV (by simp [AP,n1])
 by_cases h:i<bk.length
 ·have e1:=Lo h
  have e2:=G2 (l:=all) (i:=i) (by omega)
  have hgo:0≤bk[i]∧bk[i]≤all[i].mx→∀(j:Nat) (h:j<all.length) (h':j<bk.length),j<i+1→0≤bk[j]∧bk[j]≤all[j].mx:=fun e j h1 h2 h3=>by
   by_cases c:j=i
   ·subst c; exact e
   ·exact hs j h1 h2 (by omega)
  generalize bk[i]=q at *
  generalize all[i]=m at *
  by_cases c1:q<0
  ·simp -implicitDefEqProofs -proj only [go_sem,seval,decide_eq_true (show (i:Int)<bk.length by omega)]
   refine Ag _ (by omega) e1 ?_
   simp -implicitDefEqProofs -proj only [go_sem,seval,decide_eq_true c1]
   exact AM rfl
  by_cases c2:m.mx<q
  ·simp -implicitDefEqProofs -proj only [go_sem,seval,decide_eq_true (show (i:Int)<bk.length by omega)]
   refine Ag _ (by omega) e1 ?_
   simp -implicitDefEqProofs -proj only [go_sem,seval,decide_eq_false c1]
   refine Ag _ (by omega) e2 ?_
   simp -implicitDefEqProofs -proj only [go_sem,seval,decide_eq_true c2]
   exact AM rfl
  simp -implicitDefEqProofs -proj only [go_sem,seval,decide_eq_true (show (i:Int)<bk.length by omega)]
  refine Ag _ (by omega) e1 ?_
  simp -implicitDefEqProofs -proj only [go_sem,seval,decide_eq_false c1]
  refine Ag _ (by omega) e2 ?_
  simp -implicitDefEqProofs -proj only [go_sem,seval,decide_eq_false c2]
  refine AY (i+1) ⟨by omega,hgo (by omega)⟩ (by show bk.length-(i+1)<bk.length-i; omega) rfl ?_ hall
  simp -implicitDefEqProofs -proj only [go_sem,seval,AJ,AU (show i<9223372036854775807 by omega)]
 obtain rfl:i=bk.length:=by omega
 have hbk:∀(k:Nat) (h:k<all.length) (h':k<bk.length),0≤bk[k]∧bk[k]≤all[k].mx:=fun k h1 h2=>hs k h1 h2 h2
 clear hs hi h
 simp -implicitDefEqProofs -proj only [go_sem,seval,decide_eq_false (show ¬(bk.length:Int)<bk.length by omega),Ej]
 refine EN (fun i:Nat=>i≤T.length∧∀(j:Nat) (h:j<T.length),j<i→¬(T[j].f≤d∧d≤T[j].t)) 202 (fun i=>[(2,i64 d),(3,Fu bk),(4,.ptr b4 0),(5,.ptr b5 0),(12,.d (.sl 5 (AX all))),(97,.d (.sl 10 (An (T.map FL)))),(98,i64 T.length),(99,i64 i)]) (fun _=>[(b5,Ea b),(b4,Ea a)]) (fun i=>T.length-i) 0 ⟨Nat.zero_le _,fun j _ h=>absurd h (Nat.not_lt_zero _)⟩ rfl ?_ hall ?_
 ·simp -implicitDefEqProofs -proj only [go_sem,seval,AJ,Ej,List.length_map]
  try rfl
 rintro i ⟨hi,hs⟩
 by_cases h:i<T.length
 rotate_left
 ·exfalso
  obtain ⟨j,r,h1,h2,h3⟩:=hT.find (d:=d) (by omega) (by omega)
  obtain ⟨h4,rfl⟩:=List.getElem?_eq_some_iff.1 h1
  exact hs j h4 (by omega) ⟨h2,h3⟩
 have e1:=Mx (L:=T.map FL) (i:=i) (by rw [List.length_map]; exact h)
 have hsg:=hT.nth i _ (List.getElem?_eq_getElem h)
 have hgo:¬(T[i].f≤d∧d≤T[i].t)→∀(j:Nat) (h:j<T.length),j<i+1→¬(T[j].f≤d∧d≤T[j].t):=fun e j h1 h3=>by
  by_cases c:j=i
  ·subst c; exact e
  ·exact hs j h1 (by omega)
 rw [List.getElem_map] at e1
 generalize T[i]=s at *
 clear hs
 have f1:(FL s).f=s.f:=rfl
 have f2:(FL s).t=s.t:=rfl
 by_cases c1:d<s.f
 ·simp -implicitDefEqProofs -proj only [go_sem,seval,decide_eq_true (show (i:Int)<T.length by omega)]
  refine Ag _ (by omega) e1 ?_
  simp -implicitDefEqProofs -proj only [go_sem,seval]
  refine AI (fun b18 hb18=>?_)
  simp -implicitDefEqProofs -proj only [go_sem,seval,f1,f2,decide_eq_true c1]
  refine AY (i+1) ⟨by omega,hgo (by omega)⟩ (by show T.length-(i+1)<T.length-i; omega) rfl ?_ (Ap hb18 hall)
  simp -implicitDefEqProofs -proj only [go_sem,seval,AJ,AU (show i<9223372036854775807 by omega)]
 by_cases c2:s.t<d
 ·simp -implicitDefEqProofs -proj only [go_sem,seval,decide_eq_true (show (i:Int)<T.length by omega)]
  refine Ag _ (by omega) e1 ?_
  simp -implicitDefEqProofs -proj only [go_sem,seval]
  refine AI (fun b18 hb18=>?_)
  simp -implicitDefEqProofs -proj only [go_sem,seval,f1,f2,decide_eq_false c1,decide_eq_true c2]
  refine AY (i+1) ⟨by omega,hgo (by omega)⟩ (by show T.length-(i+1)<T.length-i; omega) rfl ?_ (Ap hb18 hall)
  simp -implicitDefEqProofs -proj only [go_sem,seval,AJ,AU (show i<9223372036854775807 by omega)]
 clear hgo
 have hv:=hsg.2.2.2.1 d (by omega) (by omega)
 rw [←hAll] at hv
 have v1:(FL s).a.v=FO a.ms (ES a.ms b.ms) (Eo a d):=(congrArg (·.1) hv).symm
 have v2:(FL s).b.v=FO b.ms (ES a.ms b.ms) (Eo b d):=(congrArg (·.2) hv).symm
 rw [←hAll] at hbm hbl
 have hok:=AC0 ga gb hu v1 v2 hbm hbl
 have hg:=Q0 hok
 obtain ⟨Dl,hDl⟩:∃Dl,FY (FL s).a.v.2 (FL s).b.v.2=Dl:=⟨_,rfl⟩
 have hDe:Dl=FY (Am a.ms (Eb a d a.ms.length) (ES a.ms b.ms)) (Am b.ms (Eb b d b.ms.length) (ES a.ms b.ms)):=by rw [←hDl,v1,v2]; rfl
 have hDn:Dl.length=all.length:=by
  rw [hDe]; unfold FY; rw [List.length_zipWith,Ft,Ft,hAll]; omega
 have hDc:∀(k:Nat) (hk:k<Dl.length) (hk':k<all.length),ER Dl[k]∧Dl[k].length=(all[k].mx+1).toNat:=fun k hk hk'=>by
  have hka:k<(FL s).a.v.2.length:=by rw [v1,Ob,hAll]; exact hk'
  have hkb:k<(FL s).b.v.2.length:=by rw [v2,Ob,hAll]; exact hk'
  obtain ⟨w1,w2⟩:=hok.wide k hka hkb
  have e:Dl[k]=Ht (FL s).a.v.2[k] (FL s).b.v.2[k]:=by
   simp -implicitDefEqProofs only [←hDl,FY,List.getElem_zipWith]
  refine ⟨by rw [e]; exact w2,?_⟩
  rw [e]
  have hla:(FL s).a.v.2[k].length=(all[k].mx+1).toNat:=by
   have hx:(FL s).a.v.2[k]=GS a.ms (Eb a d a.ms.length) all[k]:=by
    simp -implicitDefEqProofs only [v1,FO,Am,List.getElem_map,hAll]; rfl
   rw [hx]
   exact Md fun o ho e=>hu o _ (.inl ho) ((K8 hu _).1 (by rw [hAll]; exact List.getElem_mem hk')) e
  unfold Ht
  rw [List.length_zipWith,←w1,hla]; omega
 have hfx:(FL s).a.v.1-(FL s).b.v.1=IntKind.i64.wrap (Hn a b d bk 0):=by
  have hf:=hok.fit.2.2
  rw [show Hn a b d bk 0=(FL s).a.v.1-(FL s).b.v.1 by rw [v1,v2]; unfold Hn; simp -implicitDefEqProofs only [sg]; show _=Ir a d-Ir b d; omega]
  exact (ACE hf).symm
 rw [hDl,hfx,f1,f2] at hg
 rw [f1,f2] at e1
 have hst:=fun i=>Wy (a:=a) (b:=b) (d:=d) (bk:=bk) (i:=i)
 rw [←hDe] at hst
 have hcost:=ANP (d:=d) ga gb hu (bk:=bk) (by rw [hAll]; exact hln') (fun k h1 h2=>by
  have:=hbk k (by rw [←hAll]; exact h1) h2
  simpa only [hAll] using this)
 have hp:=(JR a.ms b.ms).1
 have hmem:=K8 hu
 rw [hAll] at hp hmem hcost
 have ba:=T4 ga.good hp (fun m hm=>(hmem m).2 (.inl hm)) hln' hbk
 have bb:=T4 gb.good hp (fun m hm=>(hmem m).2 (.inr hm)) hln' hbk
 have wa:=TZ (c:=a) (bk:=bk) hp (fun m hm=>⟨m,(hmem m).2 (.inl hm),rfl⟩) hln' (by omega) (by have:=ga.good.hd.2.2.2.1; omega)
 have wb:=TZ (c:=b) (bk:=bk) hp (fun m hm=>⟨m,(hmem m).2 (.inr hm),rfl⟩) hln' (by omega) (by have:=gb.good.hd.2.2.2.1; omega)
 have ra:=RQ ha ga (d:=d) ba
 have rb:=RQ hb gb (d:=d) bb
 have hfin:Hn a b d bk bk.length=IT a d (HS a.ms all bk)-IT b d (HS b.ms all bk):=by
  rw [←hcost,hln']
  unfold Hn
  rw [hAll]
 simp -implicitDefEqProofs -proj only [go_sem,seval,decide_eq_true (show (i:Int)<T.length by omega)]
 refine Ag _ (by omega) e1 ?_
 simp -implicitDefEqProofs -proj only [go_sem,seval]
 refine AI (fun b18 hb18=>?_)
 simp -implicitDefEqProofs -proj only [go_sem,seval,decide_eq_false c1,decide_eq_false c2]
 refine AL hg ?_
 simp -implicitDefEqProofs -proj only [go_sem,seval]
 refine AI (fun b19 hb19=>?_)
 replace hb19:upd (Ac [(b5,Ea b),(b4,Ea a)]) b18 _ b19=none:=hb19
 obtain ⟨z1,z2⟩:=AK hb19 AN
 have hall18:=Ap (y:=some (.box 48 [i64 s.f,i64 s.t,i64 (FL s).a.f,i64 (FL s).a.t,i64 (FL s).a.v.1,Ee (FL s).a.v.2,i64 (FL s).b.f,i64 (FL s).b.t,i64 (FL s).b.v.1,Ee (FL s).b.v.2])) hb18 hall
 have hall19:=HU (x:=.box 46 [i64 s.f,i64 s.t,i64 (IntKind.i64.wrap (Hn a b d bk 0)),Ee Dl]) hb19 hall18
 have hnd19:=HT (x:=.box 46 [i64 s.f,i64 s.t,i64 (IntKind.i64.wrap (Hn a b d bk 0)),Ee Dl]) hb19 hall18 (by simp [AP,n1])
 generalize hW0:IntKind.i64.wrap (Hn a b d bk 0)=w0 at *
 simp -implicitDefEqProofs -proj only [go_sem,seval,z1,z2,decide_true,FS,Fy,decide_eq_true (show (Dl.length:Int)=all.length by omega),Ei]
 refine EN (fun k:Nat=>k≤bk.length) 202 (fun k=>[(2,i64 d),(3,Fu bk),(4,.ptr b4 0),(5,.ptr b5 0),(12,.d (.sl 5 (AX all))),(19,.ptr b19 0),(21,i64 (IntKind.i64.wrap (Hn a b d bk k))),(144,Fu bk),(145,i64 bk.length),(146,i64 k)]) (fun _=>[(b19,.box 46 [i64 s.f,i64 s.t,i64 w0,Ee Dl]),(b5,Ea b),(b4,Ea a)]) (fun k=>bk.length-k) 0 (Nat.zero_le _) rfl ?_ hall19 ?_
 ·simp -implicitDefEqProofs -proj only [go_sem,seval,AJ,hW0,Ei]
  try rfl
 intro k hk
 have hallk:=EV hnd19
 by_cases hkl:k<bk.length
 ·have r1:=Lo hkl
  have r2:=JB (ls:=Dl) (i:=k) (by omega)
  obtain ⟨hc1,hc2⟩:=hDc k (by omega) (by omega)
  obtain ⟨hb1,hb2⟩:=hbk k (by omega) hkl
  have hgt:G1 Dl bk k=(Dl[k]'(by omega)).getD bk[k].toNat 0:=by
   unfold G1
   simp -implicitDefEqProofs only [List.getD_eq_getElem?_getD,List.getElem?_eq_getElem (show k<Dl.length by omega),List.getElem?_eq_getElem hkl,Option.getD_some]
  have hk2:=hst k
  rw [hgt] at hk2
  have hmxb:=hbm _ (by rw [hAll]; exact List.getElem_mem (show k<all.length by omega))
  generalize bk[k]=q at *
  generalize Dl[k]'(by omega)=L at *
  have hqL:q.toNat<L.length:=by rw [hc2]; omega
  have hat:=SP hc1 hqL
  rw [show ((q.toNat:Nat):Int)=q by omega,show L[q.toNat]=L.getD q.toNat 0 by simp [hqL]] at hat
  have hgd:=ACS (fun j hj=>by
   have:=hc1.2.2 _ (List.getElem_mem hj)
   unfold F4 at this
   unfold Fit; omega) hc1
  generalize L.getD q.toNat 0=v at *
  simp -implicitDefEqProofs -proj only [go_sem,seval,decide_eq_true (show (k:Int)<bk.length by omega)]
  refine Ag _ (by omega) r1 ?_
  simp -implicitDefEqProofs -proj only [go_sem,seval]
  refine Ag _ (by omega) r2 ?_
  simp -implicitDefEqProofs -proj only [go_sem,seval]
  refine AL hat ?_
  simp -implicitDefEqProofs -proj only [go_sem,seval]
  refine Ag _ (by omega) r2 ?_
  simp -implicitDefEqProofs -proj only [go_sem,seval]
  refine AL hgd ?_
  simp -implicitDefEqProofs -proj only [go_sem,seval,hk2]
  refine AY (k+1) (by show k+1≤bk.length; omega) (by show bk.length-(k+1)<bk.length-k; omega) rfl ?_ hallk
  simp -implicitDefEqProofs -proj only [go_sem,seval,AJ,AU (show k<9223372036854775807 by omega)]
 ·obtain rfl:k=bk.length:=by omega
  obtain ⟨y1,y2,y3,_⟩:=id hallk
  rw [hfin]
  simp -implicitDefEqProofs -proj only [go_sem,seval,decide_eq_false (show ¬(bk.length:Int)<bk.length by omega),y1,y2,y3]
  refine Eu wa ?_
  simp -implicitDefEqProofs -proj only [go_sem,seval,y1,y2,y3]
  refine AL ra ?_
  simp -implicitDefEqProofs -proj only [go_sem,seval,y1,y2,y3]
  refine Eu wb ?_
  simp -implicitDefEqProofs -proj only [go_sem,seval,y1,y2,y3]
  refine AL rb ?_
  simp -implicitDefEqProofs -proj only [go_sem,seval,y1,y2,y3]
  exact AM rfl
end Go.Proofs.Ytmhmmomnfbfkiaa.Abs
