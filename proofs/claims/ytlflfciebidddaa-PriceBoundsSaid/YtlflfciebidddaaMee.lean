/- Contracts of the machine and the contracts of one law (joined by kmerge.py). No claim stands here. -/
import Derived.Below
import Derived.Carry
import Derived.ChangeCalls
import Derived.ChangeOld
import Derived.IntWalk
import Derived.KernelRfl
import Derived.Laws.Append
import Derived.Laws.AppendOwn
import Derived.Laws.BytesArg
import Derived.Laws.Cells
import Derived.Laws.CopyRow
import Derived.Laws.Entries
import Derived.Laws.MakeOwn
import Derived.Laws.NewFold
import Derived.Laws.Rows
import Derived.Laws.StructEq
import Derived.OpenShut
import Derived.Orders
import Derived.OrdersIn
import Derived.ProofKit
import Derived.RangeFuncLeaves
import Derived.RangeFuncSeq
import Derived.SizedLaws
import Derived.TacticsIn
import Derived.WalkKit
import Derived.Test.YtlflfciebidddaaMed
set_option maxRecDepth 100000
set_option linter.unusedSimpArgs false
set_option linter.unusedVariables false
namespace Go.Proofs.Ytlflfciebidddaa.Abs
open Go Go.RowKit Go.Proofs
attribute [local go_sem] Dg B8 BZ Bs BW BY DD AZ Ac BF B1 D1 DI DP Bh De BD By Be Df C7 ED B7 Cp CH Cg BK D7 C5 CN C9 D4 BO Cu Cm Cc Bj Ds Bv Cz CV Dd C4 C2 Dj BX Bb Bw CT C0 Dn Cy Dl DE Co Bl EC DT Di D6 Du DB Dm Bt D0 BS Ch Dq BV CO DW A9 Da B3 A2 CA CJ Ax Bn Bi Bc CP C3 Cs C6 Dz DO Dv BQ EB C1 DM BC Bx Bp BH CK D3 Ct DN Bg BG DG D5 Bo A5 Bk A6 Av Dx Cl CZ AF ev Ab AS Ak Az Af DR CG Do Dp Ae Ah Dr CC BU Bz CR Cd DQ D8 Ck CU Ci BL Cj DL BN DJ DC Bf Dt DF Bd Bu A7 AU setSeg nth seg mapD Ai Au AL Aw BE Br Am AY cond_true cond_false A1 A8 A4 Ay BA Db Bm List.cons_append List.nil_append Bool.not_true Bool.not_false Bool.and_true Bool.and_self Nat.lt_add_left_iff_pos Nat.zero_add Nat.add_zero List.drop_succ_cons List.drop_zero List.take_succ_cons List.take_zero beq_self_eq_true Bool.false_eq_true Ce Cr DA BM Cv D2 Ca CE DK Ao and_self and_true true_and Cf CL CM AT Dy DS Dk Dc CB DH CS Ba B0 Bq Dw Cx DZ DV Aj Aq Ap Ad CI BJ CF BI CD CQ D9 CW B9 Dh CY List.length_cons List.length_nil Nat.min_def Int.cast_ofNat_Int Int.natCast_zero Int.natCast_one decide_true decide_false List.getElem?_cons_zero List.getElem?_cons_succ BP Cq Cb DY Cw BT EA Ar As Cn DU B2
theorem Mb {a b:Int} (ha:Fit a) (hb:Fit b):DataW Try.prog AQw [i64 a,i64 b] (GA (a+b)):=by
 refine A3 Y0 (by simp) ?_
 simp -implicitDefEqProofs -proj only [go_sem,seval]
 (repeat' first
  | ((with_reducible first | refine Ej (fun h=>?_) (fun h=>?_) | refine Eb (fun h=>?_) (fun h=>?_) | refine Er (fun h=>?_) (fun h=>?_)) <;> (simp -implicitDefEqProofs -proj only [go_sem,seval, *]; try (revert h; intro _)))
  | ((with_reducible first | refine Aa (fun _ hb=>?_) | refine EL (fun _ hb=>?_)); simp only [Em,Ep,AY,Heap.none_get,and_true,true_and] at hb; simp -implicitDefEqProofs -proj only [go_sem,seval, *]; try (revert hb; intro _))
  | ((with_reducible first | refine EZ _ rfl (by simp) ?_ | refine Es _ rfl (by simp) ?_); simp -implicitDefEqProofs -proj only [go_sem,seval, *])
  | (with_reducible refine BB ?_ (fun h=>?_); first | ((focus first | decide | omega); try clear h; try simp -implicitDefEqProofs -proj only [go_sem,seval, *]) | (rotate_left; try clear h; try simp -implicitDefEqProofs -proj only [go_sem,seval, *]; rotate_right)))
 all_goals
  simp -implicitDefEqProofs only [decide_eq_true_eq,decide_eq_false_iff_not,IntKind.wrap_i64] at *
  refine AJ (JO ?_)
  simp -implicitDefEqProofs only [Bool.false_eq_true,reduceCtorEq,true_and,false_and,or_false,false_or]
  unfold Fit at *
  omega
theorem Qk {a b:Int} (ha:Fit a) (hb:Fit b):DataW Try.prog AHd [i64 a,i64 b] (GA (a-b)):=by
 refine A3 AIc (by simp) ?_
 simp -implicitDefEqProofs -proj only [go_sem,seval]
 (repeat' first
  | ((with_reducible first | refine Ej (fun h=>?_) (fun h=>?_) | refine Eb (fun h=>?_) (fun h=>?_) | refine Er (fun h=>?_) (fun h=>?_)) <;> (simp -implicitDefEqProofs -proj only [go_sem,seval, *]; try (revert h; intro _)))
  | ((with_reducible first | refine Aa (fun _ hb=>?_) | refine EL (fun _ hb=>?_)); simp only [Em,Ep,AY,Heap.none_get,and_true,true_and] at hb; simp -implicitDefEqProofs -proj only [go_sem,seval, *]; try (revert hb; intro _))
  | ((with_reducible first | refine EZ _ rfl (by simp) ?_ | refine Es _ rfl (by simp) ?_); simp -implicitDefEqProofs -proj only [go_sem,seval, *])
  | (with_reducible refine BB ?_ (fun h=>?_); first | ((focus first | decide | omega); try clear h; try simp -implicitDefEqProofs -proj only [go_sem,seval, *]) | (rotate_left; try clear h; try simp -implicitDefEqProofs -proj only [go_sem,seval, *]; rotate_right)))
 all_goals
  simp -implicitDefEqProofs only [decide_eq_true_eq,decide_eq_false_iff_not,IntKind.wrap_i64] at *
  refine AJ (JO ?_)
  simp -implicitDefEqProofs only [Bool.false_eq_true,reduceCtorEq,true_and,false_and,or_false,false_or]
  unfold Fit at *
  omega
theorem R1 {a b:Int} (_ha:Fit a) (hb:Fit b) (h0:b≠0) (h1:b≠-1):IntKind.i64.wrap (Int.tdiv (IntKind.i64.wrap (a*b)) b)=a↔Fit (a*b):=by
 have hp:Fit (IntKind.i64.wrap (a*b)):=by rw [wI]; unfold Fit; omega
 have hpe:Fit (a*b)→IntKind.i64.wrap (a*b)=a*b:=FN
 have hpn:∃c:Int,IntKind.i64.wrap (a*b)=a*b+c*18446744073709551616:=⟨-((a*b+9223372036854775808) / 18446744073709551616),by rw [wI]; omega⟩
 generalize IntKind.i64.wrap (a*b)=p at *
 have hm:Int.natAbs (Int.tmod p b)<Int.natAbs b:=by
  rw [Int.natAbs_tmod]; exact Nat.mod_lt _ (by omega)
 have hd:=Int.mul_tdiv_add_tmod p b
 have hq:Fit (Int.tdiv p b):=by
  unfold Fit at *
  by_cases e1:b=1
  ·subst e1; rw [Int.tdiv_one]; exact hp
  have h3:Int.natAbs (Int.tdiv p b)≤p.natAbs / 2:=by
   rw [Int.natAbs_tdiv]; exact Nat.div_le_div_left (by omega) (by omega)
  omega
 rw [FN hq]
 constructor
 ·intro e
  rw [e,Int.mul_comm b a] at hd
  unfold Fit at *
  generalize Int.tmod p b=t at *
  generalize a*b=m at *
  omega
 ·intro f
  rw [hpe f]; exact Int.mul_tdiv_cancel a h0
theorem APP {a b:Int} (ha:Fit a) (hb:Fit b):DataW Try.prog AE5 [i64 a,i64 b] (GA (a*b)):=by
 have f0:Fit 0:=by decide
 refine A3 AEM (by simp) ?_
 simp -implicitDefEqProofs -proj only [go_sem,seval]
 (repeat' first
  | ((with_reducible first | refine Ej (fun h=>?_) (fun h=>?_) | refine Eb (fun h=>?_) (fun h=>?_) | refine Er (fun h=>?_) (fun h=>?_)) <;> (simp -implicitDefEqProofs -proj only [go_sem,seval, *]; try (revert h; intro _)))
  | ((with_reducible first | refine Aa (fun _ hb=>?_) | refine EL (fun _ hb=>?_)); simp only [Em,Ep,AY,Heap.none_get,and_true,true_and] at hb; simp -implicitDefEqProofs -proj only [go_sem,seval, *]; try (revert hb; intro _))
  | ((with_reducible first | refine EZ _ rfl (by simp) ?_ | refine Es _ rfl (by simp) ?_); simp -implicitDefEqProofs -proj only [go_sem,seval, *])
  | (with_reducible refine BB ?_ (fun h=>?_); first | ((focus first | decide | omega); try clear h; try simp -implicitDefEqProofs -proj only [go_sem,seval, *]) | (rotate_left; try clear h; try simp -implicitDefEqProofs -proj only [go_sem,seval, *]; rotate_right)))
 all_goals simp -implicitDefEqProofs only [decide_eq_true_eq,decide_eq_false_iff_not] at *
 ·next h=>subst h; exact AJ (JO (.inl ⟨rfl,by simp,by simpa using f0⟩))
 ·next h=>subst h; exact AJ (JO (.inl ⟨rfl,by simp,by simpa using f0⟩))
 ·next h =>
  subst h
  refine AQ (Qk f0 hb) ?_
  simp -implicitDefEqProofs -proj only [go_sem,seval,GA]
  exact AJ (by rw [show (0:Int)-b = -1*b by omega])
 ·next h =>
  subst h
  refine AQ (Qk f0 ha) ?_
  simp -implicitDefEqProofs -proj only [go_sem,seval,GA]
  exact AJ (by rw [show (0:Int)-a=a * -1 by omega])
 ·next h1 h2 h3 h4 h =>
  rw [R1 ha hb h2 h4] at h
  exact AJ (JO (.inl ⟨rfl,FN h,h⟩))
 ·next h1 h2 h3 h4 h =>
  rw [R1 ha hb h2 h4] at h
  exact AJ (JO (.inr ⟨rfl,rfl,h⟩))
 ·assumption
structure TStep where
 f:Int
 t:Int
 r:Int
abbrev TStep.av (s:TStep):AV:=.agg [i64 s.f,i64 s.t,i64 s.r]
def TStep.el (s:TStep):List D:=[.int .i64 s.f,.int .i64 s.t,.int .i64 s.r]
abbrev Ft (l:List TStep):List (List AV):=l.map fun s=>[s.av]
def Ju (T:List Tier) (q:Int) (i:Nat) (t:Tier):Int:=if i+1<T.length then min q t.u else q
def FF (T:List Tier) (q:Int):Nat→Int×List TStep
 | 0=>(0,[])
 | i+1=>match T[i]? with
  | some t=>(max (FF T q i).1 (Ju T q i t),if (FF T q i).1<Ju T q i t then (FF T q i).2++[⟨(FF T q i).1,Ju T q i t,t.r⟩] else (FF T q i).2)
  | none=>FF T q i
def J3 (T:List Tier) (q:Int):List TStep:=(FF T q T.length).2
theorem SJ {T:List Tier} {q:Int}:∀(n i:Nat),∃rest,(FF T q (i+n)).2=(FF T q i).2++rest
 | 0,i=>⟨[],by simp⟩
 | n+1,i=>by
  obtain ⟨rest,h⟩:=SJ (T:=T) (q:=q) n i
  rw [←Nat.add_assoc,FF]
  split
  ·simp -implicitDefEqProofs only []
   split
   ·exact ⟨rest++[_],by rw [h,List.append_assoc]⟩
   ·exact ⟨rest,h⟩
  ·exact ⟨rest,h⟩
theorem AQT {T:List Tier} {q:Int} {i:Nat} (h:i≤T.length):∃rest,J3 T q=(FF T q i).2++rest:=by
 obtain ⟨rest,hr⟩:=SJ (T:=T) (q:=q) (T.length-i) i
 exact ⟨rest,by rw [←hr,J3]; congr 2; omega⟩
theorem W4 {x:PartX} {q:Int} (hx:x.Fit) (hq:Fit q) (ha:0≤x.al) (hb:1≤x.bl):DataW Try.prog APY [Jc x,i64 q] (if q<0 then .tup [i64 0,bv false] else GA (ES (max (q-x.al) 0) x.bl 1*x.bl)):=by
 refine A3 ARW (by simp) ?_
 simp -implicitDefEqProofs -proj only [go_sem,seval]
 refine Aa (fun b2 hb2=>?_)
 by_cases h:q<0
 ·rw [if_pos h]
  simp -implicitDefEqProofs -proj only [go_sem,seval,decide_eq_true h]
  exact AJ rfl
 ·rw [if_neg h]
  have hal:=hx.al
  unfold Fit at hal hq
  have hw:IntKind.i64.wrap (q-x.al)=q-x.al:=by rw [IntKind.wrap_i64]; omega
  have hup:=ARF (a:=max (q-x.al) 0) (c:=x.bl) (by unfold Fit; omega) hx.bl
  rw [Mu,if_pos (by omega)] at hup
  simp -implicitDefEqProofs -proj only [go_sem,seval,decide_eq_false h,decide_eq_false (show ¬x.al<0 by omega),decide_eq_false (show ¬x.bl<1 by omega),hw]
  refine AQ hup ?_
  unfold GA
  simp -implicitDefEqProofs -proj only [go_sem,seval]
  exact AJ rfl
theorem XZ {b2 b3:Nat} {T:List Tier} {q:Int} (hl:T.length≤1000000):K1 Try.prog RT [.ptr b2 0,.ptr b3 0] [(b2,.box 36 [Fb T]),(b3,.box 3 [i64 q])] (Ft (J3 T q)):=by
 intro y H J X hA hS hY h0
 refine A3 AOS (by simp) ?_
 have hb:=(hA [] H h0).1
 simp -implicitDefEqProofs -proj only [go_sem,seval,hb,FP]
 refine QC (fun x:Nat×Heap=>x.1≤T.length∧J (Ft (FF T q x.1).2) x.2) (fun x=>⟨42,FM [(0,.yld y),(1,.ptr b2 0),(2,.ptr b3 0),(8,Fb T),(9,i64 T.length),(10,i64 x.1),(4,i64 (FF T q x.1).1)],x.2⟩) (fun x=>T.length-x.1) (0,H) ⟨Nat.zero_le _,h0⟩ (JL rfl ?_ (fun k=>.inr rfl)) ?_
 ·simp -implicitDefEqProofs -proj only [go_sem,seval,AP,FF]
 rintro ⟨i,H1⟩ ⟨hi,hj⟩
 simp -implicitDefEqProofs only [] at hi hj
 obtain ⟨h2,h3,_⟩:=hA _ _ hj
 by_cases h:i<T.length
 ·have hel:=LR h
  have hg:FF T q (i+1)=(max (FF T q i).1 (Ju T q i T[i]),if (FF T q i).1<Ju T q i T[i] then (FF T q i).2++[⟨(FF T q i).1,Ju T q i T[i],T[i].r⟩] else (FF T q i).2):=by rw [FF,List.getElem?_eq_getElem h]
  obtain ⟨rest,hrest⟩:=AQT (q:=q) (show i+1≤T.length by omega)
  have hwl:IntKind.i64.wrap ((T.length:Int)-1)=(T.length:Int)-1:=by rw [IntKind.wrap_i64]; omega
  generalize hN:FF T q (i+1)=N at *
  generalize FF T q i=Gi at *
  obtain ⟨fr,out⟩:=Gi
  simp -implicitDefEqProofs only [] at hg hj
  generalize T[i]=t at *
  have htt:Ju T q i t=if i+1<T.length then min q t.u else q:=rfl
  simp -implicitDefEqProofs -proj only [go_sem,seval,decide_eq_true (show (i:Int)<T.length by omega)]
  refine Eh _ (by omega) hel ?_
  simp -implicitDefEqProofs -proj only [go_sem,seval]
  refine Aa (fun b6 hb6=>?_)
  replace hb6:H1 b6=none:=hb6
  obtain ⟨m1,m2⟩:=EG hb6 h2
  obtain ⟨m3,m4⟩:=EG hb6 h3
  have hj':=fun v=>hS _ _ b6 v hj hb6
  by_cases hm:i+1<T.length
  ·rw [if_pos hm] at htt
   rw [htt] at hg
   simp -implicitDefEqProofs -proj only [go_sem,seval,m1,m3,h2,h3,FP,hwl,decide_eq_true (show (i:Int)<(T.length:Int)-1 by omega)]
   by_cases hto:fr<min q t.u
   ·rw [if_pos hto] at hg
    subst hg
    have hxs:Ft (J3 T q)=Ft out++[(TStep.mk fr (min q t.u) t.r).av]::Ft rest:=by rw [hrest]; simp [Ft]
    simp -implicitDefEqProofs -proj only [go_sem,seval,m1,m3,h2,h3,decide_eq_true hto]
    refine NR (hY _ _ _ _ hxs (hj' _)) ?_
    rintro v H2 (⟨rfl,hj2⟩ | ⟨rfl,hx⟩)
    ·simp -implicitDefEqProofs -proj only [go_sem,seval]
     refine Lp (i+1,H2) ⟨by show i+1≤T.length; omega,?_⟩ (by show T.length-(i+1)<T.length-i; omega) (JL rfl ?_ (fun k=>.inr rfl))
     ·show J (Ft (FF T q (i+1)).2) H2
      rw [hN]
      simpa [Ft] using hj2
     ·simp -implicitDefEqProofs -proj only [go_sem,seval,AP,Ed (show i<9223372036854775807 by omega),hN]
    ·simp -implicitDefEqProofs -proj only [go_sem,seval]
     exact .inr hx
   ·rw [if_neg hto] at hg
    subst hg
    simp -implicitDefEqProofs -proj only [go_sem,seval,m1,m3,h2,h3,decide_eq_false hto]
    refine Lp (i+1,_) ⟨by show i+1≤T.length; omega,?_⟩ (by show T.length-(i+1)<T.length-i; omega) (JL rfl ?_ (fun k=>.inr rfl))
    ·show J (Ft (FF T q (i+1)).2) _
     rw [hN]
     exact hj' _
    ·simp -implicitDefEqProofs -proj only [go_sem,seval,AP,Ed (show i<9223372036854775807 by omega),hN]
  ·rw [if_neg hm] at htt
   rw [htt] at hg
   simp -implicitDefEqProofs -proj only [go_sem,seval,m1,m3,h2,h3,FP,hwl,decide_eq_false (show ¬(i:Int)<(T.length:Int)-1 by omega)]
   by_cases hto:fr<q
   ·rw [if_pos hto] at hg
    subst hg
    have hxs:Ft (J3 T q)=Ft out++[(TStep.mk fr q t.r).av]::Ft rest:=by rw [hrest]; simp [Ft]
    simp -implicitDefEqProofs -proj only [go_sem,seval,m1,m3,h2,h3,decide_eq_true hto]
    refine NR (hY _ _ _ _ hxs (hj' _)) ?_
    rintro v H2 (⟨rfl,hj2⟩ | ⟨rfl,hx⟩)
    ·simp -implicitDefEqProofs -proj only [go_sem,seval]
     refine Lp (i+1,H2) ⟨by show i+1≤T.length; omega,?_⟩ (by show T.length-(i+1)<T.length-i; omega) (JL rfl ?_ (fun k=>.inr rfl))
     ·show J (Ft (FF T q (i+1)).2) H2
      rw [hN]
      simpa [Ft] using hj2
     ·simp -implicitDefEqProofs -proj only [go_sem,seval,AP,Ed (show i<9223372036854775807 by omega),hN]
    ·simp -implicitDefEqProofs -proj only [go_sem,seval]
     exact .inr hx
   ·rw [if_neg hto] at hg
    subst hg
    simp -implicitDefEqProofs -proj only [go_sem,seval,m1,m3,h2,h3,decide_eq_false hto]
    refine Lp (i+1,_) ⟨by show i+1≤T.length; omega,?_⟩ (by show T.length-(i+1)<T.length-i; omega) (JL rfl ?_ (fun k=>.inr rfl))
    ·show J (Ft (FF T q (i+1)).2) _
     rw [hN]
     exact hj' _
    ·simp -implicitDefEqProofs -proj only [go_sem,seval,AP,Ed (show i<9223372036854775807 by omega),hN]
 ·have hi':i=T.length:=by omega
  subst hi'
  simp -implicitDefEqProofs -proj only [go_sem,seval,decide_eq_false (show ¬(T.length:Int)<T.length by omega)]
  exact .inl hj
def Ic (T:List Tier) (q:Int):Nat→List TStep
 | 0=>[]
 | n+1=>match T[T.length-(n+1)]? with
  | some t=>if n=0∨q≤t.u then (if 0<q then [⟨0,q,t.r⟩] else []) else Ic T q n
  | none=>[]
def JY (T:List Tier) (q:Int):List TStep:=Ic T q T.length
theorem ALS {b2 b3:Nat} {T:List Tier} {q:Int} (hl:T.length≤1000000):K1 Try.prog RG [.ptr b2 0,.ptr b3 0] [(b2,.box 36 [Fb T]),(b3,.box 3 [i64 q])] (Ft (JY T q)):=by
 intro y H J X hA hS hY h0
 refine A3 WG (by simp) ?_
 have hb:=(hA [] H h0).1
 simp -implicitDefEqProofs -proj only [go_sem,seval,hb,FP]
 refine QC (fun x:Nat×Heap=>x.1≤T.length∧JY T q=Ic T q (T.length-x.1)∧J [] x.2) (fun x=>⟨33,FM [(0,.yld y),(1,.ptr b2 0),(2,.ptr b3 0),(6,Fb T),(7,i64 T.length),(8,i64 x.1)],x.2⟩) (fun x=>T.length-x.1) (0,H) ⟨Nat.zero_le _,rfl,h0⟩ (JL rfl ?_ (fun k=>.inr rfl)) ?_
 ·simp -implicitDefEqProofs -proj only [go_sem,seval,AP]
 rintro ⟨i,H1⟩ ⟨hi,hv,hj⟩
 simp -implicitDefEqProofs only [] at hi hj hv
 obtain ⟨h2,h3,_⟩:=hA _ _ hj
 by_cases h:i<T.length
 ·have hel:=LR h
  obtain ⟨n,hn⟩:∃n,T.length-i=n+1:=⟨T.length-i-1,by omega⟩
  have hg:Ic T q (n+1)=if n=0∨q≤T[i].u then (if 0<q then [⟨0,q,T[i].r⟩] else []) else Ic T q n:=by
   rw [Ic,show T.length-(n+1)=i by omega,List.getElem?_eq_getElem h]
  rw [hn,hg] at hv
  have hwl:IntKind.i64.wrap ((T.length:Int)-1)=(T.length:Int)-1:=by rw [IntKind.wrap_i64]; omega
  generalize T[i]=t at *
  simp -implicitDefEqProofs -proj only [go_sem,seval,decide_eq_true (show (i:Int)<T.length by omega)]
  refine Eh _ (by omega) hel ?_
  simp -implicitDefEqProofs -proj only [go_sem,seval]
  refine Aa (fun b5 hb5=>?_)
  replace hb5:H1 b5=none:=hb5
  obtain ⟨m1,m2⟩:=EG hb5 h2
  obtain ⟨m3,m4⟩:=EG hb5 h3
  have hj':=fun v=>hS _ _ b5 v hj hb5
  by_cases hn0:n=0
  ·rw [if_pos (.inl hn0)] at hv
   simp -implicitDefEqProofs -proj only [go_sem,seval,m1,m3,h2,h3,FP,hwl,decide_eq_true (show (i:Int)=(T.length:Int)-1 by omega)]
   by_cases hq:0<q
   ·rw [if_pos hq] at hv
    have hxs:Ft (JY T q)=[]++[(TStep.mk 0 q t.r).av]::[]:=by rw [hv]; rfl
    simp -implicitDefEqProofs -proj only [go_sem,seval,m1,m3,h2,h3,decide_eq_true hq]
    refine NR (hY _ _ _ _ hxs (hj' _)) ?_
    rintro v H2 (⟨rfl,hj2⟩ | ⟨rfl,hx⟩)
    ·simp -implicitDefEqProofs -proj only [go_sem,seval]
     rw [hxs]
     exact .inl hj2
    ·simp -implicitDefEqProofs -proj only [go_sem,seval]
     exact .inr hx
   ·rw [if_neg hq] at hv
    simp -implicitDefEqProofs -proj only [go_sem,seval,m1,m3,h2,h3,decide_eq_false hq]
    rw [show Ft (JY T q)=[] by rw [hv]; rfl]
    exact .inl (hj' _)
  ·by_cases hu:q≤t.u
   ·rw [if_pos (.inr hu)] at hv
    simp -implicitDefEqProofs -proj only [go_sem,seval,m1,m3,h2,h3,FP,hwl,decide_eq_false (show ¬(i:Int)=(T.length:Int)-1 by omega),decide_eq_true hu]
    by_cases hq:0<q
    ·rw [if_pos hq] at hv
     have hxs:Ft (JY T q)=[]++[(TStep.mk 0 q t.r).av]::[]:=by rw [hv]; rfl
     simp -implicitDefEqProofs -proj only [go_sem,seval,m1,m3,h2,h3,decide_eq_true hq]
     refine NR (hY _ _ _ _ hxs (hj' _)) ?_
     rintro v H2 (⟨rfl,hj2⟩ | ⟨rfl,hx⟩)
     ·simp -implicitDefEqProofs -proj only [go_sem,seval]
      rw [hxs]
      exact .inl hj2
     ·simp -implicitDefEqProofs -proj only [go_sem,seval]
      exact .inr hx
    ·rw [if_neg hq] at hv
     simp -implicitDefEqProofs -proj only [go_sem,seval,m1,m3,h2,h3,decide_eq_false hq]
     rw [show Ft (JY T q)=[] by rw [hv]; rfl]
     exact .inl (hj' _)
   ·rw [if_neg (by omega)] at hv
    simp -implicitDefEqProofs -proj only [go_sem,seval,m1,m3,h2,h3,FP,hwl,decide_eq_false (show ¬(i:Int)=(T.length:Int)-1 by omega),decide_eq_false hu]
    refine Lp (i+1,_) ⟨by show i+1≤T.length; omega,by rw [hv]; congr 1; show n=T.length-(i+1); omega,hj' _⟩ (by show T.length-(i+1)<T.length-i; omega) (JL rfl ?_ (fun k=>.inr rfl))
    simp -implicitDefEqProofs -proj only [go_sem,seval,AP,Ed (show i<9223372036854775807 by omega)]
 ·have hi':i=T.length:=by omega
  subst hi'
  rw [Nat.sub_self] at hv
  simp -implicitDefEqProofs -proj only [go_sem,seval,decide_eq_false (show ¬(T.length:Int)<T.length by omega)]
  rw [show Ft (JY T q)=[] by rw [hv]; rfl]
  exact .inl hj
def GC (x:PartX) (q:Int):List TStep:=if x.ki=2 then JY x.ts q else J3 x.ts q
def Lj (b2 b3:Nat) (T:List Tier) (q:Int):List (Nat×Blk):=[(b2,.box 36 [Fb T]),(b3,.box 3 [i64 q])]
theorem APF {H:Heap} {T:List Tier} {q:Int}:CallW Try.prog WB [Fb T,i64 q] H fun r H'=>∃b2 b3,r = .fn RG [.ptr b2 0,.ptr b3 0]∧Al H' (Lj b2 b3 T q)∧(∀k v,H k=some v→H' k=some v)∧(H b2=none∧H b3=none∧¬b2=b3):=by
 refine A3 AA5 (by simp) ?_
 simp -implicitDefEqProofs -proj only [go_sem,seval]
 refine Aa (fun b2 hb2=>?_)
 simp -implicitDefEqProofs -proj only [go_sem,seval]
 refine Aa (fun b3 hb3=>?_)
 replace hb2:H b2=none:=hb2
 replace hb3:AI H b2 _ b3=none:=hb3
 obtain ⟨n1,n2⟩:=EG hb3 AK
 have hb3':H b3=none:=by rw [EN n2] at hb3; exact hb3
 simp -implicitDefEqProofs -proj only [go_sem,seval,n1,n2]
 refine ⟨b2,b3,rfl,⟨by rw [EN n1,AK],AK,trivial⟩,fun k v hk=>?_,hb2,hb3',n2⟩
 rw [if_neg (EG hb3' hk).1,if_neg (EG hb2 hk).1,hk]
theorem AP4 {H:Heap} {T:List Tier} {q:Int}:CallW Try.prog XN [Fb T,i64 q] H fun r H'=>∃b2 b3,r = .fn RT [.ptr b2 0,.ptr b3 0]∧Al H' (Lj b2 b3 T q)∧(∀k v,H k=some v→H' k=some v)∧(H b2=none∧H b3=none∧¬b2=b3):=by
 refine A3 AG8 (by simp) ?_
 simp -implicitDefEqProofs -proj only [go_sem,seval]
 refine Aa (fun b2 hb2=>?_)
 simp -implicitDefEqProofs -proj only [go_sem,seval]
 refine Aa (fun b3 hb3=>?_)
 replace hb2:H b2=none:=hb2
 replace hb3:AI H b2 _ b3=none:=hb3
 obtain ⟨n1,n2⟩:=EG hb3 AK
 have hb3':H b3=none:=by rw [EN n2] at hb3; exact hb3
 simp -implicitDefEqProofs -proj only [go_sem,seval,n1,n2]
 refine ⟨b2,b3,rfl,⟨by rw [EN n1,AK],AK,trivial⟩,fun k v hk=>?_,hb2,hb3',n2⟩
 rw [if_neg (EG hb3' hk).1,if_neg (EG hb2 hk).1,hk]
theorem AQo {H:Heap} {x:PartX} {q:Int} (hl:x.ts.length≤1000000):CallW Try.prog AGz [Jc x,i64 q] H fun r H'=>∃f b2 b3,r = .fn f [.ptr b2 0,.ptr b3 0]∧K1 Try.prog f [.ptr b2 0,.ptr b3 0] (Lj b2 b3 x.ts q) (Ft (GC x q))∧Al H' (Lj b2 b3 x.ts q)∧(∀k v,H k=some v→H' k=some v)∧(H b2=none∧H b3=none∧¬b2=b3):=by
 have up:∀{b0 b:Nat} {v:Blk},AI H b0 (some v) b=none→H b=none:=fun {b0 b v} h=>by
  rw [AL] at h
  split at h
  ·cases h
  ·exact h
 refine A3 ALa (by simp) ?_
 simp -implicitDefEqProofs -proj only [go_sem,seval]
 refine Aa (fun b0 hb0=>?_)
 replace hb0:H b0=none:=hb0
 by_cases hk:x.ki=2
 ·simp -implicitDefEqProofs -proj only [go_sem,seval,decide_eq_true hk]
  refine C8 APF ?_
  rintro r H' ⟨b2,b3,rfl,h1,h2,h3,h4,h5⟩
  simp -implicitDefEqProofs -proj only [go_sem,seval]
  refine ⟨_,b2,b3,rfl,?_,h1,fun k v hk=>h2 k v ((EN (EG hb0 hk).1).trans hk),up h3,up h4,h5⟩
  rw [GC,if_pos hk]
  exact ALS hl
 ·simp -implicitDefEqProofs -proj only [go_sem,seval,decide_eq_false hk]
  refine C8 AP4 ?_
  rintro r H' ⟨b2,b3,rfl,h1,h2,h3,h4,h5⟩
  simp -implicitDefEqProofs -proj only [go_sem,seval]
  refine ⟨_,b2,b3,rfl,?_,h1,fun k v hk=>h2 k v ((EN (EG hb0 hk).1).trans hk),up h3,up h4,h5⟩
  rw [GC,if_neg hk]
  exact XZ hl
def Ke (s:TStep) (a:Int):Option Int:=if Fit (s.r*(s.t-s.f))∧Fit (a+s.r*(s.t-s.f)) then some (a+s.r*(s.t-s.f)) else none
def Gd:List TStep→Int→Option Int
 | [],a=>some a
 | s::l,a=>match Ke s a with
  | some b=>Gd l b
  | none=>none
def Ny (s:TStep):Prop:=Fit s.f∧Fit s.t∧Fit s.r∧Fit (s.t-s.f)
structure MicX where
 a:Int
theorem Kl {a:Int}:(MicX.mk a).a=a:=(rfl)
theorem QX {l r:List TStep} {a b:Int} (h:Gd l a=some b):Gd (l++r) a=Gd r b:=by
 induction l generalizing a with
 | nil=>cases h; rfl
 | cons s l ih =>
  simp -implicitDefEqProofs only [List.cons_append,Gd] at h ⊢
  cases hs:Ke s a with
  | none=>rw [hs] at h; cases h
  | some c=>rw [hs] at h; exact ih h
theorem S8 {l:List TStep} {a b:Int} (h:Gd l a=some b) (ha:Fit a):Fit b:=by
 induction l generalizing a with
 | nil=>cases h; exact ha
 | cons s l ih =>
  simp -implicitDefEqProofs only [Gd] at h
  cases hs:Ke s a with
  | none=>rw [hs] at h; cases h
  | some c =>
   rw [hs] at h
   refine ih h ?_
   unfold Ke at hs
   split at hs
   ·next hc=>cases hs; exact hc.2
   ·cases hs
def Jr (b4 b5 b8 c2 c3:Nat) (T:List Tier) (L:Int) (y:MicX):List (Nat×Blk):=[(b4,.box 3 [i64 0]),(b5,.box 4 [bv false]),(b8,.box 3 [i64 y.a]),(c2,.box 36 [Fb T]),(c3,.box 3 [i64 L])]
def JB (x:PartX) (q:Int):Option Int:=if q<0 then none else if Fit (ES (max (q-x.al) 0) x.bl 1*x.bl) then Gd (GC x (ES (max (q-x.al) 0) x.bl 1*x.bl)) 0 else none
set_option maxRecDepth 20000 in
theorem AHw {x:PartX} {q:Int} (hx:x.Fit) (hq:Fit q) (ha:0≤x.al) (hb:1≤x.bl) (hl:x.ts.length≤1000000) (hs:∀n,Fit n→∀s∈GC x n,Ny s):DataW Try.prog AJm [Jc x,i64 q] (Ef (JB x q)):=by
 have hquant:=W4 hx hq ha hb
 unfold JB
 generalize hL:ES (max (q-x.al) 0) x.bl 1*x.bl=L at *
 refine A3 X1 (by simp) ?_
 simp -implicitDefEqProofs -proj only [go_sem,seval]
 refine Aa (fun b2 hb2=>?_)
 simp -implicitDefEqProofs -proj only [go_sem,seval]
 refine Aa (fun b4 hb4=>?_)
 replace hb4:AI Heap.none b2 _ b4=none:=hb4
 obtain ⟨n1,n2⟩:=EG hb4 AK
 simp -implicitDefEqProofs -proj only [go_sem,seval]
 refine Aa (fun b5 hb5=>?_)
 replace hb5:AI (AI Heap.none b2 _) b4 _ b5=none:=hb5
 obtain ⟨n3,n4⟩:=EG hb5 AK
 obtain ⟨n5,n6⟩:=EG hb5 (by rw [EN n1]; exact AK)
 simp -implicitDefEqProofs -proj only [go_sem,seval,n1,n2,n3,n4,n5,n6]
 refine AQ hquant ?_
 by_cases h:q<0
 ·rw [if_pos h,if_pos h]
  simp -implicitDefEqProofs -proj only [go_sem,seval,n1,n2,n3,n4,n5,n6]
  exact AJ rfl
 rw [if_neg h,if_neg h]
 by_cases hf:Fit L
 rotate_left
 ·rw [if_neg hf,IQ hf]
  simp -implicitDefEqProofs -proj only [go_sem,seval,n1,n2,n3,n4,n5,n6]
  exact AJ rfl
 rw [if_pos hf,Hj hf]
 have hst:=hs L hf
 simp -implicitDefEqProofs -proj only [go_sem,seval,n1,n2,n3,n4,n5,n6]
 refine Aa (fun b8 hb8=>?_)
 replace hb8:AI (AI (AI Heap.none b2 _) b4 _) b5 _ b8=none:=hb8
 obtain ⟨n7,n8⟩:=EG hb8 AK
 obtain ⟨n9,n10⟩:=EG hb8 (by rw [EN n3]; exact AK)
 obtain ⟨n11,n12⟩:=EG hb8 (by rw [EN n5,EN n1]; exact AK)
 simp -implicitDefEqProofs -proj only [go_sem,seval,n1,n2,n3,n4,n5,n6,n7,n8,n9,n10,n11,n12]
 refine C8 (AQo hl) ?_
 rintro r H6 ⟨f,c2,c3,rfl,hit,hbl,hkeep,hc2,hc3,hc23⟩
 obtain ⟨H5,hH5⟩:∃H5,AI (AI (AI (AI Heap.none b2 (some (.box 39 [i64 x.me,i64 x.f,i64 x.t,i64 x.al,i64 x.bl,i64 x.ki,Fb x.ts,i64 x.mo,GB x.ad]))) b4 (some (.box 3 [i64 0]))) b5 (some (.box 4 [bv false]))) b8 (some (.box 3 [i64 0]))=H5:=⟨_,rfl⟩
 have k4:H5 b4=some (.box 3 [i64 0]):=by rw [←hH5,EN n9,EN n3,AK]
 have k5:H5 b5=some (.box 4 [bv false]):=by rw [←hH5,EN n7,AK]
 have k8:H5 b8=some (.box 3 [i64 0]):=by rw [←hH5,AK]
 replace hkeep:∀k v,H5 k=some v→H6 k=some v:=by rw [←hH5]; exact hkeep
 replace hc2:H5 c2=none:=by rw [←hH5]; exact hc2
 replace hc3:H5 c3=none:=by rw [←hH5]; exact hc3
 have d1:=(EG hc2 k4).2
 have d2:=(EG hc2 k5).2
 have d3:=(EG hc2 k8).2
 have d4:=(EG hc3 k4).2
 have d5:=(EG hc3 k5).2
 have d6:=(EG hc3 k8).2
 have hnd:∀y,(EJ (Jr b4 b5 b8 c2 c3 x.ts L y)).Nodup:=by
  intro y
  simp [EJ,Jr,d1,d2,d3,d4,d5,d6,n4,n8,n10,hc23]
 have hall0:Al H6 (Jr b4 b5 b8 c2 c3 x.ts L ⟨0⟩):=⟨hkeep _ _ k4,hkeep _ _ k5,hkeep _ _ k8,hbl.1,hbl.2.1,trivial⟩
 obtain ⟨S,hS⟩:∃S,GC x L=S:=⟨_,rfl⟩
 rw [hS] at hst hit ⊢
 simp -implicitDefEqProofs -proj only [go_sem,seval]
 refine AOR [(4,.ptr b4 0),(5,.ptr b5 0),(8,.ptr b8 0)] (fun pre y=>Gd (S.take pre.length) 0=some y.a) (Jr b4 b5 b8 c2 c3 x.ts L) ⟨0⟩ hit (by simp -implicitDefEqProofs -proj only [go_sem,seval]) rfl (by simp) (by simp -implicitDefEqProofs -proj only [go_sem,seval,AP]) ?_ (by simp [Gd]) hall0 ?_ ?_
 ·intro pre y _ p hp
  simp -implicitDefEqProofs only [Lj,List.mem_cons,List.not_mem_nil,or_false] at hp
  rcases hp with rfl | rfl <;> simp [Jr]
 ·rintro pre v post ⟨a⟩ hxs hI
  simp -implicitDefEqProofs only [Kl] at hI
  obtain ⟨hlt,rfl,hpre⟩:=AOE hxs
  have hall:=FV (hnd ⟨a⟩)
  obtain ⟨h4,h5,h8,h9,h10,_⟩:=id hall
  obtain ⟨f1,f2,f3,f4⟩:=hst _ (List.getElem_mem hlt)
  have hfa:Fit a:=S8 hI (by decide)
  have hstep:S.take (pre.length+1)=S.take pre.length++[S[pre.length]]:=List.take_succ_eq_append_getElem hlt
  have hsp:S=S.take pre.length++(S[pre.length]::S.drop (pre.length+1)):=by rw [←List.drop_eq_getElem_cons hlt,List.take_append_drop]
  generalize S[pre.length]=s at *
  have hnone:Ke s a=none→Gd S 0=none:=fun e=>by rw [hsp,QX hI,Gd,e]
  have hsome:∀b,Ke s a=some b→Gd (S.take (pre.length+1)) 0=some b:=fun b e=>by rw [hstep,QX hI,Gd,e]; rfl
  have hw:IntKind.i64.wrap (s.t-s.f)=s.t-s.f:=by unfold Fit at f4; rw [IntKind.wrap_i64]; omega
  clear hstep hsp hxs hpre
  have hmul:=APP f3 f4
  obtain ⟨H,hH⟩:∃H,EH (Jr b4 b5 b8 c2 c3 x.ts L ⟨a⟩)=H:=⟨_,rfl⟩
  rw [hH] at hall h4 h5 h8 h9 h10
  simp -implicitDefEqProofs only [Kl] at h8
  simp -implicitDefEqProofs -proj only [go_sem,seval,hH]
  refine Aa (fun b9 hb9=>?_)
  replace hb9:H b9=none:=hb9
  obtain ⟨p1,p2⟩:=EG hb9 h4
  obtain ⟨p3,p4⟩:=EG hb9 h5
  obtain ⟨p5,p6⟩:=EG hb9 h8
  simp -implicitDefEqProofs -proj only [go_sem,seval,p1,p3,p5,h4,h5,h8,hw]
  refine AQ hmul ?_
  by_cases c1:Fit (s.r*(s.t-s.f))
  ·rw [Hj c1]
   have hadd:=Mb hfa c1
   simp -implicitDefEqProofs -proj only [go_sem,seval,p1,p3,p5,h4,h5,h8,hw]
   refine AQ hadd ?_
   by_cases c2':Fit (a+s.r*(s.t-s.f))
   ·rw [Hj c2']
    simp -implicitDefEqProofs -proj only [go_sem,seval,p1,p3,p5,h4,h5,h8,hw]
    refine VW ⟨a+s.r*(s.t-s.f)⟩ (by simp -implicitDefEqProofs only [Kl,List.length_append,List.length_singleton]; exact hsome _ (if_pos ⟨c1,c2'⟩)) ?_
    obtain ⟨p7,p8⟩:=EG hb9 h9
    obtain ⟨p9,p10⟩:=EG hb9 h10
    simp -implicitDefEqProofs -proj only [go_sem,seval,Al,Jr,Kl,p1,p3,p5,p7,p9,n7,n8,n9,n10,d3,d6,h4,h5,h8,h9,h10]
   ·rw [IQ c2']
    simp -implicitDefEqProofs -proj only [go_sem,seval,p1,p3,p5,n3,n4,n7,n8,n9,n10,h4,h5,h8,hw]
    rw [hnone (if_neg (fun h=>c2' h.2))]
    exact AJ rfl
  ·rw [IQ c1]
   have hadd:=Mb (b:=0) hfa (by decide)
   simp -implicitDefEqProofs -proj only [go_sem,seval,p1,p3,p5,h4,h5,h8,hw]
   refine AQ hadd ?_
   rw [Hj (by rw [Int.add_zero]; exact hfa)]
   simp -implicitDefEqProofs -proj only [go_sem,seval,p1,p3,p5,n3,n4,n7,n8,n9,n10,h4,h5,h8,hw]
   rw [hnone (if_neg (fun h=>c1 h.1))]
   exact AJ rfl
 ·rintro ⟨a⟩ hI
  simp -implicitDefEqProofs only [Kl] at hI
  rw [List.length_map,List.take_length] at hI
  have hall:=FV (hnd ⟨a⟩)
  obtain ⟨h4,h5,h8,h9,h10,_⟩:=id hall
  obtain ⟨H,hH⟩:∃H,EH (Jr b4 b5 b8 c2 c3 x.ts L ⟨a⟩)=H:=⟨_,rfl⟩
  rw [hH] at hall h4 h5 h8 h9 h10
  simp -implicitDefEqProofs only [Kl] at h8
  rw [hI]
  simp -implicitDefEqProofs -proj only [go_sem,seval,hH,h4,h5,h8,n3,n4]
  exact AJ rfl
theorem Vv {x:PartX} {q n:Int} (h:JB x q=some n):Fit n:=by
 unfold JB at h
 split at h
 ·cases h
 ·split at h
  ·exact S8 h (by decide)
  ·cases h
def I9 (x:PartX) (q:Int):Option Int:=match JB x q with
 | some n=>Fq n 1000000 x.mo
 | none=>none
theorem ARM {x:PartX} {q:Int} (hx:x.Fit) (hq:Fit q) (ha:0≤x.al) (hb:1≤x.bl) (hl:x.ts.length≤1000000) (hs:∀n,Fit n→∀s∈GC x n,Ny s):DataW Try.prog AKR [Jc x,i64 q] (Ef (I9 x q)):=by
 have hm:=AHw hx hq ha hb hl hs
 have hf:=fun n=>@Vv x q n
 unfold I9
 generalize JB x q=m at *
 refine A3 ADt (by simp) ?_
 simp -implicitDefEqProofs -proj only [go_sem,seval]
 refine Aa (fun b2 hb2=>?_)
 simp -implicitDefEqProofs -proj only [go_sem,seval]
 refine AQ hm ?_
 cases m with
 | none =>
  simp -implicitDefEqProofs -proj only [go_sem,seval,Ef]
  exact AJ rfl
 | some n =>
  have hd:=SZ (m:=x.mo) (hf n rfl) (show Fit 1000000 by decide)
  rw [NC] at hd
  simp -implicitDefEqProofs -proj only [go_sem,seval,Ef]
  refine AQ hd ?_
  generalize Fq n 1000000 x.mo=o
  cases o <;> simp -implicitDefEqProofs only [Ef]
  ·simp -implicitDefEqProofs -proj only [go_sem,seval]
   exact AJ rfl
  ·simp -implicitDefEqProofs -proj only [go_sem,seval]
   exact AJ rfl
def H7 (T:List Tier) (i:Nat):Int:=match T[i]? with
 | some t=>t.u
 | none=>0
def IF (T:List Tier) (i:Nat):Int:=match T[i]? with
 | some t=>t.r
 | none=>0
theorem Le {T:List Tier} {i:Nat} (h:i<T.length):H7 T i=T[i].u:=by simp [H7,h]
theorem Ku {T:List Tier} {i:Nat} (h:i<T.length):IF T i=T[i].r:=by simp [IF,h]
def FB (T:List Tier) (i:Nat):Int:=if i=0 then 0 else H7 T (i-1)
def HA (T:List Tier) (q:Int) (i:Nat):Int:=if i+1<T.length∧H7 T i<q then H7 T i else q
def JJ (T:List Tier) (q:Int):Nat→List TStep
 | 0=>[]
 | i+1=>if FB T i<HA T q i then JJ T q i++[⟨FB T i,HA T q i,IF T i⟩] else JJ T q i
def Tu (T:List Tier) (q:Int):List TStep:=JJ T q T.length
structure Srt (T:List Tier):Prop where
 up:∀i,i+1<T.length→FB T i<H7 T i∧H7 T i≤1000000
 low:∀i,i<T.length→0≤FB T i∧FB T i≤1000000
 rate:∀i,i<T.length→0≤IF T i∧IF T i≤1000000000000
theorem Or {T:List Tier} (h:JG T):Srt T:=by
 have h1:∀i,i+1<T.length→1≤H7 T i∧H7 T i≤1000000:=by
  intro i hi
  have hh:=(h i (by omega)).2
  have hne:¬i+1=T.length:=by omega
  rw [Le (by omega)]
  have h2:Iu T i=1000000:=if_neg hne
  have h3:1≤HK T i:=by
   unfold HK
   rw [if_neg hne]
   split
   ·split <;> omega
   ·omega
  omega
 have h2:∀i,i<T.length→0≤FB T i∧FB T i≤1000000:=by
  intro i hi
  unfold FB
  split
  ·omega
  ·have:=h1 (i-1) (by omega)
   omega
 refine ⟨fun i hi=>⟨?_,(h1 i hi).2⟩,h2,fun i hi=>?_⟩
 ·unfold FB
  split
  ·have:=h1 i hi; omega
  ·next h0 =>
   have g1:=h1 (i-1) (by omega)
   have hh:=(h i (by omega)).2.1
   rw [Le (by omega)] at g1
   obtain ⟨e1,e2⟩:=NO (T:=T) (i:=i) (by omega) (by omega) (by omega) g1.1
   rw [e1] at hh
   rw [Le (by omega),Le (by omega)]
   omega
 ·have:=(h i hi).1
  rw [Ku hi]
  exact this
theorem SH {T:List Tier} {q:Int} (hS:Srt T):∀i,i≤T.length→(FF T q i).2=JJ T q i∧(i<T.length→(FF T q i).1=max 0 (min q (FB T i)))∧(i=T.length→0<i→(FF T q i).1=max 0 q)
 | 0,_=>⟨rfl,fun _=>by simp [FF,FB]; omega,fun _ h=>absurd h (Nat.lt_irrefl _)⟩
 | i+1,hi=>by
  obtain ⟨g1,g2,_⟩:=SH hS i (by omega) (q:=q)
  have hlt:i<T.length:=by omega
  have hf:=g2 hlt
  have hl:=hS.low i hlt
  have ht:Ju T q i T[i]=if i+1<T.length then min q (H7 T i) else q:=by rw [Le hlt]; rfl
  have hlow:FB T (i+1)=H7 T i:=by simp [FB]
  rw [FF,List.getElem?_eq_getElem hlt,JJ,Ku hlt]
  simp -implicitDefEqProofs only []
  rw [hf,ht,g1,hlow]
  unfold HA
  by_cases h:i+1<T.length
  ·obtain ⟨u1,u2⟩:=hS.up i h
   rw [if_pos h]
   refine ⟨?_,fun _=>by omega,fun e=>by omega⟩
   by_cases hq:FB T i<q
   ·rw [if_pos (by omega),if_pos (by split <;> omega)]
    congr 3
    ·omega
    ·split <;> omega
   ·rw [if_neg (by omega),if_neg (by split <;> omega)]
  ·rw [if_neg h]
   refine ⟨?_,fun e=>absurd e h,fun _ _=>by omega⟩
   by_cases hq:FB T i<q
   ·rw [if_pos (by omega),if_pos (by split <;> omega)]
    congr 3
    ·omega
    ·split <;> omega
   ·rw [if_neg (by omega),if_neg (by split <;> omega)]
theorem Ti {T:List Tier} {q:Int} (hS:Srt T):J3 T q=Tu T q:=(SH hS T.length (Nat.le_refl _)).1
def FO:List TStep→Int
 | []=>0
 | s::l=>s.r*(s.t-s.f)+FO l
theorem AAH {l m:List TStep}:FO (l++m)=FO l+FO m:=by
 induction l with
 | nil=>simp [FO]
 | cons s l ih=>simp -implicitDefEqProofs only [List.cons_append,FO,ih]; omega
def N0 (s:TStep):Prop:=0≤s.r∧s.f≤s.t
theorem Rt {l:List TStep} (h:∀s∈l,N0 s):0≤FO l:=by
 induction l with
 | nil=>exact Int.le_refl _
 | cons s l ih =>
  obtain ⟨h1,h2⟩:=h s (List.mem_cons_self ..)
  have:=Int.mul_nonneg h1 (show 0≤s.t-s.f by omega)
  have:=ih fun s' h'=>h s' (List.mem_cons_of_mem _ h')
  simp -implicitDefEqProofs only [FO]
  omega
theorem AJK {l:List TStep}:∀{a:Int},(∀s∈l,N0 s)→0≤a→a≤9223372036854775807→Gd l a=if a+FO l≤9223372036854775807 then some (a+FO l) else none:=by
 induction l with
 | nil=>intro a _ h0 h1; simp -implicitDefEqProofs only [Gd,FO,Int.add_zero]; rw [if_pos h1]
 | cons s l ih =>
  intro a h h0 h1
  obtain ⟨g1,g2⟩:=h s (List.mem_cons_self ..)
  have hp:=Int.mul_nonneg g1 (show 0≤s.t-s.f by omega)
  have hl:=fun s' h'=>h s' (List.mem_cons_of_mem s h')
  have ht:=Rt hl
  simp -implicitDefEqProofs only [Gd,Ke]
  rw [show a+FO (s::l)=a+s.r*(s.t-s.f)+FO l by simp -implicitDefEqProofs only [FO]; omega]
  by_cases hc:a+s.r*(s.t-s.f)≤9223372036854775807
  ·rw [if_pos (by unfold Fit; omega)]
   exact ih hl (by omega) hc
  ·rw [if_neg (by unfold Fit; omega),if_neg (by omega)]
def LK (T:List Tier) (q:Int):Nat→Int
 | 0=>0
 | i+1=>LK T q i+IF T i*max 0 (HA T q i-FB T i)
theorem Rl {T:List Tier} {q:Int}:∀i,FO (JJ T q i)=LK T q i
 | 0=>rfl
 | i+1=>by
  rw [JJ,LK,←Rl i]
  split
  ·rw [AAH]
   simp -implicitDefEqProofs only [FO]
   rw [show max 0 (HA T q i-FB T i)=HA T q i-FB T i by omega]
   omega
  ·rw [show max 0 (HA T q i-FB T i)=0 by omega,Int.mul_zero,Int.add_zero]
theorem PI {T:List Tier} {q:Int} (hS:Srt T):∀i,i≤T.length→∀s∈JJ T q i,0≤s.r∧s.r≤1000000000000∧0≤s.f∧s.f<s.t∧s.t≤q
 | 0,_,s,h=>by cases h
 | i+1,hi,s,h=>by
  rw [JJ] at h
  split at h
  ·next hc =>
   rcases List.mem_append.1 h with h | h
   ·exact PI hS i (by omega) s h
   ·simp -implicitDefEqProofs only [List.mem_singleton] at h
    subst h
    have h1:=hS.rate i (by omega)
    have h2:=hS.low i (by omega)
    refine ⟨h1.1,h1.2,h2.1,hc,?_⟩
    show HA T q i≤q
    unfold HA
    split <;> omega
  ·exact PI hS i (by omega) s h
theorem SQ {T:List Tier} {q:Int} (hr:∀i,i<T.length→0≤IF T i∧IF T i≤1000000000000):∀n,n≤T.length→∀s∈Ic T q n,0≤s.r∧s.r≤1000000000000∧s.f=0∧0<s.t∧s.t=q
 | 0,_,s,h=>by cases h
 | n+1,hn,s,h=>by
  have hlt:T.length-(n+1)<T.length:=by omega
  rw [Ic,List.getElem?_eq_getElem hlt] at h
  simp -implicitDefEqProofs only [] at h
  split at h
  ·split at h
   ·next hq =>
    simp -implicitDefEqProofs only [List.mem_singleton] at h
    subst h
    have:=hr _ hlt
    rw [Ku hlt] at this
    exact ⟨this.1,this.2,rfl,hq,rfl⟩
   ·cases h
  ·exact SQ hr n (by omega) s h
structure GoodX (x:PartX):Prop where
 al:0≤x.al∧x.al≤1000000
 bl:1≤x.bl∧x.bl≤1000000
 ki:x.ki=1∨x.ki=2
 mo:0≤x.mo∧x.mo≤3
 tn:1≤x.ts.length∧x.ts.length≤8
 an:x.ad.length≤6
 ts:JG x.ts
 ad:LU x.ad
theorem TC {x:PartX} {q:Int} (h:Srt x.ts):∀s∈GC x q,0≤s.r∧s.r≤1000000000000∧0≤s.f∧s.f<s.t∧s.t≤q:=by
 intro s hs
 unfold GC at hs
 split at hs
 ·obtain ⟨h1,h2,h3,h4,h5⟩:=SQ (h.rate) _ (Nat.le_refl _) s hs
  exact ⟨h1,h2,by omega,by omega,by omega⟩
 ·rw [Ti h] at hs
  exact PI h _ (Nat.le_refl _) s hs
theorem APH {x:PartX} {n:Int} (h:Srt x.ts) (hn:Fit n):∀s∈GC x n,Ny s:=by
 intro s hs
 have:=TC h s hs
 unfold Fit at hn
 unfold Ny Fit
 omega
theorem Qu {x:PartX} {n:Int} (h:Srt x.ts):∀s∈GC x n,N0 s:=by
 intro s hs
 have:=TC h s hs
 unfold N0
 omega
def Ha (x:PartX) (q:Int):Int:=ES (max (q-x.al) 0) x.bl 1*x.bl
theorem AHa {x:PartX} {q:Int} (h:Srt x.ts):JB x q=if q<0 then none else if Fit (Ha x q) then (if FO (GC x (Ha x q))≤9223372036854775807 then some (FO (GC x (Ha x q))) else none) else none:=by
 unfold JB Ha
 split
 ·rfl
 ·split
  ·rw [AJK (Qu h) (by decide) (by decide),Int.zero_add]
  ·rfl
section
attribute [local go_sem] Gj wide
theorem AA3 {x y:Int} (hx:x.natAbs≤85070591730234615865843651857942052864) (hy:y.natAbs≤85070591730234615865843651857942052864):DataW Try.prog AJF [wide x,wide y] (bv (decide (x<y))):=by
 have h1:=Mr (n:=y) (by unfold E3; omega)
 have h2:=Kv (a:=x) (b:=-y) (by omega) (by omega)
 refine A3 ADk (by simp) ?_
 simp -implicitDefEqProofs -proj only [go_sem,seval]
 (repeat' first
  | ((with_reducible first | refine Ej (fun h=>?_) (fun h=>?_) | refine Eb (fun h=>?_) (fun h=>?_) | refine Er (fun h=>?_) (fun h=>?_)) <;> (simp -implicitDefEqProofs -proj only [go_sem,seval, *]; try (revert h; intro _)))
  | ((with_reducible first | refine Aa (fun _ hb=>?_) | refine EL (fun _ hb=>?_)); simp only [Em,Ep,AY,Heap.none_get,and_true,true_and] at hb; simp -implicitDefEqProofs -proj only [go_sem,seval, *]; try (revert hb; intro _))
  | ((with_reducible first | refine EZ _ rfl (by simp) ?_ | refine Es _ rfl (by simp) ?_); simp -implicitDefEqProofs -proj only [go_sem,seval, *])
  | (with_reducible refine BB ?_ (fun h=>?_); first | ((focus first | decide | omega); try clear h; try simp -implicitDefEqProofs -proj only [go_sem,seval, *]) | (rotate_left; try clear h; try simp -implicitDefEqProofs -proj only [go_sem,seval, *]; rotate_right)))
 refine E0 h1 ?_
 simp -implicitDefEqProofs -proj only [go_sem,seval, *]
 (repeat' first
  | ((with_reducible first | refine Ej (fun h=>?_) (fun h=>?_) | refine Eb (fun h=>?_) (fun h=>?_) | refine Er (fun h=>?_) (fun h=>?_)) <;> (simp -implicitDefEqProofs -proj only [go_sem,seval, *]; try (revert h; intro _)))
  | ((with_reducible first | refine Aa (fun _ hb=>?_) | refine EL (fun _ hb=>?_)); simp only [Em,Ep,AY,Heap.none_get,and_true,true_and] at hb; simp -implicitDefEqProofs -proj only [go_sem,seval, *]; try (revert hb; intro _))
  | ((with_reducible first | refine EZ _ rfl (by simp) ?_ | refine Es _ rfl (by simp) ?_); simp -implicitDefEqProofs -proj only [go_sem,seval, *])
  | (with_reducible refine BB ?_ (fun h=>?_); first | ((focus first | decide | omega); try clear h; try simp -implicitDefEqProofs -proj only [go_sem,seval, *]) | (rotate_left; try clear h; try simp -implicitDefEqProofs -proj only [go_sem,seval, *]; rotate_right)))
 refine E0 h2 ?_
 simp -implicitDefEqProofs -proj only [go_sem,seval, *]
 (repeat' first
  | ((with_reducible first | refine Ej (fun h=>?_) (fun h=>?_) | refine Eb (fun h=>?_) (fun h=>?_) | refine Er (fun h=>?_) (fun h=>?_)) <;> (simp -implicitDefEqProofs -proj only [go_sem,seval, *]; try (revert h; intro _)))
  | ((with_reducible first | refine Aa (fun _ hb=>?_) | refine EL (fun _ hb=>?_)); simp only [Em,Ep,AY,Heap.none_get,and_true,true_and] at hb; simp -implicitDefEqProofs -proj only [go_sem,seval, *]; try (revert hb; intro _))
  | ((with_reducible first | refine EZ _ rfl (by simp) ?_ | refine Es _ rfl (by simp) ?_); simp -implicitDefEqProofs -proj only [go_sem,seval, *])
  | (with_reducible refine BB ?_ (fun h=>?_); first | ((focus first | decide | omega); try clear h; try simp -implicitDefEqProofs -proj only [go_sem,seval, *]) | (rotate_left; try clear h; try simp -implicitDefEqProofs -proj only [go_sem,seval, *]; rotate_right)))
 refine AJ ?_
 simp -implicitDefEqProofs only [←decide_not,←Bool.decide_and,←Bool.decide_or,Bool.beq_eq_decide_eq,AV.d.injEq,D.bool.injEq,D.int.injEq,D.str.injEq,AV.tup.injEq,AV.agg.injEq,List.cons.injEq,true_and,and_true,decide_eq_decide,true_eq_decide_iff,false_eq_decide_iff,decide_eq_true_eq,decide_eq_false_iff_not,Bool.true_eq,Bool.false_eq]
 omega
theorem Qn {n c p:Int} (hn:Fit n) (hc:Fit c) (hp:p.natAbs≤85070591730234615865843651857942052864):DataW Try.prog AAO [i64 n,i64 c,wide p] (bv (decide (n*c≤p))):=by
 have h1:=LA hn hc
 have hq:=OA hn hc
 have h2:=AA3 hp hq
 generalize n*c=z at *
 refine A3 ARX (by simp) ?_
 simp -implicitDefEqProofs -proj only [go_sem,seval]
 (repeat' first
  | ((with_reducible first | refine Ej (fun h=>?_) (fun h=>?_) | refine Eb (fun h=>?_) (fun h=>?_) | refine Er (fun h=>?_) (fun h=>?_)) <;> (simp -implicitDefEqProofs -proj only [go_sem,seval, *]; try (revert h; intro _)))
  | ((with_reducible first | refine Aa (fun _ hb=>?_) | refine EL (fun _ hb=>?_)); simp only [Em,Ep,AY,Heap.none_get,and_true,true_and] at hb; simp -implicitDefEqProofs -proj only [go_sem,seval, *]; try (revert hb; intro _))
  | ((with_reducible first | refine EZ _ rfl (by simp) ?_ | refine Es _ rfl (by simp) ?_); simp -implicitDefEqProofs -proj only [go_sem,seval, *])
  | (with_reducible refine BB ?_ (fun h=>?_); first | ((focus first | decide | omega); try clear h; try simp -implicitDefEqProofs -proj only [go_sem,seval, *]) | (rotate_left; try clear h; try simp -implicitDefEqProofs -proj only [go_sem,seval, *]; rotate_right)))
 refine E0 h1 ?_
 simp -implicitDefEqProofs -proj only [go_sem,seval, *]
 (repeat' first
  | (refine AQ (h2) ?_; simp -implicitDefEqProofs -proj only [go_sem,seval, *])
  | (refine E0 (h2) ?_; simp -implicitDefEqProofs -proj only [go_sem,seval, *])
  | ((with_reducible first | refine Ej (fun h=>?_) (fun h=>?_) | refine Eb (fun h=>?_) (fun h=>?_) | refine Er (fun h=>?_) (fun h=>?_)) <;> (simp -implicitDefEqProofs -proj only [go_sem,seval, *]; try (revert h; intro _)))
  | ((with_reducible first | refine Aa (fun _ hb=>?_) | refine EL (fun _ hb=>?_)); simp -implicitDefEqProofs only [Em,Ep,AY,Heap.none_get,and_true,true_and] at hb; simp -implicitDefEqProofs -proj only [go_sem,seval, *]; try (revert hb; intro _))
  | ((with_reducible first | refine EZ _ rfl (by simp) ?_ | refine Es _ rfl (by simp) ?_); simp -implicitDefEqProofs -proj only [go_sem,seval, *])
  | (with_reducible refine BB ?_ (fun h=>?_); first | ((focus first | decide | omega); try clear h; try simp -implicitDefEqProofs -proj only [go_sem,seval, *]) | (rotate_left; try clear h; try simp -implicitDefEqProofs -proj only [go_sem,seval, *]; rotate_right)))
 refine AJ ?_
 simp -implicitDefEqProofs only [←decide_not,←Bool.decide_and,←Bool.decide_or,Bool.beq_eq_decide_eq,AV.d.injEq,D.bool.injEq,D.int.injEq,D.str.injEq,AV.tup.injEq,AV.agg.injEq,List.cons.injEq,true_and,and_true,decide_eq_decide,true_eq_decide_iff,false_eq_decide_iff,decide_eq_true_eq,decide_eq_false_iff_not,Bool.true_eq,Bool.false_eq]
 omega
def MT (p c:Int):AV:=if -9223372036854775808*c≤p then .tup [i64 (II p c),bv true] else .tup [i64 0,bv false]
theorem QW {p c:Int} (hc:0<c) (h : -9223372036854775808*c≤p):Fit (II p c):=by
 have h1:=(TW (p:=p) (n:=-9223372036854775808) hc (by omega)).2 h
 unfold Fit
 refine ⟨h1,?_⟩
 unfold II
 split <;> omega
theorem ALp {low P nx:Int} (h:nx=IntKind.i64.wrap (IntKind.u64.wrap (IntKind.u64.wrap low+P))) (hl:Fit low) (hP:1≤P∧P≤9223372036854775808):(low+P≤9223372036854775807→nx=low+P)∧(9223372036854775807<low+P→nx<low):=by
 rw [IntKind.wrap_i64,IntKind.wrap_u64,IntKind.wrap_u64] at h
 unfold Fit at hl
 omega
theorem ADo (j:Nat) (h:0<j) (h2:j≤64):∃P:Int,(2:Int) ^ (j-1)=P∧(2:Int) ^ j=2*P∧1≤P∧P≤9223372036854775808:=by
 refine ⟨_,rfl,?_,?_,?_⟩
 ·conv=>lhs; rw [show j=j-1+1 by omega,Int.pow_succ,Int.mul_comm]
 ·have:=KV (j-1); omega
 ·have:=MF (show j-1≤63 by omega)
  have e:(2:Int) ^ 63=9223372036854775808:=rfl
  omega
set_option maxRecDepth 20000 in
set_option maxHeartbeats 2000000 in
theorem V1 {p c:Int} (hc0:0<c) (hc:Fit c) (hp:p.natAbs≤85070591730234615865843651857942052864):DataW Try.prog AJr [wide p,i64 c] (MT p c):=by
 have h1:=Qn (n:=-9223372036854775808) (c:=c) (p:=p) (by decide) hc hp
 refine A3 V0 (by simp) ?_
 by_cases h : -9223372036854775808*c≤p
 ·rw [MT,if_pos h]
  rw [decide_eq_true h] at h1
  simp -implicitDefEqProofs -proj only [go_sem,seval]
  refine Aa (fun b hb=>?_)
  simp -implicitDefEqProofs -proj only [go_sem,seval]
  refine AQ h1 ?_
  simp -implicitDefEqProofs -proj only [go_sem,seval]
  have hf:=QW hc0 h
  have hle:=fun n hn=>TW (p:=p) (c:=c) (n:=n) hc0 hn
  clear h1 h
  generalize II p c=T at *
  refine EX (fun x:Nat×Int=>x.1≤64∧Fit x.2∧x.2≤T∧T<x.2+2 ^ x.1) 39 (fun x=>[(2,.ptr b 0),(1,i64 c),(6,i64 x.2),(7,i64 ((x.1:Int)-1))])
   (fun _=>[(b,.box 122 [bv (decide (p<0)),u64 ((p.natAbs:Int) / 18446744073709551616),u64 ((p.natAbs:Int) % 18446744073709551616)])]) (fun x=>x.1) (64,-9223372036854775808) ⟨by simp -implicitDefEqProofs only [AZ]; omega,by decide,by unfold Fit at hf; simp -implicitDefEqProofs only [Ac]; omega,by unfold Fit at hf; simp -implicitDefEqProofs only [Ac,AZ]; omega⟩ rfl ?_ ?_ ?_
  ·simp -implicitDefEqProofs -proj only [go_sem,seval,AP]
  ·simp -implicitDefEqProofs -proj only [go_sem,seval,Al]
  ·rintro ⟨j,low⟩ ⟨i1,i2,i3,i4⟩
   simp -implicitDefEqProofs only [AZ,Ac] at i1 i2 i3 i4
   by_cases hj:0<j
   ·obtain ⟨P,e1,e2,e3,e4⟩:=ADo j hj i1
    have w1:IntKind.u64.wrap ((j:Int)-1)=((j-1:Nat):Int):=by rw [FA (by omega)]; omega
    have w2:IntKind.u64.wrap P=P:=FA (by omega)
    have w3:IntKind.i64.wrap ((j:Int)-1-1)=((j-1:Nat):Int)-1:=by rw [IntKind.wrap_i64]; omega
    have hk:j-1≤64:=by omega
    obtain ⟨nx,hnx⟩:∃nx,nx=IntKind.i64.wrap (IntKind.u64.wrap (IntKind.u64.wrap low+P)):=⟨_,rfl⟩
    obtain ⟨n1,n2⟩:=ALp hnx i2 ⟨e3,e4⟩
    have hle2:=hle nx
    simp -implicitDefEqProofs -proj only [go_sem,seval,decide_eq_true (show 0≤(j:Int)-1 by omega),w1,w2,w3,Int.toNat_natCast,hk,e1,Int.one_mul]
    (repeat' (with_reducible refine BB ?_ (fun h=>?_); (focus first | decide | omega); clear h; try simp -implicitDefEqProofs -proj only [go_sem,seval,w1,w2,w3,Int.toNat_natCast,hk,e1,Int.one_mul,←hnx]))
    by_cases hb2:low+P≤9223372036854775807
    ·have hn:=n1 hb2
     have hu:=Qn (n:=nx) (c:=c) (p:=p) (by unfold Fit at *; omega) hc hp
     simp -implicitDefEqProofs -proj only [go_sem,seval,←hnx,decide_eq_true (show low<nx by omega)]
     refine AQ hu ?_
     by_cases hv:nx*c≤p
     ·have:=(hle2 (by omega)).2 hv
      simp -implicitDefEqProofs -proj only [go_sem,seval,←hnx,decide_eq_true hv]
      refine EF (j-1,nx) ⟨by simp -implicitDefEqProofs only [AZ]; omega,by unfold Fit at *; simp -implicitDefEqProofs only [Ac]; omega,by simp -implicitDefEqProofs only [Ac]; omega,by simp -implicitDefEqProofs only [AZ,Ac]; rw [e1]; omega⟩ (by simp -implicitDefEqProofs only [AZ]; omega) rfl ?_ ?_
      ·simp -implicitDefEqProofs -proj only [go_sem,seval,AP,w3]
      ·simp -implicitDefEqProofs -proj only [go_sem,seval,Al]
     ·have:¬nx≤T:=fun h=>hv ((hle2 (by omega)).1 h)
      simp -implicitDefEqProofs -proj only [go_sem,seval,←hnx,decide_eq_false hv]
      refine EF (j-1,low) ⟨by simp -implicitDefEqProofs only [AZ]; omega,i2,i3,by simp -implicitDefEqProofs only [AZ,Ac]; rw [e1]; omega⟩ (by simp -implicitDefEqProofs only [AZ]; omega) rfl ?_ ?_
      ·simp -implicitDefEqProofs -proj only [go_sem,seval,AP,w3]
      ·simp -implicitDefEqProofs -proj only [go_sem,seval,Al]
    ·have hn:=n2 (by omega)
     simp -implicitDefEqProofs -proj only [go_sem,seval,←hnx,decide_eq_false (show ¬low<nx by omega)]
     refine EF (j-1,low) ⟨by simp -implicitDefEqProofs only [AZ]; omega,i2,i3,by unfold Fit at hf; simp -implicitDefEqProofs only [AZ,Ac]; rw [e1]; omega⟩ (by simp -implicitDefEqProofs only [AZ]; omega) rfl ?_ ?_
     ·simp -implicitDefEqProofs -proj only [go_sem,seval,AP,w3]
     ·simp -implicitDefEqProofs -proj only [go_sem,seval,Al]
   ·have hj0:j=0:=by omega
    subst hj0
    have hT:low=T:=by
     have:(2:Int) ^ 0=1:=rfl
     omega
    simp -implicitDefEqProofs -proj only [go_sem,seval]
    exact AJ (by rw [hT])
 ·rw [MT,if_neg h]
  rw [decide_eq_false h] at h1
  simp -implicitDefEqProofs -proj only [go_sem,seval]
  refine Aa (fun b hb=>?_)
  simp -implicitDefEqProofs -proj only [go_sem,seval]
  refine AQ h1 ?_
  simp -implicitDefEqProofs -proj only [go_sem,seval]
  exact AJ rfl
def Je (d c m:Int):AV:=if 0≤d∧d<c∧(m=1∨1<m∧2*d≤c) then .tup [i64 (-9223372036854775808),bv true] else .tup [i64 0,bv false]
theorem Ou {d c m n:Int} {u:Bool} (h:(u=true∧n = -9223372036854775808∧(0≤d∧d<c∧(m=1∨1<m∧2*d≤c)))∨(u=false∧n=0∧¬(0≤d∧d<c∧(m=1∨1<m∧2*d≤c)))):AV.tup [i64 n,bv u]=Je d c m:=by
 unfold Je
 rcases h with ⟨rfl,rfl,h⟩ | ⟨rfl,rfl,h⟩
 ·rw [if_pos h]
 ·rw [if_neg h]
set_option maxRecDepth 20000 in
theorem AKO {p c m:Int} (hc0:0<c) (hc:Fit c) (hp:p.natAbs≤85070591730234615865843651857942052864):DataW Try.prog Wh [wide p,i64 c,i64 m] (Je (-9223372036854775808*c-p) c m):=by
 have h1:=LA (x:=-9223372036854775808) (y:=c) (by decide) hc
 have hq:=OA (x:=-9223372036854775808) (y:=c) (by decide) hc
 have h2:=Mr (n:=p) (by unfold E3; omega)
 have h3:=Kv (a:=-9223372036854775808*c) (b:=-p) (by omega) (by omega)
 obtain ⟨d,hd⟩:∃d,-9223372036854775808*c + -p=d:=⟨_,rfl⟩
 have hd2 : -9223372036854775808*c-p=d:=by omega
 rw [hd] at h3
 rw [hd2]
 have hd3:d.natAbs<340282366920938463463374607431768211456:=by omega
 have hcw:IntKind.u64.wrap c=c:=FA (by unfold Fit at hc; omega)
 generalize -9223372036854775808*c=z at *
 clear hd hd2 hq
 refine A3 AMr (by simp) ?_
 simp -implicitDefEqProofs -proj only [go_sem,seval]
 (repeat' first
  | ((with_reducible first | refine Ej (fun h=>?_) (fun h=>?_) | refine Eb (fun h=>?_) (fun h=>?_) | refine Er (fun h=>?_) (fun h=>?_)) <;> (simp -implicitDefEqProofs -proj only [go_sem,seval, *]; try (revert h; intro _)))
  | ((with_reducible first | refine Aa (fun _ hb=>?_) | refine EL (fun _ hb=>?_)); simp only [Em,Ep,AY,Heap.none_get,and_true,true_and] at hb; simp -implicitDefEqProofs -proj only [go_sem,seval, *]; try (revert hb; intro _))
  | ((with_reducible first | refine EZ _ rfl (by simp) ?_ | refine Es _ rfl (by simp) ?_); simp -implicitDefEqProofs -proj only [go_sem,seval, *])
  | (with_reducible refine BB ?_ (fun h=>?_); first | ((focus first | decide | omega); try clear h; try simp -implicitDefEqProofs -proj only [go_sem,seval, *]) | (rotate_left; try clear h; try simp -implicitDefEqProofs -proj only [go_sem,seval, *]; rotate_right)))
 refine E0 h1 ?_
 simp -implicitDefEqProofs -proj only [go_sem,seval, *]
 (repeat' first
  | ((with_reducible first | refine Ej (fun h=>?_) (fun h=>?_) | refine Eb (fun h=>?_) (fun h=>?_) | refine Er (fun h=>?_) (fun h=>?_)) <;> (simp -implicitDefEqProofs -proj only [go_sem,seval, *]; try (revert h; intro _)))
  | ((with_reducible first | refine Aa (fun _ hb=>?_) | refine EL (fun _ hb=>?_)); simp only [Em,Ep,AY,Heap.none_get,and_true,true_and] at hb; simp -implicitDefEqProofs -proj only [go_sem,seval, *]; try (revert hb; intro _))
  | ((with_reducible first | refine EZ _ rfl (by simp) ?_ | refine Es _ rfl (by simp) ?_); simp -implicitDefEqProofs -proj only [go_sem,seval, *])
  | (with_reducible refine BB ?_ (fun h=>?_); first | ((focus first | decide | omega); try clear h; try simp -implicitDefEqProofs -proj only [go_sem,seval, *]) | (rotate_left; try clear h; try simp -implicitDefEqProofs -proj only [go_sem,seval, *]; rotate_right)))
 refine E0 h2 ?_
 simp -implicitDefEqProofs -proj only [go_sem,seval, *]
 (repeat' first
  | ((with_reducible first | refine Ej (fun h=>?_) (fun h=>?_) | refine Eb (fun h=>?_) (fun h=>?_) | refine Er (fun h=>?_) (fun h=>?_)) <;> (simp -implicitDefEqProofs -proj only [go_sem,seval, *]; try (revert h; intro _)))
  | ((with_reducible first | refine Aa (fun _ hb=>?_) | refine EL (fun _ hb=>?_)); simp only [Em,Ep,AY,Heap.none_get,and_true,true_and] at hb; simp -implicitDefEqProofs -proj only [go_sem,seval, *]; try (revert hb; intro _))
  | ((with_reducible first | refine EZ _ rfl (by simp) ?_ | refine Es _ rfl (by simp) ?_); simp -implicitDefEqProofs -proj only [go_sem,seval, *])
  | (with_reducible refine BB ?_ (fun h=>?_); first | ((focus first | decide | omega); try clear h; try simp -implicitDefEqProofs -proj only [go_sem,seval, *]) | (rotate_left; try clear h; try simp -implicitDefEqProofs -proj only [go_sem,seval, *]; rotate_right)))
 refine E0 h3 ?_
 simp -implicitDefEqProofs -proj only [go_sem,seval, *]
 (repeat' first
  | ((with_reducible first | refine Ej (fun h=>?_) (fun h=>?_) | refine Eb (fun h=>?_) (fun h=>?_) | refine Er (fun h=>?_) (fun h=>?_)) <;> (simp -implicitDefEqProofs -proj only [go_sem,seval, *]; try (revert h; intro _)))
  | ((with_reducible first | refine Aa (fun _ hb=>?_) | refine EL (fun _ hb=>?_)); simp only [Em,Ep,AY,Heap.none_get,and_true,true_and] at hb; simp -implicitDefEqProofs -proj only [go_sem,seval, *]; try (revert hb; intro _))
  | ((with_reducible first | refine EZ _ rfl (by simp) ?_ | refine Es _ rfl (by simp) ?_); simp -implicitDefEqProofs -proj only [go_sem,seval, *])
  | (with_reducible refine BB ?_ (fun h=>?_); first | ((focus first | decide | omega); try clear h; try simp -implicitDefEqProofs -proj only [go_sem,seval, *]) | (rotate_left; try clear h; try simp -implicitDefEqProofs -proj only [go_sem,seval, *]; rotate_right)))
 all_goals
  refine AJ (Ou ?_)
  clear h1 h2 h3
  try simp -implicitDefEqProofs only [decide_eq_true_eq,decide_eq_false_iff_not,Bool.not_eq_true',Bool.not_eq_false',Bool.and_eq_true,Bool.and_eq_false_iff,Bool.or_eq_true,Bool.or_eq_false_iff,beq_iff_eq,beq_eq_false_iff_ne,ne_eq,decide_eq_decide,Bool.not_eq_true,Bool.not_eq_false,IntKind.wrap_u64] at *
  try simp -implicitDefEqProofs only [←decide_not,←Bool.decide_and,←Bool.decide_or,Bool.beq_eq_decide_eq,AV.d.injEq,D.bool.injEq,D.int.injEq,D.str.injEq,AV.tup.injEq,AV.agg.injEq,List.cons.injEq,true_and,and_true,decide_eq_decide,true_eq_decide_iff,false_eq_decide_iff,decide_eq_true_eq,decide_eq_false_iff_not,Bool.false_eq_true,Bool.true_eq_false,reduceCtorEq,false_and,true_and,or_false,false_or]
  unfold Fit at hc
  try omega
set_option maxRecDepth 20000 in
set_option maxHeartbeats 2000000 in
theorem TZ {a b c m:Int} (ha:Fit a) (hb:Fit b) (hc:Fit c):DataW Try.prog X9 [i64 a,i64 b,i64 c,i64 m] (Iy (a*b) c m):=by
 by_cases hh:0<c∧0≤m∧m≤3
 ·obtain ⟨hc0,hm⟩:=hh
  have h1:=LA ha hb
  have hp:=OA ha hb
  have h2:=V1 (p:=a*b) hc0 hc hp
  obtain ⟨q,r,d1,d2,d3,d4,d5,hr⟩:=LZ (p:=a*b) (c:=c) (m:=m) hc0 hm
  rw [M6 hc0 hm]
  have c1:decide (c≤0)=false:=decide_eq_false (by omega)
  have c2:decide (m<0)=false:=decide_eq_false (by omega)
  have c3:decide (3<m)=false:=decide_eq_false (by omega)
  have hcw:IntKind.u64.wrap c=c:=FA (by unfold Fit at hc; omega)
  have hE:=AKO (p:=a*b) (c:=c) (m:=m) hc0 hc hp
  generalize a*b=p at *
  refine A3 Sy (by simp) ?_
  by_cases hf : -9223372036854775808*c≤p
  ·have hcf:=QW hc0 hf
   rw [MT,if_pos hf] at h2
   have h3:=LA hcf hc
   have hq:=OA hcf hc
   have h4:=Mr (n:=II p c*c) (by unfold E3; omega)
   have h5:=Kv (a:=p) (b:=-(II p c*c)) (by omega) (by omega)
   have hn:II p c=if q≤9223372036854775807 then q else 9223372036854775807:=by rw [II,d4]
   obtain ⟨n,hn2⟩:∃n,II p c=n:=⟨_,rfl⟩
   rw [hn2] at hn h2 h3 h4 h5 hcf
   obtain ⟨d,hd⟩:∃d,p + -(n*c)=d:=⟨_,rfl⟩
   rw [hd] at h5
   have hd3:d.natAbs<340282366920938463463374607431768211456:=by rw [hn2] at hq; omega
   have key:n=q∧d=r∨n=9223372036854775807∧9223372036854775807<q∧c≤d:=by
    by_cases hqm:q≤9223372036854775807
    ·rw [if_pos hqm] at hn
     subst hn
     left; omega
    ·rw [if_neg hqm] at hn
     right
     refine ⟨hn,by omega,?_⟩
     have:=Int.mul_le_mul_of_nonneg_right (show 9223372036854775807+1≤q by omega) (Int.le_of_lt hc0)
     rw [Int.add_mul,←hn] at this
     omega
   generalize n*c=z at *
   clear hn hd hq hE d1 hf hn2
   clear d4 d5 hp
   simp -implicitDefEqProofs -proj only [go_sem,seval,c1,c2,c3]
   (repeat' first
  | (refine AQ (h1) ?_; simp -implicitDefEqProofs -proj only [go_sem,seval, *])
  | (refine E0 (h1) ?_; simp -implicitDefEqProofs -proj only [go_sem,seval, *])
  | (refine AQ (h2) ?_; simp -implicitDefEqProofs -proj only [go_sem,seval, *])
  | (refine E0 (h2) ?_; simp -implicitDefEqProofs -proj only [go_sem,seval, *])
  | (refine AQ (h3) ?_; simp -implicitDefEqProofs -proj only [go_sem,seval, *])
  | (refine E0 (h3) ?_; simp -implicitDefEqProofs -proj only [go_sem,seval, *])
  | (refine AQ (h4) ?_; simp -implicitDefEqProofs -proj only [go_sem,seval, *])
  | (refine E0 (h4) ?_; simp -implicitDefEqProofs -proj only [go_sem,seval, *])
  | (refine AQ (h5) ?_; simp -implicitDefEqProofs -proj only [go_sem,seval, *])
  | (refine E0 (h5) ?_; simp -implicitDefEqProofs -proj only [go_sem,seval, *])
  | ((with_reducible first | refine Ej (fun h=>?_) (fun h=>?_) | refine Eb (fun h=>?_) (fun h=>?_) | refine Er (fun h=>?_) (fun h=>?_)) <;> (simp -implicitDefEqProofs -proj only [go_sem,seval, *]; try (revert h; intro _)))
  | ((with_reducible first | refine Aa (fun _ hb=>?_) | refine EL (fun _ hb=>?_)); simp -implicitDefEqProofs only [Em,Ep,AY,Heap.none_get,and_true,true_and] at hb; simp -implicitDefEqProofs -proj only [go_sem,seval, *]; try (revert hb; intro _))
  | ((with_reducible first | refine EZ _ rfl (by simp) ?_ | refine Es _ rfl (by simp) ?_); simp -implicitDefEqProofs -proj only [go_sem,seval, *])
  | (with_reducible refine BB ?_ (fun h=>?_); first | ((focus first | decide | omega); try clear h; try simp -implicitDefEqProofs -proj only [go_sem,seval, *]) | (rotate_left; try clear h; try simp -implicitDefEqProofs -proj only [go_sem,seval, *]; rotate_right)))
   all_goals
    refine AJ (JO ?_)
    clear h1 h2 h3 h4 h5
    have ht:n.tmod 2=0↔n % 2=0:=⟨fun h=>Int.emod_eq_zero_of_dvd (Int.dvd_of_tmod_eq_zero h),fun h=>Int.tmod_eq_zero_of_dvd (Int.dvd_of_emod_eq_zero h)⟩
    simp -implicitDefEqProofs only [decide_eq_true_eq,decide_eq_false_iff_not,Bool.not_eq_true',Bool.not_eq_false',Bool.and_eq_true,Bool.and_eq_false_iff,Bool.or_eq_true,Bool.or_eq_false_iff,beq_iff_eq,beq_eq_false_iff_ne,ne_eq,decide_eq_decide,Bool.not_eq_true,Bool.not_eq_false,IntKind.wrap_u64,IntKind.wrap_i64] at *
    simp -implicitDefEqProofs only [Bool.false_eq_true,reduceCtorEq,true_and,false_and,or_false,false_or]
    unfold Fd at hr
    unfold Fit at *
    generalize ES p c m=R at *
    omega
  ·rw [MT,if_neg hf] at h2
   have h3:=LA (x:=0) (y:=c) (by decide) hc
   have h4:=Mr (n:=0) (by unfold E3; decide)
   have h5:=Kv (a:=p) (b:=0) (by omega) (by decide)
   rw [Int.zero_mul] at h3
   rw [Int.neg_zero] at h4
   rw [Int.add_zero] at h5
   have hq1:q < -9223372036854775808:=by
    rw [←d4,Int.ediv_lt_iff_lt_mul hc0]; omega
   have hd : -9223372036854775808*c-p=(-9223372036854775808-q)*c-r:=by rw [Int.sub_mul]; omega
   obtain ⟨d,hd2⟩:∃d,-9223372036854775808*c-p=d:=⟨_,rfl⟩
   rw [hd2] at hd hE
   have key:q = -9223372036854775809∧d=c-r∨q < -9223372036854775809∧c<d:=by
    by_cases hqm:q = -9223372036854775809
    ·left; subst hqm; exact ⟨rfl,by omega⟩
    ·right
     have:=Int.mul_le_mul_of_nonneg_right (show 2≤-9223372036854775808-q by omega) (Int.le_of_lt hc0)
     omega
   have res:GA (ES p c m)=Je d c m:=by
    symm
    by_cases hf:Fit (ES p c m)
    ·rw [Hj hf]
     symm
     refine Ou ?_
     unfold Fit at hf
     unfold Fd at hr
     generalize ES p c m=R at *
     simp -implicitDefEqProofs only [Bool.true_eq_false,Bool.false_eq_true,reduceCtorEq,true_and,false_and,or_false,false_or]
     omega
    ·rw [IQ hf]
     symm
     refine Ou ?_
     unfold Fit at hf
     unfold Fd at hr
     generalize ES p c m=R at *
     simp -implicitDefEqProofs only [Bool.true_eq_false,Bool.false_eq_true,reduceCtorEq,true_and,false_and,or_false,false_or]
     omega
   rw [res]
   have ee:Je d c m = .tup [i64 (-9223372036854775808),bv true]∨Je d c m = .tup [i64 0,bv false]:=by
    unfold Je; split
    ·exact .inl rfl
    ·exact .inr rfl
   generalize Je d c m=R at *
   clear key hd hd2 res d1 d4 d5 hr hf hp
   rcases ee with rfl | rfl
   all_goals
    simp -implicitDefEqProofs -proj only [go_sem,seval,c1,c2,c3]
    (repeat' first
  | (refine AQ (h1) ?_; simp -implicitDefEqProofs -proj only [go_sem,seval, *])
  | (refine E0 (h1) ?_; simp -implicitDefEqProofs -proj only [go_sem,seval, *])
  | (refine AQ (h2) ?_; simp -implicitDefEqProofs -proj only [go_sem,seval, *])
  | (refine E0 (h2) ?_; simp -implicitDefEqProofs -proj only [go_sem,seval, *])
  | (refine AQ (h3) ?_; simp -implicitDefEqProofs -proj only [go_sem,seval, *])
  | (refine E0 (h3) ?_; simp -implicitDefEqProofs -proj only [go_sem,seval, *])
  | (refine AQ (h4) ?_; simp -implicitDefEqProofs -proj only [go_sem,seval, *])
  | (refine E0 (h4) ?_; simp -implicitDefEqProofs -proj only [go_sem,seval, *])
  | (refine AQ (h5) ?_; simp -implicitDefEqProofs -proj only [go_sem,seval, *])
  | (refine E0 (h5) ?_; simp -implicitDefEqProofs -proj only [go_sem,seval, *])
  | (refine AQ (hE) ?_; simp -implicitDefEqProofs -proj only [go_sem,seval, *])
  | (refine E0 (hE) ?_; simp -implicitDefEqProofs -proj only [go_sem,seval, *])
  | ((with_reducible first | refine Ej (fun h=>?_) (fun h=>?_) | refine Eb (fun h=>?_) (fun h=>?_) | refine Er (fun h=>?_) (fun h=>?_)) <;> (simp -implicitDefEqProofs -proj only [go_sem,seval, *]; try (revert h; intro _)))
  | ((with_reducible first | refine Aa (fun _ hb=>?_) | refine EL (fun _ hb=>?_)); simp -implicitDefEqProofs only [Em,Ep,AY,Heap.none_get,and_true,true_and] at hb; simp -implicitDefEqProofs -proj only [go_sem,seval, *]; try (revert hb; intro _))
  | ((with_reducible first | refine EZ _ rfl (by simp) ?_ | refine Es _ rfl (by simp) ?_); simp -implicitDefEqProofs -proj only [go_sem,seval, *])
  | (with_reducible refine BB ?_ (fun h=>?_); first | ((focus first | decide | omega); try clear h; try simp -implicitDefEqProofs -proj only [go_sem,seval, *]) | (rotate_left; try clear h; try simp -implicitDefEqProofs -proj only [go_sem,seval, *]; rotate_right)))
    all_goals exact AJ rfl
 ·rw [Me hh]
  refine A3 Sy (by simp) ?_
  simp -implicitDefEqProofs -proj only [go_sem,seval]
  (repeat' first
  | ((with_reducible first | refine Ej (fun h=>?_) (fun h=>?_) | refine Eb (fun h=>?_) (fun h=>?_) | refine Er (fun h=>?_) (fun h=>?_)) <;> (simp -implicitDefEqProofs -proj only [go_sem,seval, *]; try (revert h; intro _)))
  | ((with_reducible first | refine Aa (fun _ hb=>?_) | refine EL (fun _ hb=>?_)); simp only [Em,Ep,AY,Heap.none_get,and_true,true_and] at hb; simp -implicitDefEqProofs -proj only [go_sem,seval, *]; try (revert hb; intro _))
  | ((with_reducible first | refine EZ _ rfl (by simp) ?_ | refine Es _ rfl (by simp) ?_); simp -implicitDefEqProofs -proj only [go_sem,seval, *])
  | (with_reducible refine BB ?_ (fun h=>?_); first | ((focus first | decide | omega); try clear h; try simp -implicitDefEqProofs -proj only [go_sem,seval, *]) | (rotate_left; try clear h; try simp -implicitDefEqProofs -proj only [go_sem,seval, *]; rotate_right)))
  all_goals first | exact AJ rfl | (exfalso; simp -implicitDefEqProofs only [decide_eq_true_eq,decide_eq_false_iff_not,Bool.not_eq_true',Bool.not_eq_false',Bool.and_eq_true,Bool.and_eq_false_iff,Bool.or_eq_true,Bool.or_eq_false_iff,beq_iff_eq,beq_eq_false_iff_ne,ne_eq,decide_eq_decide,Bool.not_eq_true,Bool.not_eq_false] at *; omega)
end
def HD (a:Adj) (x:Int):Option Int :=
 if a.k=1 then Fq (x*a.n) 100000 a.m
 else if a.k=2 then some (min x a.n)
 else if a.k=3 then some (max x a.n)
 else if a.k=4 then Hm (x+a.n)
 else none
def IC:Int→List Adj→Option Int
 | x,[]=>some x
 | x,a::l=>match HD a x with
  | some y=>IC y l
  | none=>none
theorem NJ {n y:Int} (h:Hm n=some y):Fit y∧y=n:=by
 unfold Hm at h; split at h
 ·next hf=>cases h; exact ⟨hf,rfl⟩
 ·cases h
theorem Js {p c m y:Int} (h:Fq p c m=some y):Fit y∧y=ES p c m∧0<c∧0≤m∧m≤3:=by
 unfold Fq at h; split at h
 ·next hh=>exact ⟨(NJ h).1,(NJ h).2,hh⟩
 ·cases h
theorem Sm {a:Adj} {x y:Int} (ha:a.Fit) (hx:Fit x) (h:HD a x=some y):Fit y:=by
 unfold HD at h
 obtain ⟨_,hn,_⟩:=ha
 split at h
 ·exact (Js h).1
 split at h
 ·cases h; unfold Fit at *; omega
 split at h
 ·cases h; unfold Fit at *; omega
 split at h
 ·exact (NJ h).1
 ·cases h
theorem Sn (o:Option Int):∃n u,Ef o = .tup [i64 n,bv u]:=by cases o <;> exact ⟨_,_,rfl⟩
theorem ANc {a:Adj} {x:Int} (ha:a.Fit) (hx:Fit x):DataW Try.prog WR [.agg [i64 a.k,i64 a.n,i64 a.m],i64 x] (Ef (HD a x)):=by
 obtain ⟨k,n,m⟩:=a
 obtain ⟨hk,hn,hm⟩:=ha
 have h1:=PK (a:=x) (b:=n) (c:=100000) (m:=m) hx hn (by decide)
 have h2:=Mb hx hn
 rw [NC] at h1
 rw [Q8] at h2
 obtain ⟨n1,u1,e1⟩:=Sn (Fq (x*n) 100000 m)
 obtain ⟨n2,u2,e2⟩:=Sn (Hm (x+n))
 rw [e1] at h1
 rw [e2] at h2
 refine A3 ABs (by simp) ?_
 by_cases k1:k=1
 ·subst k1
  rw [show HD ⟨1,n,m⟩ x=Fq (x*n) 100000 m from rfl,e1]
  simp -implicitDefEqProofs -proj only [go_sem,seval,eq_self]
  (repeat' first
  | (refine AQ (h1) ?_; simp -implicitDefEqProofs -proj only [go_sem,seval, *])
  | (refine E0 (h1) ?_; simp -implicitDefEqProofs -proj only [go_sem,seval, *])
  | ((with_reducible first | refine Ej (fun h=>?_) (fun h=>?_) | refine Eb (fun h=>?_) (fun h=>?_) | refine Er (fun h=>?_) (fun h=>?_)) <;> (simp -implicitDefEqProofs -proj only [go_sem,seval, *]; try (revert h; intro _)))
  | ((with_reducible first | refine Aa (fun _ hb=>?_) | refine EL (fun _ hb=>?_)); simp -implicitDefEqProofs only [Em,Ep,AY,Heap.none_get,and_true,true_and] at hb; simp -implicitDefEqProofs -proj only [go_sem,seval, *]; try (revert hb; intro _))
  | ((with_reducible first | refine EZ _ rfl (by simp) ?_ | refine Es _ rfl (by simp) ?_); simp -implicitDefEqProofs -proj only [go_sem,seval, *])
  | (with_reducible refine BB ?_ (fun h=>?_); first | ((focus first | decide | omega); try clear h; try simp -implicitDefEqProofs -proj only [go_sem,seval, *]) | (rotate_left; try clear h; try simp -implicitDefEqProofs -proj only [go_sem,seval, *]; rotate_right)))
  exact AJ rfl
 by_cases k2:k=2
 ·subst k2
  rw [show HD ⟨2,n,m⟩ x=some (min x n) from rfl,Ef]
  simp -implicitDefEqProofs -proj only [go_sem,seval,eq_self]
  (repeat' first
  | ((with_reducible first | refine Ej (fun h=>?_) (fun h=>?_) | refine Eb (fun h=>?_) (fun h=>?_) | refine Er (fun h=>?_) (fun h=>?_)) <;> (simp -implicitDefEqProofs -proj only [go_sem,seval, *]; try (revert h; intro _)))
  | ((with_reducible first | refine Aa (fun _ hb=>?_) | refine EL (fun _ hb=>?_)); simp only [Em,Ep,AY,Heap.none_get,and_true,true_and] at hb; simp -implicitDefEqProofs -proj only [go_sem,seval, *]; try (revert hb; intro _))
  | ((with_reducible first | refine EZ _ rfl (by simp) ?_ | refine Es _ rfl (by simp) ?_); simp -implicitDefEqProofs -proj only [go_sem,seval, *])
  | (with_reducible refine BB ?_ (fun h=>?_); first | ((focus first | decide | omega); try clear h; try simp -implicitDefEqProofs -proj only [go_sem,seval, *]) | (rotate_left; try clear h; try simp -implicitDefEqProofs -proj only [go_sem,seval, *]; rotate_right)))
  exact AJ rfl
 by_cases k3:k=3
 ·subst k3
  rw [show HD ⟨3,n,m⟩ x=some (max x n) from rfl,Ef]
  simp -implicitDefEqProofs -proj only [go_sem,seval,eq_self]
  (repeat' first
  | ((with_reducible first | refine Ej (fun h=>?_) (fun h=>?_) | refine Eb (fun h=>?_) (fun h=>?_) | refine Er (fun h=>?_) (fun h=>?_)) <;> (simp -implicitDefEqProofs -proj only [go_sem,seval, *]; try (revert h; intro _)))
  | ((with_reducible first | refine Aa (fun _ hb=>?_) | refine EL (fun _ hb=>?_)); simp only [Em,Ep,AY,Heap.none_get,and_true,true_and] at hb; simp -implicitDefEqProofs -proj only [go_sem,seval, *]; try (revert hb; intro _))
  | ((with_reducible first | refine EZ _ rfl (by simp) ?_ | refine Es _ rfl (by simp) ?_); simp -implicitDefEqProofs -proj only [go_sem,seval, *])
  | (with_reducible refine BB ?_ (fun h=>?_); first | ((focus first | decide | omega); try clear h; try simp -implicitDefEqProofs -proj only [go_sem,seval, *]) | (rotate_left; try clear h; try simp -implicitDefEqProofs -proj only [go_sem,seval, *]; rotate_right)))
  exact AJ rfl
 by_cases k4:k=4
 ·subst k4
  rw [show HD ⟨4,n,m⟩ x=Hm (x+n) from rfl,e2]
  simp -implicitDefEqProofs -proj only [go_sem,seval,eq_self]
  (repeat' first
  | (refine AQ (h2) ?_; simp -implicitDefEqProofs -proj only [go_sem,seval, *])
  | (refine E0 (h2) ?_; simp -implicitDefEqProofs -proj only [go_sem,seval, *])
  | ((with_reducible first | refine Ej (fun h=>?_) (fun h=>?_) | refine Eb (fun h=>?_) (fun h=>?_) | refine Er (fun h=>?_) (fun h=>?_)) <;> (simp -implicitDefEqProofs -proj only [go_sem,seval, *]; try (revert h; intro _)))
  | ((with_reducible first | refine Aa (fun _ hb=>?_) | refine EL (fun _ hb=>?_)); simp -implicitDefEqProofs only [Em,Ep,AY,Heap.none_get,and_true,true_and] at hb; simp -implicitDefEqProofs -proj only [go_sem,seval, *]; try (revert hb; intro _))
  | ((with_reducible first | refine EZ _ rfl (by simp) ?_ | refine Es _ rfl (by simp) ?_); simp -implicitDefEqProofs -proj only [go_sem,seval, *])
  | (with_reducible refine BB ?_ (fun h=>?_); first | ((focus first | decide | omega); try clear h; try simp -implicitDefEqProofs -proj only [go_sem,seval, *]) | (rotate_left; try clear h; try simp -implicitDefEqProofs -proj only [go_sem,seval, *]; rotate_right)))
  exact AJ rfl
 ·have hno:HD ⟨k,n,m⟩ x=none:=by simp [HD,k1,k2,k3,k4]
  rw [hno,Ef]
  simp -implicitDefEqProofs -proj only [go_sem,seval,k1,k2,k3,k4]
  (repeat' first
  | ((with_reducible first | refine Ej (fun h=>?_) (fun h=>?_) | refine Eb (fun h=>?_) (fun h=>?_) | refine Er (fun h=>?_) (fun h=>?_)) <;> (simp -implicitDefEqProofs -proj only [go_sem,seval, *]; try (revert h; intro _)))
  | ((with_reducible first | refine Aa (fun _ hb=>?_) | refine EL (fun _ hb=>?_)); simp only [Em,Ep,AY,Heap.none_get,and_true,true_and] at hb; simp -implicitDefEqProofs -proj only [go_sem,seval, *]; try (revert hb; intro _))
  | ((with_reducible first | refine EZ _ rfl (by simp) ?_ | refine Es _ rfl (by simp) ?_); simp -implicitDefEqProofs -proj only [go_sem,seval, *])
  | (with_reducible refine BB ?_ (fun h=>?_); first | ((focus first | decide | omega); try clear h; try simp -implicitDefEqProofs -proj only [go_sem,seval, *]) | (rotate_left; try clear h; try simp -implicitDefEqProofs -proj only [go_sem,seval, *]; rotate_right)))
  exact AJ rfl
theorem ABt {l:List Adj} {x:Int} (hl:Qy l) (hx:Fit x) (hn:l.length≤4611686018427387904):DataW Try.prog AOe [i64 x,GB l] (Ef (IC x l)):=by
 refine A3 APX (by simp) ?_
 simp -implicitDefEqProofs -proj only [go_sem,seval,GT]
 refine EX (fun p:Nat×Int=>p.1≤l.length∧Fit p.2∧IC p.2 (l.drop p.1)=IC x l) 25 (fun p=>[(9,GB l),(10,i64 l.length),(11,i64 p.1),(0,i64 p.2)]) (fun _=>[]) (fun p=>l.length-p.1) (0,x) ⟨by simp -implicitDefEqProofs only [AZ]; omega,hx,by simp -implicitDefEqProofs only [AZ,Ac,List.drop_zero]⟩ rfl ?_ ?_ ?_
 ·simp -implicitDefEqProofs -proj only [go_sem,seval,AP]
 ·trivial
 ·rintro ⟨i,n⟩ ⟨hi,hf,hs⟩
  simp -implicitDefEqProofs only [AZ,Ac] at hi hf hs
  by_cases h:i<l.length
  ·have ha:=hl i h
   have hc:=TJ h
   rw [List.drop_eq_getElem_cons h] at hs
   generalize l[i]=a at *
   have h1:=ANc ha hf
   rw [Adj.el] at hc
   simp -implicitDefEqProofs -proj only [go_sem,seval,decide_eq_true (show (i:Int)<l.length by omega)]
   refine Eh _ (by omega) hc ?_
   simp -implicitDefEqProofs -proj only [go_sem,seval,hc]
   (repeat' first
  | ((with_reducible first | refine Ej (fun h=>?_) (fun h=>?_) | refine Eb (fun h=>?_) (fun h=>?_) | refine Er (fun h=>?_) (fun h=>?_)) <;> (simp -implicitDefEqProofs -proj only [go_sem,seval, *]; try (revert h; intro _)))
  | ((with_reducible first | refine Aa (fun _ hb=>?_) | refine EL (fun _ hb=>?_)); simp only [Em,Ep,AY,Heap.none_get,and_true,true_and] at hb; simp -implicitDefEqProofs -proj only [go_sem,seval, *]; try (revert hb; intro _))
  | ((with_reducible first | refine EZ _ rfl (by simp) ?_ | refine Es _ rfl (by simp) ?_); simp -implicitDefEqProofs -proj only [go_sem,seval, *])
  | (with_reducible refine BB ?_ (fun h=>?_); first | ((focus first | decide | omega); try clear h; try simp -implicitDefEqProofs -proj only [go_sem,seval, *]) | (rotate_left; try clear h; try simp -implicitDefEqProofs -proj only [go_sem,seval, *]; rotate_right)))
   refine AQ h1 ?_
   rw [IC] at hs
   cases ho:HD a n with
   | some y =>
    rw [ho] at hs
    have hy:=Sm ha hf ho
    simp -implicitDefEqProofs only [] at hs
    rw [Ef]
    simp -implicitDefEqProofs -proj only [go_sem,seval]
    refine EF (i+1,y) ⟨by simp -implicitDefEqProofs only [AZ]; omega,hy,by simp -implicitDefEqProofs only [AZ,Ac]; exact hs⟩ (by simp -implicitDefEqProofs only [AZ]; omega) rfl ?_ trivial
    simp -implicitDefEqProofs -proj only [go_sem,seval,AP,Ed (show i<9223372036854775807 by omega)]
   | none =>
    rw [ho] at hs
    simp -implicitDefEqProofs only [] at hs
    rw [Ef]
    simp -implicitDefEqProofs -proj only [go_sem,seval,←hs,Ef]
    exact AJ rfl
  ·have hi':i=l.length:=by omega
   subst hi'
   rw [List.drop_length] at hs
   simp -implicitDefEqProofs -proj only [go_sem,seval,decide_eq_false (show ¬(l.length:Int)<l.length by omega)]
   rw [←hs,IC,Ef]
   exact AJ rfl
def HO (x:PartX) (q:Int):Option Int:=match I9 x q with
 | some n=>IC n x.ad
 | none=>none
theorem Td {x:PartX} {q n:Int} (h:I9 x q=some n):Fit n:=by
 unfold I9 at h
 split at h
 ·exact (Js h).1
 ·cases h
theorem VQ {x:PartX} {q:Int} (hx:x.Fit) (hq:Fit q) (G:GoodX x) (S:Srt x.ts):DataW Try.prog AOm [Jc x,i64 q] (Ef (HO x q)):=by
 have hc:=ARM hx hq G.al.1 G.bl.1 (by have:=G.tn; omega) (fun n hn=>APH S hn)
 unfold HO
 refine A3 AFR (by simp) ?_
 simp -implicitDefEqProofs -proj only [go_sem,seval]
 refine Aa (fun b2 hb2=>?_)
 simp -implicitDefEqProofs -proj only [go_sem,seval]
 refine AQ hc ?_
 cases e:I9 x q with
 | none =>
  simp -implicitDefEqProofs -proj only [go_sem,seval,Ef]
  exact AJ rfl
 | some n =>
  have ha:=ABt (l:=x.ad) (x:=n) (AER hx.ad) (Td e) (by have:=G.an; omega)
  simp -implicitDefEqProofs only []
  simp -implicitDefEqProofs -proj only [go_sem,seval,Ef]
  refine AQ ha ?_
  cases IC n x.ad with
  | none=>simp -implicitDefEqProofs -proj only [go_sem,seval,Ef]; exact AJ rfl
  | some m=>simp -implicitDefEqProofs -proj only [go_sem,seval,Ef]; exact AJ rfl
theorem RX {P:Program} {Q:Out→St→Prop} {d:Option Nat} {l:List AO} {k:List Item} {s:St} {a b:ByteArray}:Ew P Q .geq (.d (.str a)) (.d (.str b)) d l k s=AN P Q l k (AF s d (.d (.bool (!Op.bytesLess a.toList b.toList))) s.H):=rfl
theorem P7 {n lo hi:Int}:DataW Try.prog OL [i64 n,i64 lo,i64 hi] (bv (decide (lo≤n∧n≤hi))):=by
 refine A3 ACP (by simp) ?_
 by_cases h1:lo≤n
 ·by_cases h2:n≤hi
  ·simp -implicitDefEqProofs -proj only [go_sem,seval,decide_eq_true h1,decide_eq_true h2]
   exact AJ (by rw [decide_eq_true ⟨h1,h2⟩])
  ·simp -implicitDefEqProofs -proj only [go_sem,seval,decide_eq_true h1,decide_eq_false h2]
   exact AJ (by rw [decide_eq_false (fun h=>h2 h.2)])
 ·simp -implicitDefEqProofs -proj only [go_sem,seval,decide_eq_false h1]
  exact AJ (by rw [decide_eq_false (fun h=>h1 h.1)])
theorem HH {n lo hi:Int} (h:lo≤n∧n≤hi):DataW Try.prog OL [i64 n,i64 lo,i64 hi] (bv true):=by
 have:=@P7 n lo hi; rwa [decide_eq_true h] at this
theorem HF {n lo hi:Int} (h:¬(lo≤n∧n≤hi)):DataW Try.prog OL [i64 n,i64 lo,i64 hi] (bv false):=by
 have:=@P7 n lo hi; rwa [decide_eq_false h] at this
abbrev Ng (a:Adj):AV:=.agg [i64 a.k,i64 a.n,i64 a.m]
theorem ANQ {a:Adj}:DataW Try.prog Yv [Ng a] (bv (decide (FY a))):=by
 refine A3 AAR (by simp) ?_
 simp -implicitDefEqProofs -proj only [go_sem,seval]
 refine Aa (fun b1 hb1=>?_)
 by_cases h1:a.k=1
 ·simp -implicitDefEqProofs -proj only [go_sem,seval,decide_eq_true h1]
  by_cases h2:0≤a.n∧a.n≤100000000
  rotate_left
  ·refine AQ (HF h2) ?_
   simp -implicitDefEqProofs -proj only [go_sem,seval]
   exact AJ (by rw [decide_eq_false]; unfold FY; omega)
  refine AQ (HH h2) ?_
  simp -implicitDefEqProofs -proj only [go_sem,seval]
  by_cases h3:0≤a.m∧a.m≤3
  rotate_left
  ·refine AQ (HF h3) ?_
   simp -implicitDefEqProofs -proj only [go_sem,seval]
   exact AJ (by rw [decide_eq_false]; unfold FY; omega)
  refine AQ (HH h3) ?_
  simp -implicitDefEqProofs -proj only [go_sem,seval]
  exact AJ (by rw [decide_eq_true]; unfold FY; omega)
 ·simp -implicitDefEqProofs -proj only [go_sem,seval,decide_eq_false h1]
  by_cases h2:2≤a.k∧a.k≤4
  rotate_left
  ·refine AQ (HF h2) ?_
   simp -implicitDefEqProofs -proj only [go_sem,seval]
   exact AJ (by rw [decide_eq_false]; unfold FY; omega)
  refine AQ (HH h2) ?_
  simp -implicitDefEqProofs -proj only [go_sem,seval]
  by_cases h3:0≤a.n∧a.n≤1000000000000
  rotate_left
  ·refine AQ (HF h3) ?_
   simp -implicitDefEqProofs -proj only [go_sem,seval]
   exact AJ (by rw [decide_eq_false]; unfold FY; omega)
  refine AQ (HH h3) ?_
  by_cases h4:a.m=0
  ·simp -implicitDefEqProofs -proj only [go_sem,seval,decide_eq_true h4]
   exact AJ (by rw [decide_eq_true]; unfold FY; omega)
  ·simp -implicitDefEqProofs -proj only [go_sem,seval,decide_eq_false h4]
   exact AJ (by rw [decide_eq_false]; unfold FY; omega)
theorem Xa {a:Adj}:DataW Try.prog ALl [Ng a] (bv (!decide (FY a))):=by
 refine A3 AID (by simp) ?_
 simp -implicitDefEqProofs -proj only [go_sem,seval]
 refine Aa (fun b1 hb1=>?_)
 simp -implicitDefEqProofs -proj only [go_sem,seval]
 refine AQ ANQ ?_
 simp -implicitDefEqProofs -proj only [go_sem,seval]
 exact AJ rfl
def Ie {α:Type} (p : α→Bool) (l:List α):Int:=match l.findIdx? p with
 | some i=>i
 | none=>-1
theorem RE {α:Type} {p : α→Bool} {l:List α} {i:Nat} (h:i<l.length) (hp:p l[i]=true) (hs:∀(j:Nat) (h:j<l.length),j<i→p l[j]=false):Ie p l=i:=by
 unfold Ie
 rw [List.findIdx?_eq_some_iff_getElem.2 ⟨h,hp,fun j hj=>by rw [hs j (by omega) hj]; simp⟩]
theorem SE {α:Type} {p : α→Bool} {l:List α} (hs:∀(j:Nat) (h:j<l.length),p l[j]=false):Ie p l = -1:=by
 unfold Ie
 rw [List.findIdx?_eq_none_iff.2 fun x hx=>by obtain ⟨j,hj,rfl⟩:=List.getElem_of_mem hx; exact hs j hj]
theorem Sl {α:Type} {p : α→Bool} {l:List α}:decide (0≤Ie p l)=l.any p:=by
 unfold Ie
 cases h:l.findIdx? p with
 | some i =>
  obtain ⟨h1,h2,_⟩:=List.findIdx?_eq_some_iff_getElem.1 h
  rw [List.any_eq_true.2 ⟨_,List.getElem_mem h1,h2⟩]
  exact decide_eq_true (show (0:Int)≤(i:Int) by omega)
 | none =>
  have:=List.findIdx?_eq_none_iff.1 h
  rw [List.any_eq_false.2 (fun x hx=>by rw [this x hx]; simp)]
  exact decide_eq_false (show ¬(0:Int)≤-1 by omega)
theorem AHe {l:List Adj} {f:FuncId} {p:Adj→Bool} (hf:∀a,DataW Try.prog f [Ng a] (bv (p a))) (hl:l.length≤9223372036854775807):DataW Try.prog AM1 [GB l,.fn f []] (i64 (Ie p l)):=by
 refine A3 ADQ (by simp) ?_
 simp -implicitDefEqProofs -proj only [go_sem,seval,GT]
 refine EX (fun i:Nat=>i≤l.length∧∀(j:Nat) (h:j<l.length),j<i→p l[j]=false) 19 (fun i=>[(0,GB l),(1,.fn f []),(6,GB l),(7,i64 l.length),(8,i64 i)]) (fun _=>[]) (fun i=>l.length-i) 0 ⟨Nat.zero_le _,fun j _ h=>absurd h (Nat.not_lt_zero _)⟩ rfl ?_ ?_ ?_
 ·simp -implicitDefEqProofs -proj only [go_sem,seval,AP]
 ·trivial
 ·rintro i ⟨hi,hs⟩
  by_cases h:i<l.length
  ·have hel:=QN h
   have hcall:=hf l[i]
   have hgo:p l[i]=false→∀(j:Nat) (h:j<l.length),j<i+1→p l[j]=false:=L4 (P:=fun _ x=>p x=false) (List.getElem?_eq_getElem h) hs
   have hyes:p l[i]=true→Ie p l=i:=fun e=>RE h e hs
   generalize l[i]=a at *
   simp -implicitDefEqProofs -proj only [go_sem,seval,decide_eq_true (show (i:Int)<l.length by omega)]
   refine Eh _ (by omega) hel ?_
   simp -implicitDefEqProofs -proj only [go_sem,seval]
   refine AQ hcall ?_
   cases hp:p a
   ·simp -implicitDefEqProofs -proj only [go_sem,seval]
    refine EF (i+1) ⟨by omega,hgo hp⟩ (by show l.length-(i+1)<l.length-i; omega) rfl ?_ trivial
    simp -implicitDefEqProofs -proj only [go_sem,seval,AP,Ed (show i<9223372036854775807 by omega)]
   ·simp -implicitDefEqProofs -proj only [go_sem,seval]
    rw [hyes hp]
    exact AJ rfl
  ·have hi':i=l.length:=by omega
   subst hi'
   simp -implicitDefEqProofs -proj only [go_sem,seval,decide_eq_false (show ¬(l.length:Int)<l.length by omega)]
   rw [SE fun j h=>hs j h h]
   exact AJ rfl
theorem AMd {l:List Adj} {f:FuncId} {p:Adj→Bool} (hf:∀a,DataW Try.prog f [Ng a] (bv (p a))) (hl:l.length≤9223372036854775807):DataW Try.prog AGD [GB l,.fn f []] (bv (l.any p)):=by
 refine A3 AQR (by simp) ?_
 simp -implicitDefEqProofs -proj only [go_sem,seval]
 refine AQ (AHe hf hl) ?_
 simp -implicitDefEqProofs -proj only [go_sem,seval]
 rw [Sl]
 exact AJ rfl
def HL (T:List Tier) (i:Nat):Int:=match i with
 | 0=>0
 | j+1=>match T[j]? with
  | some p=>p.u
  | none=>0
theorem ACD {T:List Tier} {i:Nat} (hi:i<T.length) (h:¬i+1=T.length):1≤HK T i:=by
 by_cases h0:i=0
 ·subst h0; rw [(PO h).1]; omega
 ·by_cases hu:1≤T[i-1].u
  ·rw [(NO (by omega) (by omega) h hu).1]; omega
  ·rw [(Vz (by omega) (by omega) h hu).1]; omega
theorem AGJ {T:List Tier} {i:Nat} (hi:i<T.length) (h:¬i+1=T.length) (hs:∀(j:Nat) (h:j<T.length),j<i→HX T j T[j]):HK T i=HL T i+1∧Iu T i=1000000∧0≤HL T i∧HL T i≤1000000:=by
 match i with
 | 0 =>
  obtain ⟨h1,h2⟩:=PO h
  exact ⟨h1,h2,by simp [HL],by simp [HL]⟩
 | j+1 =>
  have hj:j<T.length:=by omega
  have hok:=hs j hj (by omega)
  have hne:¬j+1=T.length:=by omega
  have hlo:=ACD hj hne
  have hhi:Iu T j=1000000:=if_neg hne
  obtain ⟨_,h2,h3⟩:=hok
  rw [hhi] at h3
  have hl:HL T (j+1)=T[j].u:=by simp [HL,List.getElem?_eq_getElem hj]
  obtain ⟨e1,e2⟩:=NO (T:=T) (i:=j+1) (by omega) hj h (by show 1≤T[j].u; omega)
  rw [hl,e1,e2]
  refine ⟨?_,rfl,by omega,h3⟩
  show min T[j].u 1000000+1=_
  omega
theorem AAQ {T:List Tier} (hn:T.length≤9223372036854775807):DataW Try.prog AGr [Fb T] (bv (decide (JG T∧1≤T.length∧T.length≤8))):=by
 refine A3 AFr (by simp) ?_
 simp -implicitDefEqProofs -proj only [go_sem,seval,FP]
 refine EX (fun i:Nat=>i≤T.length∧∀(j:Nat) (h:j<T.length),j<i→HX T j T[j]) 49 (fun i=>[(0,Fb T),(3,i64 (HL T i)),(7,Fb T),(8,i64 T.length),(9,i64 i)]) (fun _=>[]) (fun i=>T.length-i) 0 ⟨Nat.zero_le _,fun j _ h=>absurd h (Nat.not_lt_zero _)⟩ rfl ?_ ?_ ?_
 ·simp -implicitDefEqProofs -proj only [go_sem,seval,AP,HL]
 ·trivial
 ·rintro i ⟨hi,hs⟩
  by_cases h:i<T.length
  ·have hel:=LR h
   have hlast:=@S5 T i
   have hmid:=fun k=>AGJ h k hs
   have hno:¬HX T i T[i]→decide (JG T∧1≤T.length∧T.length≤8)=false:=fun e=>decide_eq_false fun k=>e (k.1 i h)
   have hgo:HX T i T[i]→∀(j:Nat) (h:j<T.length),j<i+1→HX T j T[j]:=L4 (List.getElem?_eq_getElem h) hs
   have hnx:HL T (i+1)=T[i].u:=by simp [HL,List.getElem?_eq_getElem h]
   have hwl:IntKind.i64.wrap ((T.length:Int)-1)=(T.length:Int)-1:=by rw [IntKind.wrap_i64]; omega
   generalize T[i]=q at *
   unfold HX at hno hgo
   simp -implicitDefEqProofs -proj only [go_sem,seval,decide_eq_true (show (i:Int)<T.length by omega)]
   refine Eh _ (by omega) hel ?_
   simp -implicitDefEqProofs -proj only [go_sem,seval]
   refine Aa (fun b5 hb5=>?_)
   by_cases hl:i+1=T.length
   ·obtain ⟨e1,e2⟩:=hlast hl
    simp -implicitDefEqProofs -proj only [go_sem,seval,FP,hwl,decide_eq_true (show (i:Int)=(T.length:Int)-1 by omega)]
    by_cases c1:0≤q.r∧q.r≤1000000000000
    rotate_left
    ·refine AQ (HF c1) ?_
     simp -implicitDefEqProofs -proj only [go_sem,seval]
     exact AJ (by rw [hno (fun k=>c1 k.1)])
    refine AQ (HH c1) ?_
    by_cases c2:q.u=0
    rotate_left
    ·simp -implicitDefEqProofs -proj only [go_sem,seval,decide_eq_false c2]
     exact AJ (by rw [hno (fun k=>by omega)])
    simp -implicitDefEqProofs -proj only [go_sem,seval,decide_eq_true c2]
    refine EF (i+1) ⟨by omega,hgo ⟨c1,by omega⟩⟩ (by show T.length-(i+1)<T.length-i; omega) rfl ?_ trivial
    simp -implicitDefEqProofs -proj only [go_sem,seval,AP,hnx,c2,Ed (show i<9223372036854775807 by omega)]
   ·obtain ⟨e1,e2,e3,e4⟩:=hmid hl
    have hw:IntKind.i64.wrap (HL T i+1)=HL T i+1:=by rw [IntKind.wrap_i64]; omega
    simp -implicitDefEqProofs -proj only [go_sem,seval,FP,hwl,decide_eq_false (show ¬(i:Int)=(T.length:Int)-1 by omega)]
    by_cases c1:0≤q.r∧q.r≤1000000000000
    rotate_left
    ·refine AQ (HF c1) ?_
     simp -implicitDefEqProofs -proj only [go_sem,seval]
     exact AJ (by rw [hno (fun k=>c1 k.1)])
    refine AQ (HH c1) ?_
    simp -implicitDefEqProofs -proj only [go_sem,seval,hw]
    by_cases c2:HL T i+1≤q.u∧q.u≤1000000
    rotate_left
    ·refine AQ (HF c2) ?_
     simp -implicitDefEqProofs -proj only [go_sem,seval]
     exact AJ (by rw [hno (fun k=>by omega)])
    refine AQ (HH c2) ?_
    simp -implicitDefEqProofs -proj only [go_sem,seval]
    refine EF (i+1) ⟨by omega,hgo ⟨c1,by omega⟩⟩ (by show T.length-(i+1)<T.length-i; omega) rfl ?_ trivial
    simp -implicitDefEqProofs -proj only [go_sem,seval,AP,hnx,Ed (show i<9223372036854775807 by omega)]
  ·have hi':i=T.length:=by omega
   subst hi'
   simp -implicitDefEqProofs -proj only [go_sem,seval,FP,decide_eq_false (show ¬(T.length:Int)<T.length by omega)]
   refine AQ P7 ?_
   simp -implicitDefEqProofs -proj only [go_sem,seval]
   refine AJ (congrArg (fun b=>AV.d (.bool b)) (decide_eq_decide.2 ⟨fun k=>⟨fun j h=>hs j h h,by omega,by omega⟩,fun k=>by omega⟩))
theorem AGx {cur:ByteArray} {f t:Int} {ms ss ps:List (List D)} {x:PartX} (hm:ms.length≤9223372036854775807) (htn:x.ts.length≤9223372036854775807) (han:x.ad.length≤9223372036854775807):DataW Try.prog AKv [Pc cur f t ms ss ps,Jc x] (bv (decide (IU f t ms.length x))):=by
 have hno:¬Jt f t ms.length x→decide (IU f t ms.length x)=false:=fun e=>decide_eq_false fun k=>e k.1
 have hpd:IU f t ms.length x↔Jt f t ms.length x∧JG x.ts∧LU x.ad:=Iff.rfl
 unfold Jt at hno hpd
 have hwl:IntKind.i64.wrap ((ms.length:Int)-1)=(ms.length:Int)-1:=by rw [IntKind.wrap_i64]; omega
 refine A3 ACh (by simp) ?_
 simp -implicitDefEqProofs -proj only [go_sem,seval]
 refine Aa (fun b2 hb2=>?_)
 simp -implicitDefEqProofs -proj only [go_sem,seval]
 refine Aa (fun b3 hb3=>?_)
 replace hb3:AI Heap.none b2 _ b3=none:=hb3
 obtain ⟨n1,n2⟩:=EG hb3 AK
 simp -implicitDefEqProofs -proj only [go_sem,seval,n1,n2,hwl]
 by_cases g1:0≤x.me∧x.me≤(ms.length:Int)-1
 rotate_left
 ·refine AQ (HF g1) ?_
  simp -implicitDefEqProofs -proj only [go_sem,seval]
  exact AJ (by rw [hno (fun k=>by omega)])
 refine AQ (HH g1) ?_
 by_cases g2:x.t<x.f
 ·simp -implicitDefEqProofs -proj only [go_sem,seval,n1,n2,decide_eq_true g2]
  exact AJ (by rw [hno (fun k=>by omega)])
 by_cases g3:x.f<f
 ·simp -implicitDefEqProofs -proj only [go_sem,seval,n1,n2,decide_eq_false g2,decide_eq_true g3]
  exact AJ (by rw [hno (fun k=>by omega)])
 by_cases g4:t<x.t
 ·simp -implicitDefEqProofs -proj only [go_sem,seval,n1,n2,decide_eq_false g2,decide_eq_false g3,decide_eq_true g4]
  exact AJ (by rw [hno (fun k=>by omega)])
 simp -implicitDefEqProofs -proj only [go_sem,seval,n1,n2,decide_eq_false g2,decide_eq_false g3,decide_eq_false g4]
 by_cases g5:0≤x.al∧x.al≤1000000
 rotate_left
 ·refine AQ (HF g5) ?_
  simp -implicitDefEqProofs -proj only [go_sem,seval]
  exact AJ (by rw [hno (fun k=>g5 k.2.2.2.1)])
 refine AQ (HH g5) ?_
 simp -implicitDefEqProofs -proj only [go_sem,seval,n1,n2]
 by_cases g6:1≤x.bl∧x.bl≤1000000
 rotate_left
 ·refine AQ (HF g6) ?_
  simp -implicitDefEqProofs -proj only [go_sem,seval]
  exact AJ (by rw [hno (fun k=>g6 k.2.2.2.2.1)])
 refine AQ (HH g6) ?_
 simp -implicitDefEqProofs -proj only [go_sem,seval,n1,n2]
 by_cases g7:1≤x.ki∧x.ki≤2
 rotate_left
 ·refine AQ (HF g7) ?_
  simp -implicitDefEqProofs -proj only [go_sem,seval]
  exact AJ (by rw [hno (fun k=>by omega)])
 refine AQ (HH g7) ?_
 simp -implicitDefEqProofs -proj only [go_sem,seval,n1,n2]
 by_cases g8:0≤x.mo∧x.mo≤3
 rotate_left
 ·refine AQ (HF g8) ?_
  simp -implicitDefEqProofs -proj only [go_sem,seval]
  exact AJ (by rw [hno (fun k=>by omega)])
 refine AQ (HH g8) ?_
 by_cases g9:6<(x.ad.length:Int)
 ·simp -implicitDefEqProofs -proj only [go_sem,seval,n1,n2,GT,decide_eq_true g9]
  exact AJ (by rw [hno (fun k=>by omega)])
 simp -implicitDefEqProofs -proj only [go_sem,seval,n1,n2,GT,decide_eq_false g9]
 refine AQ (AAQ htn) ?_
 by_cases g10:JG x.ts∧1≤x.ts.length∧x.ts.length≤8
 rotate_left
 ·simp -implicitDefEqProofs -proj only [go_sem,seval,n1,n2,decide_eq_false g10]
  exact AJ (by rw [decide_eq_false (fun k=>g10 ⟨k.2.1,by have:=k.1; unfold Jt at this; omega⟩)])
 simp -implicitDefEqProofs -proj only [go_sem,seval,n1,n2,decide_eq_true g10]
 refine AQ (AMd (fun a=>Xa) han) ?_
 simp -implicitDefEqProofs -proj only [go_sem,seval]
 refine AJ (congrArg (fun b=>AV.d (.bool b)) ?_)
 have hiff:(x.ad.any fun a=>!decide (FY a))=false↔LU x.ad:=by
  rw [List.any_eq_false]
  exact ⟨fun h a ha=>by have:=h a ha; simpa using this,fun h a ha=>by simpa using h a ha⟩
 by_cases g11:LU x.ad
 ·rw [hiff.2 g11,decide_eq_true (hpd.2 ⟨by omega,g10.1,g11⟩)]
  rfl
 ·rw [decide_eq_false (fun k=>g11 (hpd.1 k).2.2)]
  cases e:x.ad.any fun a=>!decide (FY a)
  ·exact absurd (hiff.1 e) g11
  ·rfl
abbrev GL (c:CoreX):Blk:=.box 26 [.d (.str c.cur),i64 c.f,i64 c.t,.d (.sl 5 (EI c.ms)),.d (.sl 3 (FH c.ss)),.d (.sl 9 (E1 c.ps))]
noncomputable def HR (c:CoreX) (x:PartX):Bool:=!decide (IU c.f c.t c.ms.length x)
theorem AO8 {c:CoreX} {H:Heap} {b:Nat} {x:PartX} (hb:H b=some (GL c)) (hm:c.ms.length≤9223372036854775807) (htn:x.ts.length≤9223372036854775807) (han:x.ad.length≤9223372036854775807):CallW Try.prog Mg [Jc x,.ptr b 0] H fun r H'=>r=bv (HR c x)∧H' b=some (GL c):=by
 have hcall:=AGx (cur:=c.cur) (f:=c.f) (t:=c.t) (ms:=EI c.ms) (ss:=FH c.ss) (ps:=E1 c.ps) (x:=x) (by rw [FL]; exact hm) htn han
 rw [FL] at hcall
 refine A3 AJs (by simp) ?_
 simp -implicitDefEqProofs -proj only [go_sem,seval]
 refine Aa (fun b2 hb2=>?_)
 replace hb2:H b2=none:=hb2
 obtain ⟨n1,n2⟩:=EG hb2 hb
 simp -implicitDefEqProofs -proj only [go_sem,seval,n1,n2,hb]
 refine AQ hcall ?_
 simp -implicitDefEqProofs -proj only [go_sem,seval,n1,n2,hb]
 try first | exact ⟨rfl,rfl⟩ | exact rfl
theorem AOh {c:CoreX} {H:Heap} {b:Nat} {l:List PartX} (hb:H b=some (GL c)) (hm:c.ms.length≤9223372036854775807) (hp:∀x∈l,x.ts.length≤9223372036854775807∧x.ad.length≤9223372036854775807) (hl:l.length≤9223372036854775807):CallW Try.prog AQK [.d (.sl 9 (E1 l)),.fn Mg [.ptr b 0]] H fun r H'=>r=i64 (Ie (HR c) l)∧H' b=some (GL c):=by
 refine A3 ADw (by simp) ?_
 simp -implicitDefEqProofs -proj only [go_sem,seval,Iz]
 refine EX (fun i:Nat=>i≤l.length∧∀(j:Nat) (h:j<l.length),j<i→HR c l[j]=false) 19 (fun i=>[(0,.d (.sl 9 (E1 l))),(1,.fn Mg [.ptr b 0]),(6,.d (.sl 9 (E1 l))),(7,i64 l.length),(8,i64 i)]) (fun _=>[(b,GL c)]) (fun i=>l.length-i) 0 ⟨Nat.zero_le _,fun j _ h=>absurd h (Nat.not_lt_zero _)⟩ rfl ?_ ?_ ?_
 ·simp -implicitDefEqProofs -proj only [go_sem,seval,AP]
 ·exact ⟨hb,trivial⟩
 ·rintro i ⟨hi,hs⟩
  have hk:Al (EH [(b,GL c)]) [(b,GL c)]:=FV (by simp [EJ])
  by_cases h:i<l.length
  ·have hel:=SV h
   have hpi:=hp _ (List.getElem_mem h)
   have hgo:HR c l[i]=false→∀(j:Nat) (h:j<l.length),j<i+1→HR c l[j]=false:=L4 (P:=fun _ x=>HR c x=false) (List.getElem?_eq_getElem h) hs
   have hyes:HR c l[i]=true→Ie (HR c) l=i:=fun e=>RE h e hs
   generalize l[i]=x at *
   have hcall:=AO8 (x:=x) hk.1 hm hpi.1 hpi.2
   simp -implicitDefEqProofs -proj only [go_sem,seval,decide_eq_true (show (i:Int)<l.length by omega)]
   refine Eh _ (by omega) hel ?_
   simp -implicitDefEqProofs -proj only [go_sem,seval]
   refine C8 hcall (fun r H' hr=>?_)
   obtain ⟨rfl,hr⟩:=hr
   cases hpx:HR c x
   ·simp -implicitDefEqProofs -proj only [go_sem,seval]
    refine EF (i+1) ⟨by omega,hgo hpx⟩ (by show l.length-(i+1)<l.length-i; omega) rfl ?_ ⟨hr,trivial⟩
    simp -implicitDefEqProofs -proj only [go_sem,seval,AP,Ed (show i<9223372036854775807 by omega)]
   ·simp -implicitDefEqProofs -proj only [go_sem,seval]
    rw [hyes hpx]
    try first | exact ⟨rfl,hr⟩ | exact rfl | rfl
  ·have hi':i=l.length:=by omega
   subst hi'
   simp -implicitDefEqProofs -proj only [go_sem,seval,decide_eq_false (show ¬(l.length:Int)<l.length by omega)]
   rw [SE fun j h=>hs j h h]
   try first | exact ⟨rfl,hk.1⟩ | exact rfl
theorem ADa {c:CoreX} {H:Heap} {b:Nat} {l:List PartX} (hb:H b=some (GL c)) (hm:c.ms.length≤9223372036854775807) (hp:∀x∈l,x.ts.length≤9223372036854775807∧x.ad.length≤9223372036854775807) (hl:l.length≤9223372036854775807):CallW Try.prog AE4 [.d (.sl 9 (E1 l)),.fn Mg [.ptr b 0]] H fun r H'=>r=bv (l.any (HR c))∧H' b=some (GL c):=by
 refine A3 ABK (by simp) ?_
 simp -implicitDefEqProofs -proj only [go_sem,seval]
 refine C8 (AOh hb hm hp hl) (fun r H' hr=>?_)
 obtain ⟨rfl,hr⟩:=hr
 simp -implicitDefEqProofs -proj only [go_sem,seval]
 rw [Sl]
 try first | exact ⟨rfl,hr⟩ | exact rfl
set_option maxRecDepth 20000 in
theorem XW {c:CoreX} (hc:c.Fit):DataW Try.prog YL [Jj c] (bv (decide (goodC c))):=by
 obtain ⟨cur,f,t,ms,ss,ps⟩:=c
 obtain ⟨hff,hft,_,hmn,_,hsn,hps,hpn⟩:=hc
 simp -implicitDefEqProofs only [] at hff hft hmn hsn hps hpn
 have hno:¬Lb ⟨cur,f,t,ms,ss,ps⟩→decide (goodC ⟨cur,f,t,ms,ss,ps⟩)=false:=fun h=>decide_eq_false (fun k=>h k.hd)
 unfold Lb at hno
 simp -implicitDefEqProofs only [] at hno
 refine A3 Vy (by simp) ?_
 simp -implicitDefEqProofs -proj only [go_sem,seval]
 refine Aa (fun b1 hb1=>?_)
 simp -implicitDefEqProofs -proj only [go_sem,seval]
 by_cases g1:f<0
 ·simp -implicitDefEqProofs -proj only [go_sem,seval,decide_eq_true g1]
  exact AJ (by rw [hno (fun k=>by omega)])
 by_cases g2:t<f
 ·simp -implicitDefEqProofs -proj only [go_sem,seval,decide_eq_false g1,decide_eq_true g2]
  exact AJ (by rw [hno (fun k=>by omega)])
 by_cases g2b:3652059≤t
 ·simp -implicitDefEqProofs -proj only [go_sem,seval,decide_eq_false g1,decide_eq_false g2,decide_eq_true g2b]
  exact AJ (by rw [hno (fun k=>by omega)])
 have w1:IntKind.i64.wrap (t-f)=t-f:=by rw [IntKind.wrap_i64]; omega
 by_cases g3:4000≤t-f
 ·simp -implicitDefEqProofs -proj only [go_sem,seval,w1,FL,I7,Iz,decide_eq_false g1,decide_eq_false g2,decide_eq_false g2b,decide_eq_true g3]
  exact AJ (by rw [hno (fun k=>by omega)])
 by_cases g4:4<(ms.length:Int)
 ·simp -implicitDefEqProofs -proj only [go_sem,seval,w1,FL,I7,Iz,decide_eq_false g1,decide_eq_false g2,decide_eq_false g2b,decide_eq_false g3,decide_eq_true g4]
  exact AJ (by rw [hno (fun k=>by omega)])
 by_cases g5:8<(ss.length:Int)
 ·simp -implicitDefEqProofs -proj only [go_sem,seval,w1,FL,I7,Iz,decide_eq_false g1,decide_eq_false g2,decide_eq_false g2b,decide_eq_false g3,decide_eq_false g4,decide_eq_true g5]
  exact AJ (by rw [hno (fun k=>by omega)])
 by_cases g6:8<(ps.length:Int)
 ·simp -implicitDefEqProofs -proj only [go_sem,seval,w1,FL,I7,Iz,decide_eq_false g1,decide_eq_false g2,decide_eq_false g2b,decide_eq_false g3,decide_eq_false g4,decide_eq_false g5,decide_eq_true g6]
  exact AJ (by rw [hno (fun k=>by omega)])
 have hhd:Lb ⟨cur,f,t,ms,ss,ps⟩  :=⟨⟨by show 0≤f; omega,by show f≤3652058; omega⟩,⟨by show f≤t; omega,by show t≤3652058; omega⟩,show t-f≤3999 by omega,show ms.length≤4 by omega,show ss.length≤8 by omega,show ps.length≤8 by omega⟩
 clear hno
 simp -implicitDefEqProofs -proj only [go_sem,seval,w1,FL,I7,Iz,decide_eq_false g1,decide_eq_false g2,decide_eq_false g2b,decide_eq_false g3,decide_eq_false g4,decide_eq_false g5,decide_eq_false g6]
 refine EX (fun i:Nat=>i≤ms.length∧∀(j:Nat) (h:j<ms.length),j<i→KM ms j ms[j]) 125 (fun i=>[(1,.ptr b1 0),(49,.d (.sl 5 (EI ms))),(50,i64 ms.length),(51,i64 i)]) (fun _=>[(b1,.box 26 [.d (.str cur),i64 f,i64 t,.d (.sl 5 (EI ms)),.d (.sl 3 (FH ss)),.d (.sl 9 (E1 ps))])]) (fun i=>ms.length-i) 0 ⟨Nat.zero_le _,fun j _ h=>absurd h (Nat.not_lt_zero _)⟩ rfl ?_ ?_ ?_
 ·simp -implicitDefEqProofs -proj only [go_sem,seval,AP]
 ·simp -implicitDefEqProofs -proj only [go_sem,seval,Al]
 ·rintro i ⟨hi,hs⟩
  have hk:Al (EH [(b1,.box 26 [.d (.str cur),i64 f,i64 t,.d (.sl 5 (EI ms)),.d (.sl 3 (FH ss)),.d (.sl 9 (E1 ps))])]) [(b1,.box 26 [.d (.str cur),i64 f,i64 t,.d (.sl 5 (EI ms)),.d (.sl 3 (FH ss)),.d (.sl 9 (E1 ps))])]:=FV (by simp [EJ])
  have k1:=hk.1
  by_cases h:i<ms.length
  ·have hel:=JX h
   have hno:¬KM ms i ms[i]→decide (goodC ⟨cur,f,t,ms,ss,ps⟩)=false:=fun e=>decide_eq_false fun k=>e (k.ms i h)
   have hgo:KM ms i ms[i]→∀(j:Nat) (h:j<ms.length),j<i+1→KM ms j ms[j]:=L4 (List.getElem?_eq_getElem h) hs
   generalize ms[i]=m at *
   unfold KM at hno hgo
   simp -implicitDefEqProofs -proj only [go_sem,seval,decide_eq_true (show (i:Int)<ms.length by omega)]
   refine Eh _ (by omega) hel ?_
   simp -implicitDefEqProofs -proj only [go_sem,seval]
   refine Aa (fun b4 hb4=>?_)
   replace hb4:EH [(b1,Blk.box 26 [.d (.str cur),i64 f,i64 t,.d (.sl 5 (EI ms)),.d (.sl 3 (FH ss)),.d (.sl 9 (E1 ps))])] b4=none:=hb4
   obtain ⟨n1,n2⟩:=EG hb4 k1
   simp -implicitDefEqProofs -proj only [go_sem,seval,n1,n2]
   by_cases c1:0≤m.mx∧m.mx≤2000
   rotate_left
   ·refine AQ (HF c1) ?_
    simp -implicitDefEqProofs -proj only [go_sem,seval]
    exact AJ (by rw [hno (fun k=>c1 k.1)])
   refine AQ (HH c1) ?_
   by_cases c2:m.ln=0
   rotate_left
   ·simp -implicitDefEqProofs -proj only [go_sem,seval,n1,n2,decide_eq_false c2]
    exact AJ (by rw [hno (fun k=>c2 k.2.1)])
   by_cases c3:m.co=0
   rotate_left
   ·simp -implicitDefEqProofs -proj only [go_sem,seval,n1,n2,decide_eq_true c2,decide_eq_false c3]
    exact AJ (by rw [hno (fun k=>c3 k.2.2.1)])
   by_cases c4:i=0
   ·simp -implicitDefEqProofs -proj only [go_sem,seval,n1,n2,decide_eq_true c2,decide_eq_true c3,decide_eq_false (show ¬0<(i:Int) by omega)]
    refine EF (i+1) ⟨by omega,hgo ⟨c1,c2,c3,fun p _ h=>absurd h (by omega)⟩⟩ (by show ms.length-(i+1)<ms.length-i; omega) rfl ?_ (Eq hb4 hk)
    simp -implicitDefEqProofs -proj only [go_sem,seval,AP,Ed (show i<9223372036854775807 by omega)]
   ·have hw:IntKind.i64.wrap ((i:Int)-1)=((i-1:Nat):Int):=by rw [IntKind.wrap_i64]; omega
    have hip:i-1<ms.length:=by omega
    have hel2:=JX hip
    have hpe:ms[i-1]? = some ms[i-1]:=List.getElem?_eq_getElem hip
    generalize ms[i-1]=p at *
    simp -implicitDefEqProofs -proj only [go_sem,seval,n1,n2,k1,hw,decide_eq_true c2,decide_eq_true c3,decide_eq_true (show 0<(i:Int) by omega)]
    refine Eh _ (by omega) hel2 ?_
    by_cases c5:Fo p.nm m.nm=true
    ·have c5':Op.bytesLess p.nm.toList m.nm.toList=true:=c5
     simp -implicitDefEqProofs -proj only [go_sem,seval,n1,n2,RX,c5']
     refine EF (i+1) ⟨by omega,hgo ⟨c1,c2,c3,fun q hq _=>by rw [hpe] at hq; cases hq; exact c5⟩⟩ (by show ms.length-(i+1)<ms.length-i; omega) rfl ?_ (Eq hb4 hk)
     simp -implicitDefEqProofs -proj only [go_sem,seval,AP,Ed (show i<9223372036854775807 by omega)]
    ·have c5':Op.bytesLess p.nm.toList m.nm.toList=false:=by simpa [Fo] using c5
     simp -implicitDefEqProofs -proj only [go_sem,seval,n1,n2,RX,c5']
     exact AJ (by rw [hno (fun k=>c5 (k.2.2.2 p hpe (by omega)))])
  ·have hi':i=ms.length:=by omega
   subst hi'
   simp -implicitDefEqProofs -proj only [go_sem,seval,k1,I7,decide_eq_false (show ¬(ms.length:Int)<ms.length by omega)]
   refine EX (fun i:Nat=>i≤ss.length∧∀(j:Nat) (h:j<ss.length),j<i→Jn f t ss[j]) 125 (fun i=>[(1,.ptr b1 0),(88,.d (.sl 3 (FH ss))),(89,i64 ss.length),(90,i64 i)]) (fun _=>[(b1,.box 26 [.d (.str cur),i64 f,i64 t,.d (.sl 5 (EI ms)),.d (.sl 3 (FH ss)),.d (.sl 9 (E1 ps))])]) (fun i=>ss.length-i) 0 ⟨Nat.zero_le _,fun j _ h=>absurd h (Nat.not_lt_zero _)⟩ rfl ?_ ?_ ?_
   ·simp -implicitDefEqProofs -proj only [go_sem,seval,AP]
   ·exact hk
   ·rintro i ⟨hi2,hs2⟩
    by_cases h2:i<ss.length
    ·have hel:=Sf h2
     have hno:¬Jn f t ss[i]→decide (goodC ⟨cur,f,t,ms,ss,ps⟩)=false:=fun e=>decide_eq_false fun k=>e (k.ss _ (List.getElem_mem h2))
     have hgo:Jn f t ss[i]→∀(j:Nat) (h:j<ss.length),j<i+1→Jn f t ss[j]:=L4 (P:=fun _ x=>Jn f t x) (List.getElem?_eq_getElem h2) hs2
     generalize ss[i]=x at *
     unfold Jn at hno hgo
     simp -implicitDefEqProofs -proj only [go_sem,seval,decide_eq_true (show (i:Int)<ss.length by omega)]
     refine Eh _ (by omega) hel ?_
     simp -implicitDefEqProofs -proj only [go_sem,seval]
     refine Aa (fun b4 hb4=>?_)
     replace hb4:EH [(b1,Blk.box 26 [.d (.str cur),i64 f,i64 t,.d (.sl 5 (EI ms)),.d (.sl 3 (FH ss)),.d (.sl 9 (E1 ps))])] b4=none:=hb4
     obtain ⟨n1,n2⟩:=EG hb4 k1
     simp -implicitDefEqProofs -proj only [go_sem,seval,n1,n2]
     by_cases c1:0≤x.a∧x.a≤1000000000000
     rotate_left
     ·refine AQ (HF c1) ?_
      simp -implicitDefEqProofs -proj only [go_sem,seval]
      exact AJ (by rw [hno (fun k=>c1 k.1)])
     refine AQ (HH c1) ?_
     by_cases c2:x.t<x.f
     ·simp -implicitDefEqProofs -proj only [go_sem,seval,n1,n2,k1,decide_eq_true c2]
      exact AJ (by rw [hno (fun k=>by omega)])
     by_cases c3:x.f<f
     ·simp -implicitDefEqProofs -proj only [go_sem,seval,n1,n2,k1,decide_eq_false c2,decide_eq_true c3]
      exact AJ (by rw [hno (fun k=>by omega)])
     by_cases c4:t<x.t
     ·simp -implicitDefEqProofs -proj only [go_sem,seval,n1,n2,k1,decide_eq_false c2,decide_eq_false c3,decide_eq_true c4]
      exact AJ (by rw [hno (fun k=>by omega)])
     simp -implicitDefEqProofs -proj only [go_sem,seval,n1,n2,k1,decide_eq_false c2,decide_eq_false c3,decide_eq_false c4]
     refine EF (i+1) ⟨by omega,hgo ⟨c1,by omega⟩⟩ (by show ss.length-(i+1)<ss.length-i; omega) rfl ?_ (Eq hb4 hk)
     simp -implicitDefEqProofs -proj only [go_sem,seval,AP,Ed (show i<9223372036854775807 by omega)]
    ·have hi3:i=ss.length:=by omega
     subst hi3
     have hcont:=ADa (c:=⟨cur,f,t,ms,ss,ps⟩) (l:=ps) k1 hmn (fun x hx=>⟨(hps x hx).tn,(hps x hx).an⟩) hpn
     simp -implicitDefEqProofs -proj only [go_sem,seval,k1,Iz,decide_eq_false (show ¬(ss.length:Int)<ss.length by omega)]
     refine C8 hcont (fun r H' hr=>?_)
     obtain ⟨rfl,hr⟩:=hr
     simp -implicitDefEqProofs -proj only [go_sem,seval]
     refine AJ (congrArg (fun b=>AV.d (.bool b)) ?_)
     have hiff:(ps.any (HR ⟨cur,f,t,ms,ss,ps⟩))=false↔∀x∈ps,IU f t ms.length x:=by
      rw [List.any_eq_false]
      exact ⟨fun h a ha=>by have:=h a ha; unfold HR at this; simpa using this,fun h a ha=>by unfold HR; simpa using h a ha⟩
     by_cases g11:∀x∈ps,IU f t ms.length x
     ·rw [hiff.2 g11,decide_eq_true (show goodC ⟨cur,f,t,ms,ss,ps⟩ from ⟨hhd,fun j h=>hs j h h,fun s hm=>by obtain ⟨j,hj,rfl⟩:=List.getElem_of_mem hm; exact hs2 j hj hj,g11⟩)]
      rfl
     ·rw [decide_eq_false (fun k:goodC ⟨cur,f,t,ms,ss,ps⟩=>g11 k.ps)]
      cases e:ps.any (HR ⟨cur,f,t,ms,ss,ps⟩)
      ·exact absurd (hiff.1 e) g11
      ·rfl
def H8 (n:Int):List Int→Option Int
 | []=>some n
 | x::l=>if Fit (n+x) then H8 (n+x) l else none
theorem QV {l:List Int} (hl:Kh l) (hn:l.length≤4611686018427387904):DataW Try.prog ZA [G6 l] (Ef (H8 0 l)):=by
 refine A3 AGw (by simp) ?_
 simp -implicitDefEqProofs -proj only [go_sem,seval,FJ]
 refine EX (fun p:Nat×Int=>p.1≤l.length∧Fit p.2∧H8 p.2 (l.drop p.1)=H8 0 l) 24 (fun p=>[(8,G6 l),(9,i64 l.length),(10,i64 p.1),(4,i64 p.2),(5,bv true)]) (fun _=>[]) (fun p=>l.length-p.1) (0,0) ⟨by omega,by decide,by rw [List.drop_zero]⟩ rfl ?_ ?_ ?_
 ·simp -implicitDefEqProofs -proj only [go_sem,seval,AP]
 ·trivial
 ·rintro ⟨i,n⟩ ⟨hi,hf,hs⟩
  rw [AZ] at hi; rw [Ac] at hf; rw [AZ,Ac] at hs
  by_cases h:i<l.length
  ·have hx:=hl i h
   have hc:=N2 h
   rw [List.drop_eq_getElem_cons h] at hs
   generalize l[i]=x at *
   simp -implicitDefEqProofs -proj only [go_sem,seval,decide_eq_true (show (i:Int)<l.length by omega)]
   refine Eh _ (by omega) hc ?_
   simp -implicitDefEqProofs -proj only [go_sem,seval,hc]
   refine AQ (Mb hf hx) ?_
   rw [H8] at hs
   by_cases hf2:Fit (n+x)
   ·rw [if_pos hf2] at hs; rw [Hj hf2]
    simp -implicitDefEqProofs -proj only [go_sem,seval]
    refine EF (i+1,n+x) ⟨by rw [AZ]; omega,hf2,by rw [AZ,Ac]; exact hs⟩ (by rw [AZ,AZ]; omega) rfl ?_ trivial
    simp -implicitDefEqProofs -proj only [go_sem,seval,AP,Ed (show i<9223372036854775807 by omega)]
   ·rw [if_neg hf2] at hs; rw [IQ hf2]
    simp -implicitDefEqProofs -proj only [go_sem,seval,←hs,Ef]
    exact AJ rfl
  ·have hi':i=l.length:=by omega
   subst hi'
   rw [List.drop_length] at hs
   simp -implicitDefEqProofs -proj only [go_sem,seval,decide_eq_false (show ¬(l.length:Int)<l.length by omega)]
   rw [←hs,H8,Ef]
   exact AJ rfl
theorem Tj {f t:Int} {n:Nat} {x:PartX} (h:IU f t n x):GoodX x:=by
 obtain ⟨⟨g1,g2,g3,g4,g5,g6,g7,g8,g9,g10⟩,h2,h3⟩:=h
 exact ⟨g4,g5,g6,g7,⟨g8,g9⟩,g10,h2,h3⟩
def Gc (d f t:Int):Prop:=f≤d∧d≤t
instance (d f t:Int):Decidable (Gc d f t):=by unfold Gc; exact inferInstance
def Gt (ss:List SumX) (d:Int):Nat→List Int
 | 0=>[]
 | i+1=>match ss[i]? with
  | some s=>if Gc d s.f s.t then Gt ss d i++[s.a] else Gt ss d i
  | none=>Gt ss d i
def bq (b:List Int) (m:Int):Int:=b.getD m.toNat 0
def F4 (ss:List SumX) (ps:List PartX) (d:Int) (b:List Int):Nat→Option (List Int)
 | 0=>some (Gt ss d ss.length)
 | i+1=>match F4 ss ps d b i,ps[i]? with
  | some l,some x=>if Gc d x.f x.t then (match HO x (bq b x.me) with
   | some n=>some (l++[n])
   | none=>none) else some l
  | some l,none=>some l
  | none,_=>none
def JT (c:CoreX) (d:Int) (b:List Int):Option (List Int):=F4 c.ss c.ps d b c.ps.length
def IZ (c:CoreX) (b:List Int):Prop:=b.length=c.ms.length∧∀(i:Nat) (h:i<b.length) (h2:i<c.ms.length),0≤b[i]∧b[i]≤(c.ms[i]).mx
noncomputable instance (c:CoreX) (b:List Int):Decidable (IZ c b):=Classical.propDecidable _
noncomputable def I0 (c:CoreX) (d:Int) (b:List Int):Int×Int :=
 if ¬goodC c then (0,1) else if ¬Gc d c.f c.t∨¬IZ c b then (0,8) else match JT c d b with
 | none=>(0,2)
 | some l=>match H8 0 l with
  | none=>(0,2)
  | some n=>(n,0)
theorem Oq {d f t:Int}:DataW Try.prog ZK [i64 d,i64 f,i64 t] (bv (decide (Gc d f t))):=by
 refine A3 AOy (by simp) ?_
 by_cases h1:f≤d
 ·by_cases h2:d≤t
  ·simp -implicitDefEqProofs -proj only [go_sem,seval,decide_eq_true h1,decide_eq_true h2]
   exact AJ (by rw [decide_eq_true (show Gc d f t from ⟨h1,h2⟩)])
  ·simp -implicitDefEqProofs -proj only [go_sem,seval,decide_eq_true h1,decide_eq_false h2]
   exact AJ (by rw [decide_eq_false (fun h:Gc d f t=>h2 h.2)])
 ·simp -implicitDefEqProofs -proj only [go_sem,seval,decide_eq_false h1]
  exact AJ (by rw [decide_eq_false (fun h:Gc d f t=>h1 h.1)])
theorem ACb {c:CoreX} {b:List Int} (hc:c.Fit) (hbn:b.length≤9223372036854775807):DataW Try.prog AMS [Jj c,G6 b] (bv (decide (IZ c b))):=by
 obtain ⟨cur,f,t,ms,ss,ps⟩:=c
 refine A3 AFl (by simp) ?_
 simp -implicitDefEqProofs -proj only [go_sem,seval]
 refine Aa (fun b2 hb2=>?_)
 by_cases g1:b.length=ms.length
 rotate_left
 ·simp -implicitDefEqProofs -proj only [go_sem,seval,FJ,FL,decide_eq_false (show ¬(b.length:Int)=ms.length by omega)]
  exact AJ (by rw [decide_eq_false (fun k:IZ _ _=>g1 k.1)])
 simp -implicitDefEqProofs -proj only [go_sem,seval,FJ,FL,decide_eq_true (show (b.length:Int)=ms.length by omega)]
 refine EX (fun i:Nat=>i≤b.length∧∀(j:Nat) (h:j<b.length) (h2:j<ms.length),j<i→0≤b[j]∧b[j]≤(ms[j]).mx) 33 (fun i=>[(2,.ptr b2 0),(13,G6 b),(14,i64 b.length),(15,i64 i)]) (fun _=>[(b2,GL ⟨cur,f,t,ms,ss,ps⟩)]) (fun i=>b.length-i) 0 ⟨Nat.zero_le _,fun j _ _ h=>absurd h (Nat.not_lt_zero _)⟩ rfl ?_ ?_ ?_
 ·simp -implicitDefEqProofs -proj only [go_sem,seval,AP,FJ]
 ·exact ⟨AK,trivial⟩
 ·rintro i ⟨hi,hs⟩
  have hk:Al (EH [(b2,GL ⟨cur,f,t,ms,ss,ps⟩)]) [(b2,GL ⟨cur,f,t,ms,ss,ps⟩)]:=FV (by simp [EJ])
  have k2:=hk.1
  by_cases h:i<b.length
  ·have h2:i<ms.length:=by omega
   have hel:=N2 h
   have hel2:=JX h2
   have hno:¬(0≤b[i]∧b[i]≤(ms[i]).mx)→decide (IZ ⟨cur,f,t,ms,ss,ps⟩ b)=false:=fun e=>decide_eq_false fun k=>e (k.2 i h h2)
   have hgo:(0≤b[i]∧b[i]≤(ms[i]).mx)→∀(j:Nat) (h:j<b.length) (h2:j<ms.length),j<i+1→0≤b[j]∧b[j]≤(ms[j]).mx:=by
    intro e j h1 h2 h3
    by_cases hj:j=i
    ·subst hj; exact e
    ·exact hs j h1 h2 (by omega)
   generalize b[i]=q at *
   generalize ms[i]=m at *
   simp -implicitDefEqProofs -proj only [go_sem,seval,decide_eq_true (show (i:Int)<b.length by omega)]
   refine Eh _ (by omega) hel ?_
   by_cases c1:q<0
   ·simp -implicitDefEqProofs -proj only [go_sem,seval,decide_eq_true c1]
    exact AJ (by rw [hno (fun k=>by omega)])
   simp -implicitDefEqProofs -proj only [go_sem,seval,decide_eq_false c1,k2]
   refine Eh _ (by omega) hel2 ?_
   by_cases c2:m.mx<q
   ·simp -implicitDefEqProofs -proj only [go_sem,seval,decide_eq_true c2]
    exact AJ (by rw [hno (fun k=>by omega)])
   simp -implicitDefEqProofs -proj only [go_sem,seval,decide_eq_false c2]
   refine EF (i+1) ⟨by omega,hgo (by omega)⟩ (by show b.length-(i+1)<b.length-i; omega) rfl ?_ hk
   simp -implicitDefEqProofs -proj only [go_sem,seval,AP,Ed (show i<9223372036854775807 by omega)]
  ·have hi':i=b.length:=by omega
   subst hi'
   simp -implicitDefEqProofs -proj only [go_sem,seval,decide_eq_false (show ¬(b.length:Int)<b.length by omega)]
   exact AJ (by rw [decide_eq_true (show IZ ⟨cur,f,t,ms,ss,ps⟩ b from ⟨g1,fun j h h2=>hs j h h2 h⟩)])
structure IX where
 i:Nat
 c:Nat
 cap:Nat
 l:List Int
theorem E9 {i c cap:Nat} {l:List Int}:(IX.mk i c cap l).i=i:=(rfl)
theorem FD {i c cap:Nat} {l:List Int}:(IX.mk i c cap l).c=c:=(rfl)
theorem E8 {i c cap:Nat} {l:List Int}:(IX.mk i c cap l).cap=cap:=(rfl)
theorem Ek {i c cap:Nat} {l:List Int}:(IX.mk i c cap l).l=l:=(rfl)
def GR (b3:Nat) (x:CoreX) (y:IX):List (Nat×Blk):=E2 3 1 y.c y.cap (Et y.l)++[(b3,GL x)]
theorem ANe {l:List Int}:∀el∈Et l,∀d∈el,Iv d=true:=by
 intro el he d hd
 obtain ⟨r,_,rfl⟩:=List.mem_map.1 he
 simp -implicitDefEqProofs only [List.mem_singleton] at hd
 subst hd; rfl
theorem Mw {l:List Int} {x:Int}:Et l++[[.int .i64 x]]=Et (l++[x]):=by simp [Et]
theorem PM {ss:List SumX} {d:Int}:∀i,(Gt ss d i).length≤i
 | 0=>by simp [Gt]
 | i+1=>by
  have:=PM (ss:=ss) (d:=d) i
  rw [Gt]
  split
  ·split
   ·rw [List.length_append,List.length_singleton]; omega
   ·omega
  ·omega
theorem OV {ss:List SumX} {ps:List PartX} {d:Int} {b:List Int}:∀i l,F4 ss ps d b i=some l→l.length≤ss.length+i
 | 0,l,h=>by
  have:=PM (ss:=ss) (d:=d) ss.length
  rw [F4] at h
  cases h
  omega
 | i+1,l,h=>by
  rw [F4] at h
  cases e:F4 ss ps d b i with
  | none=>rw [e] at h; cases h
  | some m =>
   have:=OV i m e
   rw [e] at h
   cases e2:ps[i]? with
   | none=>rw [e2] at h; cases h; omega
   | some x =>
    rw [e2] at h
    simp -implicitDefEqProofs only [] at h
    split at h
    ·split at h
     ·cases h; rw [List.length_append,List.length_singleton]; omega
     ·cases h
    ·cases h; omega
theorem RP {ss:List SumX} {ps:List PartX} {d:Int} {b:List Int} {i:Nat} (h:F4 ss ps d b i=none):∀k,F4 ss ps d b (i+k)=none
 | 0=>h
 | k+1=>by
  rw [←Nat.add_assoc,F4,RP h k]
theorem AOT {ss:List SumX} {ps:List PartX} {d:Int} {b:List Int} {i:Nat} (hi:i<ps.length) (h:F4 ss ps d b (i+1)=none):F4 ss ps d b ps.length=none:=by
 have:=RP h (ps.length-(i+1))
 rwa [show i+1+(ps.length-(i+1))=ps.length by omega] at this
set_option maxRecDepth 20000 in
theorem ALm {c:CoreX} {d:Int} {b:List Int} (hc:c.Fit) (hg:goodC c) (hb:IZ c b):NewW Try.prog XP [Jj c,i64 d,G6 b] (match JT c d b with | some l=>.tup [G6 l,bv true] | none=>.tup [G6 [],bv false]):=by
 obtain ⟨⟨a1,a2⟩,⟨a3,a4⟩,a5,a6,a7,a8⟩:=hg.hd
 have hmx:=hg.ms
 have hps:=hg.ps
 have hfp:=hc.ps
 obtain ⟨hb1,hb2⟩:=hb
 obtain ⟨cur,f,t,ms,ss,ps⟩:=c
 simp -implicitDefEqProofs only [] at a1 a2 a3 a4 a5 a6 a7 a8 hmx hps hfp hb1 hb2
 unfold JT
 simp -implicitDefEqProofs only []
 refine A3 AOD (by simp) ?_
 simp -implicitDefEqProofs -proj only [go_sem,seval]
 refine Aa (fun b3 hb3=>?_)
 simp -implicitDefEqProofs -proj only [go_sem,seval,I7]
 refine EX (fun y:IX=>y.i≤ss.length∧y.l=Gt ss d y.i∧(EJ (GR b3 ⟨cur,f,t,ms,ss,ps⟩ y)).Nodup) 66 (fun y=>[(1,i64 d),(2,G6 b),(3,.ptr b3 0),(8,EM 0 1 y.c y.cap (Et y.l)),(16,.d (.sl 3 (FH ss))),(17,i64 ss.length),(18,i64 y.i)]) (GR b3 ⟨cur,f,t,ms,ss,ps⟩) (fun y=>ss.length-y.i) ⟨0,0,0,[]⟩ ⟨Nat.zero_le _,rfl,by simp [EJ,GR,Ek,Et,E2]⟩ rfl ?_ ?_ ?_
 ·simp -implicitDefEqProofs -proj only [go_sem,seval,AP,E9,Ek]
  try rfl
 ·simp -implicitDefEqProofs only [GR,Ek,Et,List.map_nil,ANv,List.nil_append]
  exact ⟨AK,trivial⟩
 ·rintro ⟨i,c1,cap,l⟩ ⟨hi,hl,hn⟩
  simp -implicitDefEqProofs only [E9,Ek] at hi hl
  have hall:=FV hn
  obtain ⟨H,hH⟩:∃H,EH (GR b3 ⟨cur,f,t,ms,ss,ps⟩ ⟨i,c1,cap,l⟩)=H:=⟨_,rfl⟩
  rw [hH] at hall
  simp -implicitDefEqProofs only [GR,FD,E8,Ek] at hall hn
  obtain ⟨hrow,k3,_⟩:=Ec.1 hall
  have hll:l.length≤i:=by rw [hl]; exact PM i
  by_cases h:i<ss.length
  ·have hel:=Sf h
   have hstep:Gt ss d (i+1)=if Gc d ss[i].f ss[i].t then l++[ss[i].a] else l:=by rw [Gt,List.getElem?_eq_getElem h,←hl]
   generalize ss[i]=s at *
   simp -implicitDefEqProofs -proj only [go_sem,seval,E9,FD,E8,Ek,hH,decide_eq_true (show (i:Int)<ss.length by omega)]
   refine Eh _ (by omega) hel ?_
   simp -implicitDefEqProofs -proj only [go_sem,seval]
   refine Aa (fun b10 hb10=>?_)
   replace hb10:H b10=none:=hb10
   simp -implicitDefEqProofs -proj only [go_sem,seval]
   refine AQ Oq ?_
   by_cases c2:Gc d s.f s.t
   ·rw [if_pos c2] at hstep
    simp -implicitDefEqProofs -proj only [go_sem,seval,decide_eq_true c2]
    refine EL (fun bs hs=>?_)
    replace hs:AI H b10 _ bs=none:=hs
    simp -implicitDefEqProofs -proj only [go_sem,seval]
    refine Gg (xs:=Et l) (y:=[.int .i64 s.a]) (t:=3) (capc:=1) [(b3,GL ⟨cur,f,t,ms,ss,ps⟩)] rfl (Eq hs (Eq hb10 hall)) hn (by simp -implicitDefEqProofs -proj only [go_sem,seval]; try rfl) (by rw [FJ]; omega) (by rw [FJ]; omega) (fun H' c2 cap2 ha hk=>?_)
    rw [Mw] at ha hk
    have hne:Et (l++[s.a])≠[]:=by simp [Et]
    simp -implicitDefEqProofs -proj only [go_sem,seval,FJ]
    refine EF ⟨i+1,c2,cap2,l++[s.a]⟩ ⟨by rw [E9]; omega,hstep.symm,by simpa only [GR,FD,E8,Ek] using hk⟩ (by show ss.length-(i+1)<ss.length-i; omega) rfl ?_ (by simpa only [GR,FD,E8,Ek] using ha)
    simp -implicitDefEqProofs -proj only [go_sem,seval,AP,E9,FD,E8,Ek,Fv hne,FJ,List.length_append,Ed (show i<9223372036854775807 by omega)]
   ·rw [if_neg c2] at hstep
    simp -implicitDefEqProofs -proj only [go_sem,seval,decide_eq_false c2]
    refine EF ⟨i+1,c1,cap,l⟩ ⟨by rw [E9]; omega,hstep.symm,by simpa only [GR,FD,E8,Ek] using hn⟩ (by show ss.length-(i+1)<ss.length-i; omega) rfl ?_ (by simpa only [GR,FD,E8,Ek] using Eq hb10 hall)
    simp -implicitDefEqProofs -proj only [go_sem,seval,AP,E9,FD,E8,Ek,Ed (show i<9223372036854775807 by omega)]
  ·have hi':i=ss.length:=by omega
   subst hi'
   simp -implicitDefEqProofs -proj only [go_sem,seval,E9,FD,E8,Ek,hH,k3,Iz,decide_eq_false (show ¬(ss.length:Int)<ss.length by omega)]
   refine EX (fun y:IX=>y.i≤ps.length∧F4 ss ps d b y.i=some y.l∧(EJ (GR b3 ⟨cur,f,t,ms,ss,ps⟩ y)).Nodup) 66 (fun y=>[(1,i64 d),(2,G6 b),(8,EM 0 1 y.c y.cap (Et y.l)),(35,.d (.sl 9 (E1 ps))),(36,i64 ps.length),(37,i64 y.i)]) (GR b3 ⟨cur,f,t,ms,ss,ps⟩) (fun y=>ps.length-y.i) ⟨0,c1,cap,l⟩ ⟨Nat.zero_le _,by rw [F4]; exact congrArg some hl.symm,hn⟩ rfl ?_ ?_ ?_
   ·simp -implicitDefEqProofs -proj only [go_sem,seval,AP,E9,FD,E8,Ek]
   ·exact hall
   ·rintro ⟨i,c1,cap,l⟩ ⟨hi,hl,hn⟩
    simp -implicitDefEqProofs only [E9,Ek] at hi hl
    have hall:=FV hn
    obtain ⟨H,hH⟩:∃H,EH (GR b3 ⟨cur,f,t,ms,ss,ps⟩ ⟨i,c1,cap,l⟩)=H:=⟨_,rfl⟩
    rw [hH] at hall
    simp -implicitDefEqProofs only [GR,FD,E8,Ek] at hall hn
    obtain ⟨hrow,k3,_⟩:=Ec.1 hall
    have hll:=OV i l hl
    by_cases h:i<ps.length
    ·have hel:=SV h
     have hok:=hps _ (List.getElem_mem h)
     have hfx:=hfp _ (List.getElem_mem h)
     have hstep:F4 ss ps d b (i+1)=if Gc d ps[i].f ps[i].t then (match HO ps[i] (bq b ps[i].me) with | some n=>some (l++[n]) | none=>none) else some l:=by rw [F4,hl,List.getElem?_eq_getElem h]
     have hfail:=fun e=>AOT (ss:=ss) (ps:=ps) (d:=d) (b:=b) h e
     obtain ⟨m1,m2⟩:=(show 0≤ps[i].me∧ps[i].me<(ms.length:Int) from ⟨hok.1.1,hok.1.2.1⟩)
     have hqb:(ps[i].me).toNat<b.length:=by omega
     have hq:bq b ps[i].me=b[(ps[i].me).toNat]:=by unfold bq; rw [List.getD_eq_getElem?_getD,List.getElem?_eq_getElem hqb,Option.getD_some]
     have hq2:=hb2 _ hqb (by omega)
     have hmxx:=hmx (ps[i].me).toNat (by omega)
     have helq:(Et b)[(ps[i].me).toNat]? = some [.int .i64 (bq b ps[i].me)]:=by rw [hq]; exact TB (List.getElem?_eq_getElem hqb)
     have hfq:Fit (bq b ps[i].me):=by rw [hq]; have:=hmxx.1; unfold Fit; omega
     have G:=Tj hok
     have hcall:=VQ hfx hfq G (Or G.ts)
     clear hq hq2 hmxx hok G
     generalize bq b ps[i].me=qq at *
     generalize ps[i]=x at *
     simp -implicitDefEqProofs -proj only [go_sem,seval,E9,FD,E8,Ek,hH,decide_eq_true (show (i:Int)<ps.length by omega)]
     refine Eh _ (by omega) hel ?_
     simp -implicitDefEqProofs -proj only [go_sem,seval]
     refine Aa (fun b12 hb12=>?_)
     replace hb12:H b12=none:=hb12
     simp -implicitDefEqProofs -proj only [go_sem,seval]
     refine AQ Oq ?_
     by_cases c2:Gc d x.f x.t
     rotate_left
     ·rw [if_neg c2] at hstep
      simp -implicitDefEqProofs -proj only [go_sem,seval,decide_eq_false c2]
      refine EF ⟨i+1,c1,cap,l⟩ ⟨by rw [E9]; omega,hstep,by simpa only [GR,FD,E8,Ek] using hn⟩ (by show ps.length-(i+1)<ps.length-i; omega) rfl ?_ (by simpa only [GR,FD,E8,Ek] using Eq hb12 hall)
      simp -implicitDefEqProofs -proj only [go_sem,seval,AP,E9,FD,E8,Ek,Ed (show i<9223372036854775807 by omega)]
     rw [if_pos c2] at hstep
     simp -implicitDefEqProofs -proj only [go_sem,seval,decide_eq_true c2]
     refine Eh _ m1 helq ?_
     simp -implicitDefEqProofs -proj only [go_sem,seval]
     refine AQ hcall ?_
     cases e:HO x qq with
     | none =>
      rw [e] at hstep
      simp -implicitDefEqProofs only [] at hstep
      rw [hfail hstep]
      simp -implicitDefEqProofs -proj only [go_sem,seval,Ef]
      exact NewV.tup _ _ rfl (fun j u v g1 g2=>by
       match j with
       | 0=>cases g1; cases g2; exact .nilsl _ _
       | 1=>cases g1; cases g2; exact .scal _ rfl
       | j+2=>cases g1)
     | some n =>
      rw [e] at hstep
      simp -implicitDefEqProofs only [] at hstep
      simp -implicitDefEqProofs -proj only [go_sem,seval,Ef]
      refine EL (fun bs hs=>?_)
      replace hs:AI H b12 _ bs=none:=hs
      simp -implicitDefEqProofs -proj only [go_sem,seval]
      refine Gg (xs:=Et l) (y:=[.int .i64 n]) (t:=3) (capc:=1) [(b3,GL ⟨cur,f,t,ms,ss,ps⟩)] rfl (Eq hs (Eq hb12 hall)) hn (by simp -implicitDefEqProofs -proj only [go_sem,seval]; try rfl) (by rw [FJ]; omega) (by rw [FJ]; omega) (fun H' c2 cap2 ha hk=>?_)
      rw [Mw] at ha hk
      have hne:Et (l++[n])≠[]:=by simp [Et]
      simp -implicitDefEqProofs -proj only [go_sem,seval,FJ]
      refine EF ⟨i+1,c2,cap2,l++[n]⟩ ⟨by rw [E9]; omega,hstep,by simpa only [GR,FD,E8,Ek] using hk⟩ (by show ps.length-(i+1)<ps.length-i; omega) rfl ?_ (by simpa only [GR,FD,E8,Ek] using ha)
      simp -implicitDefEqProofs -proj only [go_sem,seval,AP,E9,FD,E8,Ek,Fv hne,FJ,List.length_append,Ed (show i<9223372036854775807 by omega)]
    ·have hi':i=ps.length:=by omega
     subst hi'
     rw [hl]
     simp -implicitDefEqProofs -proj only [go_sem,seval,E9,FD,E8,Ek,hH,decide_eq_false (show ¬(ps.length:Int)<ps.length by omega)]
     exact NewV.tup _ _ rfl (fun j u v g1 g2=>by
      match j with
      | 0=>cases g1; cases g2; exact SO hrow ANe
      | 1=>cases g1; cases g2; exact .scal _ rfl
      | j+2=>cases g1)
theorem AQD {l:List Int} (h:∀v∈l,Fit v):Kh l:=fun i hi=>h _ (List.getElem_mem hi)
theorem AQF {l:List Adj}:∀{x n:Int},(∀a∈l,a.Fit)→Fit x→IC x l=some n→Fit n:=by
 induction l with
 | nil=>intro x n _ hx h; cases h; exact hx
 | cons a l ih =>
  intro x n hl hx h
  rw [IC] at h
  cases e:HD a x with
  | none=>rw [e] at h; cases h
  | some y =>
   rw [e] at h
   exact ih (fun b hb=>hl b (List.mem_cons_of_mem _ hb)) (Sm (hl a (List.mem_cons_self ..)) hx e) h
theorem AQz {x:PartX} {q n:Int} (hx:x.Fit) (h:HO x q=some n):Fit n:=by
 unfold HO at h
 cases e:I9 x q with
 | none=>rw [e] at h; cases h
 | some m =>
  rw [e] at h
  exact AQF hx.ad (Td e) h
theorem Mo {ss:List SumX} {d:Int} (hs:∀s∈ss,s.Fit):∀i,∀v∈Gt ss d i,Fit v
 | 0,v,h=>by cases h
 | i+1,v,h=>by
  rw [Gt] at h
  cases e:ss[i]? with
  | none=>rw [e] at h; exact Mo hs i v h
  | some s =>
   rw [e] at h
   simp -implicitDefEqProofs only [] at h
   split at h
   ·rcases List.mem_append.1 h with h | h
    ·exact Mo hs i v h
    ·rw [List.mem_singleton] at h
     subst h
     exact (hs s (List.mem_of_getElem? e)).1
   ·exact Mo hs i v h
theorem RI {ss:List SumX} {ps:List PartX} {d:Int} {b:List Int} (hs:∀s∈ss,s.Fit) (hp:∀x∈ps,x.Fit):∀i l,F4 ss ps d b i=some l→∀v∈l,Fit v
 | 0,l,h,v,hv=>by
  rw [F4] at h
  cases h
  exact Mo hs _ v hv
 | i+1,l,h,v,hv=>by
  rw [F4] at h
  cases e:F4 ss ps d b i with
  | none=>rw [e] at h; cases h
  | some m =>
   have ih:=RI hs hp i m e
   rw [e] at h
   cases e2:ps[i]? with
   | none=>rw [e2] at h; cases h; exact ih v hv
   | some x =>
    rw [e2] at h
    simp -implicitDefEqProofs only [] at h
    split at h
    ·cases e3:HO x (bq b x.me) with
     | none=>rw [e3] at h; cases h
     | some n =>
      rw [e3] at h
      cases h
      rcases List.mem_append.1 hv with h | h
      ·exact ih v h
      ·rw [List.mem_singleton] at h
       subst h
       exact AQz (hp x (List.mem_of_getElem? e2)) e3
    ·cases h; exact ih v hv
theorem ACQ {c:CoreX} {d:Int} {b l:List Int} (hc:c.Fit) (hg:goodC c) (h:JT c d b=some l):∀v∈l,Fit v:=RI hc.ss hc.ps _ l h
theorem Py {c:CoreX} {d:Int} {b:List Int} (hc:c.Fit) (hbn:b.length≤9223372036854775807):DataW Try.prog AN0 [Jj c,i64 d,G6 b] (.tup [i64 (I0 c d b).1,i64 (I0 c d b).2]):=by
 have hgood:=XW hc
 have hfits:=ACb (b:=b) hc hbn
 unfold I0
 refine A3 AAI (by simp) ?_
 simp -implicitDefEqProofs -proj only [go_sem,seval]
 refine Aa (fun b3 hb3=>?_)
 simp -implicitDefEqProofs -proj only [go_sem,seval]
 refine AQ hgood ?_
 by_cases hg:goodC c
 rotate_left
 ·rw [if_pos hg]
  simp -implicitDefEqProofs -proj only [go_sem,seval,decide_eq_false hg]
  exact AJ rfl
 rw [if_neg (fun k=>k hg)]
 simp -implicitDefEqProofs -proj only [go_sem,seval,decide_eq_true hg]
 refine AQ Oq ?_
 by_cases h1:Gc d c.f c.t
 rotate_left
 ·rw [if_pos (.inl h1)]
  simp -implicitDefEqProofs -proj only [go_sem,seval,decide_eq_false h1]
  exact AJ rfl
 simp -implicitDefEqProofs -proj only [go_sem,seval,decide_eq_true h1]
 refine AQ hfits ?_
 by_cases h2:IZ c b
 rotate_left
 ·rw [if_pos (.inr h2)]
  simp -implicitDefEqProofs -proj only [go_sem,seval,decide_eq_false h2]
  exact AJ rfl
 rw [if_neg (fun k=>k.elim (fun e=>e h1) (fun e=>e h2))]
 have hit:=(ALm (d:=d) hc hg h2).data
 have hlen:∀l,JT c d b=some l→l.length≤c.ss.length+c.ps.length:=fun l h=>OV _ l h
 have hfit:=fun l h=>ACQ (b:=b) (d:=d) (l:=l) hc hg h
 obtain ⟨_,_,_,_,a7,a8⟩:=hg.hd
 simp -implicitDefEqProofs -proj only [go_sem,seval,decide_eq_true h2]
 cases e:JT c d b with
 | none =>
  rw [e] at hit
  simp -implicitDefEqProofs only [] at hit ⊢
  refine AQ hit ?_
  simp -implicitDefEqProofs -proj only [go_sem,seval]
  refine AQ (QV (l:=[]) (fun i h=>absurd h (Nat.not_lt_zero _)) (by simp)) ?_
  simp -implicitDefEqProofs -proj only [go_sem,seval,H8,Ef]
  exact AJ rfl
 | some l =>
  rw [e] at hit
  simp -implicitDefEqProofs only [] at hit ⊢
  have hs:=QV (l:=l) (AQD (hfit l e)) (by have:=hlen l e; omega)
  refine AQ hit ?_
  simp -implicitDefEqProofs -proj only [go_sem,seval]
  refine AQ hs ?_
  cases e2:H8 0 l with
  | none =>
   simp -implicitDefEqProofs -proj only [go_sem,seval,Ef]
   exact AJ rfl
  | some n =>
   simp -implicitDefEqProofs -proj only [go_sem,seval,Ef]
   exact AJ rfl
def sg (g:Nat→Int):Nat→Int
 | 0=>0
 | n+1=>sg g n+g n
def pv (x:PartX) (q:Int):Int:=(HO x q).getD 0
abbrev Fz:Type:=Int×List (List Int)
def RH (x:PartX):Nat→Int
 | 0=>0
 | n+1=>max (RH x n) (pv x n)
def OQ (ms:List MeterX) (m:Int):Int:=match ms[m.toNat]? with
 | some x=>x.mx
 | none=>0
def ARC (c:CoreX) (j:Nat):Int:=match c.ps[j]? with
 | some x=>RH x (OQ c.ms x.me+1).toNat
 | none=>0
def AIo (ss:List SumX) (j:Nat):Int:=match ss[j]? with
 | some s=>s.a
 | none=>0
def Qh (c:CoreX) (i:Nat):Int:=sg (AIo c.ss) c.ss.length+sg (ARC c) i
def Qp (x:PartX) (q:Int):Prop:=∃n,HO x q=some n∧0≤n∧n≤1152921504606846976
structure fitsC (c:CoreX):Prop where
 great:¬Si c
 good:goodC c
 parts:∀x∈c.ps,∀q:Nat,q<(OQ c.ms x.me+1).toNat→Qp x q
 FO:∀i,i≤c.ps.length→Qh c i≤1152921504606846976
noncomputable instance (c:CoreX):Decidable (fitsC c):=Classical.propDecidable _
def GZ (T:List Tier):Int:=T.foldl (fun r t=>max r t.r) 0
theorem Lx {T:List Tier}:∀{a:Int},a≤T.foldl (fun r t=>max r t.r) a:=by
 induction T with
 | nil=>intro a; exact Int.le_refl _
 | cons t T ih =>
  intro a
  have:=ih (a:=max a t.r)
  simp -implicitDefEqProofs only [List.foldl_cons]
  omega
theorem AMa {T:List Tier} {t:Tier} (h:t∈T):∀{a:Int},t.r≤T.foldl (fun r t=>max r t.r) a:=by
 induction T with
 | nil=>cases h
 | cons x T ih =>
  intro a
  simp -implicitDefEqProofs only [List.foldl_cons]
  rcases List.mem_cons.1 h with rfl | h
  ·have:=Lx (T:=T) (a:=max a t.r)
   omega
  ·exact ih h
theorem TA {T:List Tier} {m:Int} (h:∀t∈T,t.r≤m):∀{a:Int},a≤m→T.foldl (fun r t=>max r t.r) a≤m:=by
 induction T with
 | nil=>intro a ha; exact ha
 | cons x T ih =>
  intro a ha
  simp -implicitDefEqProofs only [List.foldl_cons]
  have:=h x (List.mem_cons_self ..)
  exact ih (fun t ht=>h t (List.mem_cons_of_mem _ ht)) (by omega)
def Lw (a:Adj) (n:Int):Option Int :=
 if a.k=1 then Fq (n*a.n) 100000 1
 else if a.k=2 then some (if a.n<n then a.n else n)
 else if a.k=3 then some (if n<a.n then a.n else n)
 else if a.k=4 then Hm (n+a.n)
 else some n
def Ir:List Adj→Int→Option Int
 | [],n=>some n
 | a::l,n=>match Lw a n with
  | some y=>if 1152921504606846976≤y then none else Ir l y
  | none=>none
def Gn (T:List Tier) (l:List Adj) (Q:Int):Option Int:=match Fq (GZ T*Q) 1000000 1 with
 | some n=>if 1152921504606846976≤n then none else Ir l n
 | none=>none
def Fc (al bl mx:Int):Int:=ES (max (mx-al) 0) bl 1*bl
theorem Ri {p c m:Int} (hc:0<c) (hm:0≤m∧m≤3):ES p c m≤ES p c 1:=by
 obtain ⟨h0,h1,h2⟩:=J6 (p:=p) hc
 unfold ES
 by_cases h:Fd m (p / c) (p % c) c
 ·have:Fd 1 (p / c) (p % c) c:=by
   unfold Fd at h ⊢
   left
   refine ⟨rfl,?_⟩
   rcases h with ⟨_,h⟩ | ⟨_,h⟩ | ⟨_,h | ⟨h,_⟩⟩ <;> omega
  rw [if_pos h,if_pos this]
  exact Int.le_refl _
 ·rw [if_neg h]
  split <;> omega
theorem KW {p c m:Int} (hc:0<c) (hm:0≤m∧m≤3) (hp:0≤p):0≤ES p c m:=by
 have:ES 0 c m≤ES p c m:=LJ hc hm hp
 have h0:ES 0 c m=0:=by
  unfold ES
  rw [Int.zero_ediv,Int.zero_emod,if_neg (by unfold Fd; omega)]
  rfl
 omega
theorem Rj {T:List Tier} {q R:Int} (S:Srt T) (hq:0≤q) (hR:0≤R) (hr:∀i,i<T.length→IF T i≤R):∀i,i≤T.length→LK T q i≤R*(if i=0 then 0 else if i=T.length then q else min q (FB T i))
 | 0,_=>by simp [LK]
 | i+1,hi=>by
  have ih:=Rj S hq hR hr i (by omega)
  have hri:=hr i (by omega)
  have hr0:=(S.rate i (by omega)).1
  have hl:=S.low i (by omega)
  rw [LK,if_neg (Nat.succ_ne_zero i)]
  have e:(if i=0 then (0:Int) else if i=T.length then q else min q (FB T i))=min q (FB T i):=by
   by_cases h:i=0
   ·rw [if_pos h,h]; simp -implicitDefEqProofs only [FB,if_pos]; omega
   ·rw [if_neg h,if_neg (by omega)]
  rw [e] at ih
  have hw:max 0 (HA T q i-FB T i)+min q (FB T i)≤(if i+1=T.length then q else min q (FB T (i+1))):=by
   by_cases h:i+1=T.length
   ·rw [if_pos h]
    unfold HA
    rw [if_neg (by omega)]
    omega
   ·rw [if_neg h]
    have hu:=S.up i (by omega)
    have e2:FB T (i+1)=H7 T i:=by simp [FB]
    rw [e2]
    unfold HA
    split <;> omega
  have h1:IF T i*max 0 (HA T q i-FB T i)≤R*max 0 (HA T q i-FB T i):=Int.mul_le_mul_of_nonneg_right hri (by omega)
  have h2:R*(max 0 (HA T q i-FB T i)+min q (FB T i))≤R*(if i+1=T.length then q else min q (FB T (i+1))):=Int.mul_le_mul_of_nonneg_left hw hR
  rw [Int.mul_add] at h2
  omega
theorem T5 {T:List Tier} (i:Nat) (h:i<T.length):IF T i≤GZ T:=by
 rw [Ku h]; exact AMa (List.getElem_mem h)
theorem Rp {T:List Tier} {q R:Int} (hq:0≤q) (hR:0≤R) (hr:∀i,i<T.length→IF T i≤R):∀n,n≤T.length→FO (Ic T q n)≤R*q
 | 0,_=>by simp -implicitDefEqProofs only [Ic,FO]; exact Int.mul_nonneg hR hq
 | n+1,hn=>by
  have hlt:T.length-(n+1)<T.length:=by omega
  rw [Ic,List.getElem?_eq_getElem hlt]
  simp -implicitDefEqProofs only []
  split
  ·split
   ·have:=hr _ hlt
    rw [Ku hlt] at this
    simp -implicitDefEqProofs only [FO,Int.sub_zero,Int.add_zero]
    exact Int.mul_le_mul_of_nonneg_right this hq
   ·simp -implicitDefEqProofs only [FO]; exact Int.mul_nonneg hR hq
  ·exact Rp hq hR hr n (by omega)
theorem Ux {x:PartX} {q:Int} (S:Srt x.ts) (hn:1≤x.ts.length) (hq:0≤q):FO (GC x q)≤GZ x.ts*q:=by
 have hR:0≤GZ x.ts:=Lx
 unfold GC
 split
 ·exact Rp hq hR T5 _ (Nat.le_refl _)
 ·rw [Ti S,Tu,Rl]
  have:=Rj S hq hR T5 x.ts.length (Nat.le_refl _)
  rwa [if_neg (by omega),if_pos rfl] at this
theorem U4 {x:PartX} {q mx n:Int} (G:GoodX x) (S:Srt x.ts) (hq:0≤q) (hm:q≤mx) (hm2:mx≤2000) (h:Fq (GZ x.ts*Fc x.al x.bl mx) 1000000 1=some n):∃y,I9 x q=some y∧0≤y∧y≤n:=by
 have hb:=G.bl
 have hal:=G.al
 have hmo:=G.mo
 have hR0:0≤GZ x.ts:=Lx
 have hR:GZ x.ts≤1000000000000:=by
  refine TA (fun t ht=>?_) (by omega)
  obtain ⟨i,hi,rfl⟩:=List.getElem_of_mem ht
  have:=S.rate i hi
  rw [Ku hi] at this
  exact this.2
 have l0:0≤Ha x q:=Int.mul_nonneg (KW (by omega) (by decide) (by omega)) (by omega)
 have l1:Ha x q≤Fc x.al x.bl mx:=Int.mul_le_mul_of_nonneg_right (LJ (by omega) (by decide) (by omega)) (by omega)
 have l2:Fc x.al x.bl mx≤1002000:=by
  unfold Fc
  obtain ⟨d0,d1,d2⟩:=J6 (p:=max (mx-x.al) 0) (c:=x.bl) (by omega)
  unfold ES
  split
  ·rw [Int.add_mul]; omega
  ·rw [Int.add_zero]; omega
 have c0:0≤FO (GC x (Ha x q)):=Rt (Qu S)
 have c1:=Ux S G.tn.1 l0
 have c2:GZ x.ts*Ha x q≤GZ x.ts*Fc x.al x.bl mx:=Int.mul_le_mul_of_nonneg_left l1 hR0
 have c3:GZ x.ts*Fc x.al x.bl mx≤1000000000000*1002000:=Int.mul_le_mul hR l2 (by omega) (by decide)
 have hmic:JB x q=some (FO (GC x (Ha x q))):=by
  rw [AHa S,if_neg (by omega),if_pos (show Fit (Ha x q) by unfold Fit; omega),if_pos (by omega)]
 obtain ⟨_,e,_⟩:=Js h
 have y0:0≤ES (FO (GC x (Ha x q))) 1000000 x.mo:=KW (by decide) hmo c0
 have y1:ES (FO (GC x (Ha x q))) 1000000 x.mo≤ES (GZ x.ts*Fc x.al x.bl mx) 1000000 x.mo:=LJ (by decide) hmo (by omega)
 have y2:ES (GZ x.ts*Fc x.al x.bl mx) 1000000 x.mo≤ES (GZ x.ts*Fc x.al x.bl mx) 1000000 1:=Ri (by decide) hmo
 have hf:Fit n:=(Js h).1
 refine ⟨ES (FO (GC x (Ha x q))) 1000000 x.mo,?_,y0,by omega⟩
 unfold I9
 rw [hmic]
 show Fq _ _ _=_
 unfold Fq Hm
 rw [if_pos ⟨by decide,hmo⟩,if_pos (by unfold Fit at hf ⊢; omega)]
theorem AQX {a:Adj} {x n y:Int} (ha:FY a) (h0:0≤x) (h1:x≤n) (h:Lw a n=some y):∃z,HD a x=some z∧0≤z∧z≤y:=by
 unfold FY at ha
 unfold Lw at h
 unfold HD
 by_cases k1:a.k=1
 ·rw [if_pos k1] at h ⊢
  have hn:0≤a.n∧0≤a.m∧a.m≤3:=by omega
  obtain ⟨hf,e,_⟩:=Js h
  have p0:0≤x*a.n:=Int.mul_nonneg h0 hn.1
  have p1:x*a.n≤n*a.n:=Int.mul_le_mul_of_nonneg_right h1 hn.1
  have y0:0≤ES (x*a.n) 100000 a.m:=KW (by decide) hn.2 p0
  have y1:ES (x*a.n) 100000 a.m≤ES (n*a.n) 100000 a.m:=LJ (by decide) hn.2 p1
  have y2:ES (n*a.n) 100000 a.m≤ES (n*a.n) 100000 1:=Ri (by decide) hn.2
  refine ⟨_,?_,y0,by omega⟩
  unfold Fq Hm
  rw [if_pos ⟨by decide,hn.2⟩,if_pos (by unfold Fit at hf ⊢; omega)]
 rw [if_neg k1] at h ⊢
 have hn:0≤a.n:=by omega
 by_cases k2:a.k=2
 ·rw [if_pos k2] at h ⊢
  cases h
  exact ⟨_,rfl,by omega,by split <;> omega⟩
 rw [if_neg k2] at h ⊢
 by_cases k3:a.k=3
 ·rw [if_pos k3] at h ⊢
  cases h
  exact ⟨_,rfl,by omega,by split <;> omega⟩
 rw [if_neg k3] at h ⊢
 by_cases k4:a.k=4
 ·rw [if_pos k4] at h ⊢
  obtain ⟨hf,e⟩:=NJ h
  refine ⟨x+a.n,?_,by omega,by omega⟩
  unfold Hm
  rw [if_pos (by unfold Fit at hf ⊢; omega)]
 ·omega
theorem OS:∀{l:List Adj} {x n y:Int},(∀a∈l,FY a)→0≤x→x≤n→Ir l n=some y→∃z,IC x l=some z∧0≤z∧z≤y
 | [],x,n,y,_,h0,h1,h=>by cases h; exact ⟨x,rfl,h0,h1⟩
 | a::l,x,n,y,ha,h0,h1,h=>by
  rw [Ir] at h
  cases e:Lw a n with
  | none=>rw [e] at h; cases h
  | some v =>
   rw [e] at h
   simp -implicitDefEqProofs only [] at h
   split at h
   ·cases h
   obtain ⟨z,e1,z0,z1⟩:=AQX (ha a (List.mem_cons_self ..)) h0 h1 e
   rw [IC,e1]
   exact OS (fun b hb=>ha b (List.mem_cons_of_mem _ hb)) z0 z1 h
theorem Xz {x:PartX} {q mx y:Int} (G:GoodX x) (hq:0≤q) (hm:q≤mx) (hm2:mx≤2000) (h:Gn x.ts x.ad (Fc x.al x.bl mx)=some y):∃z,HO x q=some z∧0≤z∧z≤y:=by
 have S:=Or G.ts
 unfold Gn at h
 cases e:Fq (GZ x.ts*Fc x.al x.bl mx) 1000000 1 with
 | none=>rw [e] at h; cases h
 | some n =>
  rw [e] at h
  simp -implicitDefEqProofs only [] at h
  split at h
  ·cases h
  obtain ⟨v,e1,v0,v1⟩:=U4 G S hq hm hm2 e
  unfold HO
  rw [e1]
  exact OS G.ad v0 v1 h
def Jz:List Int→Int→Option Int
 | [],n=>some n
 | x::l,n=>if 1152921504606846976≤x∨1152921504606846976≤n+x then none else Jz l (n+x)
theorem Sv:∀{l:List Int} {n m:Int},Jz l n=some m→m=n+l.sum∧(n<1152921504606846976→m<1152921504606846976)
 | [],n,m,h=>by cases h; simp
 | x::l,n,m,h=>by
  rw [Jz] at h
  split at h
  ·cases h
  obtain ⟨h1,h2⟩:=Sv h
  simp -implicitDefEqProofs only [List.sum_cons]
  omega
theorem T0 {ss:List SumX} {d:Int} (h0:∀s∈ss,0≤s.a):∀i,i≤ss.length→(∀v∈Gt ss d i,0≤v)∧(Gt ss d i).sum≤((ss.take i).map (·.a)).sum
 | 0,_=>by simp [Gt]
 | i+1,hi=>by
  obtain ⟨h1,h2⟩:=T0 (d:=d) h0 i (by omega)
  have hl:i<ss.length:=by omega
  have ha:=h0 _ (List.getElem_mem hl)
  rw [Gt,List.getElem?_eq_getElem hl,List.take_succ_eq_append_getElem hl,List.map_append,List.sum_append]
  generalize ss[i]=x at ha ⊢
  have e1:(List.map (fun x:SumX=>x.a) [x]).sum=x.a:=by simp
  have e2:[x.a].sum=x.a:=by simp
  rw [e1]
  simp -implicitDefEqProofs only []
  split
  ·refine ⟨fun v hv=>?_,?_⟩
   ·rcases List.mem_append.1 hv with hv | hv
    ·exact h1 v hv
    ·rw [List.mem_singleton.1 hv]; exact ha
   ·rw [List.sum_append,e2]; omega
  ·refine ⟨h1,?_⟩
   omega
theorem Sr {ss:List SumX} {ps:List PartX} {d:Int} {b:List Int} {g:Nat→Int} (h0:∀s∈ss,0≤s.a) (hp:∀(j:Nat) (h:j<ps.length),∃z,HO ps[j] (bq b ps[j].me)=some z∧0≤z∧z≤g j):∀i,i≤ps.length→∃l,F4 ss ps d b i=some l∧(∀v∈l,0≤v)∧l.sum≤(ss.map (·.a)).sum+sg g i
 | 0,_=>by
  obtain ⟨h1,h2⟩:=T0 (d:=d) h0 ss.length (Nat.le_refl _)
  rw [List.take_length] at h2
  exact ⟨_,rfl,h1,by simp -implicitDefEqProofs only [sg]; omega⟩
 | i+1,hi=>by
  obtain ⟨l,e,h1,h2⟩:=Sr (d:=d) h0 hp i (by omega)
  have hl:i<ps.length:=by omega
  obtain ⟨z,ez,z0,z1⟩:=hp i hl
  rw [F4,e,List.getElem?_eq_getElem hl]
  simp -implicitDefEqProofs only []
  by_cases hw:Gc d ps[i].f ps[i].t
  ·rw [if_pos hw,ez]
   refine ⟨_,rfl,fun v hv=>?_,?_⟩
   ·rcases List.mem_append.1 hv with hv | hv
    ·exact h1 v hv
    ·rw [List.mem_singleton.1 hv]; exact z0
   ·rw [List.sum_append]; simp -implicitDefEqProofs only [sg]; simp; omega
  ·rw [if_neg hw]
   exact ⟨l,rfl,h1,by simp -implicitDefEqProofs only [sg]; omega⟩
theorem Sp:∀{l:List Int} {a:Int},(∀v∈l,0≤v)→0≤a→a+l.sum≤9223372036854775807→H8 a l=some (a+l.sum)
 | [],a,_,_,_=>by simp [H8]
 | x::l,a,h,ha,hs=>by
  have hx:=h x (List.mem_cons_self ..)
  have hl:∀v∈l,0≤v:=fun v hv=>h v (List.mem_cons_of_mem _ hv)
  have hs0:0≤l.sum:=by
   clear hs h ha
   induction l with
   | nil=>simp
   | cons y l ih =>
    have:=hl y (List.mem_cons_self ..)
    have:=ih (fun v hv=>hl v (List.mem_cons_of_mem _ hv))
    simp -implicitDefEqProofs only [List.sum_cons]; omega
  simp -implicitDefEqProofs only [List.sum_cons] at hs ⊢
  rw [H8,if_pos (show Fit (a+x) by unfold Fit; omega),Sp hl (by omega) (by omega),Int.add_assoc]
theorem AD5 {c:CoreX} {d most:Int} {b:List Int} {g:Nat→Int} (hg:goodC c) (hd:Gc d c.f c.t) (hb:IZ c b) (hp:∀(j:Nat) (h:j<c.ps.length),∃z,HO c.ps[j] (bq b c.ps[j].me)=some z∧0≤z∧z≤g j) (hm:(c.ss.map (·.a)).sum+sg g c.ps.length≤most) (hm2:most<1152921504606846976):∃n,I0 c d b=(n,0)∧0≤n∧n≤most:=by
 obtain ⟨l,e,h1,h2⟩:=Sr (ss:=c.ss) (d:=d) (fun s hs=>(hg.ss s hs).1.1) hp c.ps.length (Nat.le_refl _)
 have hs0:0≤l.sum:=by
  clear e h2
  induction l with
  | nil=>simp
  | cons y l ih =>
   have:=h1 y (List.mem_cons_self ..)
   have:=ih (fun v hv=>h1 v (List.mem_cons_of_mem _ hv))
   simp -implicitDefEqProofs only [List.sum_cons]; omega
 refine ⟨l.sum,?_,hs0,by omega⟩
 unfold I0
 rw [if_neg (fun k=>k hg),if_neg (fun k=>k.elim (fun k=>k hd) (fun k=>k hb))]
 have:JT c d b=some l:=e
 rw [this]
 simp -implicitDefEqProofs only []
 rw [Sp h1 (by decide) (by omega),Int.zero_add]
def Eg:List MeterX→ByteArray→Nat→Int
 | [],_,_=>-1
 | m::r,nm,i=>if m.nm.toList == nm.toList then i else Eg r nm (i+1)
theorem KU:∀(l:List MeterX) (nm:ByteArray) (i:Nat),Eg l nm i = -1∨∃j,∃h:j<l.length,Eg l nm i=(i+j:Nat)∧(l[j].nm.toList == nm.toList)=true
 | [],nm,i=>.inl rfl
 | m::r,nm,i=>by
  rw [Eg]
  split
  ·next h=>exact .inr ⟨0,by simp,by simp,by simpa using h⟩
  ·next h =>
   rcases KU r nm (i+1) with e | ⟨j,hj,e1,e2⟩
   ·exact .inl e
   ·exact .inr ⟨j+1,by simp; omega,by rw [e1]; omega,by simpa using e2⟩
abbrev E6 (p:PlanX):Blk:=.box 53 p.cells
theorem OB {l:List MeterX} {i:Nat} (h:i<l.length):(EI l)[((i:Int)).toNat]? = some (MeterX.el l[i]):=JX h
theorem P3 {l:List FeeX} {i:Nat} (h:i<l.length):(Fy l)[((i:Int)).toNat]? = some (FeeX.el l[i]):=by
 rw [Int.toNat_natCast]; simp [Fy,h]
theorem Mp {l:List ChX} {i:Nat} (h:i<l.length):(Fr l)[((i:Int)).toNat]? = some (ChX.el l[i]):=by
 rw [Int.toNat_natCast]; simp [Fr,h]
theorem PR {p:PlanX} {nm:ByteArray} (hl:p.ms.length≤1000000):DataW Try.prog Wl [JN p,Ey nm] (i64 (Eg p.ms nm 0)):=by
 obtain ⟨n0,cu,f,t,ms,fs,cs,ln,co⟩:=p
 simp -implicitDefEqProofs only [] at hl
 refine A3 ARe (by simp) ?_
 simp -implicitDefEqProofs -proj only [go_sem,seval]
 refine Aa (fun b hb=>?_)
 simp -implicitDefEqProofs -proj only [go_sem,seval,AK,FL]
 generalize hR:Eg ms nm 0=R
 refine EX (fun i:Nat=>i≤ms.length∧Eg (ms.drop i) nm i=R) 21 (fun i=>[(1,Ey nm),(8,.d (.sl 5 (EI ms))),(9,i64 ms.length),(10,i64 i)]) (fun _=>[]) (fun i=>ms.length-i) 0 ⟨Nat.zero_le _,hR⟩ rfl ?_ ?_ ?_
 ·simp -implicitDefEqProofs -proj only [go_sem,seval,AP,FL]
 ·trivial
 ·rintro i ⟨hi,hr⟩
  by_cases hlt:i<ms.length
  ·have hel:=OB hlt
   rw [List.drop_eq_getElem_cons hlt,Eg] at hr
   generalize ms[i]=m at hel hr
   obtain ⟨mn,un,mx,ml,mc⟩:=m
   simp -implicitDefEqProofs only [] at hr
   have i1:=Ed (show i<9223372036854775807 by omega)
   simp -implicitDefEqProofs -proj only [go_sem,seval,decide_eq_true (show (i:Int)<ms.length by omega)]
   refine Eh _ (by omega) hel ?_
   simp -implicitDefEqProofs only [MeterX.el]
   simp -implicitDefEqProofs -proj only [go_sem,seval]
   refine Aa (fun b6 hb6=>?_)
   cases e:(mn.toList == nm.toList) with
   | true =>
    rw [e,if_pos rfl] at hr
    simp -implicitDefEqProofs -proj only [go_sem,seval,AK,HU,e]
    rw [←hr]
    exact AJ rfl
   | false =>
    rw [e,if_neg (by decide)] at hr
    simp -implicitDefEqProofs -proj only [go_sem,seval,AK,HU,e]
    refine EF (i+1) (And.intro (by omega) hr) (by show ms.length-(i+1)<ms.length-i; omega) rfl ?_ trivial
    simp -implicitDefEqProofs -proj only [go_sem,seval,AP,i1]
  ·have hi':i=ms.length:=by omega
   rw [List.drop_eq_nil_of_le (by omega),Eg] at hr
   simp -implicitDefEqProofs -proj only [go_sem,seval,decide_eq_false (show ¬(i:Int)<ms.length by omega)]
   rw [←hr]
   exact AJ rfl
def G5 (p:PlanX) (w:WinX):Prop:=w.has=false∨Ag w.f≤Ag w.t∧Ag p.f≤Ag w.f∧Ag w.t≤Ag p.t
instance (p:PlanX) (w:WinX):Decidable (G5 p w):=by unfold G5; exact inferInstance
theorem Qa {p:PlanX} {w:WinX} (hf:Fh p.f) (ht:Fh p.t) (hw:KZ w):DataW Try.prog AQa [JN p,ON w] (bv (decide (G5 p w))):=by
 refine A3 AG7 (by simp) ?_
 simp -implicitDefEqProofs -proj only [go_sem,seval]
 refine Aa (fun b hb=>?_)
 simp -implicitDefEqProofs -proj only [go_sem,seval]
 refine Aa (fun b3 hb3=>?_)
 replace hb3:AI Heap.none b (some _) b3=none:=hb3
 obtain ⟨n1,n2⟩:=EG hb3 AK
 cases hh:w.has with
 | false =>
  simp -implicitDefEqProofs -proj only [go_sem,seval,AK,n1,n2,hh,Bool.not_false]
  exact AJ (by rw [decide_eq_true (show G5 p w from .inl hh)])
 | true =>
  obtain ⟨g1,g2⟩:=hw.1 hh
  have q1:=Ik g1
  have q2:=Ik g2
  have q3:=Ik hf
  have q4:=Ik ht
  simp -implicitDefEqProofs -proj only [go_sem,seval,AK,n1,n2,hh,Bool.not_true]
  refine E0 q1 ?_
  simp -implicitDefEqProofs -proj only [go_sem,seval,AK,n1,n2]
  refine AQ q2 ?_
  have fin:∀c:Bool,(c=true↔Ag w.f≤Ag w.t∧Ag p.f≤Ag w.f∧Ag w.t≤Ag p.t)→bv c=bv (decide (G5 p w)):=fun c hc=>by
   have:c=decide (G5 p w):=by
    rw [Bool.eq_iff_iff,hc,decide_eq_true_eq]
    unfold G5
    rw [hh]
    simp
   rw [this]
  by_cases c1:Ag w.f≤Ag w.t
  rotate_left
  ·simp -implicitDefEqProofs -proj only [go_sem,seval,AK,n1,n2,decide_eq_false c1]
   exact AJ (fin _ (by simp [c1]))
  simp -implicitDefEqProofs -proj only [go_sem,seval,AK,n1,n2,decide_eq_true c1]
  refine AQ q3 ?_
  by_cases c2:Ag p.f≤Ag w.f
  rotate_left
  ·simp -implicitDefEqProofs -proj only [go_sem,seval,AK,n1,n2,decide_eq_false c2]
   exact AJ (fin _ (by simp [c2]))
  simp -implicitDefEqProofs -proj only [go_sem,seval,AK,n1,n2,decide_eq_true c2]
  refine AQ q4 ?_
  simp -implicitDefEqProofs -proj only [go_sem,seval]
  exact AJ (fin _ (by simp [c1,c2]))
def JH (T:List Tier):Prop:=∀(i:Nat) (h:i+1<T.length),1≤(T[i]'(by omega)).u∧(0<i→(T[i-1]'(by omega)).u<(T[i]'(by omega)).u)
noncomputable instance (T:List Tier):Decidable (JH T):=Classical.propDecidable _
theorem AMN {T:List Tier} (hl:T.length≤1000000):DataW Try.prog ACU [Fb T] (bv (decide (JH T))):=by
 refine A3 AIQ (by simp) ?_
 simp -implicitDefEqProofs -proj only [go_sem,seval]
 refine EX (fun i:Nat=>i≤T.length∧∀(j:Nat) (h:j+1<T.length),j<i→1≤(T[j]'(by omega)).u∧(0<j→(T[j-1]'(by omega)).u<(T[j]'(by omega)).u)) 35 (fun i=>[(0,Fb T),(3,i64 i)]) (fun _=>[]) (fun i=>T.length-i) 0 ⟨Nat.zero_le _,fun j _ h=>absurd h (Nat.not_lt_zero _)⟩ rfl ?_ ?_ ?_
 ·simp -implicitDefEqProofs -proj only [go_sem,seval,AP]
 ·trivial
 ·rintro i ⟨hi,hs⟩
  have i1:=Ed (show i<9223372036854775807 by omega)
  by_cases hlt:i+1<T.length
  ·have hi0:i<T.length:=by omega
   have hel:=LR hi0
   have no:¬(1≤T[i].u∧(0<i→(T[i-1]'(by omega)).u<T[i].u))→bv false=bv (decide (JH T)):=fun h=>by rw [decide_eq_false (fun k=>h (k i hlt))]
   have yes:(1≤T[i].u∧(0<i→(T[i-1]'(by omega)).u<T[i].u))→∀(j:Nat) (h:j+1<T.length),j<i+1→1≤(T[j]'(by omega)).u∧(0<j→(T[j-1]'(by omega)).u<(T[j]'(by omega)).u):=fun h j h1 h2=>by
    by_cases e:j=i
    ·subst e; exact h
    ·exact hs j h1 (by omega)
   by_cases c1:T[i].u<1
   ·simp -implicitDefEqProofs -proj only [go_sem,seval,i1,FP,decide_eq_true (show ((i+1:Nat):Int)<T.length by omega)]
    refine Eh _ (by omega) hel ?_
    simp -implicitDefEqProofs -proj only [go_sem,seval,decide_eq_true c1]
    exact AJ (no (by omega))
   by_cases c2:i=0
   ·simp -implicitDefEqProofs -proj only [go_sem,seval,i1,FP,decide_eq_true (show ((i+1:Nat):Int)<T.length by omega)]
    refine Eh _ (by omega) hel ?_
    simp -implicitDefEqProofs -proj only [go_sem,seval,decide_eq_false c1,decide_eq_false (show ¬(0:Int)<i by omega),i1]
    refine EF (i+1) (And.intro (by omega) (yes ⟨by omega,fun k=>by omega⟩)) (by show T.length-(i+1)<T.length-i; omega) rfl ?_ trivial
    simp -implicitDefEqProofs -proj only [go_sem,seval,AP]
   have hp:i-1<T.length:=by omega
   have hel2:=LR hp
   have w1:IntKind.i64.wrap ((i:Int)-1)=((i-1:Nat):Int):=by rw [FN (by unfold Fit; omega)]; omega
   simp -implicitDefEqProofs -proj only [go_sem,seval,i1,FP,decide_eq_true (show ((i+1:Nat):Int)<T.length by omega)]
   refine Eh _ (by omega) hel ?_
   simp -implicitDefEqProofs -proj only [go_sem,seval,decide_eq_false c1,decide_eq_true (show (0:Int)<i by omega),w1]
   refine Eh _ (by omega) hel ?_
   simp -implicitDefEqProofs -proj only [go_sem,seval,w1]
   refine Eh _ (by omega) hel2 ?_
   by_cases c3:T[i].u≤T[i-1].u
   ·simp -implicitDefEqProofs -proj only [go_sem,seval,decide_eq_true c3]
    exact AJ (no (fun k=>by have:=k.2 (by omega); omega))
   ·simp -implicitDefEqProofs -proj only [go_sem,seval,decide_eq_false c3,i1]
    refine EF (i+1) (And.intro (by omega) (yes ⟨by omega,fun k=>by omega⟩)) (by show T.length-(i+1)<T.length-i; omega) rfl ?_ trivial
    simp -implicitDefEqProofs -proj only [go_sem,seval,AP]
  ·simp -implicitDefEqProofs -proj only [go_sem,seval,i1,FP,decide_eq_false (show ¬((i+1:Nat):Int)<T.length by omega)]
   exact AJ (by rw [decide_eq_true (show JH T from fun j h=>hs j h (by omega))])
noncomputable def JA (p:PlanX) (i:Nat) (c:ChX):Int:=if 8≤i then 6 else if Eg p.ms c.me 0<0∨¬G5 p c.w∨c.bl=0 then 5 else if 8<c.ts.length then 6 else if ¬JH c.ts then 5 else if 6<c.ad.length then 6 else 0
theorem AQV {p:PlanX} {i:Nat} (hi:i<p.cs.length) (hl:p.ms.length≤1000000) (hlc:p.cs.length≤1000000) (htl:p.cs[i].ts.length≤1000000) (hf:Fh p.f) (ht:Fh p.t) (hw:KZ p.cs[i].w):DataW Try.prog ACI [JN p,i64 i] (i64 (JA p i p.cs[i])):=by
 have hel:=Mp hi
 have hm:=PR (nm:=p.cs[i].me) hl
 have hwin:=Qa hf ht hw
 have hris:=AMN htl
 unfold JA
 generalize p.cs[i]=c at hel hm hwin hris htl hw ⊢
 refine A3 ABy (by simp) ?_
 simp -implicitDefEqProofs -proj only [go_sem,seval]
 refine Aa (fun b hb=>?_)
 simp -implicitDefEqProofs -proj only [go_sem,seval,AK]
 refine Eh _ (by omega) hel ?_
 simp -implicitDefEqProofs -proj only [go_sem,seval]
 refine Aa (fun b5 hb5=>?_)
 replace hb5:AI Heap.none b (some _) b5=none:=hb5
 obtain ⟨n1,n2⟩:=EG hb5 AK
 by_cases g1:8≤i
 ·simp -implicitDefEqProofs -proj only [go_sem,seval,AK,n1,n2,decide_eq_true (show (8:Int)≤i by omega)]
  exact AJ (by simp [g1])
 rw [if_neg g1]
 simp -implicitDefEqProofs -proj only [go_sem,seval,AK,n1,n2,decide_eq_false (show ¬(8:Int)≤i by omega)]
 refine AQ hm ?_
 by_cases g2:Eg p.ms c.me 0<0
 ·simp -implicitDefEqProofs -proj only [go_sem,seval,AK,n1,n2,decide_eq_true g2]
  exact AJ (by simp [g2])
 simp -implicitDefEqProofs -proj only [go_sem,seval,AK,n1,n2,decide_eq_false g2]
 refine AQ hwin ?_
 by_cases g3:G5 p c.w
 rotate_left
 ·simp -implicitDefEqProofs -proj only [go_sem,seval,AK,n1,n2,decide_eq_false g3,Bool.not_false]
  exact AJ (by simp [g3])
 by_cases g4:c.bl=0
 ·simp -implicitDefEqProofs -proj only [go_sem,seval,AK,n1,n2,decide_eq_true g3,Bool.not_true,decide_eq_true g4]
  exact AJ (by simp [g4])
 rw [if_neg (by simp [g2,g3,g4])]
 by_cases g5:8<c.ts.length
 ·simp -implicitDefEqProofs -proj only [go_sem,seval,AK,n1,n2,decide_eq_true g3,Bool.not_true,decide_eq_false g4,FP,decide_eq_true (show (8:Int)<c.ts.length by omega)]
  exact AJ (by simp [g5])
 rw [if_neg g5]
 simp -implicitDefEqProofs -proj only [go_sem,seval,AK,n1,n2,decide_eq_true g3,Bool.not_true,decide_eq_false g4,FP,decide_eq_false (show ¬(8:Int)<c.ts.length by omega)]
 refine AQ hris ?_
 by_cases g6:JH c.ts
 rotate_left
 ·simp -implicitDefEqProofs -proj only [go_sem,seval,AK,n1,n2,decide_eq_false g6,Bool.not_false]
  exact AJ (by simp [g6])
 rw [if_neg (fun k=>k g6)]
 by_cases g7:6<c.ad.length
 ·simp -implicitDefEqProofs -proj only [go_sem,seval,AK,n1,n2,decide_eq_true g6,Bool.not_true,GT,decide_eq_true (show (6:Int)<c.ad.length by omega)]
  exact AJ (by simp [g7])
 ·simp -implicitDefEqProofs -proj only [go_sem,seval,AK,n1,n2,decide_eq_true g6,Bool.not_true,GT,decide_eq_false (show ¬(6:Int)<c.ad.length by omega)]
  exact AJ (by simp [g7])
theorem Tf {D c k:Int} (hc:0<c) (h1:(k-1)*c<D) (h2:D≤k*c):ES D c 1=k:=by
 obtain ⟨d0,d1,d2⟩:=J6 (p:=D) hc
 have e1:(D / c+1)*c=D / c*c+c:=by rw [Int.add_mul,Int.one_mul]
 unfold ES
 by_cases h:0<D % c
 ·rw [if_pos (show Fd 1 (D / c) (D % c) c from .inl ⟨rfl,h⟩)]
  have a1:(k-1)*c<(D / c+1)*c:=by omega
  have a2:D / c*c<k*c:=by omega
  have b1:=Int.lt_of_mul_lt_mul_right a1 (by omega)
  have b2:=Int.lt_of_mul_lt_mul_right a2 (by omega)
  omega
 ·rw [if_neg (show ¬Fd 1 (D / c) (D % c) c by unfold Fd; omega)]
  have a1:(k-1)*c<D / c*c:=by omega
  have a2:D / c*c<(k+1)*c:=by
   have:(k+1)*c=k*c+c:=by rw [Int.add_mul,Int.one_mul]
   omega
  have b1:=Int.lt_of_mul_lt_mul_right a1 (by omega)
  have b2:=Int.lt_of_mul_lt_mul_right a2 (by omega)
  omega
theorem AQY {al bl mx:Int} {j:Nat} (hb:1≤bl) (h1:j=0∨((j:Int)-1)*bl<mx-al) (h2:¬(j:Int)*bl<mx-al):Fc al bl mx=j*bl:=by
 unfold Fc
 rcases Nat.eq_zero_or_pos j with e | e
 ·subst e
  have h0:max (mx-al) 0=0:=by
   have:((0:Nat):Int)*bl=0:=by simp
   omega
  rw [h0]
  have:ES 0 bl 1=0:=Tf (by omega) (by rw [Int.zero_sub,Int.neg_mul,Int.one_mul]; omega) (by simp)
  rw [this]; simp
 ·have h1:=h1.resolve_left (by omega)
  have hp:0≤((j:Int)-1)*bl:=Int.mul_nonneg (by omega) (by omega)
  rw [Tf (k:=j) (by omega) (by omega) (by omega)]
structure RY13 where
 i:Nat
 n:Int
theorem FW {i:Nat} {n:Int}:(RY13.mk i n).i=i:=(rfl)
theorem FT {i:Nat} {n:Int}:(RY13.mk i n).n=n:=(rfl)
set_option maxHeartbeats 2000000 in
theorem ANt {x:ChX} {mx:Int} (hal:0≤x.al∧x.al≤1000000) (hbl:1≤x.bl∧x.bl≤1000000) (hmx:0≤mx∧mx≤2000) (hts:∀t∈x.ts,0≤t.r∧t.r≤1000000000000) (had:∀a∈x.ad,FY a) (htl:x.ts.length≤1000000) (hall:x.ad.length≤1000000) :
  DataW Try.prog AO2 [K6 x,i64 mx] (Ef (Gn x.ts x.ad (Fc x.al x.bl mx))):=by
 obtain ⟨me,w,al,bl,ki,ts,mo,ad,cl,cc⟩:=x
 simp -implicitDefEqProofs only [] at hal hbl hts had htl hall ⊢
 unfold K6
 refine A3 ZT (by simp) ?_
 simp -implicitDefEqProofs -proj only [go_sem,seval]
 refine Aa (fun b hb=>?_)
 obtain ⟨B,hB⟩:∃B:Blk,Blk.box 96 [Ey me,bv w.has,i64 w.f.y,i64 w.f.m,i64 w.f.d,i64 w.t.y,i64 w.t.m,i64 w.t.d,i64 al,i64 bl,i64 ki,Fb ts,i64 mo,GB ad,i64 cl,i64 cc]=B:=⟨_,rfl⟩
 simp -implicitDefEqProofs -proj only [go_sem,seval]
 refine EX (fun j:Nat=>j=0∨((j:Int)-1)*bl<mx-al) 102 (fun j=>[(1,i64 mx),(2,.ptr b 0),(6,i64 ((j:Int)*bl))]) (fun _=>[(b,.box 96 [Ey me,bv w.has,i64 w.f.y,i64 w.f.m,i64 w.f.d,i64 w.t.y,i64 w.t.m,i64 w.t.d,i64 al,i64 bl,i64 ki,Fb ts,i64 mo,GB ad,i64 cl,i64 cc])]) (fun j=>(mx-al-(j:Int)*bl).toNat) 0 (.inl rfl) rfl ?_ ⟨AK,trivial⟩ ?_
 ·simp -implicitDefEqProofs -proj only [go_sem,seval,AP]
  simp
 ·rintro j hj
  have hH:=FV (l:=[(b,.box 96 [Ey me,bv w.has,i64 w.f.y,i64 w.f.m,i64 w.f.d,i64 w.t.y,i64 w.t.m,i64 w.t.d,i64 al,i64 bl,i64 ki,Fb ts,i64 mo,GB ad,i64 cl,i64 cc])]) (by simp [EJ])
  have k1:=hH.1
  have w1:IntKind.i64.wrap (mx-al)=mx-al:=FN (by unfold Fit; omega)
  have hj0:0≤(j:Int)*bl:=Int.mul_nonneg (by omega) (by omega)
  by_cases hlt:(j:Int)*bl<mx-al
  ·have e1:((j+1:Nat):Int)*bl=(j:Int)*bl+bl:=by rw [show ((j+1:Nat):Int)=(j:Int)+1 by omega,Int.add_mul,Int.one_mul]
   have w2:IntKind.i64.wrap ((j:Int)*bl+bl)=((j+1:Nat):Int)*bl:=by rw [FN (by unfold Fit; omega),e1]
   simp -implicitDefEqProofs -proj only [go_sem,seval,k1,w1,decide_eq_true hlt,w2]
   refine EF (j+1) (.inr ?_) (by show (mx-al-((j+1:Nat):Int)*bl).toNat<(mx-al-(j:Int)*bl).toNat; omega) rfl ?_ hH
   ·rw [show ((j+1:Nat):Int)-1=j by omega]; exact hlt
   ·simp -implicitDefEqProofs -proj only [go_sem,seval,AP]
  have hq:=AQY hbl.1 hj hlt
  have hqb:0≤Fc al bl mx∧Fc al bl mx≤1002000:=by
   rw [hq]
   refine ⟨hj0,?_⟩
   rcases hj with e | e
   ·subst e; simp
   ·have:((j:Int)-1)*bl=(j:Int)*bl-bl:=by rw [Int.sub_mul,Int.one_mul]
    omega
  rw [←hq] at hlt
  simp -implicitDefEqProofs -proj only [go_sem,seval,k1,w1,←hq,decide_eq_false hlt,FP]
  generalize Fc al bl mx=Q at *
  clear hq hj hj0
  have hRM:0≤GZ ts∧GZ ts≤1000000000000:=⟨Lx,TA (fun t ht=>(hts t ht).2) (by decide)⟩
  generalize hRR:GZ ts=RM at hRM
  refine EX (fun y:RY13=>y.i≤ts.length∧(0≤y.n∧y.n≤1000000000000)∧(ts.drop y.i).foldl (fun r t=>max r t.r) y.n=RM) 102 (fun y=>[(2,.ptr b 0),(6,i64 Q),(7,i64 y.n),(25,Fb ts),(26,i64 ts.length),(27,i64 y.i)]) (fun _=>[(b,.box 96 [Ey me,bv w.has,i64 w.f.y,i64 w.f.m,i64 w.f.d,i64 w.t.y,i64 w.t.m,i64 w.t.d,i64 al,i64 bl,i64 ki,Fb ts,i64 mo,GB ad,i64 cl,i64 cc])]) (fun y=>ts.length-y.i) ⟨0,0⟩ ⟨Nat.zero_le _,by decide,hRR⟩ rfl ?_ hH ?_
  ·simp -implicitDefEqProofs -proj only [go_sem,seval,AP,FW,FT,FP]
  rintro ⟨i,n⟩ ⟨hi,hn,hr⟩
  simp -implicitDefEqProofs only [FW,FT] at hi hn hr
  by_cases hlt:i<ts.length
  ·have hel:=LR hlt
   have htr:=hts _ (List.getElem_mem hlt)
   rw [List.drop_eq_getElem_cons hlt,List.foldl_cons] at hr
   generalize ts[i]=t at hel htr hr
   have i1:=Ed (show i<9223372036854775807 by omega)
   simp -implicitDefEqProofs -proj only [go_sem,seval,FW,FT,decide_eq_true (show (i:Int)<ts.length by omega)]
   refine Eh _ (by omega) hel ?_
   simp -implicitDefEqProofs -proj only [go_sem,seval]
   refine Aa (fun b9 hb9=>?_)
   replace hb9:EH [(b,.box 96 [Ey me,bv w.has,i64 w.f.y,i64 w.f.m,i64 w.f.d,i64 w.t.y,i64 w.t.m,i64 w.t.d,i64 al,i64 bl,i64 ki,Fb ts,i64 mo,GB ad,i64 cl,i64 cc])] b9=none:=hb9
   simp -implicitDefEqProofs -proj only [go_sem,seval,AK,AT]
   refine EF ⟨i+1,max n t.r⟩ ⟨by rw [FW]; omega,by rw [FT]; omega,hr⟩ (by show ts.length-(i+1)<ts.length-i; omega) rfl ?_ (Eq hb9 hH)
   simp -implicitDefEqProofs -proj only [go_sem,seval,AP,FW,FT,i1]
   try (simp; omega)
  have hi':i=ts.length:=by omega
  rw [hi',List.drop_length] at hr
  replace hr:n=RM:=hr
  subst hr
  have hmd:=TZ (a:=n) (b:=Q) (c:=1000000) (m:=1) (by unfold Fit; omega) (by unfold Fit; omega) (by decide)
  rw [NC] at hmd
  have hQ:Gn ts ad Q=(match Fq (n*Q) 1000000 1 with | some n=>if 1152921504606846976≤n then none else Ir ad n | none=>none):=by unfold Gn; rw [hRR]; all_goals (cases Fq (n*Q) 1000000 1 <;> rfl)
  rw [hQ]
  have hnn:∀y,Fq (n*Q) 1000000 1=some y→0≤y:=fun y hy=>by
   rw [(Js hy).2.1]
   exact KW (by decide) (by decide) (Int.mul_nonneg hn.1 hqb.1)
  simp -implicitDefEqProofs -proj only [go_sem,seval,FW,FT,k1,decide_eq_false (show ¬(i:Int)<ts.length by omega)]
  refine AQ hmd ?_
  cases e:Fq (n*Q) 1000000 1 with
  | none =>
   simp -implicitDefEqProofs -proj only [go_sem,seval,Ef,Bool.not_false]
   exact AJ rfl
  | some v =>
   have hv0:=hnn v e
   simp -implicitDefEqProofs only []
   by_cases g:1152921504606846976≤v
   ·rw [if_pos g]
    simp -implicitDefEqProofs -proj only [go_sem,seval,Ef,Bool.not_true,decide_eq_true g]
    exact AJ rfl
   rw [if_neg g]
   simp -implicitDefEqProofs -proj only [go_sem,seval,Ef,Bool.not_true,decide_eq_false g,k1,GT]
   generalize hRA:Ir ad v=RA
   refine EX (fun y:RY13=>y.i≤ad.length∧(0≤y.n∧y.n<1152921504606846976)∧Ir (ad.drop y.i) y.n=RA) 102 (fun y=>[(10,i64 y.n),(11,bv true),(49,GB ad),(50,i64 ad.length),(51,i64 y.i)]) (fun _=>[]) (fun y=>ad.length-y.i) ⟨0,v⟩ ⟨Nat.zero_le _,by rw [FT]; omega,hRA⟩ rfl ?_ trivial ?_
   ·simp -implicitDefEqProofs -proj only [go_sem,seval,AP,FW,FT,GT]
   rintro ⟨i,m⟩ ⟨hi,hm,hr⟩
   simp -implicitDefEqProofs only [FW,FT] at hi hm hr
   by_cases hlt:i<ad.length
   ·have hel:=QN hlt
    have hok:=had _ (List.getElem_mem hlt)
    rw [List.drop_eq_getElem_cons hlt,Ir] at hr
    generalize ad[i]=a at hel hok hr
    obtain ⟨ak,an,am⟩:=a
    have i1:=Ed (show i<9223372036854775807 by omega)
    have han:0≤an∧an≤1000000000000:=by unfold FY at hok; simp -implicitDefEqProofs only [] at hok; omega
    have hk:ak=1∨ak=2∨ak=3∨ak=4:=by unfold FY at hok; simp -implicitDefEqProofs only [] at hok; omega
    unfold Lw at hr
    simp -implicitDefEqProofs only [] at hr
    simp -implicitDefEqProofs -proj only [go_sem,seval,FW,FT,decide_eq_true (show (i:Int)<ad.length by omega)]
    refine Eh _ (by omega) hel ?_
    simp -implicitDefEqProofs -proj only [go_sem,seval]
    refine Aa (fun b13 hb13=>?_)
    rcases hk with rfl | rfl | rfl | rfl
    ·rw [if_pos rfl] at hr
     have hmd:=TZ (a:=m) (b:=an) (c:=100000) (m:=1) (by unfold Fit; omega) (by unfold Fit; omega) (by decide)
     rw [NC] at hmd
     have hnn:∀y,Fq (m*an) 100000 1=some y→0≤y:=fun y hy=>by
      rw [(Js hy).2.1]
      exact KW (by decide) (by decide) (Int.mul_nonneg hm.1 han.1)
     simp -implicitDefEqProofs -proj only [go_sem,seval,AK,AT,decide_eq_true (show (1:Int)=1 from rfl)]
     refine AQ hmd ?_
     cases e:Fq (m*an) 100000 1 with
     | none =>
      rw [e] at hr
      rw [←hr]
      simp -implicitDefEqProofs -proj only [go_sem,seval,Ef,Bool.not_false]
      exact AJ rfl
     | some y =>
      have hy0:=hnn y e
      rw [e] at hr
      simp -implicitDefEqProofs only [] at hr
      by_cases g:1152921504606846976≤y
      ·rw [if_pos g] at hr
       rw [←hr]
       simp -implicitDefEqProofs -proj only [go_sem,seval,Ef,Bool.not_true,decide_eq_true g]
       exact AJ rfl
      ·rw [if_neg g] at hr
       simp -implicitDefEqProofs -proj only [go_sem,seval,Ef,Bool.not_true,decide_eq_false g]
       refine EF ⟨i+1,y⟩ ⟨by rw [FW]; omega,by rw [FT]; omega,hr⟩ (by show ad.length-(i+1)<ad.length-i; omega) rfl ?_ trivial
       simp -implicitDefEqProofs -proj only [go_sem,seval,AP,FW,FT,i1]
    ·rw [if_neg (by decide),if_pos rfl] at hr
     simp -implicitDefEqProofs only [] at hr
     by_cases c1:an<m
     ·rw [if_pos c1,if_neg (by omega)] at hr
      simp -implicitDefEqProofs -proj only [go_sem,seval,AK,AT,decide_eq_false (show ¬(2:Int)=1 by decide),decide_eq_true (show (2:Int)=2 from rfl),decide_eq_true c1,Bool.not_true,decide_eq_false (show ¬1152921504606846976≤an by omega)]
      refine EF ⟨i+1,an⟩ ⟨by rw [FW]; omega,by rw [FT]; omega,hr⟩ (by show ad.length-(i+1)<ad.length-i; omega) rfl ?_ trivial
      simp -implicitDefEqProofs -proj only [go_sem,seval,AP,FW,FT,i1]
     ·rw [if_neg c1,if_neg (by omega)] at hr
      simp -implicitDefEqProofs -proj only [go_sem,seval,AK,AT,decide_eq_false (show ¬(2:Int)=1 by decide),decide_eq_true (show (2:Int)=2 from rfl),decide_eq_false c1,Bool.not_true,decide_eq_false (show ¬1152921504606846976≤m by omega)]
      refine EF ⟨i+1,m⟩ ⟨by rw [FW]; omega,by rw [FT]; omega,hr⟩ (by show ad.length-(i+1)<ad.length-i; omega) rfl ?_ trivial
      simp -implicitDefEqProofs -proj only [go_sem,seval,AP,FW,FT,i1]
    ·rw [if_neg (by decide),if_neg (by decide),if_pos rfl] at hr
     simp -implicitDefEqProofs only [] at hr
     by_cases c1:m<an
     ·rw [if_pos c1,if_neg (by omega)] at hr
      simp -implicitDefEqProofs -proj only [go_sem,seval,AK,AT,decide_eq_false (show ¬(3:Int)=1 by decide),decide_eq_false (show ¬(3:Int)=2 by decide),decide_eq_true (show (3:Int)=3 from rfl),decide_eq_true c1,Bool.not_true,decide_eq_false (show ¬1152921504606846976≤an by omega)]
      refine EF ⟨i+1,an⟩ ⟨by rw [FW]; omega,by rw [FT]; omega,hr⟩ (by show ad.length-(i+1)<ad.length-i; omega) rfl ?_ trivial
      simp -implicitDefEqProofs -proj only [go_sem,seval,AP,FW,FT,i1]
     ·rw [if_neg c1,if_neg (by omega)] at hr
      simp -implicitDefEqProofs -proj only [go_sem,seval,AK,AT,decide_eq_false (show ¬(3:Int)=1 by decide),decide_eq_false (show ¬(3:Int)=2 by decide),decide_eq_true (show (3:Int)=3 from rfl),decide_eq_false c1,Bool.not_true,decide_eq_false (show ¬1152921504606846976≤m by omega)]
      refine EF ⟨i+1,m⟩ ⟨by rw [FW]; omega,by rw [FT]; omega,hr⟩ (by show ad.length-(i+1)<ad.length-i; omega) rfl ?_ trivial
      simp -implicitDefEqProofs -proj only [go_sem,seval,AP,FW,FT,i1]
    ·rw [if_neg (by decide),if_neg (by decide),if_neg (by decide),if_pos rfl] at hr
     have hfit:Fit (m+an):=by unfold Fit; omega
     rw [show Hm (m+an)=some (m+an) from if_pos hfit] at hr
     simp -implicitDefEqProofs only [] at hr
     simp -implicitDefEqProofs -proj only [go_sem,seval,AK,AT,decide_eq_false (show ¬(4:Int)=1 by decide),decide_eq_false (show ¬(4:Int)=2 by decide),decide_eq_false (show ¬(4:Int)=3 by decide),decide_eq_true (show (4:Int)=4 from rfl)]
     refine E0 (IM (a:=m) (by unfold Fit; omega)) ?_
     simp -implicitDefEqProofs -proj only [go_sem,seval,AK,AT]
     refine AQ (IM (a:=an) (by unfold Fit; omega)) ?_
     simp -implicitDefEqProofs -proj only [go_sem,seval]
     refine AQ (Kv (a:=m) (b:=an) (by omega) (by omega)) ?_
     simp -implicitDefEqProofs -proj only [go_sem,seval]
     refine AQ (Sb (n:=m+an) ⟨by omega,by omega⟩) ?_
     by_cases g:1152921504606846976≤m+an
     ·rw [if_pos g] at hr
      rw [←hr]
      simp -implicitDefEqProofs -proj only [go_sem,seval,Hj hfit,Bool.not_true,decide_eq_true g]
      exact AJ rfl
     ·rw [if_neg g] at hr
      simp -implicitDefEqProofs -proj only [go_sem,seval,Hj hfit,Bool.not_true,decide_eq_false g]
      refine EF ⟨i+1,m+an⟩ ⟨by rw [FW]; omega,by rw [FT]; omega,hr⟩ (by show ad.length-(i+1)<ad.length-i; omega) rfl ?_ trivial
      simp -implicitDefEqProofs -proj only [go_sem,seval,AP,FW,FT,i1]
   ·have hi':i=ad.length:=by omega
    rw [hi',List.drop_length,Ir] at hr
    rw [←hr]
    simp -implicitDefEqProofs -proj only [go_sem,seval,FW,FT,decide_eq_false (show ¬(i:Int)<ad.length by omega),Ef]
    exact AJ rfl
def IO (ms:List MeterX) (i:Int):Int:=match ms[i.toNat]? with
 | some m=>m.mx
 | none=>0
def IY (ms:List MeterX):List ChX→List Int→Option (List Int)
 | [],l=>some l
 | c::r,l=>if Eg ms c.me 0<0 then IY ms r l else match Gn c.ts c.ad (Fc c.al c.bl (IO ms (Eg ms c.me 0))) with
  | none=>none
  | some x=>IY ms r (l++[x])
def KS (p:PlanX):Option Int:=match IY p.ms p.cs (p.fs.map (·.am)) with
 | none=>none
 | some l=>Jz l 0
structure BndOK (p:PlanX):Prop where
 ms:∀m∈p.ms,0≤m.mx∧m.mx≤2000
 fs:∀f∈p.fs,0≤f.am∧f.am≤1000000000000
 al:∀c∈p.cs,0≤c.al∧c.al≤1000000
 bl:∀c∈p.cs,1≤c.bl∧c.bl≤1000000
 ts:∀c∈p.cs,∀t∈c.ts,0≤t.r∧t.r≤1000000000000
 ad:∀c∈p.cs,∀a∈c.ad,FY a
 lt:∀c∈p.cs,c.ts.length≤1000000
 la:∀c∈p.cs,c.ad.length≤1000000
 lm:p.ms.length≤1000000
 lf:p.fs.length≤1000000
 lc:p.cs.length≤1000000
theorem UP {l:List Adj} {n y:Int} (h:∀a∈l,FY a) (h0:0≤n) (e:Ir l n=some y):0≤y:=by
 obtain ⟨z,_,z0,z1⟩:=OS h h0 (Int.le_refl _) e
 omega
theorem Vg {T:List Tier} {l:List Adj} {Q y:Int} (h:∀a∈l,FY a) (hq:0≤Q) (e:Gn T l Q=some y):0≤y:=by
 unfold Gn at e
 cases e2:Fq (GZ T*Q) 1000000 1 with
 | none=>rw [e2] at e; cases e
 | some n =>
  rw [e2] at e
  simp -implicitDefEqProofs only [] at e
  split at e
  ·cases e
  ·refine UP h ?_ e
   rw [(Js e2).2.1]
   exact KW (by decide) (by decide) (Int.mul_nonneg Lx hq)
theorem ANH {al bl mx:Int} (hb:1≤bl):0≤Fc al bl mx:=Int.mul_nonneg (KW (by omega) (by decide) (by omega)) (by omega)
def Hb (b:Nat) (p:PlanX) (y:IX):List (Nat×Blk):=E2 3 1 y.c y.cap (Et y.l)++[(b,E6 p)]
set_option maxHeartbeats 2000000 in
theorem RN {p:PlanX} (h:BndOK p):DataW Try.prog AKN [JN p] (Ef (KS p)):=by
 have hmet:=fun nm=>PR (p:=p) (nm:=nm) h.lm
 obtain ⟨hms,hfs,hal,hbl,hts,had,hlt',hla,hlm,hlf,hlc⟩:=h
 unfold KS
 refine A3 We (by simp) ?_
 simp -implicitDefEqProofs -proj only [go_sem,seval]
 refine Aa (fun b hb=>?_)
 simp -implicitDefEqProofs -proj only [go_sem,seval,AK,If]
 refine EX (fun y:IX=>y.i≤p.fs.length∧y.l=(p.fs.take y.i).map (·.am)∧(EJ (Hb b p y)).Nodup) 78 (fun y=>[(1,.ptr b 0),(4,i64 0),(5,EM 0 1 y.c y.cap (Et y.l)),(16,.d (.sl 10 (Fy p.fs))),(17,i64 p.fs.length),(18,i64 y.i)]) (Hb b p) (fun y=>p.fs.length-y.i) ⟨0,0,0,[]⟩ ⟨Nat.zero_le _,rfl,by simp [EJ,Hb,Ek,Et,E2]⟩ rfl ?_ ?_ ?_
 ·simp -implicitDefEqProofs -proj only [go_sem,seval,AP,E9,Ek,If]
  try rfl
 ·exact ⟨AK,trivial⟩
 rintro ⟨i,c1,cap,l⟩ ⟨hi,hl,hn⟩
 simp -implicitDefEqProofs only [E9,Ek] at hi hl
 have hall:=FV hn
 obtain ⟨H,hH⟩:∃H,EH (Hb b p ⟨i,c1,cap,l⟩)=H:=⟨_,rfl⟩
 rw [hH] at hall
 simp -implicitDefEqProofs only [Hb,FD,E8,Ek] at hall hn
 obtain ⟨hrow,kb,_⟩:=Ec.1 hall
 have hll:l.length=i:=by rw [hl,List.length_map,List.length_take]; omega
 by_cases hlt:i<p.fs.length
 ·have hel:=P3 hlt
  have hstep:(p.fs.take (i+1)).map (·.am)=l++[p.fs[i].am]:=by rw [List.take_succ_eq_append_getElem hlt,List.map_append,←hl]; rfl
  generalize p.fs[i]=x at hel hstep
  obtain ⟨am,w,fl,fc⟩:=x
  simp -implicitDefEqProofs only [] at hstep
  have i1:=Ed (show i<9223372036854775807 by omega)
  simp -implicitDefEqProofs -proj only [go_sem,seval,E9,FD,E8,Ek,hH,decide_eq_true (show (i:Int)<p.fs.length by omega)]
  refine Eh _ (by omega) hel ?_
  simp -implicitDefEqProofs -proj only [go_sem,seval]
  refine Aa (fun b7 hb7=>?_)
  replace hb7:H b7=none:=hb7
  simp -implicitDefEqProofs -proj only [go_sem,seval,AK,AT]
  refine EL (fun bs hbs=>?_)
  replace hbs:AI H b7 _ bs=none:=hbs
  simp -implicitDefEqProofs -proj only [go_sem,seval]
  refine Gg (xs:=Et l) (y:=[.int .i64 am]) (t:=3) (capc:=1) [(b,E6 p)] rfl (Eq hbs (Eq hb7 hall)) hn (by simp -implicitDefEqProofs -proj only [go_sem,seval]; try rfl) (by rw [FJ]; omega) (by rw [FJ]; omega) (fun H' c2 cap2 ha hk=>?_)
  rw [Mw] at ha hk
  have hne:Et (l++[am])≠[]:=by simp [Et]
  simp -implicitDefEqProofs -proj only [go_sem,seval,FJ]
  refine EF ⟨i+1,c2,cap2,l++[am]⟩ ⟨by rw [E9]; omega,hstep.symm,by simpa only [Hb,FD,E8,Ek] using hk⟩ (by show p.fs.length-(i+1)<p.fs.length-i; omega) rfl ?_ (by simpa only [Hb,FD,E8,Ek] using ha)
  simp -implicitDefEqProofs -proj only [go_sem,seval,AP,E9,FD,E8,Ek,Fv hne,FJ,List.length_append,i1]
 have hi':i=p.fs.length:=by omega
 have hfull:l=p.fs.map (·.am):=by rw [hl,hi',List.take_length]
 have hnn0:∀v∈l,0≤v:=by
  rw [hfull]
  intro v hv
  obtain ⟨f,hf,rfl⟩:=List.mem_map.1 hv
  exact (hfs f hf).1
 rw [←hfull]
 simp -implicitDefEqProofs -proj only [go_sem,seval,E9,FD,E8,Ek,hH,kb,Ix,decide_eq_false (show ¬(i:Int)<p.fs.length by omega)]
 clear hfull hl
 generalize hR:IY p.ms p.cs l=R
 refine EX (fun y:IX=>y.i≤p.cs.length∧IY p.ms (p.cs.drop y.i) y.l=R∧(∀v∈y.l,0≤v)∧y.l.length≤p.fs.length+y.i∧(EJ (Hb b p y)).Nodup) 78 (fun y=>[(1,.ptr b 0),(4,i64 0),(5,EM 0 1 y.c y.cap (Et y.l)),(29,.d (.sl 16 (Fr p.cs))),(30,i64 p.cs.length),(31,i64 y.i)]) (Hb b p) (fun y=>p.cs.length-y.i) ⟨0,c1,cap,l⟩ ⟨Nat.zero_le _,hR,hnn0,by rw [Ek,E9]; omega,hn⟩ rfl ?_ hall ?_
 ·simp -implicitDefEqProofs -proj only [go_sem,seval,AP,E9,FD,E8,Ek,Ix]
 clear hR hnn0 hn hall hrow kb hH hll hi hi' hlt
 rintro ⟨i,c1,cap,l⟩ ⟨hi,hr,hnn,hll,hn⟩
 simp -implicitDefEqProofs only [E9,Ek] at hi hr hnn hll
 have hall:=FV hn
 obtain ⟨H,hH⟩:∃H,EH (Hb b p ⟨i,c1,cap,l⟩)=H:=⟨_,rfl⟩
 rw [hH] at hall
 simp -implicitDefEqProofs only [Hb,FD,E8,Ek] at hall hn
 obtain ⟨hrow,kb,_⟩:=Ec.1 hall
 by_cases hlt:i<p.cs.length
 ·have hel:=Mp hlt
  have hmem:=List.getElem_mem hlt
  have q1:=hal _ hmem
  have q2:=hbl _ hmem
  have q3:=hts _ hmem
  have q4:=had _ hmem
  have q5:=hlt' _ hmem
  have q6:=hla _ hmem
  have hm:=hmet p.cs[i].me
  have hin:=KU p.ms p.cs[i].me 0
  rw [List.drop_eq_getElem_cons hlt,IY] at hr
  generalize p.cs[i]=x at hel q1 q2 q3 q4 q5 q6 hm hin hr
  have i1:=Ed (show i<9223372036854775807 by omega)
  have hxe:x.el=[.str x.me,.bool x.w.has,.int .i64 x.w.f.y,.int .i64 x.w.f.m,.int .i64 x.w.f.d,.int .i64 x.w.t.y,.int .i64 x.w.t.m,.int .i64 x.w.t.d,.int .i64 x.al,.int .i64 x.bl,.int .i64 x.ki,.sl 2 (Ee x.ts),.int .i64 x.mo,.sl 3 (Ex x.ad),.int .i64 x.ln,.int .i64 x.co]:=rfl
  simp -implicitDefEqProofs -proj only [go_sem,seval,E9,FD,E8,Ek,hH,decide_eq_true (show (i:Int)<p.cs.length by omega)]
  refine Eh _ (by omega) hel ?_
  simp -implicitDefEqProofs -proj only [go_sem,seval]
  refine Aa (fun b9 hb9=>?_)
  replace hb9:H b9=none:=hb9
  obtain ⟨n9,n9'⟩:=EG hb9 kb
  simp -implicitDefEqProofs -proj only [go_sem,seval,AK,AT,n9,n9',kb]
  refine AQ hm ?_
  by_cases g1:Eg p.ms x.me 0<0
  ·rw [if_pos g1] at hr
   simp -implicitDefEqProofs -proj only [go_sem,seval,decide_eq_true g1]
   refine EF ⟨i+1,c1,cap,l⟩ ⟨by rw [E9]; omega,hr,hnn,by rw [Ek,E9]; omega,hn⟩ (by show p.cs.length-(i+1)<p.cs.length-i; omega) rfl ?_ (Eq hb9 hall)
   simp -implicitDefEqProofs -proj only [go_sem,seval,AP,E9,FD,E8,Ek,i1]
  rw [if_neg g1] at hr
  obtain ⟨j,hj,ej,_⟩:=hin.resolve_left (by omega)
  rw [Nat.zero_add] at ej
  have helm:=OB hj
  have hmx:=hms _ (List.getElem_mem hj)
  have hmxe:IO p.ms (Eg p.ms x.me 0)=p.ms[j].mx:=by
   unfold IO
   rw [ej,Int.toNat_natCast,List.getElem?_eq_getElem hj]
  rw [hmxe] at hr
  rw [ej] at g1 ⊢
  have hmost:=ANt (x:=x) (mx:=p.ms[j].mx) q1 q2 hmx q3 q4 q5 q6
  have hmn:∀y,Gn x.ts x.ad (Fc x.al x.bl p.ms[j].mx)=some y→0≤y:=fun y e=>Vg q4 (ANH q2.1) e
  generalize p.ms[j]=m at helm hmost hr hmn
  unfold K6 at hmost
  generalize Gn x.ts x.ad (Fc x.al x.bl m.mx)=M at hmost hr hmn
  simp -implicitDefEqProofs -proj only [go_sem,seval,AK,n9,n9',kb,decide_eq_false g1]
  refine Eh _ (by omega) helm ?_
  simp -implicitDefEqProofs only [MeterX.el]
  simp -implicitDefEqProofs -proj only [go_sem,seval]
  refine AQ hmost ?_
  cases M with
  | none =>
   simp -implicitDefEqProofs only [] at hr
   rw [←hr]
   simp -implicitDefEqProofs -proj only [go_sem,seval,Ef,Bool.not_false]
   exact AJ rfl
  | some y =>
   simp -implicitDefEqProofs only [] at hr
   have hy:=hmn y rfl
   simp -implicitDefEqProofs -proj only [go_sem,seval,Ef,Bool.not_true]
   refine EL (fun bs hbs=>?_)
   replace hbs:AI H b9 _ bs=none:=hbs
   simp -implicitDefEqProofs -proj only [go_sem,seval]
   refine Gg (xs:=Et l) (y:=[.int .i64 y]) (t:=3) (capc:=1) [(b,E6 p)] rfl (Eq hbs (Eq hb9 hall)) hn (by simp -implicitDefEqProofs -proj only [go_sem,seval]; try rfl) (by rw [FJ]; omega) (by rw [FJ]; omega) (fun H' c2 cap2 ha hk=>?_)
   rw [Mw] at ha hk
   have hne:Et (l++[y])≠[]:=by simp [Et]
   simp -implicitDefEqProofs -proj only [go_sem,seval,FJ]
   refine EF ⟨i+1,c2,cap2,l++[y]⟩ ⟨by rw [E9]; omega,hr,Ln hnn hy,by rw [Ek,E9,List.length_append,List.length_singleton]; omega,by simpa only [Hb,FD,E8,Ek] using hk⟩ (by show p.cs.length-(i+1)<p.cs.length-i; omega) rfl ?_ (by simpa only [Hb,FD,E8,Ek] using ha)
   simp -implicitDefEqProofs -proj only [go_sem,seval,AP,E9,FD,E8,Ek,Fv hne,FJ,List.length_append,i1]
 have hi':i=p.cs.length:=by omega
 rw [hi',List.drop_length,IY] at hr
 rw [←hr]
 simp -implicitDefEqProofs only []
 generalize hS:Jz l 0=S
 simp -implicitDefEqProofs -proj only [go_sem,seval,E9,FD,E8,Ek,hH,kb,A7,FJ,decide_eq_false (show ¬(i:Int)<p.cs.length by omega)]
 refine EX (fun y:RY13=>y.i≤l.length∧(0≤y.n∧y.n<1152921504606846976)∧Jz (l.drop y.i) y.n=S) 78 (fun y=>[(4,i64 y.n),(59,EM 0 1 c1 cap (Et l)),(60,i64 l.length),(61,i64 y.i)]) (fun y=>if y.i=0 then E2 3 1 c1 cap (Et l) else E2 3 1 c1 cap (Et l)) (fun y=>l.length-y.i) ⟨0,0⟩ ⟨Nat.zero_le _,by decide,hS⟩ rfl ?_ (by simpa only [ite_self] using hrow) ?_
 ·simp -implicitDefEqProofs -proj only [go_sem,seval,AP,FW,FT,A7,FJ]
 rintro ⟨i,n⟩ ⟨hi,hn0,hr⟩
 simp -implicitDefEqProofs only [FW,FT] at hi hn0 hr
 by_cases hlt:i<l.length
 ·have hne:Et l≠[]:=by
   intro e
   have:(Et l).length=0:=by rw [e]; rfl
   rw [FJ] at this; omega
  have hkc:EH (if i=0 then E2 3 1 c1 cap (Et l) else E2 3 1 c1 cap (Et l)) c1=some (.row 3 1 cap (Et l)):=by
   rw [ite_self,Hn hne]; exact El
  have hel:=N2 hlt
  rw [Int.toNat_natCast] at hel
  have hv:=hnn _ (List.getElem_mem hlt)
  rw [List.drop_eq_getElem_cons hlt,Jz] at hr
  generalize l[i]=v at hel hv hr
  have i1:=Ed (show i<9223372036854775807 by omega)
  have htj:((i:Int)).toNat=i:=Int.toNat_natCast i
  simp -implicitDefEqProofs -proj only [go_sem,seval,FW,FT,decide_eq_true (show (i:Int)<l.length by omega),Fv hne,FJ]
  refine BB (by omega) (fun _=>?_)
  simp -implicitDefEqProofs -proj only [go_sem,seval,FW,hkc,htj,Nat.zero_add]
  refine EZ _ hel Nat.zero_lt_one ?_
  by_cases c1':1152921504606846976≤v
  ·rw [if_pos (.inl c1')] at hr
   rw [←hr]
   simp -implicitDefEqProofs -proj only [go_sem,seval,decide_eq_true c1',Ef]
   exact AJ rfl
  have w1:IntKind.i64.wrap (n+v)=n+v:=FN (by unfold Fit; omega)
  by_cases c2':1152921504606846976≤n+v
  ·rw [if_pos (.inr c2')] at hr
   rw [←hr]
   simp -implicitDefEqProofs -proj only [go_sem,seval,decide_eq_false c1',w1,decide_eq_true c2',Ef]
   exact AJ rfl
  ·rw [if_neg (fun k=>k.elim c1' c2')] at hr
   simp -implicitDefEqProofs -proj only [go_sem,seval,decide_eq_false c1',w1,decide_eq_false c2']
   refine EF ⟨i+1,n+v⟩ ⟨by rw [FW]; omega,by rw [FT]; omega,hr⟩ (by show l.length-(i+1)<l.length-i; omega) rfl ?_ (by simpa only [ite_self] using FV (l:=E2 3 1 c1 cap (Et l)) (by rw [Hn hne]; simp [EJ]))
   simp -implicitDefEqProofs -proj only [go_sem,seval,AP,FW,FT,i1,Fv hne,FJ]
 ·have hi':i=l.length:=by omega
  rw [hi',List.drop_length,Jz] at hr
  rw [←hr]
  simp -implicitDefEqProofs -proj only [go_sem,seval,FW,FT,decide_eq_false (show ¬(i:Int)<l.length by omega),Ef]
  exact AJ rfl
def Ga {α:Type} (bad:Nat→α→Int) (ln co : α→Int):Nat→List α→Option (Int×Int×Int)
 | _,[]=>none
 | i,x::r=>if bad i x=0 then Ga bad ln co (i+1) r else some (bad i x,ln x,co x)
theorem Nd {α:Type} {bad:Nat→α→Int} {ln co : α→Int}:∀{l:List α} {i:Nat},Ga bad ln co i l=none→∀(j:Nat) (h:j<l.length),bad (i+j) l[j]=0
 | [],i,h,j,hj=>absurd hj (Nat.not_lt_zero _)
 | x::r,i,h,j,hj=>by
  rw [Ga] at h
  split at h
  ·next e =>
   cases j with
   | zero=>exact e
   | succ j =>
    have:=Nd h j (by simpa using hj)
    rw [show i+(j+1)=i+1+j by omega]
    exact this
  ·cases h
theorem Mi {α:Type} {bad:Nat→α→Int} {ln co : α→Int}:∀{l:List α} {i:Nat} {r:Int×Int×Int},Ga bad ln co i l=some r→¬r.1=0
 | [],i,r,h=>by cases h
 | x::l,i,r,h=>by
  rw [Ga] at h
  split at h
  ·exact Mi h
  ·next e=>cases h; exact e
def Nf (p:PlanX) (i:Nat) (m:MeterX):Int:=if 4≤i then 6 else if Eg p.ms m.nm 0=i then 0 else 5
def OF (p:PlanX) (i:Nat) (f:FeeX):Int:=if 8≤i then 6 else if G5 p f.w then 0 else 5
noncomputable def Pi (p:PlanX):Int×Int×Int:=if (KS p).isSome then (0,0,0) else (6,p.ln,p.co)
noncomputable def Ly (p:PlanX) (i:Nat) (l:List ChX):Int×Int×Int:=(Ga (JA p) (·.ln) (·.co) i l).getD (Pi p)
noncomputable def MJ (p:PlanX) (i:Nat) (l:List FeeX):Int×Int×Int:=(Ga (OF p) (·.ln) (·.co) i l).getD (Ly p 0 p.cs)
noncomputable def MP (p:PlanX) (i:Nat) (l:List MeterX):Int×Int×Int:=(Ga (Nf p) (·.ln) (·.co) i l).getD (MJ p 0 p.fs)
noncomputable def In (p:PlanX):Int×Int×Int:=if Ag p.t-Ag p.f+1<1 then (5,p.ln,p.co) else if 4000<Ag p.t-Ag p.f+1 then (6,p.ln,p.co) else MP p 0 p.ms
structure PlanOK (p:PlanX):Prop where
 d:Ag p.f≤Ag p.t∧Ag p.t-Ag p.f≤3999
 ms:∀(j:Nat) (h:j<p.ms.length),j<4∧Eg p.ms p.ms[j].nm 0=j
 fs:∀(j:Nat) (h:j<p.fs.length),j<8∧G5 p p.fs[j].w
 cs:∀(j:Nat) (h:j<p.cs.length),JA p j p.cs[j]=0
 bd:(KS p).isSome=true
theorem Sh {p:PlanX} (h:(In p).1=0):PlanOK p:=by
 unfold In at h
 split at h
 ·exact absurd (show (5:Int)=0 from h) (by decide)
 split at h
 ·exact absurd (show (6:Int)=0 from h) (by decide)
 unfold MP at h
 cases e1:Ga (Nf p) (·.ln) (·.co) 0 p.ms with
 | some r=>rw [e1,Option.getD_some] at h; exact absurd h (Mi e1)
 | none =>
  rw [e1,Option.getD_none] at h
  unfold MJ at h
  cases e2:Ga (OF p) (·.ln) (·.co) 0 p.fs with
  | some r=>rw [e2,Option.getD_some] at h; exact absurd h (Mi e2)
  | none =>
   rw [e2,Option.getD_none] at h
   unfold Ly at h
   cases e3:Ga (JA p) (·.ln) (·.co) 0 p.cs with
   | some r=>rw [e3,Option.getD_some] at h; exact absurd h (Mi e3)
   | none =>
    rw [e3,Option.getD_none] at h
    unfold Pi at h
    split at h
    ·next hb =>
     refine ⟨by omega,fun j hj=>?_,fun j hj=>?_,fun j hj=>?_,hb⟩
     ·have:=Nd e1 j hj
      rw [Nat.zero_add] at this
      unfold Nf at this
      split at this
      ·exact absurd this (by decide)
      ·split at this
       ·next a b=>exact ⟨by omega,b⟩
       ·exact absurd this (by decide)
     ·have:=Nd e2 j hj
      rw [Nat.zero_add] at this
      unfold OF at this
      split at this
      ·exact absurd this (by decide)
      ·split at this
       ·next a b=>exact ⟨by omega,b⟩
       ·exact absurd this (by decide)
     ·have:=Nd e3 j hj
      rwa [Nat.zero_add] at this
    ·exact absurd (show (6:Int)=0 from h) (by decide)
theorem Kc {p:PlanX} {i:Nat} {c:ChX} (h:JA p i c=0):i<8∧0≤Eg p.ms c.me 0∧G5 p c.w∧¬c.bl=0∧c.ts.length≤8∧JH c.ts∧c.ad.length≤6:=by
 unfold JA at h
 split at h
 ·exact absurd h (by decide)
 split at h
 ·exact absurd h (by decide)
 next g1 g2 =>
 split at h
 ·exact absurd h (by decide)
 split at h
 ·exact absurd h (by decide)
 split at h
 ·exact absurd h (by decide)
 next g3 g4 g5 =>
 have hw:G5 p c.w:=Classical.byContradiction fun k=>g2 (.inr (.inl k))
 have hr:JH c.ts:=Classical.byContradiction fun k=>g4 k
 exact ⟨by omega,by omega,hw,fun e=>g2 (.inr (.inr e)),by omega,hr,by omega⟩
structure LenOK (p:PlanX):Prop where
 lm:p.ms.length≤1000000
 lf:p.fs.length≤1000000
 lc:p.cs.length≤1000000
 lt:∀c∈p.cs,c.ts.length≤1000000
 la:∀c∈p.cs,c.ad.length≤1000000
theorem QT {p:PlanX} (h:GoodPl p) (l:LenOK p) (hb:∀c∈p.cs,¬c.bl=0):BndOK p where
 ms:=h.ms
 fs:=fun f hf=>(h.fs f hf).1
 al:=fun c hc=>(h.cs c hc).al
 bl:=fun c hc=>by have:=(h.cs c hc).bl; have:=hb c hc; omega
 ts:=fun c hc t ht=>by
  obtain ⟨m,r,e,hr,hm⟩:=(h.cs c hc).ts
  rw [e] at ht
  rcases List.mem_append.1 ht with ht | ht
  ·exact (hm t ht).2
  ·rw [List.mem_singleton.1 ht]; exact hr
 ad:=fun c hc=>(h.cs c hc).ad
 lt:=l.lt
 la:=l.la
 lm:=l.lm
 lf:=l.lf
 lc:=l.lc
abbrev Z6 (r:Int×Int×Int):AV:=.tup [i64 r.1,i64 r.2.1,i64 r.2.2]
set_option maxHeartbeats 2000000 in
theorem AGv {p:PlanX} (h:GoodPl p) (l:LenOK p):DataW Try.prog AIw [JN p] (Z6 (In p)):=by
 have hmet:=fun nm=>PR (p:=p) (nm:=nm) l.lm
 have hwin:=fun w hw=>Qa (p:=p) (w:=w) h.f h.t hw
 have hbnd:=fun hb=>RN (QT h l hb)
 have n1:=NZ h.f
 have n2:=NZ h.t
 have q1:=Ik h.f
 have q2:=Ik h.t
 generalize hR:In p=R
 unfold In at hR
 refine A3 AGb (by simp) ?_
 simp -implicitDefEqProofs -proj only [go_sem,seval]
 refine Aa (fun b hb=>?_)
 simp -implicitDefEqProofs -proj only [go_sem,seval,AK]
 refine E0 q2 ?_
 simp -implicitDefEqProofs -proj only [go_sem,seval,AK]
 refine AQ q1 ?_
 have w1:IntKind.i64.wrap (Ag p.t-Ag p.f)=Ag p.t-Ag p.f:=FN (by unfold Fit; omega)
 have w2:IntKind.i64.wrap (Ag p.t-Ag p.f+1)=Ag p.t-Ag p.f+1:=FN (by unfold Fit; omega)
 by_cases g1:Ag p.t-Ag p.f+1<1
 ·rw [if_pos g1] at hR
  subst hR
  simp -implicitDefEqProofs -proj only [go_sem,seval,AK,w1,w2,decide_eq_true g1]
  exact AJ rfl
 rw [if_neg g1] at hR
 by_cases g2:4000<Ag p.t-Ag p.f+1
 ·rw [if_pos g2] at hR
  subst hR
  simp -implicitDefEqProofs -proj only [go_sem,seval,AK,w1,w2,decide_eq_false g1,decide_eq_true g2]
  exact AJ rfl
 rw [if_neg g2] at hR
 simp -implicitDefEqProofs -proj only [go_sem,seval,AK,w1,w2,decide_eq_false g1,decide_eq_false g2,FL]
 refine EX (fun i:Nat=>i≤p.ms.length∧MP p i (p.ms.drop i)=R) 114 (fun i=>[(1,.ptr b 0),(36,.d (.sl 5 (EI p.ms))),(37,i64 p.ms.length),(38,i64 i)]) (fun _=>[(b,E6 p)]) (fun i=>p.ms.length-i) 0 ⟨Nat.zero_le _,hR⟩ rfl ?_ ⟨AK,trivial⟩ ?_
 ·simp -implicitDefEqProofs -proj only [go_sem,seval,AP,FL]
 clear hR
 rintro i ⟨hi,hr⟩
 have hH:=FV (l:=[(b,E6 p)]) (by simp [EJ])
 have k1:=hH.1
 have hlm:=l.lm
 have hlf:=l.lf
 have hlc:=l.lc
 by_cases hlt:i<p.ms.length
 ·have hel:=OB hlt
  have hm:=hmet p.ms[i].nm
  unfold MP at hr
  rw [List.drop_eq_getElem_cons hlt,Ga,Nf] at hr
  generalize p.ms[i]=m at hel hm hr
  have i1:=Ed (show i<9223372036854775807 by omega)
  simp -implicitDefEqProofs -proj only [go_sem,seval,decide_eq_true (show (i:Int)<p.ms.length by omega)]
  refine Eh _ (by omega) hel ?_
  simp -implicitDefEqProofs only [MeterX.el]
  simp -implicitDefEqProofs -proj only [go_sem,seval]
  refine Aa (fun b7 hb7=>?_)
  replace hb7:EH [(b,E6 p)] b7=none:=hb7
  obtain ⟨m1,m2⟩:=EG hb7 k1
  by_cases g4:4≤i
  ·rw [if_pos g4,if_neg (by decide),Option.getD_some] at hr
   subst hr
   simp -implicitDefEqProofs -proj only [go_sem,seval,AK,AT,m1,m2,k1,decide_eq_true (show (4:Int)≤i by omega)]
   exact AJ rfl
  rw [if_neg g4] at hr
  simp -implicitDefEqProofs -proj only [go_sem,seval,AK,AT,m1,m2,k1,decide_eq_false (show ¬(4:Int)≤i by omega)]
  refine AQ hm ?_
  by_cases g5:Eg p.ms m.nm 0=i
  ·rw [if_pos g5,if_pos rfl] at hr
   simp -implicitDefEqProofs -proj only [go_sem,seval,decide_eq_true g5,Bool.not_true]
   refine EF (i+1) (And.intro (by omega) hr) (by show p.ms.length-(i+1)<p.ms.length-i; omega) rfl ?_ (Eq hb7 hH)
   simp -implicitDefEqProofs -proj only [go_sem,seval,AP,i1]
  ·rw [if_neg g5,if_neg (by decide),Option.getD_some] at hr
   subst hr
   simp -implicitDefEqProofs -proj only [go_sem,seval,AK,m1,m2,k1,decide_eq_false g5,Bool.not_false]
   exact AJ rfl
 rw [List.drop_eq_nil_of_le (by omega),MP,Ga,Option.getD_none] at hr
 simp -implicitDefEqProofs -proj only [go_sem,seval,k1,decide_eq_false (show ¬(i:Int)<p.ms.length by omega),If]
 refine EX (fun i:Nat=>i≤p.fs.length∧MJ p i (p.fs.drop i)=R) 114 (fun i=>[(1,.ptr b 0),(61,.d (.sl 10 (Fy p.fs))),(62,i64 p.fs.length),(63,i64 i)]) (fun _=>[(b,E6 p)]) (fun i=>p.fs.length-i) 0 ⟨Nat.zero_le _,hr⟩ rfl ?_ hH ?_
 ·simp -implicitDefEqProofs -proj only [go_sem,seval,AP,If]
 clear hr hi hlt i
 rintro i ⟨hi,hr⟩
 by_cases hlt:i<p.fs.length
 ·have hel:=P3 hlt
  have hm:=hwin _ (h.fs _ (List.getElem_mem hlt)).2
  unfold MJ at hr
  rw [List.drop_eq_getElem_cons hlt,Ga,OF] at hr
  generalize p.fs[i]=x at hel hm hr
  have i1:=Ed (show i<9223372036854775807 by omega)
  simp -implicitDefEqProofs -proj only [go_sem,seval,decide_eq_true (show (i:Int)<p.fs.length by omega)]
  refine Eh _ (by omega) hel ?_
  simp -implicitDefEqProofs -proj only [go_sem,seval]
  refine Aa (fun b7 hb7=>?_)
  replace hb7:EH [(b,E6 p)] b7=none:=hb7
  obtain ⟨m1,m2⟩:=EG hb7 k1
  by_cases g4:8≤i
  ·rw [if_pos g4,if_neg (by decide),Option.getD_some] at hr
   subst hr
   simp -implicitDefEqProofs -proj only [go_sem,seval,AK,AT,m1,m2,k1,decide_eq_true (show (8:Int)≤i by omega)]
   exact AJ rfl
  rw [if_neg g4] at hr
  simp -implicitDefEqProofs -proj only [go_sem,seval,AK,AT,m1,m2,k1,decide_eq_false (show ¬(8:Int)≤i by omega)]
  refine AQ hm ?_
  by_cases g5:G5 p x.w
  ·rw [if_pos g5,if_pos rfl] at hr
   simp -implicitDefEqProofs -proj only [go_sem,seval,decide_eq_true g5,Bool.not_true]
   refine EF (i+1) (And.intro (by omega) hr) (by show p.fs.length-(i+1)<p.fs.length-i; omega) rfl ?_ (Eq hb7 hH)
   simp -implicitDefEqProofs -proj only [go_sem,seval,AP,i1]
  ·rw [if_neg g5,if_neg (by decide),Option.getD_some] at hr
   subst hr
   simp -implicitDefEqProofs -proj only [go_sem,seval,AK,m1,m2,k1,decide_eq_false g5,Bool.not_false]
   exact AJ rfl
 rw [List.drop_eq_nil_of_le (by omega),MJ,Ga,Option.getD_none] at hr
 simp -implicitDefEqProofs -proj only [go_sem,seval,k1,decide_eq_false (show ¬(i:Int)<p.fs.length by omega),Ix]
 refine EX (fun i:Nat=>i≤p.cs.length∧Ly p i (p.cs.drop i)=R∧∀(j:Nat) (hj:j<p.cs.length),j<i→¬p.cs[j].bl=0) 114 (fun i=>[(1,.ptr b 0),(85,.d (.sl 16 (Fr p.cs))),(86,i64 p.cs.length),(87,i64 i)]) (fun _=>[(b,E6 p)]) (fun i=>p.cs.length-i) 0 ⟨Nat.zero_le _,hr,fun j _ k=>absurd k (Nat.not_lt_zero _)⟩ rfl ?_ hH ?_
 ·simp -implicitDefEqProofs -proj only [go_sem,seval,AP,Ix]
 clear hr hi hlt i
 rintro i ⟨hi,hr,hbl⟩
 by_cases hlt:i<p.cs.length
 ·have hel:=Mp hlt
  have hmem:=List.getElem_mem hlt
  have hm:=AQV hlt hlm hlc (l.lt _ hmem) h.f h.t (h.cs _ hmem).w
  have hstep:JA p i p.cs[i]=0→∀(j:Nat) (hj:j<p.cs.length),j<i+1→¬p.cs[j].bl=0:=fun e j hj k=>by
   by_cases e2:j=i
   ·subst e2; exact (Kc e).2.2.2.1
   ·exact hbl j hj (by omega)
  unfold Ly at hr
  rw [List.drop_eq_getElem_cons hlt,Ga] at hr
  generalize p.cs[i]=x at hel hm hr hstep
  have i1:=Ed (show i<9223372036854775807 by omega)
  simp -implicitDefEqProofs -proj only [go_sem,seval,decide_eq_true (show (i:Int)<p.cs.length by omega)]
  refine Eh _ (by omega) hel ?_
  simp -implicitDefEqProofs -proj only [go_sem,seval]
  refine Aa (fun b7 hb7=>?_)
  replace hb7:EH [(b,E6 p)] b7=none:=hb7
  obtain ⟨m1,m2⟩:=EG hb7 k1
  simp -implicitDefEqProofs -proj only [go_sem,seval,AK,AT,m1,m2,k1]
  refine AQ hm ?_
  by_cases g5:JA p i x=0
  ·rw [if_pos g5] at hr
   simp -implicitDefEqProofs -proj only [go_sem,seval,decide_eq_true g5,Bool.not_true]
   refine EF (i+1) (And.intro (by omega) (And.intro hr (hstep g5))) (by show p.cs.length-(i+1)<p.cs.length-i; omega) rfl ?_ (Eq hb7 hH)
   simp -implicitDefEqProofs -proj only [go_sem,seval,AP,i1]
  ·rw [if_neg g5,Option.getD_some] at hr
   subst hr
   simp -implicitDefEqProofs -proj only [go_sem,seval,AK,m1,m2,k1,decide_eq_false g5,Bool.not_false]
   exact AJ rfl
 rw [List.drop_eq_nil_of_le (by omega),Ly,Ga,Option.getD_none,Pi] at hr
 have hbd:=hbnd (fun c hc=>by
  obtain ⟨j,hj,rfl⟩:=List.getElem_of_mem hc
  exact hbl j hj (by omega))
 simp -implicitDefEqProofs -proj only [go_sem,seval,k1,decide_eq_false (show ¬(i:Int)<p.cs.length by omega)]
 refine AQ hbd ?_
 cases e:KS p with
 | none =>
  rw [e,if_neg (by decide)] at hr
  subst hr
  simp -implicitDefEqProofs -proj only [go_sem,seval,Ef,k1,Bool.not_false]
  exact AJ rfl
 | some n =>
  rw [e] at hr
  replace hr:(0,0,0)=R:=hr
  subst hr
  simp -implicitDefEqProofs -proj only [go_sem,seval,Ef,k1,Bool.not_true]
  exact AJ rfl
theorem Qr:∀{x y z:List UInt8},Op.bytesLess x y=true→Op.bytesLess y z=true→Op.bytesLess x z=true
 | [],y,[],h1,h2=>by cases y <;> simp [Op.bytesLess] at h2
 | [],y,c::z,h1,h2=>rfl
 | a::x,[],z,h1,h2=>by simp [Op.bytesLess] at h1
 | a::x,b::y,[],h1,h2=>by simp [Op.bytesLess] at h2
 | a::x,b::y,c::z,h1,h2=>by
  simp -implicitDefEqProofs only [Op.bytesLess,Bool.or_eq_true,decide_eq_true_eq,Bool.and_eq_true,beq_iff_eq] at h1 h2 ⊢
  rcases h1 with h1 | ⟨rfl,h1⟩
  ·rcases h2 with h2 | ⟨rfl,h2⟩
   ·exact .inl (UInt8.lt_trans h1 h2)
   ·exact .inl h1
  ·rcases h2 with h2 | ⟨rfl,h2⟩
   ·exact .inl h2
   ·exact .inr ⟨rfl,Qr h1 h2⟩
theorem Ru:∀{x y:List UInt8},Op.bytesLess x y=false→Op.bytesLess y x=false→x=y
 | [],[],_,_=>rfl
 | [],c::z,h1,h2=>by simp [Op.bytesLess] at h1
 | a::x,[],h1,h2=>by simp [Op.bytesLess] at h2
 | a::x,b::y,h1,h2=>by
  simp -implicitDefEqProofs only [Op.bytesLess,Bool.or_eq_false_iff,decide_eq_false_iff_not,Bool.and_eq_false_iff,beq_eq_false_iff_ne,ne_eq] at h1 h2
  have hab:a=b:=UInt8.le_antisymm (UInt8.not_lt.1 h2.1) (UInt8.not_lt.1 h1.1)
  subst hab
  rw [Ru (h1.2.resolve_left (fun h=>h rfl)) (h2.2.resolve_left (fun h=>h rfl))]
theorem X3 {x y z:ByteArray} (h1:Fo x y=true) (h2:Fo y z=true):Fo x z=true:=Qr h1 h2
theorem SB (b:ByteArray):∀(n i:Nat) (r:List UInt8),b.size≤n+i→ByteArray.toList.loop b i r=r.reverse++b.data.toList.drop i
 | 0,i,r,h=>by
  rw [ByteArray.toList.loop,if_neg (by omega)]
  rw [List.drop_eq_nil_of_le (by simpa using h),List.append_nil]
 | n+1,i,r,h=>by
  rw [ByteArray.toList.loop]
  split
  ·next hi =>
   rw [SB b n (i+1) _ (by omega),List.reverse_cons,List.append_assoc]
   congr 1
   have hi':i<b.data.toList.length:=by simpa using hi
   rw [List.drop_eq_getElem_cons hi']
   have hi2:i<b.data.size:=hi
   simp [ByteArray.get!]
   exact getElem!_pos b.data i hi2
  ·rw [List.drop_eq_nil_of_le (by simp; omega),List.append_nil]
theorem Tb (b:ByteArray):b.toList=b.data.toList:=by
 rw [ByteArray.toList,SB b b.size 0 [] (by omega)]; rfl
theorem N7 {x y:ByteArray} (h:x.toList=y.toList):x=y:=by
 rw [Tb,Tb] at h
 cases x; cases y
 simp -implicitDefEqProofs only [ByteArray.mk.injEq]
 exact Array.ext' h
theorem AE2 {x y:ByteArray} (h1:Fo x y=false) (h2:Fo y x=false):x=y:=N7 (Ru h1 h2)
def Jg (S:List MeterX) (n:Nat):Prop:=0<n∧(S[n-1]?).map MeterX.nm=(S[n]?).map MeterX.nm
noncomputable instance (S:List MeterX) (n:Nat):Decidable (Jg S n):=Classical.propDecidable _
noncomputable def G3 (S:List MeterX):Nat→List MeterX
 | 0=>[]
 | n+1=>if Jg S n then G3 S n else G3 S n++(S[n]?).toList
theorem ABa {S:List MeterX} {n:Nat} (h:Jg S n):G3 S (n+1)=G3 S n:=by rw [G3,if_pos h]
theorem Ra {S:List MeterX} {n:Nat} (hn:n<S.length) (h:¬Jg S n):G3 S (n+1)=G3 S n++[S[n]]:=by rw [G3,if_neg h,List.getElem?_eq_getElem hn]; rfl
theorem SY {S:List MeterX}:∀{n:Nat},n≤S.length→(∀i,i<n→¬Jg S i)→G3 S n=S.take n
 | 0,_,_=>by simp [G3]
 | n+1,h,hd=>by
  rw [Ra (by omega) (hd n (by omega)),SY (by omega) (fun i hi=>hd i (by omega)),List.take_add_one,List.getElem?_eq_getElem (by omega:n<S.length)]
  rfl
def NX (x y:MeterX):Prop:=Fo x.nm y.nm=true
structure CmpI (S R:List MeterX) (m:Nat):Prop where
 len:R.length=S.length
 pre:R.take (G3 S m).length=G3 S m
 kp:(G3 S m).length<m
 suf:∀i,m≤i+1→R[i]? = S[i]?
theorem CmpI.first {S:List MeterX} {k:Nat} (hk:k<S.length) (hn:∀i,i<k→¬Jg S i) (hd:Jg S k):CmpI S S (k+1):=by
 have e:G3 S (k+1)=S.take k:=by rw [ABa hd,SY (by omega) hn]
 have hl:(S.take k).length=k:=by simp; omega
 exact ⟨rfl,by rw [e,hl],by rw [e,hl]; omega,fun i _=>rfl⟩
theorem CmpI.new {S R:List MeterX} {m:Nat} (h:CmpI S R m) (hm:m<S.length) (hd:¬Jg S m):CmpI S (R.set (G3 S m).length S[m]) (m+1):=by
 have e:=Ra hm hd
 have hkp:=h.kp
 have hl:=h.len
 refine ⟨by rw [List.length_set,h.len],?_,by rw [e,List.length_append,List.length_singleton]; omega,fun i hi=>?_⟩
 ·rw [e,List.length_append,List.length_singleton,List.take_add_one,List.getElem?_set,if_pos rfl,if_pos (by omega),List.take_set,h.pre,List.set_eq_of_length_le (by omega)]
  rfl
 ·rw [List.getElem?_set,if_neg (by omega)]
  exact h.suf i (by omega)
structure Run where
 f:Int
 t:Int
 v:Int
 deriving DecidableEq
def Run.el (r:Run):List D:=[.int .i64 r.f,.int .i64 r.t,.int .i64 r.v]
abbrev Run.av (r:Run):AV:=.agg [i64 r.f,i64 r.t,i64 r.v]
def Pm (l:List Run):List (List D):=l.map Run.el
theorem ARI {l:List Run}:(Pm l).length=l.length:=List.length_map ..
def KO (l:List Run) (r:Run):List Run:=match l.getLast? with
 | some q=>if q.v=r.v then l.dropLast++[{ q with t:=r.t }] else l++[r]
 | none=>[r]
abbrev AJj (l:List Run):AV:=.agg [.d (.sl 3 (Pm l))]
def RR (l:List Run) (x:Int):Nat:=(l.takeWhile fun r=>decide (r.t<x)).length
def Nv (l:List Run) (x:Int):Option Int:=match l[RR l x]? with
 | some r=>if r.f≤x then some r.v else none
 | none=>none
def FwdOK (val:Int→Int) (lo hi:Int):List Run→Prop
 | []=>lo=hi
 | r::R=>r.f=lo∧r.f≤r.t∧(∀x,r.f≤x→x≤r.t→val x=r.v)∧(∀s,R.head? = some s→r.v≠s.v)∧FwdOK val (r.t+1) hi R
theorem FwdOK.le {val:Int→Int}:∀{R:List Run} {lo hi:Int},FwdOK val lo hi R→lo≤hi
 | [],lo,hi,h=>by have:lo=hi:=h; omega
 | r::R,lo,hi,h=>by
  obtain ⟨h1,h2,_,_,h5⟩:=h
  have:=FwdOK.le h5
  omega
theorem Sd {r x:Run} {R:List Run} (h:R≠[]):KO (r::R) x=r::KO R x:=by
 obtain ⟨q,hq⟩:∃q,R.getLast? = some q:=by
  cases hh:R.getLast? with
  | none=>exact absurd (List.getLast?_eq_none_iff.1 hh) h
  | some q=>exact ⟨q,rfl⟩
 have h2:(r::R).getLast? = some q:=by
  rw [List.getLast?_cons,hq]; rfl
 unfold KO
 rw [hq,h2]
 simp -implicitDefEqProofs only []
 split
 ·rw [List.dropLast_cons_of_ne_nil h]; rfl
 ·rfl
theorem AAc {x s:Run} {R:List Run} {q:Run} (h:(KO (s::R) x).head? = some q):q.v=s.v:=by
 cases R with
 | nil =>
  unfold KO at h
  simp -implicitDefEqProofs only [List.getLast?_singleton] at h
  split at h
  ·simp at h; subst h; rfl
  ·simp at h; subst h; rfl
 | cons t R =>
  rw [Sd (by simp)] at h
  simp at h; subst h; rfl
theorem FwdOK.put {val:Int→Int} {hi:Int}:∀{R:List Run} {lo:Int},FwdOK val lo hi R→FwdOK val lo (hi+1) (KO R ⟨hi,hi,val hi⟩)
 | [],lo,h=>by
  have:lo=hi:=h
  subst this
  exact ⟨rfl,Int.le_refl _,fun x h1 h2=>by rw [show x=lo from Int.le_antisymm h2 h1],fun s h=>(by cases h),rfl⟩
 | [r],lo,h=>by
  obtain ⟨h1,h2,h3,h4,h5⟩:=h
  have h5:r.t+1=hi:=h5
  unfold KO
  simp -implicitDefEqProofs only [List.getLast?_singleton]
  split
  ·next hv =>
   refine ⟨h1,by show r.f≤hi; omega,fun x x1 x2=>?_,fun s h=>(by cases h),rfl⟩
   by_cases hx:x=hi
   ·subst hx; exact hv.symm
   ·exact h3 x x1 (by have:x≤hi:=x2; omega)
  ·next hv =>
   refine ⟨h1,h2,h3,fun s h=>?_,⟨h5.symm,Int.le_refl _,fun x x1 x2=>by rw [show x=hi from Int.le_antisymm x2 x1],fun s h=>(by cases h),rfl⟩⟩
   cases h; exact hv
 | r::s::R,lo,h=>by
  obtain ⟨h1,h2,h3,h4,h5⟩:=h
  rw [Sd (by simp)]
  refine ⟨h1,h2,h3,fun q hq=>?_,FwdOK.put h5⟩
  rw [AAc hq]
  exact h4 s rfl
theorem FwdOK.ge {val:Int→Int} {hi:Int}:∀{R:List Run} {lo:Int},FwdOK val lo hi R→∀r∈R,lo≤r.t
 | [],_,_,r,hr=>by cases hr
 | q::R,lo,h,r,hr=>by
  obtain ⟨h1,h2,_,_,h5⟩:=h
  rcases List.mem_cons.1 hr with rfl | hr
  ·omega
  ·have:=FwdOK.ge h5 r hr; omega
theorem Vx {r:Run} {R:List Run} {x:Int}:Nv (r::R) x=if r.t<x then Nv R x else if r.f≤x then some r.v else none:=by
 unfold Nv RR
 by_cases h:r.t<x
 ·rw [if_pos h,List.takeWhile_cons_of_pos (by simpa using h),List.length_cons,List.getElem?_cons_succ]
 ·rw [if_neg h,List.takeWhile_cons_of_neg (by simpa using h)]
  rfl
def Adj2:List Run→Prop
 | []=>True
 | r::R=>(∀s,R.head? = some s→r.v≠s.v)∧Adj2 R
theorem Adj2.last {S R:List Run} {x q:Run} (h:Adj2 (S++x::R)) (hq:S.getLast? = some q):q.v≠x.v:=by
 induction S with
 | nil=>cases hq
 | cons s S ih =>
  cases S with
  | nil =>
   simp at hq; subst hq
   exact h.1 x rfl
  | cons t S =>
   rw [List.getLast?_cons_cons] at hq
   exact ih h.2 hq
structure Seg (β:Type) where
 f:Int
 t:Int
 v : β
section
variable {β:Type}
def FwdB (val:Int→β) (lo hi:Int):List (Seg β)→Prop
 | []=>lo=hi
 | r::R=>r.f=lo∧r.f≤r.t∧(∀x,r.f≤x→x≤r.t→val x=r.v)∧(∀s,R.head? = some s→r.v≠s.v)∧FwdB val (r.t+1) hi R
theorem FwdB.le {val:Int→β}:∀{R:List (Seg β)} {lo hi:Int},FwdB val lo hi R→lo≤hi
 | [],lo,hi,h=>by have:lo=hi:=h; omega
 | r::R,lo,hi,h=>by
  obtain ⟨h1,h2,_,_,h5⟩:=h
  have:=FwdB.le h5
  omega
theorem FwdB.len {val:Int→β}:∀{R:List (Seg β)} {lo hi:Int},FwdB val lo hi R→(R.length:Int)≤hi-lo
 | [],lo,hi,h=>by have:lo=hi:=h; simp; omega
 | r::R,lo,hi,h=>by
  obtain ⟨h1,h2,_,_,h5⟩:=h
  have:=FwdB.len h5
  simp -implicitDefEqProofs only [List.length_cons]
  omega
theorem FwdB.congr {val val':Int→β} {hi:Int}:∀{R:List (Seg β)} {lo:Int},(∀x,lo≤x→x<hi→val x=val' x)→FwdB val lo hi R→FwdB val' lo hi R
 | [],lo,_,h=>h
 | r::R,lo,hv,h=>by
  obtain ⟨h1,h2,h3,h4,h5⟩:=h
  have hl:=h5.le
  exact ⟨h1,h2,fun x a b=>by rw [←hv x (by omega) (by omega)]; exact h3 x a b,h4,FwdB.congr (fun x a b=>hv x (by omega) b) h5⟩
theorem FwdB.nth {val:Int→β} {hi:Int}:∀{R:List (Seg β)} {lo:Int},FwdB val lo hi R→∀(i:Nat) r,R[i]? = some r→lo+i≤r.f∧r.f≤r.t∧r.t<hi∧(∀x,r.f≤x→x≤r.t→val x=r.v)∧(∀s,R[i+1]? = some s→s.f=r.t+1∧r.v≠s.v)∧(R[i+1]? = none→r.t+1=hi)∧(i=0→r.f=lo)
 | [],lo,_,i,r,hr=>by simp at hr
 | q::R,lo,h,0,r,hr=>by
  obtain ⟨h1,h2,h3,h4,h5⟩:=h
  have hl:=h5.le
  simp -implicitDefEqProofs only [List.getElem?_cons_zero,Option.some.injEq] at hr
  subst hr
  refine ⟨by omega,h2,by omega,h3,fun s hs=>?_,fun hs=>?_,fun _=>h1⟩
  ·cases R with
   | nil=>simp at hs
   | cons a R =>
    simp -implicitDefEqProofs only [List.getElem?_cons_succ,List.getElem?_cons_zero,Option.some.injEq] at hs
    subst hs
    exact ⟨h5.1,h4 a rfl⟩
  ·cases R with
   | nil=>exact h5
   | cons a R=>simp at hs
 | q::R,lo,h,i+1,r,hr=>by
  obtain ⟨h1,h2,h3,h4,h5⟩:=h
  have hl:=h5.le
  obtain ⟨g1,g2,g3,g4,g5,g6,g7⟩:=FwdB.nth h5 i r (by simpa using hr)
  exact ⟨by omega,g2,g3,g4,by simpa using g5,by simpa using g6,fun h=>by omega⟩
theorem FwdB.apart {val:Int→β} {hi:Int}:∀{R:List (Seg β)} {lo:Int},FwdB val lo hi R→∀(i j:Nat) r s,i<j→R[i]? = some r→R[j]? = some s→r.t<s.f
 | [],lo,_,i,j,r,s,_,hr,_=>by simp at hr
 | q::R,lo,h,0,0,r,s,hij,_,_=>by omega
 | q::R,lo,h,0,j+1,r,s,_,hr,hs=>by
  obtain ⟨h1,h2,h3,h4,h5⟩:=h
  simp -implicitDefEqProofs only [List.getElem?_cons_zero,Option.some.injEq] at hr
  subst hr
  have:=(FwdB.nth h5 j s (by simpa using hs)).1
  omega
 | q::R,lo,h,i+1,0,r,s,hij,_,_=>by omega
 | q::R,lo,h,i+1,j+1,r,s,hij,hr,hs=>FwdB.apart h.2.2.2.2 i j r s (by omega) (by simpa using hr) (by simpa using hs)
theorem FwdB.setLast {val:Int→β} {hi x:Int} {s:Seg β}:∀{A:List (Seg β)} {lo:Int},FwdB val lo hi (A++[s])→s.f≤x→(∀y,s.f≤y→y≤x→val y=s.v)→FwdB val lo (x+1) (A++[⟨s.f,x,s.v⟩])
 | [],lo,h,h1,h2=>by
  obtain ⟨g1,g2,g3,g4,g5⟩:=h
  exact ⟨g1,h1,h2,fun s hs=>by simp at hs,rfl⟩
 | a::A,lo,h,h1,h2=>by
  obtain ⟨g1,g2,g3,g4,g5⟩:=h
  refine ⟨g1,g2,g3,fun q hq=>?_,FwdB.setLast g5 h1 h2⟩
  cases A with
  | nil =>
   have hq':(⟨s.f,x,s.v⟩:Seg β)=q:=by simpa using hq
   subst hq'
   exact g4 s rfl
  | cons b A=>exact g4 q hq
theorem FwdB.push {val:Int→β} {hi:Int} {r:Seg β}:∀{A:List (Seg β)} {lo:Int},FwdB val lo hi A→r.f=hi→r.f≤r.t→(∀x,r.f≤x→x≤r.t→val x=r.v)→(∀s,A.getLast? = some s→s.v≠r.v)→FwdB val lo (r.t+1) (A++[r])
 | [],lo,h,h1,h2,h3,h4=>by
  have:lo=hi:=h
  exact ⟨by omega,h2,h3,fun s hs=>by simp at hs,rfl⟩
 | a::A,lo,h,h1,h2,h3,h4=>by
  obtain ⟨g1,g2,g3,g4,g5⟩:=h
  refine ⟨g1,g2,g3,fun q hq=>?_,FwdB.push g5 h1 h2 h3 fun s hs=>?_⟩
  ·cases A with
   | nil =>
    have hq':r=q:=by simpa using hq
    subst hq'
    exact h4 a rfl
   | cons b A=>exact g4 q hq
  ·cases A with
   | nil=>simp at hs
   | cons b A=>exact h4 s (by rw [List.getLast?_cons_cons]; exact hs)
end
theorem FwdOK.out {val:Int→Int} {hi x:Int}:∀{R:List Run} {lo:Int},FwdOK val lo hi R→(x<lo∨hi≤x)→Nv R x=none
 | [],lo,h,_=>rfl
 | r::R,lo,h,h1=>by
  obtain ⟨g1,g2,g3,g4,g5⟩:=h
  have:=g5.le
  rw [Vx]
  by_cases ht:r.t<x
  ·rw [if_pos ht]; exact FwdOK.out g5 (.inr (by omega))
  ·rw [if_neg ht,if_neg (by omega)]
theorem FwdOK.ends {val:Int→Int} {hi:Int}:∀{R:List Run} {lo:Int} (hr:R≠[]),FwdOK val lo hi R→(R.head hr).f=lo∧(R.getLast hr).t=hi-1
 | [r],lo,_,h=>⟨h.1,by have:r.t+1=hi:=h.2.2.2.2; show r.t=hi-1; omega⟩
 | r::s::R,lo,_,h=>⟨h.1,(FwdOK.ends (R:=s::R) (by simp) h.2.2.2.2).2⟩
theorem FwdOK.congr {val val':Int→Int} {hi:Int}:∀{R:List Run} {lo:Int},(∀x,lo≤x→x<hi→val x=val' x)→FwdOK val lo hi R→FwdOK val' lo hi R
 | [],_,_,h=>h
 | r::R,lo,he,h=>by
  obtain ⟨g1,g2,g3,g4,g5⟩:=h
  have:=g5.le
  exact ⟨g1,g2,fun x h1 h2=>by rw [←he x (by omega) (by omega)]; exact g3 x h1 h2,g4,FwdOK.congr (fun x h1 h2=>he x (by omega) h2) g5⟩
def La (R:List Run) (hi:Int) (i:Nat):Int:=match R[i]? with
 | some r=>r.f
 | none=>hi
theorem FwdOK.nth {val:Int→Int} {hi:Int}:∀{R:List Run} {lo:Int},FwdOK val lo hi R→∀(i:Nat) r,R[i]? = some r→r.f=La R hi i∧r.f≤r.t∧La R hi (i+1)=r.t+1∧r.t+1≤hi∧lo≤r.f∧∀x,r.f≤x→x≤r.t→val x=r.v:=by
 intro R
 induction R with
 | nil=>intro lo _ i r h; simp at h
 | cons q R ih =>
  intro lo h i r hi'
  obtain ⟨g1,g2,g3,g4,g5⟩:=h
  have hle:=g5.le
  cases i with
  | zero =>
   simp -implicitDefEqProofs only [List.getElem?_cons_zero,Option.some.injEq] at hi'
   subst hi'
   refine ⟨rfl,g2,?_,hle,by omega,g3⟩
   unfold La
   cases R with
   | nil=>exact g5.symm
   | cons s R=>exact g5.1
  | succ i =>
   obtain ⟨e1,e2,e3,e4,e5,e6⟩:=ih g5 i r (by simpa using hi')
   exact ⟨by rw [e1]; simp [La],e2,by rw [←e3]; simp [La],e4,by omega,e6⟩
theorem FwdOK.len {val:Int→Int} {hi:Int}:∀{R:List Run} {lo:Int},FwdOK val lo hi R→(R.length:Int)≤hi-lo
 | [],lo,h=>by have:lo=hi:=h; simp; omega
 | r::R,lo,⟨g1,g2,g3,g4,g5⟩=>by
  have:=g5.len
  simp -implicitDefEqProofs only [List.length_cons]
  omega
structure Grp where
 f:Int
 v:Int
 w:Int
 r:Int
 c:Int
 deriving DecidableEq
theorem FwdOK.drop {val:Int→Int} {hi:Int}:∀{R:List Run} {lo:Int} (k:Nat),FwdOK val lo hi R→k≤R.length→∃m,FwdOK val m hi (R.drop k)∧lo+k≤m∧(∀q,lo≤q→q<m→∃(j:Nat) (h:j<R.length),j<k∧R[j].f≤q∧q≤R[j].t∧val q=R[j].v∧(∀(h2:j+1<R.length),q<R[j+1].f))
 | R,lo,0,h,_=>⟨lo,h,by omega,fun q h1 h2=>by omega⟩
 | [],lo,k+1,h,hk=>absurd hk (by simp)
 | a::R,lo,k+1,⟨g1,g2,g3,g4,g5⟩,hk=>by
  obtain ⟨m,k1,k2,k3⟩:=FwdOK.drop k g5 (by simpa using hk)
  refine ⟨m,k1,by omega,fun q h1 h2=>?_⟩
  by_cases hq:q≤a.t
  ·refine ⟨0,by simp,by omega,by simpa using (by omega),by simpa using hq,by simpa using g3 q (by omega) hq,fun h3=>?_⟩
   cases R with
   | nil=>simp at h3
   | cons b R =>
    have:=g5.1
    simp -implicitDefEqProofs only [List.getElem_cons_succ,List.getElem_cons_zero]
    omega
  ·obtain ⟨j,j1,j2,j3,j4,j5,j6⟩:=k3 q (by omega) h2
   exact ⟨j+1,by simpa using j1,by omega,by simpa using j3,by simpa using j4,by simpa using j5,fun h3=>by simpa using j6 (by simpa using h3)⟩
def Pr (r:Run):Prop:=r.v < -2305843009213693952∨2305843009213693952<r.v
instance (r:Run):Decidable (Pr r):=by unfold Pr; exact inferInstance
def Grp.el (g:Grp):List D:=[.int .i64 g.f,.int .i64 g.v,.int .i64 g.w,.int .i64 g.r,.int .i64 g.c]
abbrev Grp.av (g:Grp):AV:=.agg [i64 g.f,i64 g.v,i64 g.w,i64 g.r,i64 g.c]
def AQ5 (R:List Run):Prop:=∃h:R≠[],(R.head h).f=0∧(R.getLast h).t≤2000∧∀r∈R,¬Pr r
noncomputable instance (R:List Run):Decidable (AQ5 R):=Classical.propDecidable _
def QA (v:Int):Prop:=-2305843009213693952≤v∧v≤2305843009213693952
instance (v:Int):Decidable (QA v):=by unfold QA; exact inferInstance
def Ry (l:List Int):Prop:=l≠[]∧l.length≤2001∧∀v∈l,QA v
noncomputable instance (l:List Int):Decidable (Ry l):=Classical.propDecidable _
structure mostC (c:CoreX):Prop where
 parts:∀(i:Nat) (h:i<c.ps.length),∀q:Nat,q<(OQ c.ms c.ps[i].me+1).toNat→Qp c.ps[i] q
 FO:∀i,i≤c.ps.length→Qh c i≤1152921504606846976
noncomputable instance (c:CoreX):Decidable (mostC c):=Classical.propDecidable _
def LineX (H:Heap) (x:AV) (R:List Run):Prop:=(∃sz,x = .nilsl sz∧R=[])∨∃c cap cap' t,x = .own c 3 0 R.length cap∧H c=some (.row t 3 cap' (Pm R))
theorem LineX.mono {H H':Heap} {x:AV} {R:List Run} (h:LineX H x R) (hs:∀k y,H k=some y→H' k=some y):LineX H' x R:=by
 rcases h with h | ⟨c,cap,cap',t,h1,h2⟩
 ·exact .inl h
 ·exact .inr ⟨c,cap,cap',t,h1,hs c _ h2⟩
theorem LineX.lend {H:Heap} {x:AV} {R:List Run} (h:LineX H x R):LendV H (.agg [x]) (AJj R):=by
 refine .aggL (EK ?_ G9)
 rcases h with ⟨sz,rfl,rfl⟩ | ⟨c,cap,cap',t,rfl,h2⟩
 ·exact .nilsl _ _
 ·rw [←ARI]
  exact .own _ _ _ _ _ _ h2
structure TwX where
 f:Int
 t:Int
 a:Seg Fz
 b:Seg Fz
noncomputable def Oi (L:List TwX) (x:TwX):List TwX:=match L.getLast? with
 | some y=>if y.a.v=x.a.v∧y.b.v=x.b.v then L.set (L.length-1) { y with t:=x.t } else L++[x]
 | none=>L++[x]
abbrev Ls:Type:=Fz×Fz
def Kj (x:TwX):Seg Ls:=⟨x.f,x.t,(x.a.v,x.b.v)⟩
theorem FwdB.last {β:Type} {val:Int→β} {lo hi:Int} {A:List (Seg β)} {s:Seg β} (h:FwdB val lo hi (A++[s])):s.f≤s.t∧s.t+1=hi∧∀x,s.f≤x→x≤s.t→val x=s.v:=by
 obtain ⟨_,h2,_,h4,_,h6,_⟩:=h.nth A.length s (by simp)
 exact ⟨h2,h6 (by simp),h4⟩
theorem FwdB.more {β:Type} {val:Int→β} {lo hi x:Int} {A:List (Seg β)} {s:Seg β} (h:FwdB val lo hi (A++[s])) (h1:hi≤x+1) (h3:∀d,hi≤d→d≤x→val d=s.v):FwdB val lo (x+1) (A++[⟨s.f,x,s.v⟩]):=by
 obtain ⟨g1,g2,g3⟩:=h.last
 exact h.setLast (by omega) (fun y a b=>if k:y≤s.t then g3 y a k else h3 y (by omega) b)
theorem AIT {α:Type} {L:List α} {y : α} (h:L.getLast? = some y):L=L.dropLast++[y]:=by
 have hne:L≠[]:=fun e=>by rw [e] at h; cases h
 rw [List.getLast?_eq_some_getLast hne] at h
 cases h
 exact (List.dropLast_concat_getLast hne).symm
theorem Y5 {val:Int→Ls} {lo p:Int} {L:List TwX} {x:TwX} (h:FwdB val lo p (L.map Kj)) (hf:x.f=p) (hft:x.f≤x.t) (hv:∀d,x.f≤d→d≤x.t→val d=(x.a.v,x.b.v)):FwdB val lo (x.t+1) ((Oi L x).map Kj):=by
 unfold Oi
 split
 ·next y hy =>
  have hs:=AIT hy
  split
  ·next hc =>
   have e:L.set (L.length-1) { y with t:=x.t }=L.dropLast++[{ y with t:=x.t }]:=by
    have hl:L.length-1=L.dropLast.length:=by rw [List.length_dropLast]
    rw [hl]
    conv=>lhs; arg 1; rw [hs]
    rw [List.set_append_right _ _ (Nat.le_refl _),Nat.sub_self]; rfl
   rw [e,List.map_append]
   rw [hs,List.map_append] at h
   exact h.more (x:=x.t) (by omega) (fun d a b=>by rw [hv d (by omega) b]; show (x.a.v,x.b.v)=(y.a.v,y.b.v); rw [hc.1,hc.2])
  ·next hc =>
   rw [List.map_append]
   refine h.push (r:=Kj x) hf hft hv (fun s hs=>?_)
   rw [List.getLast?_map,hy] at hs
   cases hs
   exact fun e=>hc ⟨(Prod.mk.inj e).1,(Prod.mk.inj e).2⟩
 ·next hy =>
  rw [List.map_append]
  refine h.push (r:=Kj x) hf hft hv (fun s hs=>?_)
  rw [List.getLast?_map,hy] at hs
  cases hs
structure TwI {va vb:Int→Fz} (val:Int→Ls) (lo hi:Int) (S S':List (Seg Fz)) (i k:Nat) (L:List TwX) (p:Int):Prop where
 fwd:FwdB val lo p (L.map Kj)
 le:p≤hi
 a:∀s,S[i]? = some s→s.f≤p∧p≤s.t
 a0:S[i]? = none→p=hi
 b:∀s,S'[k]? = some s→s.f≤p∧p≤s.t
 b0:S'[k]? = none→p=hi
 one:∀s s',S[i]? = some s→S'[k]? = some s'→s.f=p∨s'.f=p
theorem TwI.step {va vb:Int→Fz} {val:Int→Ls} {lo hi:Int} {S S':List (Seg Fz)} {i k:Nat} {L:List TwX} {p:Int} {wa wb:Fz→Fz} (h:FwdB va lo hi S) (h':FwdB vb lo hi S') (hw:∀d,lo≤d→d<hi→val d=(wa (va d),wb (vb d))) (hI:TwI (va:=va) (vb:=vb) val lo hi S S' i k L p) {s s':Seg Fz} (hs:S[i]? = some s) (hs':S'[k]? = some s') {x:TwX} (xf:x.f=max s.f s'.f) (xt:x.t=min s.t s'.t) (xa:x.a.v=wa s.v) (xb:x.b.v=wb s'.v):TwI (va:=va) (vb:=vb) val lo hi S S' (if s.t=x.t then i+1 else i) (if s'.t=x.t then k+1 else k) (Oi L x) (x.t+1):=by
 obtain ⟨h1,h2,h3,h4,h5,h6,_⟩:=h.nth i s hs
 obtain ⟨k1,k2,k3,k4,k5,k6,_⟩:=h'.nth k s' hs'
 obtain ⟨a1,a2⟩:=hI.a s hs
 obtain ⟨b1,b2⟩:=hI.b s' hs'
 have hone:=hI.one s s' hs hs'
 have hlo:lo≤p:=by
  have:=hI.fwd.le
  exact this
 refine ⟨Y5 hI.fwd (by omega) (by omega) (fun d c1 c2=>?_),by omega,fun q hq=>?_,fun hq=>?_,fun q hq=>?_,fun hq=>?_,fun q q' hq hq'=>?_⟩
 ·rw [hw d (by omega) (by omega),h4 d (by omega) (by omega),k4 d (by omega) (by omega),xa,xb]
 ·by_cases c:s.t=x.t
  ·rw [if_pos c] at hq
   obtain ⟨e1,_⟩:=h5 q hq
   have:=(h.nth (i+1) q hq).2.1
   omega
  ·rw [if_neg c] at hq
   rw [hs] at hq; cases hq
   omega
 ·by_cases c:s.t=x.t
  ·rw [if_pos c] at hq
   have:=h6 hq
   omega
  ·rw [if_neg c,hs] at hq; cases hq
 ·by_cases c:s'.t=x.t
  ·rw [if_pos c] at hq
   obtain ⟨e1,_⟩:=k5 q hq
   have:=(h'.nth (k+1) q hq).2.1
   omega
  ·rw [if_neg c] at hq
   rw [hs'] at hq; cases hq
   omega
 ·by_cases c:s'.t=x.t
  ·rw [if_pos c] at hq
   have:=k6 hq
   omega
  ·rw [if_neg c,hs'] at hq; cases hq
 ·by_cases c:s.t=x.t
  ·rw [if_pos c] at hq
   obtain ⟨e1,_⟩:=h5 q hq
   exact .inl (by omega)
  ·by_cases c':s'.t=x.t
   ·rw [if_pos c'] at hq'
    obtain ⟨e1,_⟩:=k5 q' hq'
    exact .inr (by omega)
   ·omega
theorem TwI.last {va vb:Int→Fz} {val:Int→Ls} {lo hi:Int} {S S':List (Seg Fz)} {i k:Nat} {L:List TwX} {p:Int} (hI:TwI (va:=va) (vb:=vb) val lo hi S S' i k L p) (h:S[i]? = none∨S'[k]? = none):FwdB val lo hi (L.map Kj):=by
 have:p=hi:=by
  rcases h with h | h
  ·exact hI.a0 h
  ·exact hI.b0 h
 subst this
 exact hI.fwd
structure FormOK (va:Int→Fz) (f t:Int) (ms:List MeterX) (S:List (Seg Fz)):Prop where
 fwd:FwdB va f (t+1) S
 f0:0≤f
 t1:t≤4000000
 tf:t-f≤4000
 ms8:ms.length≤8
 mx:∀m∈ms,0≤m.mx∧m.mx≤2000
 cur:∀s∈S,(∀l∈s.v.2,Ry l)∧s.v.2.length=ms.length
theorem FormOK.len {va:Int→Fz} {f t:Int} {ms:List MeterX} {S:List (Seg Fz)} (h:FormOK va f t ms S):S.length≤100001:=by
 have:=h.fwd.len
 have:=h.tf
 omega
def UniqM (A B:List MeterX):Prop:=∀m o,m∈A∨m∈B→o∈A∨o∈B→m.nm=o.nm→m=o
theorem UniqM.symm {A B:List MeterX} (h:UniqM A B):UniqM B A:=fun m o hm ho e=>h m o hm.symm ho.symm e
def I6 (nm:ByteArray) (o:MeterX):Bool:=o.nm.toList == nm.toList
structure Firsts (L M:List MeterX):Prop where
 ord:M.Pairwise NX
 fst:∀m∈M,L.find? (I6 m.nm)=some m
 all:∀m∈L,∃y∈M,y.nm=m.nm
theorem AGp (m:MeterX):I6 m.nm m=true:=by simp [I6]
theorem NP {nm:ByteArray} {o:MeterX}:I6 nm o=true↔o.nm=nm:=by
 unfold I6
 rw [beq_iff_eq]
 exact ⟨N7,fun e=>by rw [e]⟩
def atR (M:List MeterX) (x:MeterX):Nat:=(M.takeWhile fun y=>Fo y.nm x.nm).length
noncomputable def J0 (M:List MeterX) (x:MeterX):List MeterX:=if M.any (I6 x.nm) then M else M.take (atR M x)++x::M.drop (atR M x)
theorem R5 {α:Type} {p : α→Bool}:∀{l:List α},l.take (l.takeWhile p).length=l.takeWhile p
 | []=>rfl
 | a::l=>by
  rw [List.takeWhile_cons]
  split
  ·rw [List.length_cons,List.take_succ_cons,R5]
  ·rfl
theorem T3 {α:Type} {p : α→Bool}:∀{l:List α} (h:(l.takeWhile p).length<l.length),p (l[(l.takeWhile p).length])=false
 | [],h=>absurd h (Nat.not_lt_zero _)
 | a::l,h=>by
  by_cases hp:p a=true
  ·have e:(a::l).takeWhile p=a::l.takeWhile p:=by rw [List.takeWhile_cons,if_pos hp]
   have h':(l.takeWhile p).length<l.length:=by rw [e] at h; simpa using h
   have:=T3 h'
   simpa only [e,List.length_cons,List.getElem_cons_succ] using this
  ·have e:(a::l).takeWhile p=[]:=by rw [List.takeWhile_cons,if_neg hp]
   simpa only [e,List.length_nil,List.getElem_cons_zero,Bool.not_eq_true] using hp
theorem Tr {M:List MeterX} {x:MeterX}:atR M x≤M.length:=(List.takeWhile_sublist _).length_le
theorem Rm {M:List MeterX} {x:MeterX} {i:Nat} (h:i<atR M x) (h':i<M.length):Fo M[i].nm x.nm=true:=by
 have e:(M.take (atR M x))[i]? = some M[i]:=by rw [List.getElem?_take_of_lt h,List.getElem?_eq_getElem h']
 unfold atR at e
 rw [R5] at e
 have:=List.all_eq_true.1 (List.all_takeWhile (p:=fun y:MeterX=>Fo y.nm x.nm) (l:=M)) _ (List.mem_of_getElem? e)
 exact this
theorem Qo {M:List MeterX} {x:MeterX} (h:atR M x<M.length):Fo M[atR M x].nm x.nm=false:=T3 h
theorem YQ {M:List MeterX} {x:MeterX} {i:Nat} (hi:i≤M.length) (h1:∀(j:Nat) (h:j<M.length),j<i→Fo M[j].nm x.nm=true) (h2:∀(h:i<M.length),Fo M[i].nm x.nm=false):atR M x=i:=by
 rcases Nat.lt_trichotomy (atR M x) i with c | c | c
 ·have a:=Qo (M:=M) (x:=x) (by omega)
  rw [h1 _ (by omega) c] at a; cases a
 ·exact c
 ·have hl:=Tr (M:=M) (x:=x)
  have a:=Rm c (show i<M.length by omega)
  rw [h2 (by omega)] at a; cases a
theorem Firsts.snoc {L M:List MeterX} {x:MeterX} (h:Firsts L M):Firsts (L++[x]) (J0 M x):=by
 unfold J0
 by_cases hx:M.any (I6 x.nm)=true
 ·rw [if_pos hx]
  obtain ⟨y,hy,e⟩:=List.any_eq_true.1 hx
  refine ⟨h.ord,fun m hm=>by rw [List.find?_append,h.fst m hm]; rfl,fun m hm=>?_⟩
  rcases List.mem_append.1 hm with hm | hm
  ·exact h.all m hm
  ·rw [List.mem_singleton.1 hm]
   exact ⟨y,hy,NP.1 e⟩
 ·rw [if_neg hx]
  rw [Bool.not_eq_true,List.any_eq_false] at hx
  have hne:∀y∈M,y.nm≠x.nm:=fun y hy e=>hx y hy (NP.2 e)
  have hp:=List.pairwise_iff_getElem.1 h.ord
  have hlo:∀y∈M.take (atR M x),NX y x:=fun y hy=>by
   obtain ⟨i,hi,rfl⟩:=List.getElem_of_mem hy
   rw [List.length_take] at hi
   rw [List.getElem_take]
   exact Rm (by omega) (by omega)
  have hhi:∀y∈M.drop (atR M x),NX x y:=fun y hy=>by
   obtain ⟨i,hi,rfl⟩:=List.getElem_of_mem hy
   rw [List.length_drop] at hi
   rw [List.getElem_drop]
   have h0:atR M x<M.length:=by omega
   have h1:=Qo (M:=M) (x:=x) h0
   have h2:Fo x.nm M[atR M x].nm=true:=by
    cases e:Fo x.nm M[atR M x].nm with
    | true=>rfl
    | false=>exact absurd (AE2 h1 e) (hne _ (List.getElem_mem h0))
   by_cases c:i=0
   ·subst c
    exact h2
   ·exact X3 h2 (hp (atR M x) (atR M x+i) h0 (by omega) (by omega))
  have hxin:x∈M.take (atR M x)++x::M.drop (atR M x):=List.mem_append_right _ (List.mem_cons_self ..)
  have hkeep:∀y∈M,y∈M.take (atR M x)++x::M.drop (atR M x):=fun y hy=>by
   rw [←List.take_append_drop (atR M x) M] at hy
   rcases List.mem_append.1 hy with k | k
   ·exact List.mem_append_left _ k
   ·exact List.mem_append_right _ (List.mem_cons_of_mem _ k)
  refine ⟨?_,fun m hm=>?_,fun m hm=>?_⟩
  ·have ho:=h.ord
   rw [←List.take_append_drop (atR M x) M,List.pairwise_append] at ho
   rw [List.pairwise_append]
   refine ⟨ho.1,List.pairwise_cons.2 ⟨hhi,ho.2.1⟩,fun a ha b hb=>?_⟩
   rcases List.mem_cons.1 hb with rfl | hb
   ·exact hlo a ha
   ·exact ho.2.2 a ha b hb
  ·have hm':m=x∨m∈M:=by
    rcases List.mem_append.1 hm with k | k
    ·exact .inr (List.mem_of_mem_take k)
    ·rcases List.mem_cons.1 k with k | k
     ·exact .inl k
     ·exact .inr (List.mem_of_mem_drop k)
   rcases hm' with rfl | hm'
   ·have:L.find? (I6 m.nm)=none:=by
     rw [List.find?_eq_none]
     intro y hy hn
     obtain ⟨z,hz,e⟩:=h.all y hy
     exact hne z hz (e.trans (NP.1 hn))
    rw [List.find?_append,this,List.find?_singleton,if_pos (AGp m)]
    rfl
   ·rw [List.find?_append,h.fst m hm']; rfl
  ·rcases List.mem_append.1 hm with k | k
   ·obtain ⟨y,hy,e⟩:=h.all m k
    exact ⟨y,hkeep y hy,e⟩
   ·rw [List.mem_singleton.1 k]
    exact ⟨x,hxin,rfl⟩
noncomputable def FE (L:List MeterX):Nat→List MeterX
 | 0=>[]
 | n+1=>match L[n]? with
  | some x=>J0 (FE L n) x
  | none=>FE L n
theorem TX {L:List MeterX} {n:Nat} (h:n<L.length):FE L (n+1)=J0 (FE L n) L[n]:=by rw [FE,List.getElem?_eq_getElem h]
theorem L0 {L:List MeterX}:∀{n:Nat},n≤L.length→Firsts (L.take n) (FE L n)
 | 0,_=>⟨.nil,fun m h=>by simp [FE] at h,fun m h=>by simp at h⟩
 | n+1,h=>by
  rw [TX (by omega),List.take_succ_eq_append_getElem (by omega)]
  exact (L0 (by omega)).snoc
theorem ZX {M:List MeterX} {x:MeterX}:(J0 M x).length≤M.length+1:=by
 unfold J0
 split
 ·omega
 ·rw [List.length_append,List.length_cons,List.length_take,List.length_drop]
  have:=Tr (M:=M) (x:=x)
  omega
theorem Ll {L:List MeterX}:∀n:Nat,(FE L n).length≤n
 | 0=>Nat.le_refl _
 | n+1=>by
  rw [FE]
  split
  ·have:=ZX (M:=FE L n) (x:=‹MeterX›)
   have:=Ll (L:=L) n
   omega
  ·have:=Ll (L:=L) n
   omega
theorem AFz {P:Program} {Q:Out→St→Prop} {b:ACode} {k:List Item} {s:St} {c sz cap:Nat} {t:TypeId} {xs:List (List D)} (hb:s.H c=some (.row t sz cap xs)) (h:xs.length≤cap→KN P Q b k s):KN P Q b k s:=by
 intro r c0 hc hr B F a w hR
 obtain ⟨cur,_,_,hle,_⟩:=hR.1.at_ c _ hb
 exact h hle r c0 hc hr B F a w hR
theorem AHf {P:Program} {Q:Out→St→Prop} {k:List Item} {s:St} {d:Option Nat} {l:List AO} {e:TypeId} {sz bytes b n off len cap q:Nat} {z:List AV} (hz:z.length=sz) (hk:AN P Q l k (AF s d (.own b n off len cap) s.H)):Hq e sz bytes z (.own b n off len cap) (.nilsl q) d l k s P Q:=by
 simp -implicitDefEqProofs only [Hq,Fl]
 exact .inl ⟨by trivial,hz,hk⟩
theorem Ok {P:Program} {Q:Out→St→Prop} {k:List Item} {s:St} {d:Option Nat} {l:List AO} {e:TypeId} {sz bytes b len cap:Nat} {z:List AV} {xs ys:List (List D)} {x:AV} (hx:∀K,Fl s.H x K=K sz ys) (hb:s.H b=some (.row e sz cap xs)) (hlb:len=xs.length) (hz:z.length=sz) (hbd:(xs.length+ys.length)*bytes≤140737488355328∧xs.length+ys.length≤maxLen)
  (hk:∀b' cap' H',H' b'=some (.row e sz cap' (xs++ys))→(∀k x,s.H k=some x→¬k=b→H' k=some x∧¬k=b'∧¬b'=k)→AN P Q l k (AF s d (.own b' sz 0 (len+ys.length) cap') H')):Hq e sz bytes z (.own b sz 0 len cap) x d l k s P Q:=by
 refine AQ3 hx hb hlb hz hbd (fun h=>?_) (fun h b' cap' hb'=>?_)
 ·subst h
  have:=hk b cap s.H (by rw [List.append_nil]; exact hb) (fun k x h1 h2=>⟨h1,h2,fun e=>h2 e.symm⟩)
  simpa using this
 ·refine hk b' cap' _ AK (fun k x h1 h2=>?_)
  have hne:¬k=b':=by
   rintro rfl
   rw [EN (fun e=>h2 e.symm),h1] at hb'
   cases hb'
  exact ⟨by rw [EN (fun e=>hne e.symm),EN (fun e=>h2 e.symm)]; exact h1,hne,fun e=>hne e.symm⟩
def wF (p:PlanX) (w:WinX):Int:=if w.has=true then Ag w.f else Ag p.f
def wT (p:PlanX) (w:WinX):Int:=if w.has=true then Ag w.t else Ag p.t
theorem ALc {p:PlanX} {w:WinX} (hf:Fh p.f) (ht:Fh p.t) (hw:KZ w):DataW Try.prog AAE [JN p,ON w] (.tup [i64 (wF p w),i64 (wT p w)]):=by
 refine A3 AH2 (by simp) ?_
 simp -implicitDefEqProofs -proj only [go_sem,seval]
 refine Aa (fun b hb=>?_)
 simp -implicitDefEqProofs -proj only [go_sem,seval]
 refine Aa (fun b3 hb3=>?_)
 replace hb3:AI Heap.none b (some _) b3=none:=hb3
 obtain ⟨n1,n2⟩:=EG hb3 AK
 unfold wF wT
 cases hh:w.has with
 | false =>
  simp -implicitDefEqProofs -proj only [go_sem,seval,AK,n1,n2,hh]
  refine E0 (Ik hf) ?_
  simp -implicitDefEqProofs -proj only [go_sem,seval,AK,n1,n2]
  refine AQ (Ik ht) ?_
  simp -implicitDefEqProofs -proj only [go_sem,seval]
  exact AJ rfl
 | true =>
  obtain ⟨g1,g2⟩:=hw.1 hh
  simp -implicitDefEqProofs -proj only [go_sem,seval,AK,n1,n2,hh]
  refine E0 (Ik g1) ?_
  simp -implicitDefEqProofs -proj only [go_sem,seval,AK,n1,n2]
  refine AQ (Ik g2) ?_
  simp -implicitDefEqProofs -proj only [go_sem,seval]
  exact AJ rfl
def ET (m:MeterX):MeterX:=⟨m.nm,m.un,m.mx,0,0⟩
noncomputable def EY (p:PlanX):List MeterX:=FE (p.ms.map ET) p.ms.length
theorem Ts:∀{l:List MeterX} {nm:ByteArray} {i k:Nat},Eg l nm i=((i+k:Nat):Int)→∀(j:Nat) (h:j<l.length),j<k→(l[j].nm.toList == nm.toList)=false
 | [],nm,i,k,_,j,h,_=>absurd h (Nat.not_lt_zero _)
 | m::r,nm,i,k,e,j,h,hj=>by
  rw [Eg] at e
  cases hb:(m.nm.toList == nm.toList) with
  | true=>rw [hb,if_pos rfl] at e; omega
  | false =>
   rw [hb,if_neg (by decide)] at e
   cases j with
   | zero=>exact hb
   | succ j=>exact Ts (k:=k-1) (by rw [e]; omega) j (by simpa using h) (by omega)
theorem Rg:∀{l:List MeterX} {nm:ByteArray} {i:Nat},(∃y∈l,(y.nm.toList == nm.toList)=true)→∃k,k<l.length∧Eg l nm i=((i+k:Nat):Int)
 | [],nm,i,h=>by obtain ⟨y,hy,_⟩:=h; cases hy
 | m::r,nm,i,h=>by
  rw [Eg]
  cases hb:(m.nm.toList == nm.toList) with
  | true=>exact ⟨0,by simp,by simp⟩
  | false =>
   obtain ⟨y,hy,e⟩:=h
   rcases List.mem_cons.1 hy with rfl | hy
   ·rw [e] at hb; cases hb
   ·obtain ⟨k,hk,e2⟩:=Rg (i:=i+1) ⟨y,hy,e⟩
    exact ⟨k+1,by simp; omega,by rw [if_neg (by decide),e2]; omega⟩
theorem ZG {p:PlanX} (h:PlanOK p) {i:Nat} (hi:i<p.ms.length):(FE (p.ms.map ET) i).any (I6 (p.ms[i].nm))=false:=by
 rw [List.any_eq_false]
 intro y hy e
 have hF:=L0 (L:=p.ms.map ET) (n:=i) (by rw [List.length_map]; omega)
 have hm:=List.mem_of_find?_eq_some (hF.fst y hy)
 obtain ⟨j,hj,ej⟩:=List.getElem_of_mem hm
 rw [List.length_take,List.length_map] at hj
 have hj1:j<i:=by omega
 have hj2:j<p.ms.length:=by omega
 have e2:(p.ms.map ET)[j]'(by rw [List.length_map]; exact hj2)=y:=by rw [←ej,List.getElem_take]
 rw [List.getElem_map] at e2
 have hnm:=NP.1 e
 rw [←e2] at hnm
 have:=Ts (l:=p.ms) (nm:=p.ms[i].nm) (i:=0) (k:=i) (by rw [(h.ms i hi).2]; omega) j hj2 hj1
 rw [show p.ms[j].nm=p.ms[i].nm from hnm,beq_self_eq_true] at this
 cases this
theorem Wp {p:PlanX} (h:PlanOK p) {i:Nat} (hi:i<p.ms.length):FE (p.ms.map ET) (i+1)=(FE (p.ms.map ET) i).take (atR (FE (p.ms.map ET) i) (ET p.ms[i]))++ET p.ms[i]::(FE (p.ms.map ET) i).drop (atR (FE (p.ms.map ET) i) (ET p.ms[i])):=by
 have hl:i<(p.ms.map ET).length:=by rw [List.length_map]; exact hi
 rw [TX hl,List.getElem_map,J0,if_neg]
 have:=ZG h hi
 rw [show (ET p.ms[i]).nm=p.ms[i].nm from rfl,this]
 decide
theorem Nc {p:PlanX} {nm:ByteArray} (h:0≤Eg p.ms nm 0):∃k,k<(EY p).length∧Eg (EY p) nm 0=(k:Nat):=by
 obtain ⟨j,hj,_,e⟩:=(KU p.ms nm 0).resolve_left (by omega)
 have hF:=L0 (L:=p.ms.map ET) (n:=p.ms.length) (by rw [List.length_map]; exact Nat.le_refl _)
 obtain ⟨y,hy,e2⟩:=hF.all (ET p.ms[j]) (by
  rw [List.take_of_length_le (by rw [List.length_map]; exact Nat.le_refl _)]
  exact List.mem_map_of_mem (List.getElem_mem hj))
 obtain ⟨k,hk,e3⟩:=Rg (l:=EY p) (nm:=nm) (i:=0) ⟨y,hy,by rw [e2]; exact e⟩
 exact ⟨k,hk,by rw [e3,Nat.zero_add]⟩
def GP (p:PlanX) (f:FeeX):SumX:=⟨f.am,wF p f.w,wT p f.w⟩
noncomputable def GF (p:PlanX) (c:ChX):PartX:=⟨Eg (EY p) c.me 0,wF p c.w,wT p c.w,c.al,c.bl,c.ki,c.ts,c.mo,c.ad⟩
noncomputable def Gp (p:PlanX):CoreX:=⟨p.cu,Ag p.f,Ag p.t,EY p,p.fs.map (GP p),p.cs.map (GF p)⟩
abbrev FZ (cu:ByteArray) (f t:Int) (m s x:AV):Blk:=.box 26 [Ey cu,i64 f,i64 t,m,s,x]
abbrev zC:Blk:=FZ ⟨⟨[]⟩⟩ 0 0 (.nilsl 5) (.nilsl 3) (.nilsl 9)
abbrev mB (m:MeterX):Blk:=.box 42 [Ey m.nm,Ey m.un,i64 m.mx,i64 m.ln,i64 m.co]
structure KX where
 i:Nat
 c:Nat
 cap:Nat
theorem Gz {i c cap:Nat}:(KX.mk i c cap).i=i:=(rfl)
theorem LC {i c cap:Nat}:(KX.mk i c cap).c=c:=(rfl)
theorem K9 {i c cap:Nat}:(KX.mk i c cap).cap=cap:=(rfl)
noncomputable def LM (b1 b2 b3:Nat) (p:PlanX) (y:KX):List (Nat×Blk):=(b3,FZ p.cu (Ag p.f) (Ag p.t) (EM 5 5 y.c y.cap (EI (FE (p.ms.map ET) y.i))) (.nilsl 3) (.nilsl 9))::(b1,E6 p)::(b2,zC)::G1 y.c y.cap (FE (p.ms.map ET) y.i)
theorem K3 {b1 b2 b3 i c cap:Nat} {p:PlanX}:LM b1 b2 b3 p ⟨i,c,cap⟩=(b3,FZ p.cu (Ag p.f) (Ag p.t) (EM 5 5 c cap (EI (FE (p.ms.map ET) i))) (.nilsl 3) (.nilsl 9))::(b1,E6 p)::(b2,zC)::G1 c cap (FE (p.ms.map ET) i):=rfl
abbrev PV (c k:Nat) (l:List SumX):List (Nat×Blk):=E2 59 3 c k (FH l)
abbrev MM (c k:Nat) (l:List PartX):List (Nat×Blk):=E2 39 9 c k (E1 l)
def LS (b1 b2 b3:Nat) (p:PlanX) (mv:AV) (R:List (Nat×Blk)) (y:KX):List (Nat×Blk):=(b3,FZ p.cu (Ag p.f) (Ag p.t) mv (EM 3 3 y.c y.cap (FH ((p.fs.take y.i).map (GP p)))) (.nilsl 9))::(b1,E6 p)::(b2,zC)::(R++PV y.c y.cap ((p.fs.take y.i).map (GP p)))
theorem LN {b1 b2 b3 i c cap:Nat} {p:PlanX} {mv:AV} {R:List (Nat×Blk)}:LS b1 b2 b3 p mv R ⟨i,c,cap⟩=(b3,FZ p.cu (Ag p.f) (Ag p.t) mv (EM 3 3 c cap (FH ((p.fs.take i).map (GP p)))) (.nilsl 9))::(b1,E6 p)::(b2,zC)::(R++PV c cap ((p.fs.take i).map (GP p))):=rfl
noncomputable def KR (b1 b2 b3:Nat) (p:PlanX) (mv sv:AV) (R:List (Nat×Blk)) (y:KX):List (Nat×Blk):=(b3,FZ p.cu (Ag p.f) (Ag p.t) mv sv (EM 9 9 y.c y.cap (E1 ((p.cs.take y.i).map (GF p)))))::(b1,E6 p)::(b2,zC)::(R++MM y.c y.cap ((p.cs.take y.i).map (GF p)))
theorem LB {b1 b2 b3 i c cap:Nat} {p:PlanX} {mv sv:AV} {R:List (Nat×Blk)}:KR b1 b2 b3 p mv sv R ⟨i,c,cap⟩=(b3,FZ p.cu (Ag p.f) (Ag p.t) mv sv (EM 9 9 c cap (E1 ((p.cs.take i).map (GF p)))))::(b1,E6 p)::(b2,zC)::(R++MM c cap ((p.cs.take i).map (GF p))):=rfl
theorem AQO {l:List SumX} {x:SumX}:FH l++[[.int .i64 x.a,.int .i64 x.f,.int .i64 x.t]]=FH (l++[x]):=by simp [FH,SumX.el]
theorem ABI {l:List PartX} {x:PartX}:E1 l++[x.el]=E1 (l++[x]):=by simp [E1]
theorem Mc {H:Heap} {b:Nat} {x x':Blk} {l:List (Nat×Blk)} (h:Al H ((b,x)::l)) (hn:(b::EJ l).Nodup):Al (AI H b (some x')) ((b,x')::l):=T6 (x:=x) h hn
theorem Zr {M:List MeterX} (h:EI M=[]):M=[]:=by
 cases M with
 | nil=>rfl
 | cons m M=>cases h
theorem OY {H:Heap} {j k:Nat} {v:Blk} (h:AI H j (some v) k=none):(¬k=j∧¬j=k)∧H k=none:=by
 rw [AL] at h
 split at h
 ·cases h
 ·next e=>exact ⟨⟨fun h=>e h.symm,e⟩,h⟩
def part13:PartX:=⟨0,0,9,0,1,1,[⟨0,2000000⟩],0,[]⟩
def core13:CoreX:=⟨⟨⟨[]⟩⟩,0,9,[⟨⟨⟨[109]⟩⟩,⟨⟨[]⟩⟩,5,0,0⟩],[⟨5,0,9⟩],[part13]⟩
theorem Qz:core13.Fit:=by
 refine ⟨by decide,by decide,?_,by decide,?_,by decide,?_,by decide⟩
 ·intro a h
  rw [show core13.ms=[⟨⟨⟨[109]⟩⟩,⟨⟨[]⟩⟩,5,0,0⟩] from rfl,List.mem_singleton] at h
  subst h
  exact ⟨by decide,by decide,by decide⟩
 ·intro a h
  rw [show core13.ss=[⟨5,0,9⟩] from rfl,List.mem_singleton] at h
  subst h
  exact ⟨by decide,by decide,by decide⟩
 ·intro a h
  rw [show core13.ps=[part13] from rfl,List.mem_singleton] at h
  subst h
  refine ⟨by decide,by decide,by decide,by decide,by decide,by decide,?_,by decide,by decide,?_,by decide⟩
  ·intro a h
   rw [show part13.ts=[⟨0,2000000⟩] from rfl,List.mem_singleton] at h
   subst h
   exact ⟨by decide,by decide⟩
  ·intro a h
   cases h
theorem Qi:goodC core13:=by
 refine ⟨by unfold Lb; decide,?_,?_,?_⟩
 ·intro i h
  have:i=0:=by have:i<1:=h; omega
  subst this
  exact ⟨by decide +revert,by decide +revert,by decide +revert,fun p _ h=>absurd h (Nat.lt_irrefl _)⟩
 ·intro a h
  rw [show core13.ss=[⟨5,0,9⟩] from rfl,List.mem_singleton] at h
  subst h
  unfold Jn
  decide
 ·intro a h
  rw [show core13.ps=[part13] from rfl,List.mem_singleton] at h
  subst h
  refine ⟨by unfold Jt; decide,?_,?_⟩
  ·intro i h
   have:i=0:=by have:i<1:=h; omega
   subst this
   unfold HX
   decide +revert
  ·intro a h
   cases h
theorem AIG:JT core13 4 [3]=some [5,6]:=by decide +kernel
theorem XY:I0 core13 4 [3]=(11,0):=by
 unfold I0
 rw [if_neg (fun k=>k Qi),if_neg ?_,AIG]
 ·rfl
 ·rintro (k | k)
  ·exact k (by decide)
  ·refine k ⟨rfl,fun i h h2=>?_⟩
   have:i=0:=by have:i<1:=h; omega
   subst this
   decide +revert
theorem AMw:I0 core13 4 [6]=(0,8):=by
 unfold I0
 have hno:¬IZ core13 [6]:=fun k=>absurd (k.2 0 (by decide) (by decide)).2 (by decide)
 rw [if_neg (fun k=>k Qi),if_pos (.inr hno)]
theorem Ne {H:Heap} {cur:ByteArray} {f t:Int} {a b c:AV} {ms ss ps:List (List D)} (h1:LendV H a (.d (.sl 5 ms))) (h2:LendV H b (.d (.sl 3 ss))) (h3:LendV H c (.d (.sl 9 ps))):LendV H (.agg [.d (.str cur),i64 f,i64 t,a,b,c]) (Pc cur f t ms ss ps):=by
 refine .agg _ _ rfl fun j u v e1 e2=>?_
 match j with
 | 0=>cases e1; cases e2; exact .refl _
 | 1=>cases e1; cases e2; exact .refl _
 | 2=>cases e1; cases e2; exact .refl _
 | 3=>cases e1; cases e2; exact h1
 | 4=>cases e1; cases e2; exact h2
 | 5=>cases e1; cases e2; exact h3
 | j+6=>cases e1
theorem AAF:DataW Try.prog XD [] (bv true):=by
 have h1:=Py (d:=4) (b:=[3]) Qz (by decide)
 have h2:=Py (d:=4) (b:=[6]) Qz (by decide)
 rw [XY] at h1
 rw [AMw] at h2
 simp -implicitDefEqProofs only [] at h1 h2
 refine A3 ANd (by simp) ?_
 simp -implicitDefEqProofs -proj only [go_sem,seval]
 refine EL (fun b7 h7=>?_)
 simp -implicitDefEqProofs -proj only [go_sem,seval]
 refine EL (fun b9 h9=>?_)
 replace h9:AI Heap.none b7 (some _) b9=none:=h9
 obtain ⟨⟨n1,n2⟩,_⟩:=OY h9
 simp -implicitDefEqProofs -proj only [go_sem,seval,n1,n2]
 refine EL (fun b11 h11=>?_)
 replace h11:AI (AI Heap.none b7 (some _)) b9 (some _) b11=none:=h11
 obtain ⟨⟨n3,n4⟩,h11'⟩:=OY h11
 obtain ⟨⟨n5,n6⟩,_⟩:=OY h11'
 simp -implicitDefEqProofs -proj only [go_sem,seval,n1,n2,n3,n4,n5,n6]
 refine EL (fun b13 h13=>?_)
 replace h13:(AI (AI (AI Heap.none b7 (some (.row 42 5 1 [[.str ⟨⟨[109]⟩⟩,.str ⟨⟨[]⟩⟩,.int .i64 5,.int .i64 0,.int .i64 0]]))) b9 (some (.row 59 3 1 [[.int .i64 5,.int .i64 0,.int .i64 9]]))) b11 none) b13=none:=h13
 have ha0:Al (AI (AI (AI Heap.none b7 (some (.row 42 5 1 [[.str ⟨⟨[109]⟩⟩,.str ⟨⟨[]⟩⟩,.int .i64 5,.int .i64 0,.int .i64 0]]))) b9 (some (.row 59 3 1 [[.int .i64 5,.int .i64 0,.int .i64 9]]))) b11 none) [(b9,(.row 59 3 1 [[.int .i64 5,.int .i64 0,.int .i64 9]])),(b7,(.row 42 5 1 [[.str ⟨⟨[109]⟩⟩,.str ⟨⟨[]⟩⟩,.int .i64 5,.int .i64 0,.int .i64 0]]))]:=⟨by rw [EN n3]; exact AK,by rw [EN n5,EN n1]; exact AK,trivial⟩
 have hn0:(EJ [(b9,Blk.row 59 3 1 [[.int .i64 5,.int .i64 0,.int .i64 9]]),(b7,Blk.row 42 5 1 [[.str ⟨⟨[109]⟩⟩,.str ⟨⟨[]⟩⟩,.int .i64 5,.int .i64 0,.int .i64 0]])]).Nodup:=by simp [EJ,n1]
 have ha13:=G8 (x:=(.row 39 9 1 [[.int .i64 0,.int .i64 0,.int .i64 9,.int .i64 0,.int .i64 1,.int .i64 1,.sl 2 [[.int .i64 0,.int .i64 2000000]],.int .i64 0,.sl 3 []]])) h13 ha0
 have hn13:=Pu (x:=(.row 39 9 1 [[.int .i64 0,.int .i64 0,.int .i64 9,.int .i64 0,.int .i64 1,.int .i64 1,.sl 2 [[.int .i64 0,.int .i64 2000000]],.int .i64 0,.sl 3 []]])) h13 ha0 hn0
 obtain ⟨H1,hH1⟩:∃H1,AI (AI (AI (AI Heap.none b7 (some (.row 42 5 1 [[.str ⟨⟨[109]⟩⟩,.str ⟨⟨[]⟩⟩,.int .i64 5,.int .i64 0,.int .i64 0]]))) b9 (some (.row 59 3 1 [[.int .i64 5,.int .i64 0,.int .i64 9]]))) b11 none) b13 (some (.row 39 9 1 [[.int .i64 0,.int .i64 0,.int .i64 9,.int .i64 0,.int .i64 1,.int .i64 1,.sl 2 [[.int .i64 0,.int .i64 2000000]],.int .i64 0,.sl 3 []]]))=H1:=⟨_,rfl⟩
 rw [hH1] at ha13
 simp -implicitDefEqProofs -proj only [go_sem,seval,hH1]
 refine Aa (fun b1 hb1=>?_)
 replace hb1:H1 b1=none:=hb1
 have ha1:=G8 (x:=(.box 26 [.d (.str ⟨⟨[]⟩⟩),i64 0,i64 9,.own b7 5 0 1 1,.own b9 3 0 1 1,.own b13 9 0 1 1])) hb1 ha13
 simp -implicitDefEqProofs -proj only [go_sem,seval]
 refine EL (fun b17 hb17=>?_)
 replace hb17:AI H1 b1 (some (.box 26 [.d (.str ⟨⟨[]⟩⟩),i64 0,i64 9,.own b7 5 0 1 1,.own b9 3 0 1 1,.own b13 9 0 1 1])) b17=none:=hb17
 have ha17:=G8 (x:=.row 3 1 1 [[.int .i64 3]]) hb17 ha1
 obtain ⟨H2,hH2⟩:∃H2,AI (AI H1 b1 (some (.box 26 [.d (.str ⟨⟨[]⟩⟩),i64 0,i64 9,.own b7 5 0 1 1,.own b9 3 0 1 1,.own b13 9 0 1 1]))) b17 (some (.row 3 1 1 [[.int .i64 3]]))=H2:=⟨_,rfl⟩
 rw [hH2] at ha17
 obtain ⟨q17,q1,q13,q9,q7,_⟩:=id ha17
 simp -implicitDefEqProofs -proj only [go_sem,seval,hH2]
 refine SK h1 (EK (Ne (JE q7 rfl) (JE q9 rfl) (JE q13 rfl)) (EK (.refl _) (EK (JE q17 rfl) G9))) rfl ?_
 simp -implicitDefEqProofs -proj only [go_sem,seval,q1]
 refine EL (fun b23 hb23=>?_)
 replace hb23:H2 b23=none:=hb23
 have ha23:=G8 (x:=.row 3 1 1 [[.int .i64 6]]) hb23 ha17
 obtain ⟨H3,hH3⟩:∃H3,AI H2 b23 (some (.row 3 1 1 [[.int .i64 6]]))=H3:=⟨_,rfl⟩
 rw [hH3] at ha23
 obtain ⟨r23,r17,r1,r13,r9,r7,_⟩:=id ha23
 simp -implicitDefEqProofs -proj only [go_sem,seval,hH3]
 refine SK h2 (EK (Ne (JE r7 rfl) (JE r9 rfl) (JE r13 rfl)) (EK (.refl _) (EK (JE r23 rfl) G9))) rfl ?_
 simp -implicitDefEqProofs -proj only [go_sem,seval,decide_true]
 exact AJ rfl
theorem Sk {H:Heap} {A R X:List (Nat×Blk)} (h:Al H (A++(R++X))):Al H (X++(A++R)):=by
 obtain ⟨h1,h2⟩:=Ec.1 h
 obtain ⟨h3,h4⟩:=Ec.1 h2
 exact Ec.2 ⟨h4,Ec.2 ⟨h1,h3⟩⟩
theorem QM {H:Heap} {A R X:List (Nat×Blk)} (h:Al H (X++(A++R))):Al H (A++(R++X)):=by
 obtain ⟨h1,h2⟩:=Ec.1 h
 obtain ⟨h3,h4⟩:=Ec.1 h2
 exact Ec.2 ⟨h3,Ec.2 ⟨h4,h1⟩⟩
theorem Mk {A R X:List (Nat×Blk)}:(EJ (A++(R++X))).Nodup↔(EJ (X++(A++R))).Nodup:=by
 simp -implicitDefEqProofs only [Nu]
 rw [←List.append_assoc]
 exact (List.perm_append_comm).nodup_iff
theorem SM {Hs H':Heap} {b b':Nat} {L:List (Nat×Blk)} (hfr:∀k x,Hs k=some x→¬k=b→H' k=some x∧¬k=b'∧¬b'=k) (ha:Al Hs L) (hn:b∉EJ L):Al H' L∧b'∉EJ L:=by
 have key:∀q∈L,H' q.1=some q.2∧¬b'=q.1:=fun q hq=>by
  have:=hfr q.1 q.2 (Gw.1 ha q hq) (fun e=>hn (e▸List.mem_map_of_mem hq))
  exact ⟨this.1,this.2.2⟩
 refine ⟨Gw.2 fun q hq=>(key q hq).1,fun m=>?_⟩
 obtain ⟨q,hq,e⟩:=List.mem_map.1 m
 exact (key q hq).2 e.symm
set_option maxHeartbeats 8000000 in
theorem AMD {p:PlanX} (h:GoodPl p) (ok:PlanOK p) (hlf:p.fs.length≤1000000) (hlc:p.cs.length≤1000000) (hta:∀c∈p.cs,c.ts.length≤1000000∧c.ad.length≤1000000):DataW Try.prog AMs [JN p] (Jj (Gp p)):=by
 have hdz:KZ Jx:=⟨fun e=>(by cases e),fun _=>⟨rfl,rfl⟩⟩
 have hdays:=fun w hw=>ALc (p:=p) (w:=w) h.f h.t hw
 have hd0:=hdays Jx hdz
 have e0f:wF p Jx=Ag p.f:=rfl
 have e0t:wT p Jx=Ag p.t:=rfl
 rw [e0f,e0t] at hd0
 have hml:p.ms.length≤4:=by
  rcases Nat.lt_or_ge 4 p.ms.length with e | e
  ·have:=(ok.ms 4 e).1; omega
  ·exact e
 refine A3 XH (by simp) ?_
 simp -implicitDefEqProofs -proj only [go_sem,seval]
 refine Aa (fun b1 hb1=>?_)
 simp -implicitDefEqProofs -proj only [go_sem,seval]
 refine Aa (fun b2 hb2=>?_)
 replace hb2:AI Heap.none b1 (some (E6 p)) b2=none:=hb2
 obtain ⟨n21,n12⟩:=EG hb2 AK
 simp -implicitDefEqProofs -proj only [go_sem,seval,n21,n12,AK]
 refine Aa (fun b3 hb3=>?_)
 replace hb3:AI (AI Heap.none b1 (some (E6 p))) b2 (some zC) b3=none:=hb3
 obtain ⟨n32,n23⟩:=EG hb3 AK
 obtain ⟨n31,n13⟩:=EG (x:=E6 p) (b:=b1) hb3 (by rw [EN n21]; exact AK)
 have hn:(b3::b1::b2::[]).Nodup:=by simp [n31,n32,n12]
 have ha:Al (AI (AI (AI Heap.none b1 (some (E6 p))) b2 (some zC)) b3 (some (FZ p.cu (Ag p.f) (Ag p.t) (.nilsl 5) (.nilsl 3) (.nilsl 9)))) [(b3,FZ p.cu (Ag p.f) (Ag p.t) (.nilsl 5) (.nilsl 3) (.nilsl 9)),(b1,E6 p),(b2,zC)] :=
  ⟨AK,by rw [EN n31,EN n21]; exact AK,by rw [EN n32]; exact AK,trivial⟩
 simp -implicitDefEqProofs -proj only [go_sem,seval,AK,AT,n21,n12,n32,n23,n31,n13]
 refine AQ hd0 ?_
 simp -implicitDefEqProofs -proj only [go_sem,seval,AK,AT,n21,n12,n32,n23,n31,n13,FL]
 refine EX (fun y:KX=>y.i≤p.ms.length∧(EJ (LM b1 b2 b3 p y)).Nodup) 152 (fun y=>[(1,.ptr b1 0),(2,.ptr b2 0),(3,.ptr b3 0),(29,.d (.sl 5 (EI p.ms))),(30,i64 p.ms.length),(31,i64 y.i)]) (LM b1 b2 b3 p) (fun y=>p.ms.length-y.i) ⟨0,0,0⟩ ⟨Nat.zero_le _,hn⟩ rfl ?_ ha ?_
 ·simp -implicitDefEqProofs -proj only [go_sem,seval,AP,Gz,FL]
 clear ha hn
 rintro ⟨i,c,cap⟩ ⟨hi,hn⟩
 simp -implicitDefEqProofs only [Gz] at hi
 rw [K3] at hn
 obtain ⟨H,hH⟩:∃H,EH (LM b1 b2 b3 p ⟨i,c,cap⟩)=H:=⟨_,rfl⟩
 have ha:=FV (l:=LM b1 b2 b3 p ⟨i,c,cap⟩) hn
 rw [hH,K3] at ha
 by_cases hlt:i<p.ms.length
 ·have hel:=OB hlt
  have hst:=Wp ok hlt
  have hMl:(FE (p.ms.map ET) i).length≤4:=by have:=Ll (L:=p.ms.map ET) i; omega
  generalize hM:FE (p.ms.map ET) i=M at ha hn hst hMl
  generalize p.ms[i]=x at hel hst
  have i1:=Ed (show i<9223372036854775807 by omega)
  simp -implicitDefEqProofs -proj only [go_sem,seval,Gz,LC,K9,hH,decide_eq_true (show (i:Int)<p.ms.length by omega)]
  refine Eh _ (by omega) hel ?_
  simp -implicitDefEqProofs only [MeterX.el]
  simp -implicitDefEqProofs -proj only [go_sem,seval]
  refine Aa (fun b5 hb5=>?_)
  replace hb5:H b5=none:=hb5
  have hn5:=Kb (y:=FZ p.cu (Ag p.f) (Ag p.t) (EM 5 5 c cap (EI M)) (.nilsl 3) (.nilsl 9)) hn (Ih hb5 ha)
  have ha5:=JP (G8 (x:=mB x) hb5 ha)
  simp -implicitDefEqProofs -proj only [go_sem,seval,AT,AK]
  by_cases hMe:M=[]
  ·subst hMe
   have hat:atR [] (ET x)=0:=rfl
   rw [hat,List.take_nil,List.drop_nil,List.nil_append] at hst
   refine EX (fun z:Nat=>z=0) 152 (fun z=>[(1,.ptr b1 0),(2,.ptr b2 0),(3,.ptr b3 0),(29,.d (.sl 5 (EI p.ms))),(30,i64 p.ms.length),(31,i64 i),(5,.ptr b5 0),(6,i64 0)]) (fun _=>[(b3,FZ p.cu (Ag p.f) (Ag p.t) (.nilsl 5) (.nilsl 3) (.nilsl 9)),(b5,mB x),(b1,E6 p),(b2,zC)]) (fun z=>z) 0 rfl rfl ?_ ha5 ?_
   ·simp -implicitDefEqProofs -proj only [go_sem,seval,AP]
   rintro z rfl
   have ha6:=FV (l:=[(b3,FZ p.cu (Ag p.f) (Ag p.t) (.nilsl 5) (.nilsl 3) (.nilsl 9)),(b5,mB x),(b1,E6 p),(b2,zC)]) hn5
   obtain ⟨k3,k5,k1,k2,_⟩:=id ha6
   obtain ⟨H2,hH2⟩:∃H2,EH [(b3,FZ p.cu (Ag p.f) (Ag p.t) (.nilsl 5) (.nilsl 3) (.nilsl 9)),(b5,mB x),(b1,E6 p),(b2,zC)]=H2:=⟨_,rfl⟩
   rw [hH2] at k3 k5 k1 k2 ha6
   simp -implicitDefEqProofs -proj only [go_sem,seval,hH2,k3,k5,BC]
   refine Aa (fun b7 hb7=>?_)
   replace hb7:H2 b7=none:=hb7
   have hn7:=Kb hn5 (Ih hb7 ha6)
   have ha7:=JP (G8 (x:=mB (ET x)) hb7 ha6)
   obtain ⟨q3,q7,q5,q1,q2,_⟩:=id ha7
   obtain ⟨H3,hH3⟩:∃H3,AI H2 b7 (some (mB (ET x)))=H3:=⟨_,rfl⟩
   rw [hH3] at q3 q7 q5 q1 q2
   have hs7:mB (ET x) = .box 42 [Ey x.nm,Ey x.un,i64 x.mx,i64 0,i64 0]:=rfl
   rw [hs7] at hH3 q7
   simp -implicitDefEqProofs -proj only [go_sem,seval,AT,AK,hH3,q3,q7,EV,AS,Option.getD_none,Option.getD_some]
   refine J8 (ds:=(ET x).el) rfl (fun bs hs3=>?_)
   replace hs3:H3 bs=none:=hs3
   obtain ⟨y3,y4⟩:=EG hs3 q3
   obtain ⟨y1,_⟩:=EG hs3 q1
   obtain ⟨y2,_⟩:=EG hs3 q2
   simp -implicitDefEqProofs -proj only [go_sem,seval]
   refine AHf rfl ?_
   simp -implicitDefEqProofs -proj only [go_sem,seval]
   refine R9 (ys:=[(ET x).el]) AK rfl (by simp) rfl (by simp [maxLen]) (fun b'' hb'' cap''=>?_)
   replace hb'':AI H3 bs (some (.row 42 5 1 [(ET x).el])) b''=none:=hb''
   obtain ⟨z3,z3'⟩:=EG hb'' ((EN y3).trans q3)
   obtain ⟨z1,z1'⟩:=EG hb'' ((EN y1).trans q1)
   obtain ⟨z2,z2'⟩:=EG hb'' ((EN y2).trans q2)
   have hce:[(ET x).el]=EI (FE (p.ms.map ET) (i+1)):=by rw [hst]; rfl
   have hln:[(ET x).el].length=(EI (FE (p.ms.map ET) (i+1))).length:=by rw [←hce]
   have hne5:EI (FE (p.ms.map ET) (i+1))≠[]:=by rw [←hce]; simp
   have k3f:AI (AI H3 bs (some (.row 42 5 1 [(ET x).el]))) b'' (some (.row 42 5 cap'' [(ET x).el])) b3=some (FZ p.cu (Ag p.f) (Ag p.t) (.nilsl 5) (.nilsl 3) (.nilsl 9)):=by rw [EN z3,EN y3]; exact q3
   obtain ⟨H4,hH4⟩:∃H4,AI (AI H3 bs (some (.row 42 5 1 [(ET x).el]))) b'' (some (.row 42 5 cap'' [(ET x).el]))=H4:=⟨_,rfl⟩
   have a4:Al H4 [(b3,FZ p.cu (Ag p.f) (Ag p.t) (.nilsl 5) (.nilsl 3) (.nilsl 9)),(b1,E6 p),(b2,zC),(b'',.row 42 5 cap'' [(ET x).el])]:=by
    rw [←hH4]
    exact ⟨by rw [EN z3,EN y3]; exact q3,by rw [EN z1,EN y1]; exact q1,by rw [EN z2,EN y2]; exact q2,AK,trivial⟩
   have hn4:(b3::b1::b2::[b'']).Nodup:=by simp [n31,n32,n12,z3',z1',z2']
   obtain ⟨k3g,_⟩:=id a4
   rw [←hH4] at a4
   simp -implicitDefEqProofs -proj only [go_sem,seval,z3,z3',y3,y4,q3]
   refine EF (⟨i+1,b'',cap''⟩:KX) (And.intro (by show i+1≤p.ms.length; omega) (by rw [K3]; unfold G1; rw [Hn hne5]; exact hn4)) (by show p.ms.length-(i+1)<p.ms.length-i; omega) rfl ?_ (by rw [K3]; unfold G1; rw [Hn hne5,Fv hne5,←hce]; exact Mc a4 hn4)
   simp -implicitDefEqProofs -proj only [go_sem,seval,AP,Gz,i1]
  ·have hne:EI M≠[]:=fun e=>hMe (Zr e)
   have hrow:G1 c cap M=[(c,.row 42 5 cap (EI M))]:=by unfold G1; exact Hn hne
   rw [hrow] at ha5 hn5
   rw [Fv hne,FL] at ha5
   refine AFz (c:=c) (xs:=EI M) ha5.2.2.2.2.1 (fun hlc0=>?_)
   rw [FL] at hlc0
   refine EX (fun z:Nat=>z≤M.length∧∀(j:Nat) (h:j<M.length),j<z→Fo M[j].nm x.nm=true) 152 (fun z=>[(1,.ptr b1 0),(2,.ptr b2 0),(3,.ptr b3 0),(29,.d (.sl 5 (EI p.ms))),(30,i64 p.ms.length),(31,i64 i),(5,.ptr b5 0),(6,i64 z)]) (fun _=>[(b3,FZ p.cu (Ag p.f) (Ag p.t) (.own c 5 0 M.length cap) (.nilsl 3) (.nilsl 9)),(b5,mB x),(b1,E6 p),(b2,zC),(c,.row 42 5 cap (EI M))]) (fun z=>M.length-z) 0 ⟨Nat.zero_le _,fun j _ h=>absurd h (Nat.not_lt_zero _)⟩ rfl ?_ ha5 ?_
   ·simp -implicitDefEqProofs -proj only [go_sem,seval,AP]
   rintro z ⟨hz,hs⟩
   have ha6:=FV (l:=[(b3,FZ p.cu (Ag p.f) (Ag p.t) (.own c 5 0 M.length cap) (.nilsl 3) (.nilsl 9)),(b5,mB x),(b1,E6 p),(b2,zC),(c,.row 42 5 cap (EI M))]) hn5
   obtain ⟨k3,k5,k1,k2,kc,_⟩:=id ha6
   have hgo:∀hz:z<M.length,Fo M[z].nm x.nm=true→∀(j:Nat) (h:j<M.length),j<z+1→Fo M[j].nm x.nm=true:=fun hz e j h1 h2=>by
    by_cases c:j=z
    ·subst c; exact e
    ·exact hs j h1 (by omega)
   have hzi:((z:Int)).toNat=z:=Int.toNat_natCast _
   have hnl:((M.length:Int)).toNat=M.length:=Int.toNat_natCast _
   by_cases hstop:∃hz:z<M.length,Fo M[z].nm x.nm=true
   ·obtain ⟨hzl,hlt2⟩:=hstop
    have q1:=JX hzl
    rw [Int.toNat_natCast] at q1
    have hgo:=hgo hzl hlt2
    generalize M[z]=m at q1 hlt2 hgo
    unfold Fo at hlt2
    simp -implicitDefEqProofs -proj only [go_sem,seval,k3,k5,kc,decide_eq_true (show (z:Int)<M.length by omega),hzi,Nat.zero_add]
    refine BB (by omega) (fun _=>?_)
    refine EZ _ q1 (by simp) ?_
    simp -implicitDefEqProofs -proj only [go_sem,seval,k5,Qq,hlt2,Ed (show z<9223372036854775807 by omega)]
    refine EF (z+1) (And.intro (by omega) hgo) (by show M.length-(z+1)<M.length-z; omega) rfl ?_ ha6
    simp -implicitDefEqProofs -proj only [go_sem,seval,AP]
   ·have hat:atR M (ET x)=z:=YQ hz hs (fun h=>by
     cases e:Fo M[z].nm x.nm with
     | false=>exact e
     | true=>exact absurd ⟨h,e⟩ hstop)
    rw [hat] at hst
    obtain ⟨H2,hH2⟩:∃H2,EH [(b3,FZ p.cu (Ag p.f) (Ag p.t) (.own c 5 0 M.length cap) (.nilsl 3) (.nilsl 9)),(b5,mB x),(b1,E6 p),(b2,zC),(c,.row 42 5 cap (EI M))]=H2:=⟨_,rfl⟩
    rw [hH2] at k3 k5 k1 k2 kc ha6
    rcases (by omega:z<M.length∨z=M.length) with hzl | hzl
    case' inl =>
     have hlt2:Op.bytesLess M[z].nm.toList x.nm.toList=false:=by
      cases e:Fo M[z].nm x.nm with
      | false=>exact e
      | true=>exact absurd ⟨hzl,e⟩ hstop
     have q1:=JX hzl
     rw [Int.toNat_natCast] at q1
     simp -implicitDefEqProofs -proj only [go_sem,seval,hH2,k3,k5,kc,decide_eq_true (show (z:Int)<M.length by omega),hzi,Nat.zero_add]
     refine BB (by omega) (fun _=>?_)
     refine EZ _ q1 (by simp) ?_
     simp -implicitDefEqProofs -proj only [go_sem,seval,k5,Qq,hlt2]
    case' inr =>
     simp -implicitDefEqProofs -proj only [go_sem,seval,hH2,k3,k5,decide_eq_false (show ¬(z:Int)<M.length by omega)]
    all_goals
     refine Aa (fun b7 hb7=>?_)
     replace hb7:H2 b7=none:=hb7
     have ha7:=JP (G8 (x:=mB (ET x)) hb7 ha6)
     obtain ⟨q3,q7,q5,q1',q2,qc,_⟩:=id ha7
     obtain ⟨H3,hH3⟩:∃H3,AI H2 b7 (some (mB (ET x)))=H3:=⟨_,rfl⟩
     rw [hH3] at q3 q7 q5 q1' q2 qc
     have hs7:mB (ET x) = .box 42 [Ey x.nm,Ey x.un,i64 x.mx,i64 0,i64 0]:=rfl
     rw [hs7] at hH3 q7
     simp -implicitDefEqProofs -proj only [go_sem,seval,AT,AK,hH3,q3,q7,EV,AS,Option.getD_none,Option.getD_some,hzi,hnl]
     refine BB (by omega) (fun _=>?_)
     try simp -implicitDefEqProofs -proj only [go_sem,seval,AT,AK,hH3,q3,q7,EV,AS,Option.getD_none,Option.getD_some,hzi,hnl]
     refine BB (by omega) (fun _=>?_)
     try simp -implicitDefEqProofs -proj only [go_sem,seval,q3,q7]
     refine J8 (ds:=(ET x).el) rfl (fun bs hs3=>?_)
     replace hs3:H3 bs=none:=hs3
     obtain ⟨y3,y3'⟩:=EG hs3 q3
     obtain ⟨y1,y1'⟩:=EG hs3 q1'
     obtain ⟨y2,y2'⟩:=EG hs3 q2
     obtain ⟨yc,yc'⟩:=EG hs3 qc
     simp -implicitDefEqProofs -proj only [go_sem,seval,Nat.sub_zero,Nat.zero_add]
     refine Ok (xs:=[(ET x).el]) (ys:=((EI M).drop z).take (M.length-z)) (AQN (by rw [←qc]; exact EN yc) (by rw [FL]; omega)) AK rfl rfl (by simp -implicitDefEqProofs only [List.length_take,List.length_drop,FL,List.length_singleton,maxLen]; omega) (fun b' cap' H5 h5 hfr=>?_)
     obtain ⟨u1,u2,u3⟩:=hfr c _ ((EN yc).trans qc) yc'
     obtain ⟨v3,v3',v3''⟩:=hfr b3 _ ((EN y3).trans q3) y3'
     obtain ⟨v1,v1',v1''⟩:=hfr b1 _ ((EN y1).trans q1') y1'
     obtain ⟨v2,v2',v2''⟩:=hfr b2 _ ((EN y2).trans q2) y2'
     have hdt:((EI M).drop z).take (M.length-z)=(EI M).drop z:=List.take_of_length_le (by rw [List.length_drop,FL]; exact Nat.le_refl _)
     rw [hdt] at h5 ⊢
     have hdl:1+((EI M).drop z).length=([(ET x).el]++(EI M).drop z).length:=by rw [List.length_append]; rfl
     have hdn:((EI M).drop z).length=M.length-z:=by rw [List.length_drop,FL]
     simp -implicitDefEqProofs -proj only [go_sem,seval,hdl]
     refine AN6 (xs:=EI M) (ys:=[(ET x).el]++(EI M).drop z) (ACm h5 rfl) u1 (by rw [FL]; exact hz) (fun e=>e) (by simp) (by rw [List.length_append,List.length_singleton]; omega) rfl (by rw [List.length_append,hdn]; simp -implicitDefEqProofs only [List.length_singleton,maxLen]; omega) (fun b'' cap'' hb''=>?_)
     have hce:(EI M).take z++([(ET x).el]++(EI M).drop z)=EI (FE (p.ms.map ET) (i+1)):=by
      rw [hst]; simp [EI,List.map_take,List.map_drop]
     have hln:z+([(ET x).el]++(EI M).drop z).length=(EI (FE (p.ms.map ET) (i+1))).length:=by
      rw [←hce]; simp -implicitDefEqProofs only [List.length_append,List.length_take,List.length_drop,FL,List.length_singleton]; omega
     have hne5:EI (FE (p.ms.map ET) (i+1))≠[]:=by rw [←hce]; simp
     have d3:¬b3=c:=fun e=>by rw [e,u1] at v3; cases v3
     have d1:¬b1=c:=fun e=>by rw [e,u1] at v1; cases v1
     have d2:¬b2=c:=fun e=>by rw [e,u1] at v2; cases v2
     have hbx:∀k x,H5 k=some x→¬k=c→¬b''=k:=fun k x hx hk e=>by
      have hq:AI H5 c none b''=none:=hb''
      rw [e,EN (fun e=>hk e.symm),hx] at hq
      cases hq
     have f3:=hbx b3 _ v3 d3
     have f1:=hbx b1 _ v1 d1
     have f2:=hbx b2 _ v2 d2
     rw [hce,hln]
     obtain ⟨H4,hH4⟩:∃H4,AI (AI H5 c none) b'' (some (.row 42 5 cap'' (EI (FE (p.ms.map ET) (i+1)))))=H4:=⟨_,rfl⟩
     have a4:Al H4 [(b3,FZ p.cu (Ag p.f) (Ag p.t) (.own c 5 0 M.length cap) (.nilsl 3) (.nilsl 9)),(b1,E6 p),(b2,zC),(b'',.row 42 5 cap'' (EI (FE (p.ms.map ET) (i+1))))]:=by
      rw [←hH4]
      exact ⟨by rw [EN f3,EN (fun e=>d3 e.symm)]; exact v3,by rw [EN f1,EN (fun e=>d1 e.symm)]; exact v1,by rw [EN f2,EN (fun e=>d2 e.symm)]; exact v2,AK,trivial⟩
     have hn4:(b3::b1::b2::[b'']).Nodup:=by simp [n31,n32,n12]; exact ⟨fun e=>f3 e.symm,fun e=>f1 e.symm,fun e=>f2 e.symm⟩
     obtain ⟨k3g,_⟩:=id a4
     simp -implicitDefEqProofs -proj only [go_sem,seval,hH4,k3g]
     refine EF (⟨i+1,b'',cap''⟩:KX) (And.intro (by show i+1≤p.ms.length; omega) (by rw [K3]; unfold G1; rw [Hn hne5]; exact hn4)) (by show p.ms.length-(i+1)<p.ms.length-i; omega) rfl ?_ (by rw [K3]; unfold G1; rw [Hn hne5,Fv hne5]; exact Mc a4 hn4)
     simp -implicitDefEqProofs -proj only [go_sem,seval,AP,Gz,i1]
 have hi':i=p.ms.length:=by omega
 subst hi'
 have hMS:FE (p.ms.map ET) p.ms.length=EY p:=rfl
 rw [hMS] at ha hn
 obtain ⟨mv,hmv⟩:∃mv,EM 5 5 c cap (EI (EY p))=mv:=⟨_,rfl⟩
 obtain ⟨RM,hRM⟩:∃R,G1 c cap (EY p)=R:=⟨_,rfl⟩
 have k1:=ha.2.1
 simp -implicitDefEqProofs -proj only [go_sem,seval,Gz,LC,K9,hH,k1,If,decide_eq_false (show ¬(p.ms.length:Int)<p.ms.length by omega)]
 have ha0:Al H (LS b1 b2 b3 p mv RM ⟨0,0,0⟩):=by
  rw [LN]
  show Al H (_::_::_::(RM++[]))
  rw [List.append_nil,←hmv,←hRM]
  exact ha
 have hn0:(EJ (LS b1 b2 b3 p mv RM ⟨0,0,0⟩)).Nodup:=by
  rw [LN]
  show (EJ (_::_::_::(RM++[]))).Nodup
  rw [List.append_nil,←hRM]
  exact hn
 refine EX (fun y:KX=>y.i≤p.fs.length∧(EJ (LS b1 b2 b3 p mv RM y)).Nodup) 152 (fun y=>[(1,.ptr b1 0),(2,.ptr b2 0),(3,.ptr b3 0),(76,.d (.sl 10 (Fy p.fs))),(77,i64 p.fs.length),(78,i64 y.i)]) (LS b1 b2 b3 p mv RM) (fun y=>p.fs.length-y.i) ⟨0,0,0⟩ ⟨Nat.zero_le _,hn0⟩ rfl ?_ ha0 ?_
 ·simp -implicitDefEqProofs -proj only [go_sem,seval,AP,Gz,If]
 have hMne:p.cs≠[]→∃cM kM,mv = .own cM 5 0 (EY p).length kM∧RM=[(cM,.row 42 5 kM (EI (EY p)))]:=fun hne=>by
  obtain ⟨c0,hc0⟩:∃c0,c0∈p.cs:=List.exists_mem_of_ne_nil _ hne
  obtain ⟨j,hj,rfl⟩:=List.getElem_of_mem hc0
  obtain ⟨k,hk,_⟩:=Nc (Kc (ok.cs j hj)).2.1
  have hm:EI (EY p)≠[]:=fun e=>by
   have:(EI (EY p)).length=0:=by rw [e]; rfl
   rw [FL] at this; omega
  exact ⟨c,cap,by rw [←hmv,Fv hm,FL],by rw [←hRM]; unfold G1; exact Hn hm⟩
 have hRl:∀{G:Heap},Al G RM→LendV G mv (.d (.sl 5 (EI (EY p)))):=fun {G} hg=>by
  rw [←hmv]; rw [←hRM] at hg; exact Ki hg
 clear ha hn ha0 hn0 k1 hH hi hlt hmv hRM H c cap
 rintro ⟨i,c,cap⟩ ⟨hi,hn⟩
 simp -implicitDefEqProofs only [Gz] at hi
 obtain ⟨H,hH⟩:∃H,EH (LS b1 b2 b3 p mv RM ⟨i,c,cap⟩)=H:=⟨_,rfl⟩
 have ha:=FV (l:=LS b1 b2 b3 p mv RM ⟨i,c,cap⟩) hn
 rw [LN] at hn
 rw [hH,LN] at ha
 by_cases hlt:i<p.fs.length
 ·have hel:=P3 hlt
  have hd:=hdays p.fs[i].w (h.fs _ (List.getElem_mem hlt)).2
  have hst:(p.fs.take (i+1)).map (GP p)=(p.fs.take i).map (GP p)++[GP p p.fs[i]]:=by rw [List.take_succ_eq_append_getElem hlt,List.map_append]; rfl
  have hll:((p.fs.take i).map (GP p)).length=i:=by rw [List.length_map,List.length_take]; omega
  generalize hSS:(p.fs.take i).map (GP p)=SS at ha hn hst hll
  generalize p.fs[i]=x at hel hd hst
  have i1:=Ed (show i<9223372036854775807 by omega)
  simp -implicitDefEqProofs -proj only [go_sem,seval,Gz,LC,K9,hH,decide_eq_true (show (i:Int)<p.fs.length by omega)]
  refine Eh _ (by omega) hel ?_
  simp -implicitDefEqProofs -proj only [go_sem,seval]
  refine Aa (fun b9 hb9=>?_)
  replace hb9:H b9=none:=hb9
  have ha9:=JP (G8 (x:=.box 93 [i64 x.am,bv x.w.has,i64 x.w.f.y,i64 x.w.f.m,i64 x.w.f.d,i64 x.w.t.y,i64 x.w.t.m,i64 x.w.t.d,i64 x.ln,i64 x.co]) hb9 ha)
  obtain ⟨k3,k9,k1,k2,hrows⟩:=id ha9
  obtain ⟨H2,hH2⟩:∃H2,AI H b9 (some (.box 93 [i64 x.am,bv x.w.has,i64 x.w.f.y,i64 x.w.f.m,i64 x.w.f.d,i64 x.w.t.y,i64 x.w.t.m,i64 x.w.t.d,i64 x.ln,i64 x.co]))=H2:=⟨_,rfl⟩
  rw [hH2] at k3 k9 k1 k2 hrows
  simp -implicitDefEqProofs -proj only [go_sem,seval,AT,AK,hH2,k1,k9]
  refine AQ hd ?_
  simp -implicitDefEqProofs -proj only [go_sem,seval,k3,k9]
  refine EL (fun bs hbs=>?_)
  replace hbs:H2 bs=none:=hbs
  simp -implicitDefEqProofs -proj only [go_sem,seval]
  refine Gg (xs:=FH SS) (y:=[.int .i64 x.am,.int .i64 (wF p x.w),.int .i64 (wT p x.w)]) (t:=59) (capc:=1) ([(b3,FZ p.cu (Ag p.f) (Ag p.t) mv (EM 3 3 c cap (FH SS)) (.nilsl 9)),(b1,E6 p),(b2,zC)]++RM) rfl (Eq hbs (Sk (A:=[_,_,_]) ⟨k3,k1,k2,hrows⟩)) ((Mk (A:=[(b3,FZ p.cu (Ag p.f) (Ag p.t) mv (EM 3 3 c cap (FH SS)) (.nilsl 9)),(b1,E6 p),(b2,zC)])).1 hn) (by simp -implicitDefEqProofs -proj only [go_sem,seval]; try rfl) (by rw [I7]; omega) (by rw [I7]; omega) (fun H' c4 k4 ha2 hn2=>?_)
  have hsn:FH SS++[[.int .i64 x.am,.int .i64 (wF p x.w),.int .i64 (wT p x.w)]]=FH ((p.fs.take (i+1)).map (GP p)):=by rw [hst]; exact AQO (x:=GP p x)
  have hne:FH ((p.fs.take (i+1)).map (GP p))≠[]:=by rw [←hsn]; simp
  have hlen:(FH SS).length+1=(FH ((p.fs.take (i+1)).map (GP p))).length:=by rw [←hsn,List.length_append,List.length_singleton]
  rw [hsn] at ha2 hn2
  have ha:=QM ha2
  have hn:=Mk.2 hn2
  have k3:=ha.1
  rw [hlen]
  simp -implicitDefEqProofs -proj only [go_sem,seval,k3]
  refine EF (⟨i+1,c4,k4⟩:KX) (And.intro (by show i+1≤p.fs.length; omega) (by rw [LN]; exact hn)) (by show p.fs.length-(i+1)<p.fs.length-i; omega) rfl ?_ (by rw [LN,Fv hne]; exact Mc ha hn)
  simp -implicitDefEqProofs -proj only [go_sem,seval,AP,Gz,i1]
 have hi':i=p.fs.length:=by omega
 rw [hi',List.take_length] at ha hn
 obtain ⟨sv,hsv⟩:∃sv,EM 3 3 c cap (FH (p.fs.map (GP p)))=sv:=⟨_,rfl⟩
 obtain ⟨RS,hRS⟩:∃R,PV c cap (p.fs.map (GP p))=R:=⟨_,rfl⟩
 have k1:=ha.2.1
 simp -implicitDefEqProofs -proj only [go_sem,seval,Gz,LC,K9,hH,k1,Ix,decide_eq_false (show ¬(i:Int)<p.fs.length by omega)]
 have ha0:Al H (KR b1 b2 b3 p mv sv (RM++RS) ⟨0,0,0⟩):=by
  rw [LB]
  show Al H (_::_::_::((RM++RS)++[]))
  rw [List.append_nil,←hsv,←hRS]
  exact ha
 have hn0:(EJ (KR b1 b2 b3 p mv sv (RM++RS) ⟨0,0,0⟩)).Nodup:=by
  rw [LB]
  show (EJ (_::_::_::((RM++RS)++[]))).Nodup
  rw [List.append_nil,←hRS]
  exact hn
 refine EX (fun y:KX=>y.i≤p.cs.length∧(EJ (KR b1 b2 b3 p mv sv (RM++RS) y)).Nodup) 152 (fun y=>[(1,.ptr b1 0),(2,.ptr b2 0),(3,.ptr b3 0),(101,.d (.sl 16 (Fr p.cs))),(102,i64 p.cs.length),(103,i64 y.i)]) (KR b1 b2 b3 p mv sv (RM++RS)) (fun y=>p.cs.length-y.i) ⟨0,0,0⟩ ⟨Nat.zero_le _,hn0⟩ rfl ?_ ha0 ?_
 ·simp -implicitDefEqProofs -proj only [go_sem,seval,AP,Gz,Ix]
 have hRs:∀{G:Heap},Al G RS→LendV G sv (.d (.sl 3 (FH (p.fs.map (GP p))))):=fun {G} hg=>by
  rw [←hsv]; rw [←hRS] at hg; exact Ki hg
 clear ha hn ha0 hn0 k1 hH hi hlt hsv hRS hi' H c cap i
 rintro ⟨i,c,cap⟩ ⟨hi,hn⟩
 simp -implicitDefEqProofs only [Gz] at hi
 obtain ⟨H,hH⟩:∃H,EH (KR b1 b2 b3 p mv sv (RM++RS) ⟨i,c,cap⟩)=H:=⟨_,rfl⟩
 have ha:=FV (l:=KR b1 b2 b3 p mv sv (RM++RS) ⟨i,c,cap⟩) hn
 rw [LB] at hn
 rw [hH,LB] at ha
 by_cases hlt:i<p.cs.length
 ·have hel:=Mp hlt
  have hmem:=List.getElem_mem hlt
  have hd:=hdays p.cs[i].w (h.cs _ hmem).w
  have hlens:=hta _ hmem
  have hst:(p.cs.take (i+1)).map (GF p)=(p.cs.take i).map (GF p)++[GF p p.cs[i]]:=by rw [List.take_succ_eq_append_getElem hlt,List.map_append]; rfl
  have hll:((p.cs.take i).map (GF p)).length=i:=by rw [List.length_map,List.length_take]; omega
  obtain ⟨kk,hkk,hke⟩:=Nc (Kc (ok.cs i hlt)).2.1
  obtain ⟨cM,kM,rfl,rfl⟩:=hMne (fun e=>by rw [e] at hlt; exact absurd hlt (Nat.not_lt_zero _))
  simp -implicitDefEqProofs only [List.singleton_append,List.cons_append,List.nil_append] at ha hn hH
  generalize hSS:(p.cs.take i).map (GF p)=SS at ha hn hst hll
  generalize p.cs[i]=x at hel hd hst hlens hke
  have i1:=Ed (show i<9223372036854775807 by omega)
  simp -implicitDefEqProofs -proj only [go_sem,seval,Gz,LC,K9,hH,decide_eq_true (show (i:Int)<p.cs.length by omega)]
  refine Eh _ (by omega) hel ?_
  simp -implicitDefEqProofs -proj only [go_sem,seval]
  refine Aa (fun b13 hb13=>?_)
  replace hb13:H b13=none:=hb13
  have hn13:=Kb (y:=FZ p.cu (Ag p.f) (Ag p.t) (.own cM 5 0 (EY p).length kM) sv (EM 9 9 c cap (E1 SS))) hn (Ih hb13 ha)
  have ha13:=JP (G8 (x:=Fw x.me x.w x.al x.bl x.ki (Fb x.ts) x.mo (GB x.ad) x.ln x.co) hb13 ha)
  have k1:=ha13.2.2.1
  have k13:=ha13.2.1
  obtain ⟨H2,hH2⟩:∃H2,AI H b13 (some (Fw x.me x.w x.al x.bl x.ki (Fb x.ts) x.mo (GB x.ad) x.ln x.co))=H2:=⟨_,rfl⟩
  rw [hH2] at k1 k13 ha13
  simp -implicitDefEqProofs -proj only [go_sem,seval,AT,AK,hH2,k1,k13]
  refine AQ hd ?_
  simp -implicitDefEqProofs -proj only [go_sem,seval]
  refine EX (fun z:Nat=>z≤kk∧Eg ((EY p).drop z) x.me z=(kk:Nat)) 152 (fun z=>[(1,.ptr b1 0),(2,.ptr b2 0),(3,.ptr b3 0),(101,.d (.sl 16 (Fr p.cs))),(102,i64 p.cs.length),(103,i64 i),(13,.ptr b13 0),(14,i64 (wF p x.w)),(15,i64 (wT p x.w)),(16,i64 z)]) (fun _=>(b3,FZ p.cu (Ag p.f) (Ag p.t) (.own cM 5 0 (EY p).length kM) sv (EM 9 9 c cap (E1 SS)))::(b13,Fw x.me x.w x.al x.bl x.ki (Fb x.ts) x.mo (GB x.ad) x.ln x.co)::(b1,E6 p)::(b2,zC)::((cM,.row 42 5 kM (EI (EY p)))::(RS++MM c cap SS))) (fun z=>kk-z) 0 ⟨Nat.zero_le _,hke⟩ rfl ?_ ha13 ?_
  ·simp -implicitDefEqProofs -proj only [go_sem,seval,AP]
  clear ha ha13 k1 k13 hH2 hb13 hH H2 H
  rintro z ⟨hz,hze⟩
  have ha6:=FV (l:=(b3,FZ p.cu (Ag p.f) (Ag p.t) (.own cM 5 0 (EY p).length kM) sv (EM 9 9 c cap (E1 SS)))::(b13,Fw x.me x.w x.al x.bl x.ki (Fb x.ts) x.mo (GB x.ad) x.ln x.co)::(b1,E6 p)::(b2,zC)::((cM,.row 42 5 kM (EI (EY p)))::(RS++MM c cap SS))) hn13
  obtain ⟨k3,k13,k1,k2,kM',_⟩:=id ha6
  have hzl:z<(EY p).length:=by omega
  have hmsl:(EY p).length≤p.ms.length:=Ll _
  have hzi:((z:Int)).toNat=z:=Int.toNat_natCast _
  have q1:=JX hzl
  rw [Int.toNat_natCast] at q1
  rw [List.drop_eq_getElem_cons hzl,Eg] at hze
  generalize (EY p)[z]=m at q1 hze
  cases e:(m.nm.toList == x.me.toList) with
  | false =>
   rw [e,if_neg (by decide)] at hze
   have hzk:z<kk:=by
    rcases Nat.lt_or_ge z kk with a | a
    ·exact a
    ·exfalso
     rcases KU ((EY p).drop (z+1)) x.me (z+1) with b | ⟨j,_,b,_⟩ <;> rw [hze] at b <;> omega
   simp -implicitDefEqProofs -proj only [go_sem,seval,k3,k13,kM',hzi,Nat.zero_add]
   refine BB (by omega) (fun _=>?_)
   refine EZ _ q1 (Nat.zero_lt_succ _) ?_
   simp -implicitDefEqProofs -proj only [go_sem,seval,k13,Rn,e,Bool.not_false,Ed (show z<9223372036854775807 by omega)]
   refine EF (z+1) (And.intro (by omega) hze) (by show kk-(z+1)<kk-z; omega) rfl ?_ ha6
   simp -implicitDefEqProofs -proj only [go_sem,seval,AP,Ed (show z<9223372036854775807 by omega)]
  | true =>
   rw [e,if_pos rfl] at hze
   have hzk:z=kk:=by omega
   obtain ⟨H2,hH2⟩:∃H2,EH ((b3,FZ p.cu (Ag p.f) (Ag p.t) (.own cM 5 0 (EY p).length kM) sv (EM 9 9 c cap (E1 SS)))::(b13,Fw x.me x.w x.al x.bl x.ki (Fb x.ts) x.mo (GB x.ad) x.ln x.co)::(b1,E6 p)::(b2,zC)::((cM,.row 42 5 kM (EI (EY p)))::(RS++MM c cap SS)))=H2:=⟨_,rfl⟩
   rw [hH2] at k3 k13 k1 k2 kM' ha6
   simp -implicitDefEqProofs -proj only [go_sem,seval,hH2,k3,k13]
   refine BB (by omega) (fun _=>?_)
   simp -implicitDefEqProofs -proj only [go_sem,seval,hH2,kM',hzi,Nat.zero_add]
   refine EZ _ q1 (Nat.zero_lt_succ _) ?_
   simp -implicitDefEqProofs -proj only [go_sem,seval,k3,k13,Rn,e,Bool.not_true]
   refine J8 (ds:=[]) rfl (fun bT0 hT0=>?_)
   replace hT0:H2 bT0=none:=hT0
   have nT0:=Ih hT0 ha6
   have a1:=Eq (y:=some (.row 62 2 0 (Ad 2 0 []))) hT0 ha6
   simp -implicitDefEqProofs -proj only [go_sem,seval]
   refine Ok (xs:=[]) (ys:=Ee x.ts) (fun K=>rfl) (by exact AK) rfl rfl (by rw [FP]; simp -implicitDefEqProofs only [List.length_nil,maxLen]; omega) (fun bT capT H3 h3 hfr1=>?_)
   obtain ⟨a2,nT⟩:=SM hfr1 a1 nT0
   simp -implicitDefEqProofs -proj only [go_sem,seval,FP]
   refine J8 (ds:=[]) rfl (fun bA0 hA0=>?_)
   replace hA0:H3 bA0=none:=hA0
   have nA0:=Ih hA0 a2
   have a3:=Eq (y:=some (.row 70 3 0 (Ad 3 0 []))) hA0 a2
   obtain ⟨r1,r2⟩:=EG hA0 h3
   simp -implicitDefEqProofs -proj only [go_sem,seval]
   refine Ok (xs:=[]) (ys:=Ex x.ad) (fun K=>rfl) (by exact AK) rfl rfl (by rw [GT]; simp -implicitDefEqProofs only [List.length_nil,maxLen]; omega) (fun bA capA H5 h5 hfr2=>?_)
   obtain ⟨a4,nA⟩:=SM hfr2 a3 nA0
   obtain ⟨h3',s1,s2⟩:=hfr2 bT _ ((EN r1).trans h3) r2
   rw [List.nil_append] at h3' h5
   have a5:=LW (y:=none) (LW (y:=none) a4 nT) nA
   simp -implicitDefEqProofs -proj only [go_sem,seval,GT,FP,h3',h5,Nat.zero_add,s1,s2]
   refine EL (fun bs hbs=>?_)
   replace hbs:AI (AI H5 bT none) bA none bs=none:=hbs
   obtain ⟨g3,g13,g1,g2,grows⟩:=id a5
   simp -implicitDefEqProofs -proj only [go_sem,seval]
   refine Gg (xs:=E1 SS) (y:=[.int .i64 z,.int .i64 (wF p x.w),.int .i64 (wT p x.w),.int .i64 x.al,.int .i64 x.bl,.int .i64 x.ki,.sl 2 (Ee x.ts),.int .i64 x.mo,.sl 3 (Ex x.ad)]) (t:=39) (capc:=1) ([(b3,FZ p.cu (Ag p.f) (Ag p.t) (.own cM 5 0 (EY p).length kM) sv (EM 9 9 c cap (E1 SS))),(b1,E6 p),(b2,zC)]++((cM,.row 42 5 kM (EI (EY p)))::RS)) rfl (Eq hbs (Sk (A:=[_,_,_]) (R:=(cM,.row 42 5 kM (EI (EY p)))::RS) ⟨g3,g1,g2,grows⟩)) ((Mk (A:=[(b3,FZ p.cu (Ag p.f) (Ag p.t) (.own cM 5 0 (EY p).length kM) sv (EM 9 9 c cap (E1 SS))),(b1,E6 p),(b2,zC)]) (R:=(cM,.row 42 5 kM (EI (EY p)))::RS)).1 hn) (by simp -implicitDefEqProofs -proj only [go_sem,seval]; try rfl) (by rw [Iz]; omega) (by rw [Iz]; omega) (fun H' c4 k4 ha2 hn2=>?_)
   have hsn:E1 SS++[[.int .i64 z,.int .i64 (wF p x.w),.int .i64 (wT p x.w),.int .i64 x.al,.int .i64 x.bl,.int .i64 x.ki,.sl 2 (Ee x.ts),.int .i64 x.mo,.sl 3 (Ex x.ad)]]=E1 ((p.cs.take (i+1)).map (GF p)):=by
    rw [hst,←ABI]
    have:(GF p x).me=z:=by
     show Eg (EY p) x.me 0=z
     rw [hke,hzk]
    simp -implicitDefEqProofs only [PartX.el,this]
    rfl
   have hne:E1 ((p.cs.take (i+1)).map (GF p))≠[]:=by rw [←hsn]; simp
   have hlen:(E1 SS).length+1=(E1 ((p.cs.take (i+1)).map (GF p))).length:=by rw [←hsn,List.length_append,List.length_singleton]
   rw [hsn] at ha2 hn2
   have ha:=QM ha2
   have hn:=Mk.2 hn2
   have k3:=ha.1
   rw [hlen]
   simp -implicitDefEqProofs -proj only [go_sem,seval,k3]
   refine EF (⟨i+1,c4,k4⟩:KX) (And.intro (by show i+1≤p.cs.length; omega) (by rw [LB]; exact hn)) (by show p.cs.length-(i+1)<p.cs.length-i; omega) rfl ?_ (by rw [LB,Fv hne]; exact Mc ha hn)
   simp -implicitDefEqProofs -proj only [go_sem,seval,AP,Gz,i1]
 have hi':i=p.cs.length:=by omega
 rw [hi',List.take_length] at ha hn
 obtain ⟨k3,k1,k2,hrows⟩:=id ha
 simp -implicitDefEqProofs -proj only [go_sem,seval,Gz,LC,K9,hH,k3,k2,decide_eq_false (show ¬(i:Int)<p.cs.length by omega)]
 have hrk:=Su (x:=FZ p.cu (Ag p.f) (Ag p.t) mv sv (EM 9 9 c cap (E1 (p.cs.map (GF p))))) hrows (List.nodup_cons.1 (List.nodup_cons.1 (List.nodup_cons.1 hn).2).2).1
 obtain ⟨r12,r3⟩:=Ec.1 hrk
 obtain ⟨r1,r2⟩:=Ec.1 r12
 exact Ne (hRl r1) (hRs r2) (Ki r3)
theorem Qx:∀(f:Nat) {ts:List Tier} {p:PS},ts.length≤p.ix→(HW f ts p).1.length≤(HW f ts p).2.ix
 | 0,ts,p,h=>h
 | f+1,ts,p,h=>by
  rw [HW]
  split
  ·next g =>
   have:=(Oz g).2
   exact Qx f (by rw [List.length_append,List.length_singleton]; omega)
  ·exact h
theorem Rv:∀(f:Nat) {l:List Adj} {p:PS},l.length≤p.ix→(G4 f l p).1.length≤(G4 f l p).2.ix
 | 0,l,p,h=>h
 | f+1,l,p,h=>by
  rw [G4]
  split
  ·exact h
  ·next g =>
   obtain ⟨g1,g2,g3⟩:=OT g
   have:=(Ph (q:=(EO p 0 adjsL).2) g2).1.ix
   rw [g3] at this
   have h1:p.next.ix=p.ix+1:=rfl
   refine Rv f ?_
   rw [List.length_append,List.length_singleton,g3]
   omega
theorem ADN {ln co:Int} {p:PS} (h:p.ok):(GD ln co p).1.ts.length≤1000000∧(GD ln co p).1.ad.length≤1000000:=by
 have hx:=charge_ext (ln:=ln) (co:=co) (p:=p)
 have hok:=hx.ok h
 have hl:=hok.lt
 have hl2:=hok.tk.ln
 have e1:=Qx ((Gm p).l.length-(Gm p).ix) (ts:=[]) (p:=Gm p) (Nat.zero_le _)
 generalize hT:HW ((Gm p).l.length-(Gm p).ix) [] (Gm p)=T at e1
 have e2:=Rv ((GG T.2).l.length-(GG T.2).ix) (l:=[]) (p:=GG T.2) (Nat.zero_le _)
 have e3:=(restE_ext (p:=T.2)).ix
 have e4:=(ND ((GG T.2).l.length-(GG T.2).ix) (l:=[]) (p:=GG T.2) (fun t h=>by cases h)).1.ix
 have e5:=(want_ext (s:=Id) (p:=(G4 ((GG T.2).l.length-(GG T.2).ix) [] (GG T.2)).2)).ix
 have hq:(GD ln co p).2=EP Id (G4 ((GG T.2).l.length-(GG T.2).ix) [] (GG T.2)).2:=by unfold GD; rw [hT]; rfl
 have ht:(GD ln co p).1.ts=T.1++[⟨0,(Mj T.2).1⟩]:=by unfold GD; rw [hT]; rfl
 have had:(GD ln co p).1.ad=(G4 ((GG T.2).l.length-(GG T.2).ix) [] (GG T.2)).1:=by unfold GD; rw [hT]; rfl
 rw [hq] at hl hl2
 rw [ht,had,List.length_append,List.length_singleton]
 omega
def Tk (c:ChX):Prop:=c.ts.length≤1000000∧c.ad.length≤1000000
theorem MG:∀(f:Nat) {ms:List MeterX} {fs:List FeeX} {cs:List ChX} {p:PS},p.ok→ms.length+fs.length+cs.length≤p.ix→(∀c∈cs,Tk c)→(F6 f ms fs cs p).ms.length+(F6 f ms fs cs p).fs.length+(F6 f ms fs cs p).cs.length≤(F6 f ms fs cs p).p.ix∧∀c∈(F6 f ms fs cs p).cs,Tk c
 | 0,ms,fs,cs,p,ho,h,hc=>⟨h,hc⟩
 | f+1,ms,fs,cs,p,ho,h,hc=>by
  obtain ⟨h1,h2,h3,h4⟩:=HP (p:=p) itemsL 0
  have hp:=h1.ok ho
  have hn:p.next.ix=p.ix+1:=rfl
  rw [F6]
  split
  ·split
   ·next g1 =>
    have hx:=met_ext (ln:=(EU p).ln) (co:=(EU p).co) (p:=(EO p 0 itemsL).2)
    have hi:=hx.ix
    rw [(h4 (by omega)).1] at hi hx hp ⊢
    exact MG f (hx.ok hp) (by rw [List.length_append,List.length_singleton]; omega) hc
   ·split
    ·next g2 =>
     have hx:=fee_ext (ln:=(EU p).ln) (co:=(EU p).co) (p:=(EO p 0 itemsL).2)
     have hi:=hx.ix
     rw [(h4 (by omega)).1] at hi hx hp ⊢
     exact MG f (hx.ok hp) (by rw [List.length_append,List.length_singleton]; omega) hc
    ·split
     ·next g3 =>
      have hx:=charge_ext (ln:=(EU p).ln) (co:=(EU p).co) (p:=(EO p 0 itemsL).2)
      have hcl:=ADN (ln:=(EU p).ln) (co:=(EU p).co) hp
      have hi:=hx.ix
      rw [(h4 (by omega)).1] at hi hx hp hcl ⊢
      exact MG f (hx.ok hp) (by rw [List.length_append,List.length_singleton]; omega) (Ln hc hcl)
     ·have hi:=h1.ix
      have hw:=Jk (e:=4) (p:=(EO p 0 itemsL).2)
      exact MG f ((GW (by decide)).1.ok hp) (by rw [hw.1]; omega) hc
  ·exact ⟨h,hc⟩
theorem Rr {s:ByteArray} (h:(FR s).er=0):LenOK (FR s).p:=by
 unfold FR at h ⊢
 by_cases g:(G0 s).er=0
 rotate_left
 ·rw [if_neg g] at h; exact absurd h g
 rw [if_pos g] at h ⊢
 have htk:=OX g
 generalize (G0 s).l=l at h htk ⊢
 have o0:=P6 htk
 unfold NM at h ⊢
 by_cases g2:(JQ l).p.er=0
 rotate_left
 ·rw [if_neg g2] at h; exact absurd h g2
 rw [if_pos g2]
 have o1:(Mx l).ok:=want_ext.ok o0
 have o2:(Lv l).2.ok:=(HI (by decide)).ok o1
 have o3:(J2 l).2.ok:=(HI (by decide)).ok (want_ext.ok o2)
 have o4:(EP Kq (EP En (J2 l).2)).ok:=want_ext.ok (want_ext.ok o3)
 have o5:(LE l).2.ok:=day_ext.ok o4
 have o6:(HS l).ok:=want_ext.ok (day_ext.ok o5)
 have ob:(JQ l).p.ok:=(Jf (GI (HS l)) (ms:=[]) (fs:=[]) (cs:=[]) (p:=HS l)).ok o6
 obtain ⟨k1,k2⟩:=MG (GI (HS l)) (ms:=[]) (fs:=[]) (cs:=[]) o6 (Nat.zero_le _) (fun c hc=>by cases hc)
 have b1:=ob.lt
 have b2:=ob.tk.ln
 have e:JQ l=F6 (GI (HS l)) [] [] [] (HS l):=rfl
 rw [←e] at k1 k2
 exact ⟨by show (JQ l).ms.length≤1000000; omega,by show (JQ l).fs.length≤1000000; omega,by show (JQ l).cs.length≤1000000; omega,fun c hc=>(k2 c hc).1,fun c hc=>(k2 c hc).2⟩
theorem Uu {p:PlanX}:(EY p).length≤p.ms.length:=Ll _
theorem SA {p:PlanX} {k:Nat} (hk:k<(EY p).length):∃j,∃h:j<p.ms.length,(EY p)[k]=ET p.ms[j]:=by
 have hF:=L0 (L:=p.ms.map ET) (n:=p.ms.length) (by rw [List.length_map]; exact Nat.le_refl _)
 have hm:=List.mem_of_find?_eq_some (hF.fst _ (List.getElem_mem hk))
 have hm2:=List.mem_of_mem_take hm
 obtain ⟨x,hx,e⟩:=List.mem_map.1 hm2
 obtain ⟨j,hj,rfl⟩:=List.getElem_of_mem hx
 exact ⟨j,hj,e.symm⟩
theorem AHG {p:PlanX}:(EY p).Pairwise NX:=(L0 (L:=p.ms.map ET) (n:=p.ms.length) (by rw [List.length_map]; exact Nat.le_refl _)).ord
theorem Ql {p:PlanX} {w:WinX} (h:G5 p w) (hd:Ag p.f≤Ag p.t):Ag p.f≤wF p w∧wF p w≤wT p w∧wT p w≤Ag p.t:=by
 unfold wF wT
 rcases h with e | ⟨h1,h2,h3⟩
 ·rw [e]; simp; exact hd
 ·cases w.has with
  | false=>simp; exact hd
  | true=>simp; omega
theorem UD {T:List Tier} (hr:JH T) (h:∃m r,T=m++[(⟨0,r⟩:Tier)]∧(0≤r∧r≤1000000000000)∧∀t∈m,K7 t):JG T∧1≤T.length:=by
 obtain ⟨m,r,e,hr0,hm⟩:=h
 have hl:T.length=m.length+1:=by rw [e,List.length_append,List.length_singleton]
 have hlast:∀(i:Nat) (hi:i<T.length),i+1=T.length→T[i]=⟨0,r⟩:=fun i hi hq=>by
  have:i=m.length:=by omega
  subst this
  simp [e]
 have hin:∀(i:Nat) (hi:i<T.length),¬i+1=T.length→K7 T[i]:=fun i hi hq=>by
  have hlt:i<m.length:=by omega
  have:T[i]=m[i]:=by simp [e,List.getElem_append_left hlt]
  rw [this]; exact hm _ (List.getElem_mem hlt)
 refine ⟨fun i hi=>?_,by omega⟩
 by_cases hq:i+1=T.length
 ·obtain ⟨q1,q2⟩:=S5 hq
  unfold HX
  rw [q1,q2,hlast i hi hq]
  exact ⟨hr0,Int.le_refl _,Int.le_refl _⟩
 ·have hp:=hin i hi hq
  have hri:=hr i (by omega)
  unfold HX
  refine ⟨hp.2,?_⟩
  by_cases h0:i=0
  ·subst h0
   obtain ⟨q1,q2⟩:=PO hq
   rw [q1,q2]
   exact ⟨hri.1,hp.1.2⟩
  ·have hp1:i-1<T.length:=by omega
   have hrp:=hr (i-1) (by omega)
   have hpp:=hin (i-1) hp1 (by omega)
   obtain ⟨q1,q2⟩:=NO (by omega) hp1 hq hrp.1
   rw [q1,q2]
   have h2:=hri.2 (by omega)
   have h3:=hpp.1
   exact ⟨by omega,hp.1.2⟩
theorem QL {p:PlanX} (h:GoodPl p) (ok:PlanOK p) {j:Nat} (hj:j<p.cs.length):IU (Ag p.f) (Ag p.t) (EY p).length (GF p p.cs[j]):=by
 have hc:=h.cs _ (List.getElem_mem hj)
 obtain ⟨e1,e2,e3,e4,e5,e6,e7⟩:=Kc (ok.cs j hj)
 obtain ⟨k,hk,hke⟩:=Nc e2
 obtain ⟨t1,t2⟩:=UD e6 hc.ts
 have hw:=Ql e3 ok.d.1
 refine ⟨⟨by show 0≤Eg (EY p) p.cs[j].me 0; omega,by show Eg (EY p) p.cs[j].me 0<_; omega,hw,hc.al,⟨by have:=hc.bl; show 1≤p.cs[j].bl; omega,hc.bl.2⟩,hc.ki,hc.mo,t2,e5,e7⟩,t1,hc.ad⟩
theorem SC {p:PlanX} (h:GoodPl p) (ok:PlanOK p):goodC (Gp p):=by
 have n1:=NZ h.f
 have n2:=NZ h.t
 have l1:p.ms.length≤4:=by
  rcases Nat.lt_or_ge 4 p.ms.length with e | e
  ·have:=(ok.ms 4 e).1; omega
  ·exact e
 have l2:p.fs.length≤8:=by
  rcases Nat.lt_or_ge 8 p.fs.length with e | e
  ·have:=(ok.fs 8 e).1; omega
  ·exact e
 have l3:p.cs.length≤8:=by
  rcases Nat.lt_or_ge 8 p.cs.length with e | e
  ·have:=(Kc (ok.cs 8 e)).1; omega
  ·exact e
 have l4:=Uu (p:=p)
 have hd:=ok.d
 refine ⟨⟨n1,⟨hd.1,n2.2⟩,hd.2,by show (EY p).length≤4; omega,by show (p.fs.map (GP p)).length≤8; rw [List.length_map]; exact l2,by show (p.cs.map (GF p)).length≤8; rw [List.length_map]; exact l3⟩,fun i hi=>?_,fun s hs=>?_,fun x hx=>?_⟩
 ·have hi:i<(EY p).length:=hi
  obtain ⟨j,hj,e⟩:=SA hi
  have hm:=h.ms _ (List.getElem_mem hj)
  show KM (EY p) i (EY p)[i]
  refine ⟨by rw [e]; exact hm,by rw [e]; rfl,by rw [e]; rfl,fun q hq h0=>?_⟩
  obtain ⟨hq1,rfl⟩:=List.getElem?_eq_some_iff.1 hq
  exact List.pairwise_iff_getElem.1 AHG (i-1) i hq1 hi (by omega)
 ·obtain ⟨f,hf,rfl⟩:=List.mem_map.1 hs
  obtain ⟨j,hj,rfl⟩:=List.getElem_of_mem hf
  exact ⟨(h.fs _ hf).1,Ql (ok.fs j hj).2 hd.1⟩
 ·obtain ⟨c,hc,rfl⟩:=List.mem_map.1 hx
  obtain ⟨j,hj,rfl⟩:=List.getElem_of_mem hc
  exact QL h ok hj
theorem APh {p:PlanX} (h:GoodPl p) (ok:PlanOK p):(Gp p).Fit:=by
 have hg:=SC h ok
 obtain ⟨⟨a1,a2⟩,⟨a3,a4⟩,a5,a6,a7,a8⟩:=hg.hd
 refine ⟨by unfold Fit; omega,by unfold Fit; omega,fun m hm=>?_,by omega,fun s hs=>?_,by omega,fun x hx=>?_,by omega⟩
 ·obtain ⟨i,hi,rfl⟩:=List.getElem_of_mem hm
  obtain ⟨b1,b2,b3,_⟩:=hg.ms i hi
  exact ⟨by unfold Fit; omega,by unfold Fit; omega,by unfold Fit; omega⟩
 ·obtain ⟨b1,b2⟩:=hg.ss s hs
  exact ⟨by unfold Fit; omega,by unfold Fit; omega,by unfold Fit; omega⟩
 ·obtain ⟨⟨b1,b2,b3,b4,b5,b6,b7,b8,b9,b10⟩,t1,t2⟩:=hg.ps x hx
  have S:=Or t1
  refine ⟨by unfold Fit; omega,by unfold Fit; omega,by unfold Fit; omega,by unfold Fit; omega,by unfold Fit; omega,by unfold Fit; omega,fun t ht=>?_,by omega,by unfold Fit; omega,fun a ha=>?_,by omega⟩
  ·obtain ⟨i,hi,rfl⟩:=List.getElem_of_mem ht
   have q:=t1 i hi
   have r:=S.low i hi
   unfold HX at q
   obtain ⟨q1,q2,q3⟩:=q
   have hh:Iu x.ts i≤1000000:=by unfold Iu; split <;> omega
   have hl:0≤HK x.ts i:=by
    unfold HK
    split
    ·omega
    ·split
     ·split <;> omega
     ·omega
   exact ⟨by unfold Fit; omega,by unfold Fit; omega⟩
  ·have q:=t2 a ha
   unfold FY at q
   exact ⟨by unfold Fit; omega,by unfold Fit; omega,by unfold Fit; omega⟩
def Kn (p:PlanX) (j:Nat):Int:=match p.cs[j]? with
 | some c=>(Gn c.ts c.ad (Fc c.al c.bl (IO p.ms (Eg p.ms c.me 0)))).getD 0
 | none=>0
theorem QS {ms:List MeterX}:∀{cs:List ChX} {l l':List Int},(∀c∈cs,0≤Eg ms c.me 0)→IY ms cs l=some l'→(∀c∈cs,(Gn c.ts c.ad (Fc c.al c.bl (IO ms (Eg ms c.me 0)))).isSome=true)∧l'=l++cs.map fun c=>(Gn c.ts c.ad (Fc c.al c.bl (IO ms (Eg ms c.me 0)))).getD 0
 | [],l,l',_,h=>by
  rw [IY] at h; cases h
  exact ⟨fun c hc=>(by cases hc),by simp⟩
 | c::r,l,l',hm,h=>by
  have h0:=hm c (List.mem_cons_self ..)
  rw [IY,if_neg (by omega)] at h
  cases e:Gn c.ts c.ad (Fc c.al c.bl (IO ms (Eg ms c.me 0))) with
  | none=>rw [e] at h; cases h
  | some x =>
   rw [e] at h
   simp -implicitDefEqProofs only [] at h
   obtain ⟨i1,i2⟩:=QS (fun c hc=>hm c (List.mem_cons_of_mem _ hc)) h
   refine ⟨fun c' hc'=>?_,?_⟩
   ·rcases List.mem_cons.1 hc' with rfl | hc'
    ·rw [e]; rfl
    ·exact i1 c' hc'
   ·rw [i2,List.map_cons,e,Option.getD_some,List.append_assoc]; rfl
theorem T2 {g:Nat→Int} {l:List Int} (h:∀(j:Nat) (h:j<l.length),g j=l[j]):∀n,n≤l.length→sg g n=(l.take n).sum
 | 0,_=>rfl
 | n+1,hn=>by
  have hl:n<l.length:=by omega
  rw [sg,T2 h n (by omega),h n hl,List.take_succ_eq_append_getElem hl,List.sum_append]
  simp
theorem AGu {g:Nat→Int} {l:List Int} (h:∀(j:Nat) (h:j<l.length),g j=l[j]):sg g l.length=l.sum:=by
 have:=T2 h l.length (Nat.le_refl _)
 rwa [List.take_length] at this
theorem AQM {p:PlanX} (ok:PlanOK p) {nm:ByteArray} {k j:Nat} (hk:k<(EY p).length) (hke:Eg (EY p) nm 0=(k:Nat)) (hj:j<p.ms.length) (hje:Eg p.ms nm 0=(j:Nat)):(EY p)[k].mx=p.ms[j].mx:=by
 obtain ⟨k',hk',e1,e2⟩:=(KU (EY p) nm 0).resolve_left (by omega)
 obtain ⟨j',hj',e3,e4⟩:=(KU p.ms nm 0).resolve_left (by omega)
 have:k'=k:=by omega
 subst this
 have:j'=j:=by omega
 subst this
 obtain ⟨i,hi,e⟩:=SA hk
 have n1:(EY p)[k'].nm=nm:=N7 (by simpa using e2)
 have n2:p.ms[j'].nm=nm:=N7 (by simpa using e4)
 rw [e] at n1 ⊢
 have n3:p.ms[i].nm=nm:=n1
 have u1:=(ok.ms i hi).2
 have u2:=(ok.ms j' hj').2
 rw [n3] at u1
 rw [n2] at u2
 have:i=j':=by omega
 subst this
 rfl
theorem AGt {p:PlanX} (h:GoodPl p) (ok:PlanOK p) {most d:Int} {b:List Int} (hb:KS p=some most) (hd:Gc d (Ag p.f) (Ag p.t)) (hbk:IZ (Gp p) b):∃n,I0 (Gp p) d b=(n,0)∧0≤n∧n≤most:=by
 have hg:=SC h ok
 unfold KS at hb
 cases e:IY p.ms p.cs (p.fs.map (·.am)) with
 | none=>rw [e] at hb; cases hb
 | some l =>
  rw [e] at hb
  simp -implicitDefEqProofs only [] at hb
  have hcs:∀c∈p.cs,0≤Eg p.ms c.me 0:=fun c hc=>by
   obtain ⟨j,hj,rfl⟩:=List.getElem_of_mem hc
   exact (Kc (ok.cs j hj)).2.1
  obtain ⟨s1,s2⟩:=QS hcs e
  obtain ⟨b1,b2⟩:=Sv hb
  have hgl:sg (Kn p) p.cs.length=(p.cs.map fun c=>(Gn c.ts c.ad (Fc c.al c.bl (IO p.ms (Eg p.ms c.me 0)))).getD 0).sum:=by
   have:=AGu (g:=Kn p) (l:=p.cs.map fun c=>(Gn c.ts c.ad (Fc c.al c.bl (IO p.ms (Eg p.ms c.me 0)))).getD 0) (fun j hj=>by
    rw [List.length_map] at hj
    unfold Kn
    rw [List.getElem?_eq_getElem hj,List.getElem_map])
   rwa [List.length_map] at this
  refine AD5 (g:=Kn p) hg hd hbk (fun j hj=>?_) ?_ (b2 (by decide))
  ·have hj':j<p.cs.length:=by
    have:(Gp p).ps.length=p.cs.length:=List.length_map ..
    omega
   have hpe:(Gp p).ps[j]=GF p p.cs[j]:=List.getElem_map ..
   have hpk:=QL h ok hj'
   have hmem:=List.getElem_mem hj'
   have hc0:=hcs _ hmem
   obtain ⟨k,hk,hke⟩:=Nc hc0
   obtain ⟨i,hi,hie,_⟩:=(KU p.ms p.cs[j].me 0).resolve_left (by omega)
   rw [Nat.zero_add] at hie
   have hmx:=AQM ok hk hke hi hie
   have hmm:=h.ms _ (List.getElem_mem hi)
   have hq:0≤bq b (Eg (EY p) p.cs[j].me 0)∧bq b (Eg (EY p) p.cs[j].me 0)≤p.ms[i].mx:=by
    obtain ⟨q1,q2⟩:=hbk
    have hbl:k<b.length:=by
     have:b.length=(EY p).length:=q1
     omega
    have:=q2 k hbl hk
    have hbe:bq b (Eg (EY p) p.cs[j].me 0)=b[k]:=by
     unfold bq
     rw [hke,Int.toNat_natCast,List.getD_eq_getElem?_getD,List.getElem?_eq_getElem hbl,Option.getD_some]
    rw [hbe,←hmx]
    exact this
   have hme:(GF p p.cs[j]).me=Eg (EY p) p.cs[j].me 0:=rfl
   have hmxI:IO p.ms (Eg p.ms p.cs[j].me 0)=p.ms[i].mx:=by
    unfold IO
    rw [hie,Int.toNat_natCast,List.getElem?_eq_getElem hi]
   have hs:=s1 _ hmem
   rw [hmxI] at hs
   obtain ⟨y,hy⟩:=Option.isSome_iff_exists.1 hs
   have hgy:Kn p j=y:=by
    unfold Kn
    rw [List.getElem?_eq_getElem hj']
    simp -implicitDefEqProofs only []
    rw [hmxI,hy,Option.getD_some]
   rw [hpe,hme,hgy]
   exact Xz (x:=GF p p.cs[j]) (Tj hpk) hq.1 hq.2 hmm.2 hy
  ·have e1:((Gp p).ss.map (·.a))=p.fs.map (·.am):=by
    show ((p.fs.map (GP p)).map (·.a))=_
    rw [List.map_map]; rfl
   have e2:(Gp p).ps.length=p.cs.length:=List.length_map ..
   rw [e1,e2,hgl,b1,s2,List.sum_append]
   omega
theorem typed_stringV {n:Nat} {t:TypeId} {l:List D} (h:Ez Try.prog (n+1) t l) (ht:Try.prog.underlying t=some .string):∃s,l=[.str s]∧Gl Try.prog t l = .d (.str s):=by
 rw [Ez,ht] at h
 obtain ⟨s,rfl,_⟩:=h
 exact ⟨s,rfl,by simp [Gl,ht,Kx]⟩
def Sj:CoreX:=⟨⟨⟨[]⟩⟩,0,0,[],[],[]⟩
noncomputable def NF (s:ByteArray):CoreX:=if (FR s).er=0∧(In (FR s).p).1=0 then Gp (FR s).p else Sj
noncomputable def Ja (s:ByteArray):Int×Int×Int:=if (FR s).er=0 then (if (In (FR s).p).1=0 then (0,0,0) else In (FR s).p) else ((FR s).er,(FR s).ln,(FR s).co)
theorem Tt {H:Heap}:LendV H (.agg [Ey ⟨⟨[]⟩⟩,i64 0,i64 0,.nilsl 5,.nilsl 3,.nilsl 9]) (Jj Sj):=Ne (.nilsl _ _) (.nilsl _ _) (.nilsl _ _)
theorem Wa {s:ByteArray}:DataW Try.prog AOj [Ey s] (.tup [Jj (NF s),i64 (Ja s).1,i64 (Ja s).2.1,i64 (Ja s).2.2]):=by
 have hp:=RO (s:=s)
 have hg:=fun e=>S2 (s:=s) e
 have hl:=fun e=>Rr (s:=s) e
 unfold NF Ja
 unfold Pq at hp
 generalize FR s=R at hp hg hl ⊢
 obtain ⟨p,er,ln,co⟩:=R
 simp -implicitDefEqProofs only [] at hp hg hl ⊢
 refine A3 ADl (by simp) ?_
 simp -implicitDefEqProofs -proj only [go_sem,seval]
 refine Aa (fun b2 hb2=>?_)
 simp -implicitDefEqProofs -proj only [go_sem,seval]
 refine AQ hp ?_
 simp -implicitDefEqProofs -proj only [go_sem,seval]
 refine Aa (fun b6 hb6=>?_)
 replace hb6:AI Heap.none b2 _ b6=none:=hb6
 obtain ⟨n1,n2⟩:=EG hb6 AK
 by_cases g:er=0
 rotate_left
 ·rw [if_neg (fun k=>g k.1),if_neg g]
  simp -implicitDefEqProofs -proj only [go_sem,seval,n1,n2,AK,AT,decide_eq_false g,Bool.not_false]
  exact LendV.tupL (EK Tt (EK (.refl _) (EK (.refl _) (EK (.refl _) G9))))
 have hgp:=hg g
 have hlp:=hl g
 have hpl:=AGv hgp hlp
 rw [if_pos g]
 simp -implicitDefEqProofs -proj only [go_sem,seval,n1,n2,AK,AT,decide_eq_true g,Bool.not_true]
 refine AQ hpl ?_
 by_cases g2:(In p).1=0
 rotate_left
 ·rw [if_neg (fun k=>g2 k.2),if_neg g2]
  simp -implicitDefEqProofs -proj only [go_sem,seval,n1,n2,AK,AT,decide_eq_false g2,Bool.not_false]
  exact LendV.tupL (EK Tt (EK (.refl _) (EK (.refl _) (EK (.refl _) G9))))
 rw [if_pos ⟨g,g2⟩,if_pos g2]
 have hmk:=AMD hgp (Sh g2) hlp.lf hlp.lc (fun c hc=>⟨hlp.lt c hc,hlp.la c hc⟩)
 generalize Gp p=C at hmk ⊢
 simp -implicitDefEqProofs -proj only [go_sem,seval,n1,n2,AK,AT,decide_eq_true g2,Bool.not_true]
 refine AQ hmk ?_
 simp -implicitDefEqProofs -proj only [go_sem,seval,n1,n2,AK,AT]
 exact AJ rfl
set_option maxHeartbeats 2000000 in
theorem AJp {s:ByteArray} {d:Int} {l:List Int} (hd:Fit d) (hfl:Kh l) (hln:l.length≤9223372036854775807):DataW Try.prog SG [Ey s,i64 d,G6 l] (bv true):=by
 have hread:=Wa (s:=s)
 have hpar:=RO (s:=s)
 unfold Pq at hpar
 refine A3 WQ (by simp) ?_
 simp -implicitDefEqProofs -proj only [go_sem,seval]
 refine AQ AAF ?_
 by_cases g1:8192<s.size
 ·simp -implicitDefEqProofs -proj only [go_sem,seval,Bool.not_true,decide_eq_true (show (8192:Int)<s.size by omega)]
  exact AJ rfl
 by_cases g2:4<l.length
 ·simp -implicitDefEqProofs -proj only [go_sem,seval,Bool.not_true,decide_eq_false (show ¬(8192:Int)<s.size by omega),FJ,decide_eq_true (show (4:Int)<l.length by omega)]
  exact AJ rfl
 simp -implicitDefEqProofs -proj only [go_sem,seval,Bool.not_true,decide_eq_false (show ¬(8192:Int)<s.size by omega),FJ,decide_eq_false (show ¬(4:Int)<l.length by omega)]
 refine AQ hread ?_
 by_cases g3:(FR s).er=0∧(In (FR s).p).1=0
 rotate_left
 ·have hne:¬(Ja s).1=0:=by
   unfold Ja
   by_cases a:(FR s).er=0
   ·rw [if_pos a,if_neg (fun k=>g3 ⟨a,k⟩)]; exact fun k=>g3 ⟨a,k⟩
   ·rw [if_neg a]; exact a
  simp -implicitDefEqProofs -proj only [go_sem,seval]
  refine Aa (fun b7 hb7=>?_)
  simp -implicitDefEqProofs -proj only [go_sem,seval,AK,AT,decide_eq_false hne,Bool.not_false]
  exact AJ rfl
 have hgp:=S2 g3.1
 have hlp:=Rr g3.1
 have ok:=Sh g3.2
 have he:(Ja s).1=0:=by unfold Ja; rw [if_pos g3.1,if_pos g3.2]
 have hc:NF s=Gp (FR s).p:=by unfold NF; rw [if_pos g3]
 have hbd:=RN (QT hgp hlp (fun c hc=>by
  obtain ⟨j,hj,rfl⟩:=List.getElem_of_mem hc
  exact (Kc (ok.cs j hj)).2.2.2.1))
 obtain ⟨most,hmost⟩:=Option.isSome_iff_exists.1 ok.bd
 have hfit:=APh hgp ok
 have hcost:=fun h1 h2=>AGt (d:=d) (b:=l) hgp ok hmost h1 h2
 have hpr:=Py (d:=d) (b:=l) hfit hln
 rw [hmost] at hbd
 rw [hc]
 have hcf:(Gp (FR s).p).f=Ag (FR s).p.f:=rfl
 have hct:(Gp (FR s).p).t=Ag (FR s).p.t:=rfl
 rw [←hcf,←hct] at hcost
 have hms:∀(i:Nat) (h:i<(Gp (FR s).p).ms.length),True:=fun _ _=>trivial
 generalize Gp (FR s).p=C at hfit hcost hpr hms ⊢
 obtain ⟨_,_,_,hmn,_,_,_,_⟩:=id hfit
 simp -implicitDefEqProofs -proj only [go_sem,seval]
 refine Aa (fun b7 hb7=>?_)
 by_cases c1:d<C.f
 ·simp -implicitDefEqProofs -proj only [go_sem,seval,AK,AT,decide_eq_true he,Bool.not_true,decide_eq_true c1]
  exact AJ rfl
 by_cases c2:C.t<d
 ·simp -implicitDefEqProofs -proj only [go_sem,seval,AK,AT,decide_eq_true he,Bool.not_true,decide_eq_false c1,decide_eq_true c2]
  exact AJ rfl
 by_cases c3:l.length=C.ms.length
 rotate_left
 ·simp -implicitDefEqProofs -proj only [go_sem,seval,AK,AT,decide_eq_true he,Bool.not_true,decide_eq_false c1,decide_eq_false c2,FJ,FL,decide_eq_false (show ¬(l.length:Int)=C.ms.length by omega),Bool.not_false]
  exact AJ rfl
 simp -implicitDefEqProofs -proj only [go_sem,seval,AK,AT,decide_eq_true he,Bool.not_true,decide_eq_false c1,decide_eq_false c2,FJ,FL,decide_eq_true (show (l.length:Int)=C.ms.length by omega)]
 refine EX (fun i:Nat=>i≤l.length∧∀(j:Nat) (h:j<l.length) (h2:j<C.ms.length),j<i→0≤l[j]∧l[j]≤(C.ms[j]).mx) 110 (fun i=>[(0,Ey s),(1,i64 d),(2,G6 l),(7,.ptr b7 0),(60,G6 l),(61,i64 l.length),(62,i64 i)]) (fun _=>[(b7,GL C)]) (fun i=>l.length-i) 0 ⟨Nat.zero_le _,fun j _ _ h=>absurd h (Nat.not_lt_zero _)⟩ rfl ?_ ⟨AK,trivial⟩ ?_
 ·simp -implicitDefEqProofs -proj only [go_sem,seval,AP,FJ]
 rintro i ⟨hi,hs⟩
 have hk:Al (EH [(b7,GL C)]) [(b7,GL C)]:=FV (by simp [EJ])
 have k7:=hk.1
 by_cases hlt:i<l.length
 ·have h2:i<C.ms.length:=by omega
  have hel:=N2 hlt
  have hel2:=JX h2
  have hgo:(0≤l[i]∧l[i]≤(C.ms[i]).mx)→∀(j:Nat) (h:j<l.length) (h2:j<C.ms.length),j<i+1→0≤l[j]∧l[j]≤(C.ms[j]).mx:=fun e j h1 h2 h3=>by
   by_cases hj:j=i
   ·subst hj; exact e
   ·exact hs j h1 h2 (by omega)
  generalize l[i]=q at hel hgo
  generalize C.ms[i]=m at hel2 hgo
  have i1:=Ed (show i<9223372036854775807 by omega)
  simp -implicitDefEqProofs -proj only [go_sem,seval,decide_eq_true (show (i:Int)<l.length by omega)]
  refine Eh _ (by omega) hel ?_
  by_cases e1:q<0
  ·simp -implicitDefEqProofs -proj only [go_sem,seval,decide_eq_true e1]
   exact AJ rfl
  simp -implicitDefEqProofs -proj only [go_sem,seval,decide_eq_false e1,k7]
  refine Eh _ (by omega) hel2 ?_
  by_cases e2:m.mx<q
  ·simp -implicitDefEqProofs -proj only [go_sem,seval,decide_eq_true e2]
   exact AJ rfl
  simp -implicitDefEqProofs -proj only [go_sem,seval,decide_eq_false e2]
  refine EF (i+1) (And.intro (by omega) (hgo ⟨by omega,by omega⟩)) (by show l.length-(i+1)<l.length-i; omega) rfl ?_ hk
  simp -implicitDefEqProofs -proj only [go_sem,seval,AP,i1]
 have hi':i=l.length:=by omega
 obtain ⟨n,en,n0,n1⟩:=hcost ⟨by omega,by omega⟩ ⟨c3,fun j h1 h2=>hs j h1 h2 (by omega)⟩
 rw [en] at hpr
 simp -implicitDefEqProofs only [] at hpr
 simp -implicitDefEqProofs -proj only [go_sem,seval,decide_eq_false (show ¬(i:Int)<l.length by omega)]
 refine AQ hpar ?_
 simp -implicitDefEqProofs -proj only [go_sem,seval]
 refine Aa (fun b13 hb13=>?_)
 replace hb13:EH [(b7,GL C)] b13=none:=hb13
 obtain ⟨m1,m2⟩:=EG hb13 k7
 simp -implicitDefEqProofs -proj only [go_sem,seval,AK,AT,m1,m2,k7]
 refine AQ hbd ?_
 simp -implicitDefEqProofs -proj only [go_sem,seval,Ef,AK,AT,m1,m2,k7]
 refine AQ hpr ?_
 simp -implicitDefEqProofs -proj only [go_sem,seval,decide_eq_true (show (0:Int)=0 from rfl),decide_eq_true n0,decide_eq_true n1]
 exact AJ rfl
theorem PriceBounds_row (s:ByteArray) {d:Int} {l:List Int} (hd:Fit d) (hfl:Kh l) (hln:l.length≤9223372036854775807):DataW Try.prog SG [Ey s,i64 d,G6 l] (bv true):=AJp hd hfl hln
end Go.Proofs.Ytlflfciebidddaa.Abs
