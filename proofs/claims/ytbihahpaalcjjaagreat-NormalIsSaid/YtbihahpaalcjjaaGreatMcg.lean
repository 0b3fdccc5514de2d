/- Contracts of the machine and the contracts of one law (joined by kmerge.py). No claim stands here. -/
import Derived.Below
import Derived.Carry
import Derived.ChangeCalls
import Derived.ChangeOld
import Derived.IntWalk
import Derived.KernelRfl
import Derived.Laws.Append
import Derived.Laws.AppendOwn
import Derived.Laws.Cells
import Derived.Laws.CopyRow
import Derived.Laws.Entries
import Derived.Laws.MakeOwn
import Derived.Laws.NewFold
import Derived.Laws.Rows
import Derived.Laws.StructEq
import Derived.OpenShut
import Derived.Orders
import Derived.OrdersIn
import Derived.ProofKit
import Derived.RangeFuncLeaves
import Derived.RangeFuncSeq
import Derived.SizedLaws
import Derived.TacticsIn
import Derived.WalkKit
import Derived.Test.YtbihahpaalcjjaaGreatMcf
set_option maxRecDepth 100000
set_option linter.unusedSimpArgs false
set_option linter.unusedVariables false
namespace Go.Proofs.YtbihahpaalcjjaaGreat.Abs
open Go Go.RowKit Go.Proofs
attribute [local go_sem] Dk CB DN DR Cb EC B3 Am Az Dg ED DP CI Bk Dn EK BX B1 Be C7 Bh Dy CK EA CE Cd Bj Dr Ds DD DV Bf CF DE Dq EL C5 Bx Bn C1 Cl CR C6 Bz Ct CM Bt Ck Ce DA DL Dz Cj EE DU Df Bu DT B8 De Cf DX DM Ci DZ C0 D5 Bo D2 Ca Bq BO Bc Cw BS Cy Bb BK D6 Db CX DH DB Da B2 Cz DC DS CH DW Cr Do Dv CD CJ CQ BQ CL BP BH Dm Bm C4 AM ev An A9 A7 BT BF D8 EF Dj CY Au Aw Cc Co Di By C2 Dt D3 Cv CG DK Cq Bp EG EJ Dw CP D4 Dd CZ D9 Bd Cn CN Ak setSeg nth seg mapD Ax BI AX BL Cp EH Av Ag cond_true cond_false B7 BN BU BM BY B0 CT List.cons_append List.nil_append Bool.not_true Bool.not_false Bool.and_true Bool.and_self Nat.lt_add_left_iff_pos Nat.zero_add Nat.add_zero List.drop_succ_cons List.drop_zero List.take_succ_cons List.take_zero beq_self_eq_true Bool.false_eq_true Cu Dx CO Cm Bi D0 DQ EB DI BA and_self and_true true_and Dh CU CA Bs DJ DG C8 DO Dp EI Cs Dl Br Bl Bv Du D1 A6 BD BE Ap Bw C3 Dc B9 BZ C9 List.length_cons List.length_nil Nat.min_def Int.cast_ofNat_Int Int.natCast_zero Int.natCast_one decide_true decide_false List.getElem?_cons_zero List.getElem?_cons_succ DF Bg Ch Cx CV D7
structure MkX where
 i:Nat
 k1:Nat
 p1:Nat
 k2:Nat
 p2:Nat
theorem Jq {i a b c d:Nat}:(MkX.mk i a b c d).i=i:=(rfl)
theorem M9 {i a b c d:Nat}:(MkX.mk i a b c d).k1=a:=(rfl)
theorem NX {i a b c d:Nat}:(MkX.mk i a b c d).p1=b:=(rfl)
theorem Nr {i a b c d:Nat}:(MkX.mk i a b c d).k2=c:=(rfl)
theorem OH {i a b c d:Nat}:(MkX.mk i a b c d).p2=d:=(rfl)
theorem LG {xs ys:List (Nat×Blk)} (h:(AN (xs++ys)).Nodup):(AN (ys++xs)).Nodup:=by
 simp -implicitDefEqProofs only [AN,List.map_append,List.nodup_append] at h ⊢
 exact ⟨h.2.1,h.1,fun a ha b hb e=>h.2.2 b hb a ha e.symm⟩
theorem Ld {H:Heap} {xs ys:List (Nat×Blk)} (h:AS H (xs++ys)):AS H (ys++xs):=Ar.2 ⟨(Ar.1 h).2,(Ar.1 h).1⟩
def IT (b1 b2 b3 b4 bm:Nat) (c:CoreX) (kv bvs:AV):List (Nat×Blk):=[(bm,.box 68 (Im c kv bvs)),(b4,.box 66 [.ptr bm 0]),(b3,.box 32 [i64 0]),(b2,.box 31 [.d (.str ⟨⟨[]⟩⟩),i64 0,i64 0,.nilsl 5,.nilsl 4]),(b1,.box 26 [.d (.str c.cur),i64 c.f,i64 c.t,.d (.sl 5 (BV c.ms)),.d (.sl 3 (Ey c.ss)),.d (.sl 9 (Ea c.ps))])]
def Jw (b1 b2 b3 b4 bm:Nat) (c:CoreX) (y:MkX):List (Nat×Blk):=Ah 51 2 y.k1 y.p1 (Al ((FH c).take y.i))++(Ah 3 1 y.k2 y.p2 (AU ((FM c).take y.i))++IT b1 b2 b3 b4 bm c (As 2 2 y.k1 y.p1 (Al ((FH c).take y.i))) (As 1 1 y.k2 y.p2 (AU ((FM c).take y.i))))
theorem Ue {a b:List Nat} {m x4 x3 x2 x1:Nat} (h:(a++(b++[m,x4,x3,x2,x1])).Nodup):(x4::x3::x2::(m::(a++b))).Nodup:=by
 have p:(a++(b++[m,x4,x3,x2,x1])).Perm ((x4::x3::x2::(m::(a++b)))++[x1]):=List.perm_iff_count.2 fun y=>by
  simp -implicitDefEqProofs only [List.count_append,List.count_cons,List.count_nil,List.cons_append,List.nil_append]
  omega
 exact (p.nodup_iff.1 h).sublist (List.sublist_append_left _ _)
theorem Tb {x3 x4 x2 v:Nat} {l:List Nat} (h:(x4::x3::x2::l).Nodup) (hv:v∉(x4::x3::x2::l)):(x4::x3::x2::v::l).Nodup:=by
 have p:(x4::x3::x2::v::l).Perm (v::x4::x3::x2::l):=List.perm_iff_count.2 fun y=>by
  simp -implicitDefEqProofs only [List.count_cons]
  omega
 exact p.nodup_iff.2 (List.nodup_cons.2 ⟨hv,h⟩)
set_option maxRecDepth 20000 in
set_option maxHeartbeats 4000000 in
theorem So {c:CoreX} (hc:c.Fit) (hf:fitsC c):DataW Tryz.prog Og [Gz c] (.tup [Iz c.cur c.f c.t c.ms (HK c),i64 0]):=by
 obtain ⟨⟨g1,g2⟩,⟨g3,g4⟩,g5,g6,g7,g8⟩:=hf.good.hd
 have hgd:=NC hc
 rw [decide_eq_true hf.good] at hgd
 refine AZ PF (by simp) ?_
 simp -implicitDefEqProofs -proj only [go_sem,seval]
 refine AI (fun b1 hb1=>?_)
 simp -implicitDefEqProofs -proj only [go_sem,seval]
 refine AI (fun b2 hb2=>?_)
 replace hb2:upd Heap.none b1 _ b2=none:=hb2
 obtain ⟨n1,n2⟩:=AG hb2 AP
 simp -implicitDefEqProofs -proj only [go_sem,seval,n1,n2]
 refine AI (fun b3 hb3=>?_)
 replace hb3:upd (upd Heap.none b1 _) b2 _ b3=none:=hb3
 obtain ⟨n3,n4⟩:=AG hb3 AP
 obtain ⟨n5,n6⟩:=AG hb3 (by rw [AD n1]; exact AP)
 simp -implicitDefEqProofs -proj only [go_sem,seval,n1,n2,n3,n4,n5,n6]
 refine AK hgd ?_
 simp -implicitDefEqProofs -proj only [go_sem,seval,n1,n2,n3,n4,n5,n6]
 refine AI (fun bm hbm=>?_)
 replace hbm:upd (upd (upd Heap.none b1 _) b2 _) b3 _ bm=none:=hbm
 obtain ⟨n7,n8⟩:=AG hbm AP
 obtain ⟨n9,n10⟩:=AG hbm (by rw [AD n3]; exact AP)
 obtain ⟨n11,n12⟩:=AG hbm (by rw [AD n5,AD n1]; exact AP)
 simp -implicitDefEqProofs -proj only [go_sem,seval,n1,n2,n3,n4,n5,n6,n7,n8,n9,n10,n11,n12]
 refine AI (fun b4 hb4=>?_)
 replace hb4:upd (upd (upd (upd Heap.none b1 _) b2 _) b3 _) bm _ b4=none:=hb4
 obtain ⟨m1,m2⟩:=AG hb4 AP
 obtain ⟨m3,m4⟩:=AG hb4 (by rw [AD n7]; exact AP)
 obtain ⟨m5,m6⟩:=AG hb4 (by rw [AD n9,AD n3]; exact AP)
 obtain ⟨m7,m8⟩:=AG hb4 (by rw [AD n11,AD n5,AD n1]; exact AP)
 simp -implicitDefEqProofs -proj only [go_sem,seval,n1,n2,n3,n4,n5,n6,n7,n8,n9,n10,n11,n12,m1,m2,m3,m4,m5,m6,m7,m8,FR]
 refine BJ (fun y:MkX=>y.i≤c.ps.length∧(AN (Jw b1 b2 b3 b4 bm c y)).Nodup) 115 (fun y=>[(1,.ptr b1 0),(2,.ptr b2 0),(3,.ptr b3 0),(4,.ptr b4 0),(24,.d (.sl 9 (Ea c.ps))),(25,i64 c.ps.length),(26,i64 y.i)]) (Jw b1 b2 b3 b4 bm c) (fun y=>c.ps.length-y.i) ⟨0,0,0,0,0⟩ ⟨Nat.zero_le _,?_⟩ rfl ?_ ?_ ?_
 ·simp -implicitDefEqProofs only [Jw,IT,Jq,M9,NX,Nr,OH,List.take_zero,Al,AU,List.map_nil,Ah,AN,List.nil_append,List.cons_append,List.map_cons,List.nodup_cons,List.mem_cons,List.not_mem_nil,or_false,not_or,not_false_eq_true,List.nodup_nil,and_true]
  exact ⟨⟨m2,n7,n9,n11⟩,⟨m3,m5,m7⟩,⟨n3,n5⟩,n1⟩
 ·simp -implicitDefEqProofs -proj only [go_sem,seval,AL,Jq]
  try rfl
 ·simp -implicitDefEqProofs only [Jw,IT,Jq,M9,NX,Nr,OH,List.take_zero,Al,AU,List.map_nil,Ah,As]
  simp -implicitDefEqProofs -proj only [go_sem,seval,AS,n1,n2,n3,n4,n5,n6,n7,n8,n9,n10,n11,n12,m1,m2,m3,m4,m5,m6,m7,m8]
 rintro ⟨i,k1,p1,k2,p2⟩ ⟨hi,hnd⟩
 simp -implicitDefEqProofs only [Jq] at hi
 have hall:=EQ hnd
 obtain ⟨H,hH⟩:∃H,Ad (Jw b1 b2 b3 b4 bm c ⟨i,k1,p1,k2,p2⟩)=H:=⟨_,rfl⟩
 rw [hH] at hall
 simp -implicitDefEqProofs only [Jw,IT] at hall hnd
 obtain ⟨hrowC,hx⟩:=Ar.1 hall
 obtain ⟨hrowI,hbmH,h4,h3,h2,h1,_⟩:=Ar.1 hx
 by_cases hlt:i<c.ps.length
 ·have hel:=IV hlt
  have hpart:=ATA hc hf (List.getElem_mem hlt)
  have htkC:(FH c).take (i+1)=(FH c).take i++[Gd c.ps[i] (EX c.ms c.ps[i].me)]:=by
   rw [List.take_succ_eq_append_getElem (by rw [List.length_map]; exact hlt)]; simp -implicitDefEqProofs only [FH,List.getElem_map]
  have htkB:(FM c).take (i+1)=(FM c).take i++[pv c.ps[i] 0]:=by
   rw [List.take_succ_eq_append_getElem (by rw [List.length_map]; exact hlt)]; simp -implicitDefEqProofs only [FM,List.getElem_map]
  generalize c.ps[i]=x at *
  simp -implicitDefEqProofs -proj only [go_sem,seval,Jq,hH,decide_eq_true (show (i:Int)<c.ps.length by omega)]
  refine Ai _ (by omega) hel ?_
  simp -implicitDefEqProofs -proj only [go_sem,seval]
  refine AI (fun b6 hb6=>?_)
  replace hb6:H b6=none:=hb6
  obtain ⟨y1,y2⟩:=AG hb6 h1
  simp -implicitDefEqProofs -proj only [go_sem,seval,y1,y2,h1]
  refine AK hpart ?_
  simp -implicitDefEqProofs -proj only [go_sem,seval]
  refine AI (fun b7 hb7=>?_)
  simp -implicitDefEqProofs only [AX] at hb7
  have z1:¬b6=b7:=fun e=>by subst e; simp at hb7
  have z2:¬b7=b6:=fun e=>z1 e.symm
  have hb7':H b7=none:=by simpa only [z1,↓reduceIte] using hb7
  obtain ⟨y3,y4⟩:=AG hb7' h4
  obtain ⟨y5,y6⟩:=AG hb6 h4
  obtain ⟨y7,y8⟩:=AG hb7' hbmH
  obtain ⟨y9,y10⟩:=AG hb6 hbmH
  simp -implicitDefEqProofs -proj only [go_sem,seval,y1,y2,y3,y4,y5,y6,y7,y8,y9,y10,z1,z2,h4,hbmH]
  (repeat' (with_reducible refine Aa ?_ (fun h=>?_); (focus first | decide | omega); clear h; try simp -implicitDefEqProofs -proj only [go_sem,seval,eq_self,y1,y2,y3,y4,y5,y6,y7,y8,y9,y10,z1,z2,h4,hbmH]))
  have hlr:((FH c).take i).length=i:=by rw [List.length_take,List.length_map]; omega
  have hlb:((FM c).take i).length=i:=by rw [List.length_take,List.length_map]; omega
  refine Iy (ds:=G6 (Gd x (EX c.ms x.me))) rfl (fun bs hs=>?_)
  simp -implicitDefEqProofs only [AX,z1,z2] at hs
  have z3:¬b6=bs:=fun e=>by subst e; simp [z1,z2] at hs
  have z4:¬b7=bs:=fun e=>by subst e; simp [z1,z2] at hs
  have hbs':H bs=none:=by simpa only [z3,z4,↓reduceIte] using hs
  have hA:∀X Y Z,AS (upd (upd (upd H b6 X) b7 Y) bs Z) _:=fun X Y Z =>
   Aj (by rw [AD z4,AD z3]; exact hbs') (Aj (by rw [AD z1]; exact hb7') (Aj hb6 hall))
  simp -implicitDefEqProofs -proj only [go_sem,seval,z1,z2,z3,z4]
  refine FB (xs:=Al ((FH c).take i)) (y:=G6 (Gd x (EX c.ms x.me))) (t:=51) (capc:=1) _ rfl (hA _ _ _) hnd (by simp -implicitDefEqProofs -proj only [go_sem,seval]; rfl) (by rw [GJ,hlr]; omega) (by rw [GJ,hlr]; omega) (fun H' c1 q1 ha hk=>?_)
  simp -implicitDefEqProofs -proj only [go_sem,seval]
  refine Iy (ds:=[.int .i64 (pv x 0)]) rfl (fun b2s hs2=>?_)
  replace hs2:H' b2s=none:=hs2
  have ha2:=Ld ha
  have hk2:=LG hk
  rw [List.append_assoc] at ha2 hk2
  simp -implicitDefEqProofs -proj only [go_sem,seval]
  refine FB (xs:=AU ((FM c).take i)) (y:=[.int .i64 (pv x 0)]) (t:=3) (capc:=1) _ rfl (Aj hs2 ha2) hk2 (by simp -implicitDefEqProofs -proj only [go_sem,seval]; try rfl) (by rw [rowI_len,hlb]; omega) (by rw [rowI_len,hlb]; omega) (fun H2 c2 q2 ha3 hk3=>?_)
  have hbm2:H2 bm=some (.box 68 (Im c (As 2 2 k1 p1 (Al ((FH c).take i))) (As 1 1 k2 p2 (AU ((FM c).take i))))):=(Ar.1 ha3).2.1
  simp -implicitDefEqProofs -proj only [go_sem,seval]
  refine TA hbm2 (by simp -implicitDefEqProofs -proj only [go_sem,seval]; exact m1) (by simp -implicitDefEqProofs -proj only [go_sem,seval]) (by simp [Ak]) ?_
  simp -implicitDefEqProofs -proj only [go_sem,seval]
  have eC:Al ((FH c).take i)++[G6 (Gd x (EX c.ms x.me))]=Al ((FH c).take (i+1)):=by rw [htkC]; simp [Al]
  have eB:AU ((FM c).take i)++[[.int .i64 (pv x 0)]]=AU ((FM c).take (i+1)):=by rw [htkB]; simp [AU]
  have neC:Al ((FH c).take (i+1))≠[]:=by rw [←eC]; simp
  have neB:AU ((FM c).take (i+1))≠[]:=by rw [←eB]; simp
  have lC:(Al ((FH c).take i)).length=i:=by rw [GJ,hlr]
  have lB:(AU ((FM c).take i)).length=i:=by rw [rowI_len,hlb]
  have lC2:(Al ((FH c).take (i+1))).length=i+1:=by rw [←eC,List.length_append,lC]; rfl
  have lB2:(AU ((FM c).take (i+1))).length=i+1:=by rw [←eB,List.length_append,lB]; rfl
  rw [eC,eB] at ha3 hk3
  have ha4:=Ld ha3
  have hk4:=LG hk3
  rw [List.append_assoc] at ha4 hk4
  have ha5:=Ld ha4
  have hk5:=LG hk4
  have hup:=Fl (A:=Ah 51 2 c1 q1 (Al ((FH c).take (i+1)))++Ah 3 1 c2 q2 (AU ((FM c).take (i+1)))) (b:=bm) (x':=.box 68 (Im c (As 2 2 c1 q1 (Al ((FH c).take (i+1)))) (As 1 1 c2 q2 (AU ((FM c).take (i+1)))))) (by simpa only [List.append_assoc,List.cons_append,List.nil_append] using ha5) (by simpa only [List.append_assoc,List.cons_append,List.nil_append] using hk5)
  refine Ac ⟨i+1,c1,q1,c2,q2⟩ ⟨by show i+1≤c.ps.length; omega,?_⟩ (by show c.ps.length-(i+1)<c.ps.length-i; omega) rfl ?_ ?_
  ·simp -implicitDefEqProofs only [Jw,IT,Jq,M9,NX,Nr,OH]
   simpa only [AN,List.map_append,List.map_cons,List.append_assoc,List.cons_append,List.nil_append] using hk5
  ·simp -implicitDefEqProofs -proj only [go_sem,seval,AL,Jq,AR (show i<9223372036854775807 by omega)]
  ·simp -implicitDefEqProofs only [Jw,IT,Jq,M9,NX,Nr,OH]
   simpa only [List.append_assoc,List.cons_append,List.nil_append,EM neC,EM neB,lC,lB,lC2,lB2] using hup
 have hi':i=c.ps.length:=by omega
 subst hi'
 have hcl:=RS (ms:=c.ms) (by omega)
 have hho:=SC hc hf.good
 obtain ⟨R,hR⟩:∃R,HO c=R:=⟨_,rfl⟩
 rw [hR] at hho
 simp -implicitDefEqProofs -proj only [go_sem,seval,Jq,hH,decide_eq_false (show ¬(c.ps.length:Int)<c.ps.length by omega),h1]
 (repeat' (with_reducible refine Aa ?_ (fun h=>?_); (focus first | decide | omega); clear h; try simp -implicitDefEqProofs -proj only [go_sem,seval,eq_self,h1]))
 refine Eb hcl ?_
 simp -implicitDefEqProofs -proj only [go_sem,seval,h1]
 refine AI (fun b10 hb10=>?_)
 replace hb10:H b10=none:=hb10
 obtain ⟨y1,y2⟩:=AG hb10 h1
 simp -implicitDefEqProofs -proj only [go_sem,seval,y1,y2,h1]
 (repeat' (with_reducible refine Aa ?_ (fun h=>?_); (focus first | decide | omega); clear h; try simp -implicitDefEqProofs -proj only [go_sem,seval,eq_self,y1,y2,h1]))
 refine AK hho ?_
 simp -implicitDefEqProofs -proj only [go_sem,seval,y1,y2]
 refine AI (fun b11 hb11=>?_)
 simp -implicitDefEqProofs only [AX] at hb11
 have z1:¬b10=b11:=fun e=>by subst e; simp at hb11
 have z2:¬b11=b10:=fun e=>z1 e.symm
 simp -implicitDefEqProofs -proj only [go_sem,seval,y1,y2,z1,z2]
 refine Ek Q8 ?_
 rintro r H6 ⟨vb,rfl,hbv,hv,hkeep⟩
 have hlR:R.length≤1000000:=by
  have:=(LR (c:=c) g3).len
  rw [hR] at this
  omega
 have htC:(FH c).take c.ps.length=FH c:=List.take_of_length_le (by rw [List.length_map]; exact Nat.le_refl _)
 have htB:(FM c).take c.ps.length=FM c:=List.take_of_length_le (by rw [List.length_map]; exact Nat.le_refl _)
 rw [htC,htB] at hall hnd hbmH
 simp -implicitDefEqProofs only [AX] at hbv hkeep
 have e10:H6 b10=some (Gr c 0 0 []):=hkeep b10 _ (by simp -implicitDefEqProofs only [z2,↓reduceIte]; rfl)
 have eb11:H6 b11=some (.box 74 [.d (.sl 3 (Fc R))]):=hkeep b11 _ (by simp -implicitDefEqProofs only [↓reduceIte])
 have w1:¬b10=vb:=fun e=>by rw [e,hv] at e10; cases e10
 have w2:¬b11=vb:=fun e=>by
  rw [e,hv] at eb11
  simp at eb11
 have hvb:H vb=none:=by simpa only [w1,w2,↓reduceIte] using hbv
 have hb11':H b11=none:=by simpa only [z1,↓reduceIte] using hb11
 have hH6:∀k x,H k=some x→H6 k=some x:=fun k x hx=>hkeep k x (by
  obtain ⟨f1,f2⟩:=AG hb10 hx
  obtain ⟨f3,f4⟩:=AG hb11' hx
  simpa only [f1,f3,↓reduceIte] using hx)
 obtain ⟨T,hT⟩:∃T,(b4,.box 66 [.ptr bm 0])::(b3,.box 32 [i64 0])::(b2,.box 31 [.d (.str ⟨⟨[]⟩⟩),i64 0,i64 0,.nilsl 5,.nilsl 4])::(vb,.box 72 [Gw R])::GV bm c k1 p1 k2 p2=T:=⟨_,rfl⟩
 have ht1:=Ue (by simpa only [AN,List.map_append,List.map_cons,List.map_nil] using hnd)
 have hkm:AN (GV bm c k1 p1 k2 p2)=bm::(List.map (·.1) (Ah 51 2 k1 p1 (Al (FH c)))++List.map (·.1) (Ah 3 1 k2 p2 (AU (FM c)))):=by simp -implicitDefEqProofs only [GV,AN,List.map_append,List.map_cons]
 have hnm:(AN (GV bm c k1 p1 k2 p2)).Nodup:=by
  rw [hkm]
  exact (List.nodup_cons.1 (List.nodup_cons.1 (List.nodup_cons.1 ht1).2).2).2
 have hkeys:AN (Ah 51 2 k1 p1 (Al (FH c))++(Ah 3 1 k2 p2 (AU (FM c))++[(bm,Blk.box 68 (Im c (As 2 2 k1 p1 (Al (FH c))) (As 1 1 k2 p2 (AU (FM c))))),(b4,.box 66 [.ptr bm 0]),(b3,.box 32 [i64 0]),(b2,.box 31 [.d (.str ⟨⟨[]⟩⟩),i64 0,i64 0,.nilsl 5,.nilsl 4]),(b1,.box 26 [.d (.str c.cur),i64 c.f,i64 c.t,.d (.sl 5 (BV c.ms)),.d (.sl 3 (Ey c.ss)),.d (.sl 9 (Ea c.ps))])]))=List.map (·.1) (Ah 51 2 k1 p1 (Al (FH c)))++(List.map (·.1) (Ah 3 1 k2 p2 (AU (FM c)))++[bm,b4,b3,b2,b1]):=by
  simp -implicitDefEqProofs only [AN,List.map_append,List.map_cons,List.map_nil]
 have hin:∀k,k∈(b4::b3::b2::AN (GV bm c k1 p1 k2 p2))→∃x,H k=some x:=fun k hk=>by
  rw [hkm] at hk
  have hk2:k∈List.map (·.1) (Ah 51 2 k1 p1 (Al (FH c)))++(List.map (·.1) (Ah 3 1 k2 p2 (AU (FM c)))++[bm,b4,b3,b2,b1]):=by
   simp -implicitDefEqProofs only [List.mem_append,List.mem_cons] at hk ⊢
   rcases hk with h | h | h | h | h | h <;> simp [h]
  rw [←hkeys] at hk2
  obtain ⟨q,hq,rfl⟩:=List.mem_map.1 hk2
  exact ⟨_,Ee.1 hall _ hq⟩
 have hmkH:AS H (GV bm c k1 p1 k2 p2):=by
  refine MD hall fun q hq=>?_
  simp -implicitDefEqProofs only [GV,List.mem_append,List.mem_cons] at hq ⊢
  rcases hq with h | h | h <;> simp [h]
 have hTn:(AN T).Nodup:=by
  rw [←hT]
  simp -implicitDefEqProofs only [AN,List.map_cons]
  refine Tb (by rw [←hkm] at ht1; exact ht1) fun hm=>?_
  obtain ⟨x,hx⟩:=hin vb hm
  rw [hvb] at hx; cases hx
 have hTH:AS H6 T:=by
  rw [←hT]
  exact ⟨hH6 _ _ h4,hH6 _ _ h3,hH6 _ _ h2,hv,Ee.2 fun q hq=>hH6 _ _ (Ee.1 hmkH q hq)⟩
 have h10T:b10∉AN T:=by
  rw [←hT]
  simp -implicitDefEqProofs only [AN,List.map_cons,List.mem_cons,not_or]
  have hh:∀k,k∈(b4::b3::b2::AN (GV bm c k1 p1 k2 p2))→¬b10=k:=fun k hk e=>by
   obtain ⟨x,hx⟩:=hin k hk
   rw [←e,hb10] at hx; cases hx
  exact ⟨hh _ (by simp),hh _ (by simp),hh _ (by simp),w1,fun hm=>hh _ (by simp -implicitDefEqProofs only [List.mem_cons]; exact .inr (.inr (.inr hm))) rfl⟩
 have hn0:(AN (GX b10 c T ⟨0,0,[]⟩)).Nodup:=by
  simp -implicitDefEqProofs only [GX,Ji,JN,Hd,Aq,List.map_nil,Hw,List.nil_append,AN,List.map_cons,List.nodup_cons]
  exact ⟨h10T,hTn⟩
 have hTb:∀q∈T,q∈GV bm c k1 p1 k2 p2∨∃t cells,q.2 = .box t cells:=by
  intro q hq
  rw [←hT] at hq
  simp -implicitDefEqProofs only [List.mem_cons] at hq
  rcases hq with rfl | rfl | rfl | rfl | hq
  ·exact .inr ⟨_,_,rfl⟩
  ·exact .inr ⟨_,_,rfl⟩
  ·exact .inr ⟨_,_,rfl⟩
  ·exact .inr ⟨_,_,rfl⟩
  ·exact .inl hq
 have hend:=ADM (LR (c:=c) g3) (by omega) (Nw g7)
 rw [hR] at hend
 have hfin:GN (En c) R R.length=HK c:=FwdB.canon hend (Nf hf.good)
 rw [←hfin]
 simp -implicitDefEqProofs -proj only [go_sem,seval]
 refine NE [(2,.ptr b2 0),(3,.ptr b3 0),(4,.ptr b4 0),(10,.ptr b10 0)] (fun pre y=>y.acc=GN (En c) R pre.length∧(AN (GX b10 c T y)).Nodup) (GX b10 c T) ⟨0,0,[]⟩ (Rc (b:=vb) (l:=R) hlR) (by simp -implicitDefEqProofs -proj only [go_sem,seval]) rfl (by simp) (by simp -implicitDefEqProofs -proj only [go_sem,seval,AL]) ?_ ⟨rfl,hn0⟩ ⟨e10,hTH⟩ ?_ ?_
 ·intro pre y _ q hq
  simp -implicitDefEqProofs only [List.mem_singleton] at hq
  subst hq
  simp -implicitDefEqProofs only [GX,List.mem_append,List.mem_cons]
  exact .inr (.inr (by rw [←hT]; simp))
 ·rintro pre x post y hxs ⟨hy,hn⟩
  obtain ⟨hlt,rfl,hpre⟩:=Nb hxs
  exact APs (i:=pre.length) hc hf hR (by rw [←hT]; simp) (fun q hq=>by rw [←hT]; simp [hq]) hTb hnm hlt pre rfl hy hn
 ·rintro ⟨k,cap,acc⟩ ⟨hy,hn⟩
  have hall':=EQ hn
  simp -implicitDefEqProofs only [Hd,Jp,List.length_map] at hy
  subst hy
  obtain ⟨H',hH'⟩:∃H',Ad (GX b10 c T ⟨k,cap,GN (En c) R R.length⟩)=H':=⟨_,rfl⟩
  rw [hH'] at hall' ⊢
  simp -implicitDefEqProofs only [GX,Ji,JN,Hd] at hall' hn
  obtain ⟨hrow,q10,hTT⟩:=Ar.1 hall'
  rw [←hT] at hTT
  obtain ⟨q4,q3,q2,_,_⟩:=hTT
  simp -implicitDefEqProofs only [Gr] at q10
  have hdj:∀b,b∈AN T→b∉AN (Ah 47 4 k cap (Aq (GN (En c) R R.length))):=fun b hb hm=>by
   simp -implicitDefEqProofs only [AN,List.map_append,List.map_cons] at hn
   exact (List.nodup_append.1 hn).2.2 _ hm _ (List.mem_cons_of_mem _ hb) rfl
  have hr2:∀X Y,AS (upd (upd H' b2 X) b3 Y) (Ah 47 4 k cap (Aq (GN (En c) R R.length))):=fun X Y=>Fx (Fx hrow (hdj b2 (by rw [←hT]; simp [AN]))) (hdj b3 (by rw [←hT]; simp [AN]))
  simp -implicitDefEqProofs -proj only [go_sem,seval,q10,q2,q3,n3,n4]
  exact .tupL (E3 (Tm (.refl _) (LO (hr2 _ _))) (E3 (.refl _) GC))
abbrev K0 (L:List FE):AV:=.d (.sl 2 (A5 L))
theorem AMU {a b:List FE} (ha:∀p∈a,GB p) (hb:∀p∈b,GB p) (hla:a.length≤1000000) (hlb:b.length≤1000000):DataW Tryz.prog Qn [K0 a,K0 b,.fn L2 []] (bv (decide (a=b))):=by
 refine AZ UB (by simp) ?_
 by_cases hl:a.length=b.length
 rotate_left
 ·simp -implicitDefEqProofs -proj only [go_sem,seval,IH,decide_eq_false (show ¬(a.length:Int)=b.length by omega)]
  exact AJ (by rw [decide_eq_false (fun e=>hl (by rw [e]))])
 simp -implicitDefEqProofs -proj only [go_sem,seval,IH,decide_eq_true (show (a.length:Int)=b.length by omega)]
 refine BJ (fun i:Nat=>i≤a.length∧∀(j:Nat) (h:j<a.length) (h2:j<b.length),j<i→a[j]=b[j]) 32 (fun i=>[(0,K0 a),(1,K0 b),(2,.fn L2 []),(15,K0 a),(16,i64 a.length),(17,i64 i)]) (fun _=>[]) (fun i=>a.length-i) 0 ⟨Nat.zero_le _,fun j _ _ h=>absurd h (Nat.not_lt_zero _)⟩ rfl ?_ ?_ ?_
 ·simp -implicitDefEqProofs -proj only [go_sem,seval,AL]
  try simp [hl]
 ·simp -implicitDefEqProofs -proj only [go_sem,seval,AS]
 ·rintro i ⟨hi,hat⟩
  by_cases h:i<a.length
  ·have h':i<b.length:=by omega
   have e1:=My h
   have e2:=My h'
   have ca:=ha _ (List.getElem_mem h)
   have cb:=hb _ (List.getElem_mem h')
   have hst:=fun (e:a[i]=b[i])=>IZ (l:=List.range a.length) (P:=fun j _=>∀(h:j<a.length) (h2:j<b.length),a[j]=b[j]) (i:=i) (x:=i) (by simp [h]) (fun j hj hji=>fun h1 h2=>hat j h1 h2 hji) (fun _ _=>e)
   have hne:=fun (e:¬a[i]=b[i])=>show ¬a=b from fun k=>e (by subst k; rfl)
   generalize a[i]=x at *
   generalize b[i]=y at *
   have hcall:=N9 (m:=x.1) (n:=y.1) (a:=x.2) (b:=y.2) (by have:=ca.2; omega) (by have:=cb.2; omega)
   rw [show decide (x.1=y.1∧x.2=y.2)=decide (x=y) from decide_eq_decide.2 ⟨fun e=>Prod.ext e.1 e.2,fun e=>by rw [e]; exact ⟨rfl,rfl⟩⟩] at hcall
   simp -implicitDefEqProofs -proj only [go_sem,seval,decide_eq_true (show (i:Int)<a.length by omega)]
   refine Ai _ (by omega) (by rw [Int.toNat_natCast]; exact e1) ?_
   simp -implicitDefEqProofs -proj only [go_sem,seval]
   refine AI (fun b8 hb8=>?_)
   simp -implicitDefEqProofs -proj only [go_sem,seval]
   refine Ai _ (by omega) (by rw [Int.toNat_natCast]; exact e2) ?_
   simp -implicitDefEqProofs -proj only [go_sem,seval]
   refine AI (fun b9 hb9=>?_)
   simp -implicitDefEqProofs only [AX] at hb9
   have n1:¬b8=b9:=fun e=>by subst e; simp at hb9
   have n2:¬b9=b8:=fun e=>n1 e.symm
   simp -implicitDefEqProofs -proj only [go_sem,seval,n1,n2]
   refine AK hcall ?_
   by_cases hp:x=y
   ·simp -implicitDefEqProofs -proj only [go_sem,seval,decide_eq_true hp]
    refine Ac (i+1) ⟨by omega,fun j h1 h2 hj=>hst hp j (by simpa using h1) (by omega) h1 h2⟩ (by omega) rfl ?_ trivial
    simp -implicitDefEqProofs -proj only [go_sem,seval,AL,AR (show i<9223372036854775807 by omega)]
   ·simp -implicitDefEqProofs -proj only [go_sem,seval,decide_eq_false hp]
    exact AJ (by rw [decide_eq_false (hne hp)])
  ·have hi':i=a.length:=by omega
   subst hi'
   simp -implicitDefEqProofs -proj only [go_sem,seval,decide_eq_false (show ¬(a.length:Int)<a.length by omega)]
   exact AJ (by rw [decide_eq_true (List.ext_getElem hl fun j h1 h2=>hat j h1 h2 h1)])
abbrev OL (f t x:Int) (L:List FE):AV:=.agg [i64 f,i64 t,i64 x,K0 L]
theorem ANc {f t x g u y:Int} {la lb:List FE} (ha:∀p∈la,GB p) (hb:∀p∈lb,GB p) (hla:la.length≤1000000) (hlb:lb.length≤1000000):∃w:Bool,DataW Tryz.prog TK [OL f t x la,OL g u y lb] (bv w):=by
 have h1:=AMU ha hb hla hlb
 by_cases hxy:x=y
 ·refine ⟨decide (la=lb),?_⟩
  refine AZ PZ (by simp) ?_
  simp -implicitDefEqProofs -proj only [go_sem,seval]
  refine AI (fun b2 hb2=>?_)
  simp -implicitDefEqProofs -proj only [go_sem,seval]
  refine AI (fun b3 hb3=>?_)
  replace hb3:upd Heap.none b2 _ b3=none:=hb3
  obtain ⟨n1,n2⟩:=AG hb3 AP
  simp -implicitDefEqProofs -proj only [go_sem,seval,n1,n2,decide_eq_true hxy]
  refine AK h1 ?_
  simp -implicitDefEqProofs -proj only [go_sem,seval]
  exact AJ rfl
 ·refine ⟨false,?_⟩
  refine AZ PZ (by simp) ?_
  simp -implicitDefEqProofs -proj only [go_sem,seval]
  refine AI (fun b2 hb2=>?_)
  simp -implicitDefEqProofs -proj only [go_sem,seval]
  refine AI (fun b3 hb3=>?_)
  replace hb3:upd Heap.none b2 _ b3=none:=hb3
  obtain ⟨n1,n2⟩:=AG hb3 AP
  simp -implicitDefEqProofs -proj only [go_sem,seval,n1,n2,decide_eq_false hxy]
  exact AJ rfl
structure SegW where
 f:Int
 t:Int
 x:Int
 L:List FE
def Kx (s:SegW):Prop:=(∀p∈s.L,GB p)∧s.L.length≤4
def MK (s:SegW):List D:=[.int .i64 s.f,.int .i64 s.t,.int .i64 s.x,.sl 2 (A5 s.L)]
def Eo (S:List SegW):List (List D):=S.map MK
theorem Q6 {S:List SegW}:(Eo S).length=S.length:=List.length_map ..
structure NrZ where
 k:Nat
 cap:Nat
 acc:List SegW
theorem Jb {k cap:Nat} {acc:List SegW}:(NrZ.mk k cap acc).k=k:=(rfl)
theorem JO {k cap:Nat} {acc:List SegW}:(NrZ.mk k cap acc).cap=cap:=(rfl)
theorem IK {k cap:Nat} {acc:List SegW}:(NrZ.mk k cap acc).acc=acc:=(rfl)
def Gf (c:CoreX) (k cap:Nat) (acc:List SegW):Blk:=.box 31 [.d (.str c.cur),i64 c.f,i64 c.t,.d (.sl 5 (BV c.ms)),As 4 4 k cap (Eo acc)]
def GZ (b10:Nat) (c:CoreX) (T:List (Nat×Blk)) (y:NrZ):List (Nat×Blk):=Ah 47 4 y.k y.cap (Eo y.acc)++((b10,Gf c y.k y.cap y.acc)::T)
theorem Wr {H:Heap} {f t x:Int} {v:AV} {L:List FE} (h:LendV H v (K0 L)):LendV H (.agg [i64 f,i64 t,i64 x,v]) (OL f t x L):=by
 refine .agg _ _ rfl fun j u v e1 e2=>?_
 match j with
 | 0=>cases e1; cases e2; exact .refl _
 | 1=>cases e1; cases e2; exact .refl _
 | 2=>cases e1; cases e2; exact .refl _
 | 3=>cases e1; cases e2; exact h
 | j+4=>cases e1
def Y7:AV:=.tup [.agg [.d (.str ⟨⟨[]⟩⟩),i64 0,i64 0,.nilsl 5,.nilsl 4],i64 2]
set_option maxRecDepth 20000 in
set_option maxHeartbeats 4000000 in
theorem ARl {c:CoreX} {T:List (Nat×Blk)} {b2 b3 b4 b10 bm k1 p1 k2 p2:Nat} {CW:List FE} {BW:List Int} {t0:TM} {Rst:Out→St→Prop} (hc:c.Fit) (hg:goodC c) (hCW:∀p∈CW,GB p) (hCl:CW.length=c.ps.length) (hBW:Jf BW) (hBl:BW.length=c.ps.length)
  (hT4:(b4,.box 66 [.ptr bm 0])∈T) (hT2:(b2,.box 31 [.d (.str ⟨⟨[]⟩⟩),i64 0,i64 0,.nilsl 5,.nilsl 4])∈T) (hT3:(b3,.box 32 [i64 0])∈T) (hTm:∀p∈Gb bm c k1 p1 k2 p2 CW BW,p∈T) (hTb:∀p∈T,p∈Gb bm c k1 p1 k2 p2 CW BW∨∃t cells,p.2 = .box t cells) (hnm:(AN (Gb bm c k1 p1 k2 p2 CW BW)).Nodup)
  (hover:∀(H:Heap),Rst .ret ⟨115,t0,upd (upd H b2 (some (.box 31 [.d (.str ⟨⟨[]⟩⟩),i64 0,i64 0,.nilsl 5,.nilsl 4]))) b3 (some (.box 32 [i64 2]))⟩)
  {r:Run} (pre:List (List AV)) (hpre:pre.length≤1000000) {y:NrZ} (hyl:y.acc.length≤pre.length) (hyo:∀s∈y.acc,Kx s) (hn:(AN (GZ b10 c T y)).Nodup) :
  FS Tryz.prog (Kk (fun pre y=>y.acc.length≤pre.length∧(∀s∈y.acc,Kx s)∧(AN (GZ b10 c T y)).Nodup) (GZ b10 c T) (pre++[[r.avU]]) 115 t0 Rst) (.seq (.ops Pi) Ou) []
   ⟨115,HV 115 (E8 [(2,.ptr b2 0),(3,.ptr b3 0),(4,.ptr b4 0),(10,.ptr b10 0)]) [75] [r.avU],Ad (GZ b10 c T y)⟩:=by
 obtain ⟨⟨g1,g2⟩,⟨g3,g4⟩,g5,g6,g7,g8⟩:=hg.hd
 obtain ⟨k,cap,acc⟩:=y
 simp -implicitDefEqProofs only [IK] at hyl hyo
 obtain ⟨H,hH⟩:∃H,Ad (GZ b10 c T ⟨k,cap,acc⟩)=H:=⟨_,rfl⟩
 have hall:=EQ hn
 rw [hH] at hall ⊢
 simp -implicitDefEqProofs only [GZ,Jb,JO,IK] at hall hn
 obtain ⟨hrow,h10,hTH⟩:=Ar.1 hall
 have h4:H b4=some (.box 66 [.ptr bm 0]):=Ee.1 hTH _ hT4
 have hM:AS H (Gb bm c k1 p1 k2 p2 CW BW):=MD hTH hTm
 simp -implicitDefEqProofs -proj only [go_sem,seval,h4]
 refine AI (fun b12 hb12=>?_)
 replace hb12:H b12=none:=hb12
 obtain ⟨y1,y2⟩:=AG hb12 h4
 simp -implicitDefEqProofs -proj only [go_sem,seval,h4,y1,y2]
 have hsp:=AS3 (bm:=bm) (k1:=k1) (p1:=p1) (k2:=k2) (p2:=p2) (f:=r.f) (t:=r.t) (sv:=r.v) hc hg hCW hCl hBW hBl hnm
 have hall12:=Aj (y:=some (.box 82 [i64 r.f,i64 r.t,u64 r.v])) hb12 hall
 have hM12:=Aj (y:=some (.box 82 [i64 r.f,i64 r.t,u64 r.v])) hb12 hM
 refine Ek (Lu hsp (J1 hM12)) ?_
 rintro rr H2 ⟨H1,⟨kc,capc,F0,ok,LS,rfl,hF0,hLo,hLl,rest,hA1,hN1⟩,hsub,hkeep⟩
 have hM1:AS H1 (Gb bm c k1 p1 k2 p2 CW BW):=(Ar.1 hA1).2
 have hall2:AS H2 (Ah 47 4 k cap (Eo acc)++(b10,Gf c k cap acc)::T):=Tt hall12 hM12 hM1 hsub hkeep
 have hcu:Kx ⟨r.f,r.t,F0,LS⟩:=⟨hLo,by show LS.length≤4; omega⟩
 have hLC:AS H2 (Ah 51 2 kc capc (A5 LS)):=Ee.2 fun p hp=>hsub _ _ (Ee.1 (Ar.1 (Ar.1 hA1).1).1 p hp)
 have hdj:∀p∈AN (Ah 51 2 kc capc (A5 LS)),p∉AN (Ah 47 4 k cap (Eo acc)++(b10,Gf c k cap acc)::T):=by
  intro p hp hq
  obtain ⟨⟨q1,q2⟩,hq1,rfl⟩:=List.mem_map.1 hp
  obtain ⟨⟨u1,u2⟩,hu1,hu2⟩:=List.mem_map.1 hq
  simp -implicitDefEqProofs only at hu2
  subst hu2
  have e1:=Ee.1 hLC _ hq1
  have e2:=Ee.1 hall2 _ hu1
  simp -implicitDefEqProofs only at e1 e2
  rw [e1] at e2
  have hq3:q2 = .row 51 2 capc (A5 LS):=by
   generalize A5 LS=xs at hq1 ⊢
   cases xs with
   | nil=>cases hq1
   | cons a az=>simp -implicitDefEqProofs only [Ah,List.mem_singleton,Prod.mk.injEq] at hq1; exact hq1.2
  subst hq3
  rcases List.mem_append.1 hu1 with hu | hu
  ·generalize Eo acc=xs at hu
   cases xs with
   | nil=>cases hu
   | cons a az=>simp -implicitDefEqProofs only [Ah,List.mem_singleton,Prod.mk.injEq] at hu; rw [hu.2] at e2; cases e2
  ·rcases List.mem_cons.1 hu with hu | hu
   ·simp -implicitDefEqProofs only [Prod.mk.injEq] at hu; rw [hu.2,Gf] at e2; cases e2
   ·rcases hTb _ hu with hm | ⟨t,cells,hm⟩
    ·simp -implicitDefEqProofs only [AN,List.map_append,List.nodup_append] at hN1
     exact hN1.2.2 _ (List.mem_append_left _ hp) _ (List.mem_map_of_mem hm) rfl
    ·simp -implicitDefEqProofs only at hm; rw [hm] at e2; cases e2
 obtain ⟨cs,hcs⟩:∃cs,[i64 r.f,i64 r.t,i64 F0,As 2 2 kc capc (A5 LS)]=cs:=⟨_,rfl⟩
 have hcl:Ak cs=4:=by rw [←hcs]; rfl
 have hcg:cs.take 4=cs:=by rw [←hcs]; rfl
 have hct:setSeg [.d (.int .i64 0),.d (.int .i64 0),.d (.int .i64 0),.nilsl 2] 0 cs=cs:=by rw [←hcs]; rfl
 have hcn:nth cs 1=i64 r.t:=by rw [←hcs]; rfl
 rw [hcs]
 simp -implicitDefEqProofs -proj only [go_sem,seval,hcl,hcg,hct,hcn]
 refine AI (fun b13 hb13=>?_)
 replace hb13:H2 b13=none:=hb13
 have h10':H2 b10=some (Gf c k cap acc):=(Ar.1 hall2).2.1
 have hT2':=Ee.1 (Ar.1 hall2).2.2 _ hT2
 have hT3':=Ee.1 (Ar.1 hall2).2.2 _ hT3
 simp -implicitDefEqProofs only at hT2' hT3'
 have hrow2:=(Ar.1 hall2).1
 obtain ⟨y3,y4⟩:=AG hb13 h10'
 obtain ⟨s1,s2⟩:=AG hb13 hT2'
 obtain ⟨s3,s4⟩:=AG hb13 hT3'
 have s5:¬b2=b3:=fun e=>by rw [e,hT3'] at hT2'; simp at hT2'
 have s6:¬b3=b2:=fun e=>s5 e.symm
 simp -implicitDefEqProofs only [Gf] at h10'
 have hall3:=fun y=>Aj (y:=y) hb13 hall2
 have hLC3:=fun y=>Aj (y:=y) hb13 hLC
 cases ok
 ·simp -implicitDefEqProofs -proj only [go_sem,seval,hcl,hcg,hct,hcn,hT2',hT3',s1,s2,s3,s4,s5,s6]
  exact hover _
 have hwo:∀A:List SegW,(∀s∈A,Kx s)→∀s∈A++[(⟨r.f,r.t,F0,LS⟩:SegW)],Kx s:=fun A hA s hs=>by
  rcases List.mem_append.1 hs with h | h
  ·exact hA s h
  ·rw [List.mem_singleton] at h; subst h; exact hcu
 by_cases c0:acc=[]
 ·subst c0
  simp -implicitDefEqProofs only [Eo,List.map_nil,JC,Hw,List.nil_append] at h10' hall3 hn hdj
  simp -implicitDefEqProofs -proj only [go_sem,seval,h10',y3,y4,hcl,hcg,hct,hcn]
  rw [←hcs]
  refine Ny (hLC3 _) (fun H4 hk4=>?_)
  have hall4:=N8 (hall3 _) hk4 (fun p hp hq=>hdj p hq hp)
  simp -implicitDefEqProofs -proj only [go_sem,seval]
  refine Ao (fun bs hs=>?_)
  replace hs:H4 bs=none:=hs
  simp -implicitDefEqProofs -proj only [go_sem,seval]
  have hn0:(AN (Ah 47 4 0 0 (Eo ([]:List SegW))++(b10,.box 31 [.d (.str c.cur),i64 c.f,i64 c.t,.d (.sl 5 (BV c.ms)),.nilsl 4])::T)).Nodup:=by simpa only [Gf,Eo,List.map_nil,Hw,JC,AN,List.map_cons,List.nil_append] using hn
  simp -implicitDefEqProofs only [Gf,JC] at hall4
  refine FB (c:=0) (cap:=0) (z0:=4) (xs:=Eo ([]:List SegW)) (y:=[.int .i64 r.f,.int .i64 r.t,.int .i64 F0,.sl 2 (A5 LS)]) (t:=47) (capc:=1) ((b10,.box 31 [.d (.str c.cur),i64 c.f,i64 c.t,.d (.sl 5 (BV c.ms)),.nilsl 4])::T) rfl (Aj hs hall4) hn0 (by simp -implicitDefEqProofs -proj only [go_sem,seval]; try rfl) (by simp [Eo]) (by simp [Eo]) (fun H' c2 cap2 ha hk=>?_)
  rw [show Eo ([]:List SegW)++[[.int .i64 r.f,.int .i64 r.t,.int .i64 F0,.sl 2 (A5 LS)]]=Eo [(⟨r.f,r.t,F0,LS⟩:SegW)] by simp [Eo,MK]] at ha hk
  have q10:=(Ar.1 ha).2.1
  simp -implicitDefEqProofs -proj only [go_sem,seval,q10]
  have hne':Eo [(⟨r.f,r.t,F0,LS⟩:SegW)]≠[]:=by simp [Eo]
  refine J9 ⟨c2,cap2,[⟨r.f,r.t,F0,LS⟩]⟩ ⟨by simp -implicitDefEqProofs only [IK,List.length_append,List.length_singleton]; omega,hwo [] (fun s h=>by cases h),?_⟩ ?_
  ·simpa only [GZ,Jb,JO,IK,AN,List.map_append,List.map_cons] using hk
  ·have hup:=Fl (x':=Gf c c2 cap2 [(⟨r.f,r.t,F0,LS⟩:SegW)]) ha hk
   simp -implicitDefEqProofs only [GZ,Jb,JO,IK]
   simp -implicitDefEqProofs only [Gf,EM hne'] at hup ⊢
   exact hup
 ·obtain ⟨A,s,hAs⟩:∃A s,acc=A++[s]:=⟨acc.dropLast,acc.getLast c0,(List.dropLast_concat_getLast c0).symm⟩
  subst hAs
  have hal:A.length+1≤pre.length:=by simpa using hyl
  have hso:=hyo s (by simp)
  have hAo:∀s∈A,Kx s:=fun s h=>hyo s (by simp [h])
  have hne:Eo (A++[s])≠[]:=by simp [Eo]
  have hxl:(Eo (A++[s])).length=A.length+1:=by rw [Q6]; simp
  rw [EM hne,hxl] at h10'
  simp -implicitDefEqProofs only [Ed hne] at hn hdj hall2 hall3
  have hkH:H2 k=some (.row 47 4 cap (Eo (A++[s]))):=hall2.1
  obtain ⟨x1,x2⟩:=AG hb13 hkH
  have w2:IntKind.i64.wrap (((A.length+1:Nat):Int)-1)=(A.length:Int):=by rw [IntKind.wrap_i64]; omega
  have hat:(Eo (A++[s]))[A.length]? = some [.int .i64 s.f,.int .i64 s.t,.int .i64 s.x,.sl 2 (A5 s.L)]:=by simp [Eo,MK]
  obtain ⟨w,hcall⟩:=ANc (f:=s.f) (t:=s.t) (x:=s.x) (g:=r.f) (u:=r.t) (y:=F0) hso.1 hLo (by have:=hso.2; omega) (by omega)
  simp -implicitDefEqProofs -proj only [go_sem,seval,h10',y3,y4,hcl,hcg,hct,hcn,w2,decide_eq_true (show (0:Int)<((A.length+1:Nat):Int) by omega)]
  refine Aa ⟨by omega,by omega⟩ (fun _=>?_)
  simp -implicitDefEqProofs -proj only [go_sem,seval,Int.toNat_natCast,x1,x2,hkH]
  refine Cg _ hat (by simp) ?_
  simp -implicitDefEqProofs -proj only [go_sem,seval,hcl,hcg,hct,hcn]
  have hlend:∀y,LendV (upd H2 b13 y) (.agg cs) (OL r.f r.t F0 LS):=fun y=>by
   rw [←hcs]
   exact Wr (LO (hLC3 y))
  refine Tj hcall (E3 (.refl _) (E3 (hlend _) GC)) rfl ?_
  cases w
  ·simp -implicitDefEqProofs -proj only [go_sem,seval,h10',y3,y4,hcl,hcg,hct,hcn,w2,x1,x2,hkH]
   rw [←hcs]
   refine Ny (hLC3 _) (fun H4 hk4=>?_)
   have hall4:=N8 (hall3 _) hk4 (fun p hp hq=>hdj p hq hp)
   simp -implicitDefEqProofs -proj only [go_sem,seval]
   refine Ao (fun bs hs=>?_)
   replace hs:H4 bs=none:=hs
   simp -implicitDefEqProofs -proj only [go_sem,seval]
   have hn1:(AN (Ah 47 4 k cap (Eo (A++[s]))++(b10,Gf c k cap (A++[s]))::T)).Nodup:=by rw [Ed hne]; exact hn
   have hrv1:As 4 4 k cap (Eo (A++[s])) = .own k 4 0 (A.length+1) cap:=by rw [EM hne,hxl]
   rw [←hrv1]
   refine FB (c:=k) (cap:=cap) (z0:=4) (xs:=Eo (A++[s])) (y:=[.int .i64 r.f,.int .i64 r.t,.int .i64 F0,.sl 2 (A5 LS)]) (t:=47) (capc:=1) ((b10,Gf c k cap (A++[s]))::T) rfl (Aj hs (by rw [Ed hne]; exact hall4)) hn1 (by simp -implicitDefEqProofs -proj only [go_sem,seval]; try rfl) (by rw [hxl]; omega) (by rw [hxl]; omega) (fun H' c2 cap2 ha hk=>?_)
   rw [show Eo (A++[s])++[[.int .i64 r.f,.int .i64 r.t,.int .i64 F0,.sl 2 (A5 LS)]]=Eo (A++[s]++[⟨r.f,r.t,F0,LS⟩]) by simp [Eo,MK]] at ha hk
   have q10:=(Ar.1 ha).2.1
   simp -implicitDefEqProofs only [Gf] at q10
   simp -implicitDefEqProofs -proj only [go_sem,seval,q10]
   have hne':Eo (A++[s]++[⟨r.f,r.t,F0,LS⟩])≠[]:=by simp [Eo]
   have hxl':(Eo (A++[s]++[⟨r.f,r.t,F0,LS⟩])).length=(Eo (A++[s])).length+1:=by simp [Eo]
   refine J9 ⟨c2,cap2,A++[s]++[⟨r.f,r.t,F0,LS⟩]⟩ ⟨by simp -implicitDefEqProofs only [IK,List.length_append,List.length_singleton]; omega,hwo _ hyo,?_⟩ ?_
   ·simpa only [GZ,Jb,JO,IK,AN,List.map_append,List.map_cons] using hk
   ·have hup:=Fl (x':=Gf c c2 cap2 (A++[s]++[⟨r.f,r.t,F0,LS⟩])) ha hk
    simp -implicitDefEqProofs only [GZ,Jb,JO,IK]
    simp -implicitDefEqProofs only [Gf,EM hne',hxl'] at hup ⊢
    exact hup
  ·simp -implicitDefEqProofs -proj only [go_sem,seval,h10',y3,y4,hcl,hcg,hct,hcn,w2,x1,x2,hkH]
   refine Aa ⟨by omega,by omega⟩ (fun _=>?_)
   simp -implicitDefEqProofs -proj only [go_sem,seval,Int.toNat_natCast,x1,x2,hkH]
   refine Kj (cap:=cap) (by simp -implicitDefEqProofs -proj only [go_sem,seval,x1,x2]; exact hkH) hat (by simp) ?_
   have hset:(Eo (A++[s])).set A.length [.int .i64 s.f,.int .i64 r.t,.int .i64 s.x,.sl 2 (A5 s.L)]=Eo (A++[⟨s.f,r.t,s.x,s.L⟩]):=by simp [Eo,MK,List.set_append]
   have hne1:Eo (A++[⟨s.f,r.t,s.x,s.L⟩])≠[]:=by simp [Eo]
   have hxl1:(Eo (A++[⟨s.f,r.t,s.x,s.L⟩])).length=A.length+1:=by rw [Q6]; simp
   simp -implicitDefEqProofs -proj only [go_sem,seval,F4,hset]
   refine J9 ⟨k,cap,A++[⟨s.f,r.t,s.x,s.L⟩]⟩ ⟨by simp -implicitDefEqProofs only [IK,List.length_append,List.length_singleton]; omega,fun s' hs'=>?_,?_⟩ ?_
   ·rcases List.mem_append.1 hs' with h | h
    ·exact hAo s' h
    ·rw [List.mem_singleton] at h; subst h; exact ⟨hso.1,hso.2⟩
   ·simp -implicitDefEqProofs only [GZ,Jb,JO,IK,Ed hne1]
    simpa only [AN,List.map_append,List.map_cons] using hn
   ·have hup:=fun y=>Fl (A:=[]) (b:=k) (x':=Blk.row 47 4 cap (Eo (A++[⟨s.f,r.t,s.x,s.L⟩]))) (hall3 y) hn
    simp -implicitDefEqProofs only [GZ,Jb,JO,IK,Ed hne1]
    simp -implicitDefEqProofs only [Gf,EM hne,EM hne1,hxl,hxl1] at hup ⊢
    exact hup _
structure MwX where
 i:Nat
 k1:Nat
 p1:Nat
 k2:Nat
 p2:Nat
 CW:List FE
 BW:List Int
theorem In {i a b c d:Nat} {C:List FE} {B:List Int}:(MwX.mk i a b c d C B).i=i:=(rfl)
theorem NW {i a b c d:Nat} {C:List FE} {B:List Int}:(MwX.mk i a b c d C B).k1=a:=(rfl)
theorem N7 {i a b c d:Nat} {C:List FE} {B:List Int}:(MwX.mk i a b c d C B).p1=b:=(rfl)
theorem NJ {i a b c d:Nat} {C:List FE} {B:List Int}:(MwX.mk i a b c d C B).k2=c:=(rfl)
theorem NI {i a b c d:Nat} {C:List FE} {B:List Int}:(MwX.mk i a b c d C B).p2=d:=(rfl)
theorem Lt {i a b c d:Nat} {C:List FE} {B:List Int}:(MwX.mk i a b c d C B).CW=C:=(rfl)
theorem Li {i a b c d:Nat} {C:List FE} {B:List Int}:(MwX.mk i a b c d C B).BW=B:=(rfl)
def J6 (b1 b2 b3 b4 bm:Nat) (c:CoreX) (y:MwX):List (Nat×Blk):=Ah 51 2 y.k1 y.p1 (A5 y.CW)++(Ah 3 1 y.k2 y.p2 (AU y.BW)++IT b1 b2 b3 b4 bm c (As 2 2 y.k1 y.p1 (A5 y.CW)) (As 1 1 y.k2 y.p2 (AU y.BW)))
theorem AJS {l:List Int} {x:Int} (h:Jf l) (hx:Fit x):Jf (l++[x]):=by
 intro i hi
 rw [List.getElem_append]
 split
 ·next h1=>exact h i h1
 ·simp -implicitDefEqProofs only [List.getElem_singleton]; exact hx
def ADY (c:CoreX):Prop:=∃x∈c.ps,∃q:Nat,q<(EX c.ms x.me+1).toNat∧FI x q=none
def Rv (c:CoreX) (r:AV):Prop:=∃(v0 v1 v2 v3 v4:AV) (e:Int),r = .tup [.agg [v0,v1,v2,v3,v4],i64 e]∧(e=0∨e=2)∧(e=2→v4 = .nilsl 4)∧(ADY c→e=2)
theorem AW9 {c:CoreX} (hc:c.Fit) (hg:¬goodC c):CallW Tryz.prog Og [Gz c] Heap.none fun r H'=>r = .tup [.agg [.d (.str ⟨⟨[]⟩⟩),i64 0,i64 0,.nilsl 5,.nilsl 4],i64 1]:=by
 have hgd:=NC hc
 rw [decide_eq_false hg] at hgd
 refine AZ PF (by simp) ?_
 simp -implicitDefEqProofs -proj only [go_sem,seval]
 refine AI (fun b1 hb1=>?_)
 simp -implicitDefEqProofs -proj only [go_sem,seval]
 refine AI (fun b2 hb2=>?_)
 replace hb2:upd Heap.none b1 _ b2=none:=hb2
 obtain ⟨n1,n2⟩:=AG hb2 AP
 simp -implicitDefEqProofs -proj only [go_sem,seval,n1,n2]
 refine AI (fun b3 hb3=>?_)
 replace hb3:upd (upd Heap.none b1 _) b2 _ b3=none:=hb3
 obtain ⟨n3,n4⟩:=AG hb3 AP
 obtain ⟨n5,n6⟩:=AG hb3 (by rw [AD n1]; exact AP)
 simp -implicitDefEqProofs -proj only [go_sem,seval,n1,n2,n3,n4,n5,n6]
 refine AK hgd ?_
 simp -implicitDefEqProofs -proj only [go_sem,seval,n1,n2,n3,n4,n5,n6]
set_option maxRecDepth 20000 in
set_option maxHeartbeats 4000000 in
theorem AQE {c:CoreX} (hc:c.Fit) (hg:goodC c):CallW Tryz.prog Og [Gz c] Heap.none fun r H'=>Rv c r:=by
 obtain ⟨⟨g1,g2⟩,⟨g3,g4⟩,g5,g6,g7,g8⟩:=hg.hd
 have hgd:=NC hc
 rw [decide_eq_true hg] at hgd
 refine AZ PF (by simp) ?_
 simp -implicitDefEqProofs -proj only [go_sem,seval]
 refine AI (fun b1 hb1=>?_)
 simp -implicitDefEqProofs -proj only [go_sem,seval]
 refine AI (fun b2 hb2=>?_)
 replace hb2:upd Heap.none b1 _ b2=none:=hb2
 obtain ⟨n1,n2⟩:=AG hb2 AP
 simp -implicitDefEqProofs -proj only [go_sem,seval,n1,n2]
 refine AI (fun b3 hb3=>?_)
 replace hb3:upd (upd Heap.none b1 _) b2 _ b3=none:=hb3
 obtain ⟨n3,n4⟩:=AG hb3 AP
 obtain ⟨n5,n6⟩:=AG hb3 (by rw [AD n1]; exact AP)
 simp -implicitDefEqProofs -proj only [go_sem,seval,n1,n2,n3,n4,n5,n6]
 refine AK hgd ?_
 simp -implicitDefEqProofs -proj only [go_sem,seval,n1,n2,n3,n4,n5,n6]
 refine AI (fun bm hbm=>?_)
 replace hbm:upd (upd (upd Heap.none b1 _) b2 _) b3 _ bm=none:=hbm
 obtain ⟨n7,n8⟩:=AG hbm AP
 obtain ⟨n9,n10⟩:=AG hbm (by rw [AD n3]; exact AP)
 obtain ⟨n11,n12⟩:=AG hbm (by rw [AD n5,AD n1]; exact AP)
 simp -implicitDefEqProofs -proj only [go_sem,seval,n1,n2,n3,n4,n5,n6,n7,n8,n9,n10,n11,n12]
 refine AI (fun b4 hb4=>?_)
 replace hb4:upd (upd (upd (upd Heap.none b1 _) b2 _) b3 _) bm _ b4=none:=hb4
 obtain ⟨m1,m2⟩:=AG hb4 AP
 obtain ⟨m3,m4⟩:=AG hb4 (by rw [AD n7]; exact AP)
 obtain ⟨m5,m6⟩:=AG hb4 (by rw [AD n9,AD n3]; exact AP)
 obtain ⟨m7,m8⟩:=AG hb4 (by rw [AD n11,AD n5,AD n1]; exact AP)
 simp -implicitDefEqProofs -proj only [go_sem,seval,n1,n2,n3,n4,n5,n6,n7,n8,n9,n10,n11,n12,m1,m2,m3,m4,m5,m6,m7,m8,FR]
 refine BJ (fun y:MwX=>y.i≤c.ps.length∧y.CW.length=y.i∧(∀p∈y.CW,GB p)∧y.BW.length=y.i∧Jf y.BW∧(∀(j:Nat) (h:j<c.ps.length),j<y.i→∀q:Nat,q<(EX c.ms c.ps[j].me+1).toNat→(FI c.ps[j] q).isSome=true)∧(AN (J6 b1 b2 b3 b4 bm c y)).Nodup) 115 (fun y=>[(1,.ptr b1 0),(2,.ptr b2 0),(3,.ptr b3 0),(4,.ptr b4 0),(24,.d (.sl 9 (Ea c.ps))),(25,i64 c.ps.length),(26,i64 y.i)]) (J6 b1 b2 b3 b4 bm c) (fun y=>c.ps.length-y.i) ⟨0,0,0,0,0,[],[]⟩ ⟨Nat.zero_le _,rfl,fun p h=>(by cases h),rfl,fun i h=>absurd h (Nat.not_lt_zero _),fun j _ h=>absurd h (Nat.not_lt_zero _),?_⟩ rfl ?_ ?_ ?_
 ·simp -implicitDefEqProofs only [J6,IT,In,NW,N7,NJ,NI,Lt,Li,A5,AU,List.map_nil,Ah,AN,List.nil_append,List.cons_append,List.map_cons,List.nodup_cons,List.mem_cons,List.not_mem_nil,or_false,not_or,not_false_eq_true,List.nodup_nil,and_true]
  exact ⟨⟨m2,n7,n9,n11⟩,⟨m3,m5,m7⟩,⟨n3,n5⟩,n1⟩
 ·simp -implicitDefEqProofs -proj only [go_sem,seval,AL,In]
  try rfl
 ·simp -implicitDefEqProofs only [J6,IT,In,NW,N7,NJ,NI,Lt,Li,A5,AU,List.map_nil,Ah,As]
  simp -implicitDefEqProofs -proj only [go_sem,seval,AS,n1,n2,n3,n4,n5,n6,n7,n8,n9,n10,n11,n12,m1,m2,m3,m4,m5,m6,m7,m8]
 rintro ⟨i,k1,p1,k2,p2,CW,BW⟩ ⟨hi,hCl,hCo,hBl,hBo,hsm,hnd⟩
 simp -implicitDefEqProofs only [In,Lt,Li] at hi hCl hCo hBl hBo hsm
 have hall:=EQ hnd
 obtain ⟨H,hH⟩:∃H,Ad (J6 b1 b2 b3 b4 bm c ⟨i,k1,p1,k2,p2,CW,BW⟩)=H:=⟨_,rfl⟩
 rw [hH] at hall
 simp -implicitDefEqProofs only [J6,IT] at hall hnd
 obtain ⟨hrowC,hx⟩:=Ar.1 hall
 obtain ⟨hrowI,hbmH,h4,h3,h2,h1,_⟩:=Ar.1 hx
 by_cases hlt:i<c.ps.length
 ·have hel:=IV hlt
  obtain ⟨pr,bb,ok,hpr,hbb,hoks,hpart⟩:=U7 hc hg (List.getElem_mem hlt)
  have hsm2:ok=true→∀(j:Nat) (h:j<c.ps.length),j<i+1→∀q:Nat,q<(EX c.ms c.ps[j].me+1).toNat→(FI c.ps[j] q).isSome=true:=fun e j h1 h2=>by
   by_cases hj:j=i
   ·subst hj; exact hoks e
   ·exact hsm j h1 (by omega)
  have hovr:ok=false→Rv c Y7:=fun _=>⟨_,_,_,_,_,2,rfl,.inr rfl,fun _=>rfl,fun _=>rfl⟩
  clear hoks
  generalize c.ps[i]=x at *
  simp -implicitDefEqProofs -proj only [go_sem,seval,In,hH,decide_eq_true (show (i:Int)<c.ps.length by omega)]
  refine Ai _ (by omega) hel ?_
  simp -implicitDefEqProofs -proj only [go_sem,seval]
  refine AI (fun b6 hb6=>?_)
  replace hb6:H b6=none:=hb6
  obtain ⟨y1,y2⟩:=AG hb6 h1
  simp -implicitDefEqProofs -proj only [go_sem,seval,y1,y2,h1]
  refine AK hpart ?_
  simp -implicitDefEqProofs -proj only [go_sem,seval]
  refine AI (fun b7 hb7=>?_)
  simp -implicitDefEqProofs only [AX] at hb7
  have z1:¬b6=b7:=fun e=>by subst e; simp at hb7
  have z2:¬b7=b6:=fun e=>z1 e.symm
  have hb7':H b7=none:=by simpa only [z1,↓reduceIte] using hb7
  obtain ⟨y3,y4⟩:=AG hb7' h4
  obtain ⟨y5,y6⟩:=AG hb6 h4
  obtain ⟨y7,y8⟩:=AG hb7' hbmH
  obtain ⟨y9,y10⟩:=AG hb6 hbmH
  obtain ⟨y11,y12⟩:=AG hb6 h2
  obtain ⟨y13,y14⟩:=AG hb7' h2
  obtain ⟨y15,y16⟩:=AG hb6 h3
  obtain ⟨y17,y18⟩:=AG hb7' h3
  have h23:¬b2=b3:=fun e=>by rw [e,h3] at h2; simp at h2
  have h32:¬b3=b2:=fun e=>h23 e.symm
  cases ok
  ·simp -implicitDefEqProofs -proj only [go_sem,seval,y11,y12,y13,y14,y15,y16,y17,y18,h2,h3,h23,h32]
   exact hovr rfl
  simp -implicitDefEqProofs -proj only [go_sem,seval,y1,y2,y3,y4,y5,y6,y7,y8,y9,y10,z1,z2,h4,hbmH]
  (repeat' (with_reducible refine Aa ?_ (fun h=>?_); (focus first | decide | omega); clear h; try simp -implicitDefEqProofs -proj only [go_sem,seval,eq_self,y1,y2,y3,y4,y5,y6,y7,y8,y9,y10,z1,z2,h4,hbmH]))
  refine Iy (ds:=[.int .i64 pr.1,.sl 5 (A0 pr.2)]) rfl (fun bs hs=>?_)
  simp -implicitDefEqProofs only [AX,z1,z2] at hs
  have z3:¬b6=bs:=fun e=>by subst e; simp [z1,z2] at hs
  have z4:¬b7=bs:=fun e=>by subst e; simp [z1,z2] at hs
  have hbs':H bs=none:=by simpa only [z3,z4,↓reduceIte] using hs
  have hA:∀X Y Z,AS (upd (upd (upd H b6 X) b7 Y) bs Z) _:=fun X Y Z =>
   Aj (by rw [AD z4,AD z3]; exact hbs') (Aj (by rw [AD z1]; exact hb7') (Aj hb6 hall))
  simp -implicitDefEqProofs -proj only [go_sem,seval,z1,z2,z3,z4]
  refine FB (xs:=A5 CW) (y:=[.int .i64 pr.1,.sl 5 (A0 pr.2)]) (t:=51) (capc:=1) _ rfl (hA _ _ _) hnd (by simp -implicitDefEqProofs -proj only [go_sem,seval]; try rfl) (by rw [IH]; omega) (by rw [IH]; omega) (fun H' c1 q1 ha hk=>?_)
  simp -implicitDefEqProofs -proj only [go_sem,seval]
  refine Iy (ds:=[.int .i64 bb]) rfl (fun b2s hs2=>?_)
  replace hs2:H' b2s=none:=hs2
  have ha2:=Ld ha
  have hk2:=LG hk
  rw [List.append_assoc] at ha2 hk2
  simp -implicitDefEqProofs -proj only [go_sem,seval]
  refine FB (xs:=AU BW) (y:=[.int .i64 bb]) (t:=3) (capc:=1) _ rfl (Aj hs2 ha2) hk2 (by simp -implicitDefEqProofs -proj only [go_sem,seval]; try rfl) (by rw [rowI_len]; omega) (by rw [rowI_len]; omega) (fun H2 c2 q2 ha3 hk3=>?_)
  have hbm2:H2 bm=some (.box 68 (Im c (As 2 2 k1 p1 (A5 CW)) (As 1 1 k2 p2 (AU BW)))):=(Ar.1 ha3).2.1
  simp -implicitDefEqProofs -proj only [go_sem,seval]
  refine TA hbm2 (by simp -implicitDefEqProofs -proj only [go_sem,seval]; exact m1) (by simp -implicitDefEqProofs -proj only [go_sem,seval]) (by simp [Ak]) ?_
  simp -implicitDefEqProofs -proj only [go_sem,seval]
  have eC:A5 CW++[[.int .i64 pr.1,.sl 5 (A0 pr.2)]]=A5 (CW++[pr]):=by simp [A5]
  have eB:AU BW++[[.int .i64 bb]]=AU (BW++[bb]):=by simp [AU]
  have neC:A5 (CW++[pr])≠[]:=by rw [←eC]; simp
  have neB:AU (BW++[bb])≠[]:=by rw [←eB]; simp
  have lC:(A5 CW).length=i:=by rw [IH,hCl]
  have lB:(AU BW).length=i:=by rw [rowI_len,hBl]
  have lC2:(A5 (CW++[pr])).length=i+1:=by rw [←eC,List.length_append,lC]; rfl
  have lB2:(AU (BW++[bb])).length=i+1:=by rw [←eB,List.length_append,lB]; rfl
  rw [eC,eB] at ha3 hk3
  have ha4:=Ld ha3
  have hk4:=LG hk3
  rw [List.append_assoc] at ha4 hk4
  have ha5:=Ld ha4
  have hk5:=LG hk4
  have hup:=Fl (A:=Ah 51 2 c1 q1 (A5 (CW++[pr]))++Ah 3 1 c2 q2 (AU (BW++[bb]))) (b:=bm) (x':=.box 68 (Im c (As 2 2 c1 q1 (A5 (CW++[pr]))) (As 1 1 c2 q2 (AU (BW++[bb]))))) (by simpa only [List.append_assoc,List.cons_append,List.nil_append] using ha5) (by simpa only [List.append_assoc,List.cons_append,List.nil_append] using hk5)
  refine Ac ⟨i+1,c1,q1,c2,q2,CW++[pr],BW++[bb]⟩ ⟨by show i+1≤c.ps.length; omega,by simp -implicitDefEqProofs only [Lt,In,List.length_append,List.length_singleton,hCl],fun p hp=>(List.mem_append.1 hp).elim (hCo p) (fun h=>by rw [List.mem_singleton] at h; subst h; exact hpr),by simp -implicitDefEqProofs only [Li,In,List.length_append,List.length_singleton,hBl],AJS hBo hbb,hsm2 rfl,?_⟩ (by show c.ps.length-(i+1)<c.ps.length-i; omega) rfl ?_ ?_
  ·simp -implicitDefEqProofs only [J6,IT,In,NW,N7,NJ,NI,Lt,Li]
   simpa only [AN,List.map_append,List.map_cons,List.append_assoc,List.cons_append,List.nil_append] using hk5
  ·simp -implicitDefEqProofs -proj only [go_sem,seval,AL,In,AR (show i<9223372036854775807 by omega)]
  ·simp -implicitDefEqProofs only [J6,IT,In,NW,N7,NJ,NI,Lt,Li]
   simpa only [List.append_assoc,List.cons_append,List.nil_append,EM neC,EM neB,lC,lB,lC2,lB2] using hup
 have hi':i=c.ps.length:=by omega
 subst hi'
 have hcl:=RS (ms:=c.ms) (by omega)
 have hho:=SC hc hg
 obtain ⟨R,hR⟩:∃R,HO c=R:=⟨_,rfl⟩
 rw [hR] at hho
 simp -implicitDefEqProofs -proj only [go_sem,seval,In,hH,decide_eq_false (show ¬(c.ps.length:Int)<c.ps.length by omega),h1]
 (repeat' (with_reducible refine Aa ?_ (fun h=>?_); (focus first | decide | omega); clear h; try simp -implicitDefEqProofs -proj only [go_sem,seval,eq_self,h1]))
 refine Eb hcl ?_
 simp -implicitDefEqProofs -proj only [go_sem,seval,h1]
 refine AI (fun b10 hb10=>?_)
 replace hb10:H b10=none:=hb10
 obtain ⟨y1,y2⟩:=AG hb10 h1
 simp -implicitDefEqProofs -proj only [go_sem,seval,y1,y2,h1]
 (repeat' (with_reducible refine Aa ?_ (fun h=>?_); (focus first | decide | omega); clear h; try simp -implicitDefEqProofs -proj only [go_sem,seval,eq_self,y1,y2,h1]))
 refine AK hho ?_
 simp -implicitDefEqProofs -proj only [go_sem,seval,y1,y2]
 refine AI (fun b11 hb11=>?_)
 simp -implicitDefEqProofs only [AX] at hb11
 have z1:¬b10=b11:=fun e=>by subst e; simp at hb11
 have z2:¬b11=b10:=fun e=>z1 e.symm
 simp -implicitDefEqProofs -proj only [go_sem,seval,y1,y2,z1,z2]
 refine Ek Q8 ?_
 rintro r H6 ⟨vb,rfl,hbv,hv,hkeep⟩
 have hlR:R.length≤1000000:=by
  have:=(LR (c:=c) g3).len
  rw [hR] at this
  omega
 simp -implicitDefEqProofs only [AX] at hbv hkeep
 have e10:H6 b10=some (Gf c 0 0 []):=hkeep b10 _ (by simp -implicitDefEqProofs only [z2,↓reduceIte]; rfl)
 have eb11:H6 b11=some (.box 74 [.d (.sl 3 (Fc R))]):=hkeep b11 _ (by simp -implicitDefEqProofs only [↓reduceIte])
 have w1:¬b10=vb:=fun e=>by rw [e,hv] at e10; cases e10
 have w2:¬b11=vb:=fun e=>by
  rw [e,hv] at eb11
  simp at eb11
 have hvb:H vb=none:=by simpa only [w1,w2,↓reduceIte] using hbv
 have hb11':H b11=none:=by simpa only [z1,↓reduceIte] using hb11
 have hH6:∀k x,H k=some x→H6 k=some x:=fun k x hx=>hkeep k x (by
  obtain ⟨f1,f2⟩:=AG hb10 hx
  obtain ⟨f3,f4⟩:=AG hb11' hx
  simpa only [f1,f3,↓reduceIte] using hx)
 obtain ⟨T,hT⟩:∃T,(b4,.box 66 [.ptr bm 0])::(b3,.box 32 [i64 0])::(b2,.box 31 [.d (.str ⟨⟨[]⟩⟩),i64 0,i64 0,.nilsl 5,.nilsl 4])::(vb,.box 72 [Gw R])::Gb bm c k1 p1 k2 p2 CW BW=T:=⟨_,rfl⟩
 have ht1:=Ue (by simpa only [AN,List.map_append,List.map_cons,List.map_nil] using hnd)
 have hkm:AN (Gb bm c k1 p1 k2 p2 CW BW)=bm::(List.map (·.1) (Ah 51 2 k1 p1 (A5 CW))++List.map (·.1) (Ah 3 1 k2 p2 (AU BW))):=by simp -implicitDefEqProofs only [Gb,AN,List.map_append,List.map_cons]
 have hnm:(AN (Gb bm c k1 p1 k2 p2 CW BW)).Nodup:=by
  rw [hkm]
  exact (List.nodup_cons.1 (List.nodup_cons.1 (List.nodup_cons.1 ht1).2).2).2
 have hkeys:AN (Ah 51 2 k1 p1 (A5 CW)++(Ah 3 1 k2 p2 (AU BW)++[(bm,Blk.box 68 (Im c (As 2 2 k1 p1 (A5 CW)) (As 1 1 k2 p2 (AU BW)))),(b4,.box 66 [.ptr bm 0]),(b3,.box 32 [i64 0]),(b2,.box 31 [.d (.str ⟨⟨[]⟩⟩),i64 0,i64 0,.nilsl 5,.nilsl 4]),(b1,.box 26 [.d (.str c.cur),i64 c.f,i64 c.t,.d (.sl 5 (BV c.ms)),.d (.sl 3 (Ey c.ss)),.d (.sl 9 (Ea c.ps))])]))=List.map (·.1) (Ah 51 2 k1 p1 (A5 CW))++(List.map (·.1) (Ah 3 1 k2 p2 (AU BW))++[bm,b4,b3,b2,b1]):=by
  simp -implicitDefEqProofs only [AN,List.map_append,List.map_cons,List.map_nil]
 have hin:∀k,k∈(b4::b3::b2::AN (Gb bm c k1 p1 k2 p2 CW BW))→∃x,H k=some x:=fun k hk=>by
  rw [hkm] at hk
  have hk2:k∈List.map (·.1) (Ah 51 2 k1 p1 (A5 CW))++(List.map (·.1) (Ah 3 1 k2 p2 (AU BW))++[bm,b4,b3,b2,b1]):=by
   simp -implicitDefEqProofs only [List.mem_append,List.mem_cons] at hk ⊢
   rcases hk with h | h | h | h | h | h <;> simp [h]
  rw [←hkeys] at hk2
  obtain ⟨q,hq,rfl⟩:=List.mem_map.1 hk2
  exact ⟨_,Ee.1 hall _ hq⟩
 have hmkH:AS H (Gb bm c k1 p1 k2 p2 CW BW):=by
  refine MD hall fun q hq=>?_
  simp -implicitDefEqProofs only [Gb,List.mem_append,List.mem_cons] at hq ⊢
  rcases hq with h | h | h <;> simp [h]
 have hTn:(AN T).Nodup:=by
  rw [←hT]
  simp -implicitDefEqProofs only [AN,List.map_cons]
  refine Tb (by rw [←hkm] at ht1; exact ht1) fun hm=>?_
  obtain ⟨x,hx⟩:=hin vb hm
  rw [hvb] at hx; cases hx
 have hTH:AS H6 T:=by
  rw [←hT]
  exact ⟨hH6 _ _ h4,hH6 _ _ h3,hH6 _ _ h2,hv,Ee.2 fun q hq=>hH6 _ _ (Ee.1 hmkH q hq)⟩
 have h10T:b10∉AN T:=by
  rw [←hT]
  simp -implicitDefEqProofs only [AN,List.map_cons,List.mem_cons,not_or]
  have hh:∀k,k∈(b4::b3::b2::AN (Gb bm c k1 p1 k2 p2 CW BW))→¬b10=k:=fun k hk e=>by
   obtain ⟨x,hx⟩:=hin k hk
   rw [←e,hb10] at hx; cases hx
  exact ⟨hh _ (by simp),hh _ (by simp),hh _ (by simp),w1,fun hm=>hh _ (by simp -implicitDefEqProofs only [List.mem_cons]; exact .inr (.inr (.inr hm))) rfl⟩
 have hn0:(AN (GZ b10 c T ⟨0,0,[]⟩)).Nodup:=by
  simp -implicitDefEqProofs only [GZ,Jb,JO,IK,Eo,List.map_nil,Hw,List.nil_append,AN,List.map_cons,List.nodup_cons]
  exact ⟨h10T,hTn⟩
 have hTb:∀q∈T,q∈Gb bm c k1 p1 k2 p2 CW BW∨∃t cells,q.2 = .box t cells:=by
  intro q hq
  rw [←hT] at hq
  simp -implicitDefEqProofs only [List.mem_cons] at hq
  rcases hq with rfl | rfl | rfl | rfl | hq
  ·exact .inr ⟨_,_,rfl⟩
  ·exact .inr ⟨_,_,rfl⟩
  ·exact .inr ⟨_,_,rfl⟩
  ·exact .inr ⟨_,_,rfl⟩
  ·exact .inl hq
 simp -implicitDefEqProofs -proj only [go_sem,seval]
 refine NE [(2,.ptr b2 0),(3,.ptr b3 0),(4,.ptr b4 0),(10,.ptr b10 0)] (fun pre y=>y.acc.length≤pre.length∧(∀s∈y.acc,Kx s)∧(AN (GZ b10 c T y)).Nodup) (GZ b10 c T) ⟨0,0,[]⟩ (Rc (b:=vb) (l:=R) hlR) (by simp -implicitDefEqProofs -proj only [go_sem,seval]) rfl (by simp) (by simp -implicitDefEqProofs -proj only [go_sem,seval,AL]) ?_ ⟨Nat.zero_le _,fun s h=>(by cases h),hn0⟩ ⟨e10,hTH⟩ ?_ ?_
 ·intro pre y _ q hq
  simp -implicitDefEqProofs only [List.mem_singleton] at hq
  subst hq
  simp -implicitDefEqProofs only [GZ,List.mem_append,List.mem_cons]
  exact .inr (.inr (by rw [←hT]; simp))
 ·rintro pre x post y hxs ⟨hy,hyo,hn⟩
  obtain ⟨hlt,rfl,hpre⟩:=Nb hxs
  refine ARl hc hg hCo hCl hBo hBl (by rw [←hT]; simp) (by rw [←hT]; simp) (by rw [←hT]; simp) (fun q hq=>by rw [←hT]; simp [hq]) hTb hnm (fun H'=>?_) pre (by omega) hy hyo hn
  simp -implicitDefEqProofs -proj only [go_sem,seval,n3,n4]
  exact ⟨_,_,_,_,_,2,rfl,.inr rfl,fun _=>rfl,fun _=>rfl⟩
 ·rintro ⟨k,cap,acc⟩ ⟨hy,hyo,hn⟩
  have hall':=EQ hn
  obtain ⟨H',hH'⟩:∃H',Ad (GZ b10 c T ⟨k,cap,acc⟩)=H':=⟨_,rfl⟩
  rw [hH'] at hall' ⊢
  simp -implicitDefEqProofs only [GZ,Jb,JO,IK] at hall' hn
  obtain ⟨hrow,q10,hTT⟩:=Ar.1 hall'
  rw [←hT] at hTT
  obtain ⟨q4,q3,q2,_,_⟩:=hTT
  simp -implicitDefEqProofs only [Gf] at q10
  simp -implicitDefEqProofs -proj only [go_sem,seval,q10,q2,q3,n3,n4]
  refine ⟨_,_,_,_,_,0,rfl,.inl rfl,fun h=>absurd h (by decide),?_⟩
  rintro ⟨x,hx,q,hq,hno⟩
  obtain ⟨j,hj,rfl⟩:=List.getElem_of_mem hx
  have:=hsm j hj hj q hq
  rw [hno] at this
  cases this
def It (cu:ByteArray) (f t:Int) (ms:List MeterX) (S:List (Seg Ei)):Blk:=.box 31 [.d (.str cu),i64 f,i64 t,.d (.sl 5 (BV ms)),JW S]
def mq (x y:MeterX):Bool:=(x.nm.toList == y.nm.toList)&&((x.un.toList == y.un.toList)&&(decide (x.mx=y.mx)&&(decide (x.ln=y.ln)&&decide (x.co=y.co))))
def G1:List MeterX→List MeterX→Bool
 | [],[]=>true
 | x::a,y::b=>mq x y&&G1 a b
 | _,_=>false
theorem Ps:∀{a b:List MeterX},a.length≠b.length→G1 a b=false
 | [],[],h=>absurd rfl h
 | [],_::_,_=>rfl
 | _::_,[],_=>rfl
 | _::a,_::b,h=>by rw [G1,Ps (a:=a) (b:=b) (fun e=>h (by simp [e])),Bool.and_false]
theorem AOV {a b:List MeterX} (ha:a.length≤1000000) (hb:b.length≤1000000):DataW Tryz.prog ATC [.d (.sl 5 (BV a)),.d (.sl 5 (BV b))] (bv (G1 a b)):=by
 refine AZ AIf (by simp) ?_
 by_cases hl:a.length=b.length
 rotate_left
 ·rw [Ps hl]
  simp -implicitDefEqProofs -proj only [go_sem,seval,FO,decide_eq_false (show ¬(a.length:Int)=b.length by omega)]
  exact AJ rfl
 simp -implicitDefEqProofs -proj only [go_sem,seval,FO,decide_eq_true (show (a.length:Int)=b.length by omega)]
 refine BJ (fun i:Nat=>i≤a.length∧G1 (a.drop i) (b.drop i)=G1 a b) 26 (fun i=>[(0,.d (.sl 5 (BV a))),(1,.d (.sl 5 (BV b))),(11,.d (.sl 5 (BV a))),(12,i64 a.length),(13,i64 i)]) (fun _=>[]) (fun i=>a.length-i) 0 ⟨Nat.zero_le _,by simp⟩ rfl ?_ ?_ ?_
 ·simp -implicitDefEqProofs -proj only [go_sem,seval,AL]
  try simp [hl]
 ·simp -implicitDefEqProofs -proj only [go_sem,seval,AS]
 ·rintro i ⟨hi,hat⟩
  by_cases h:i<a.length
  ·have h':i<b.length:=by omega
   have e1:=G8 h
   have e2:=G8 h'
   rw [List.drop_eq_getElem_cons h,List.drop_eq_getElem_cons h',G1] at hat
   generalize a[i]=x at *
   generalize b[i]=y at *
   simp -implicitDefEqProofs -proj only [go_sem,seval,decide_eq_true (show (i:Int)<a.length by omega)]
   refine Ai _ (by omega) e1 ?_
   simp -implicitDefEqProofs -proj only [go_sem,seval]
   refine Ai _ (by omega) e2 ?_
   cases hp:mq x y
   ·rw [hp,Bool.false_and] at hat
    unfold mq at hp
    simp -implicitDefEqProofs -proj only [go_sem,seval,hp]
    rw [←hat]
    exact AJ rfl
   ·rw [hp,Bool.true_and] at hat
    unfold mq at hp
    simp -implicitDefEqProofs -proj only [go_sem,seval,hp]
    refine Ac (i+1) ⟨by omega,hat⟩ (by omega) rfl ?_ trivial
    simp -implicitDefEqProofs -proj only [go_sem,seval,AL,AR (show i<9223372036854775807 by omega)]
  ·have hi':i=a.length:=by omega
   subst hi'
   rw [List.drop_length,hl,List.drop_length] at hat
   simp -implicitDefEqProofs -proj only [go_sem,seval,decide_eq_false (show ¬(a.length:Int)<a.length by omega)]
   rw [←hat]
   exact AJ rfl
open Classical in
theorem AW0 {cu cu':ByteArray} {f t f' t':Int} {ms ms':List MeterX} {S S':List (Seg Ei)} (hm:ms.length≤1000000) (hm':ms'.length≤1000000) (hS:∀s∈S,Jo s) (hS':∀s∈S',Jo s) (hl:S.length≤1000000) (hl':S'.length≤1000000):DataW Tryz.prog AJ7 [Iz cu f t ms S,Iz cu' f' t' ms' S'] (bv ((cu.toList == cu'.toList)&&(decide (f=f')&&(decide (t=t')&&(G1 ms ms'&&decide (S=S')))))):=by
 have h1:=AOV hm hm'
 have h2:=AKR hS hS' hl hl'
 refine AZ AEn (by simp) ?_
 simp -implicitDefEqProofs -proj only [go_sem,seval]
 refine AI (fun b2 hb2=>?_)
 simp -implicitDefEqProofs -proj only [go_sem,seval]
 refine AI (fun b3 hb3=>?_)
 replace hb3:upd Heap.none b2 _ b3=none:=hb3
 obtain ⟨n1,n2⟩:=AG hb3 AP
 cases c1:cu.toList == cu'.toList
 ·simp -implicitDefEqProofs -proj only [go_sem,seval,n1,n2,Mt,c1]
  exact AJ (by simp)
 by_cases hf:f=f'
 rotate_left
 ·simp -implicitDefEqProofs -proj only [go_sem,seval,n1,n2,Mt,c1,decide_eq_false hf]
  exact AJ (by simp)
 by_cases ht:t=t'
 rotate_left
 ·simp -implicitDefEqProofs -proj only [go_sem,seval,n1,n2,Mt,c1,decide_eq_true hf,decide_eq_false ht]
  exact AJ (by simp)
 simp -implicitDefEqProofs -proj only [go_sem,seval,n1,n2,Mt,c1,decide_eq_true hf,decide_eq_true ht]
 refine AK h1 ?_
 cases c2:G1 ms ms'
 ·simp -implicitDefEqProofs -proj only [go_sem,seval,n1,n2]
  exact AJ (by simp)
 ·simp -implicitDefEqProofs -proj only [go_sem,seval,n1,n2]
  refine AK h2 ?_
  simp -implicitDefEqProofs -proj only [go_sem,seval]
  exact AJ (by simp)
structure mostC (c:CoreX):Prop where
 parts:∀(i:Nat) (h:i<c.ps.length),∀q:Nat,q<(EX c.ms c.ps[i].me+1).toNat→KK c.ps[i] q
 tot:∀i,i≤c.ps.length→F9 c i≤1152921504606846976
noncomputable instance (c:CoreX):Decidable (mostC c):=Classical.propDecidable _
theorem Vy {c:CoreX}:fitsC c↔¬JV c∧goodC c∧mostC c :=
 ⟨fun h=>⟨h.great,h.good,fun i hi=>h.parts _ (List.getElem_mem hi),h.tot⟩,fun ⟨h1,h2,h3⟩=>⟨h1,h2,fun x hx=>by
  obtain ⟨i,hi,rfl⟩:=List.getElem_of_mem hx
  exact h3.parts i hi,h3.tot⟩⟩
theorem Wa {c:CoreX} {j:Nat} (h:j<c.ps.length):F9 c (j+1)=F9 c j+G9 c.ps[j] (EX c.ms c.ps[j].me+1).toNat:=by
 unfold F9
 rw [sg]
 have:HP c j=G9 c.ps[j] (EX c.ms c.ps[j].me+1).toNat:=by unfold HP; rw [List.getElem?_eq_getElem h]
 omega
theorem AK9 {c:CoreX} (hc:c.Fit) (hg:goodC c):∃n,DataW Tryz.prog AB1 [Gz c] (.tup [i64 n,bv (decide (mostC c))]):=by
 refine ⟨if mostC c then F9 c c.ps.length else 0,?_⟩
 obtain ⟨_,_,_,a6,a7,a8⟩:=hg.hd
 have hps:=hg.ps
 have hfp:=hc.ps
 have hme:=(fitsC.bnd hg).me
 have hmxb:=(fitsC.bnd hg).mx
 have hfin:∀H,¬mostC c→LendV H (.tup [i64 0,bv false]) (.tup [i64 (if mostC c then F9 c c.ps.length else 0),bv (decide (mostC c))]):=fun H h=>AJ (by rw [if_neg h,decide_eq_false h])
 have hyes:∀H,mostC c→LendV H (.tup [i64 (F9 c c.ps.length),bv true]) (.tup [i64 (if mostC c then F9 c c.ps.length else 0),bv (decide (mostC c))]):=fun H h=>AJ (by rw [if_pos h,decide_eq_true h])
 generalize hR:AV.tup [i64 (if mostC c then F9 c c.ps.length else 0),bv (decide (mostC c))]=R at *
 clear hR
 refine AZ AEB (by simp) ?_
 simp -implicitDefEqProofs -proj only [go_sem,seval]
 refine AI (fun b1 hb1=>?_)
 simp -implicitDefEqProofs -proj only [go_sem,seval,Fr]
 have hamt:∀i:Nat,i≤c.ss.length→0≤sg (Ga c.ss) i∧sg (Ga c.ss) i≤1000000000000*i:=by
  intro i
  induction i with
  | zero=>intro _; exact ⟨Int.le_refl _,Int.le_refl _⟩
  | succ n ih =>
   intro hn
   have:=ih (by omega)
   have h1:=(fitsC.bnd hg).amt _ (List.getElem_mem (show n<c.ss.length by omega))
   rw [sg]
   have:Ga c.ss n=c.ss[n].a:=by unfold Ga; rw [List.getElem?_eq_getElem (by omega)]
   omega
 refine BJ (fun i:Nat=>i≤c.ss.length) 71 (fun i=>[(1,.ptr b1 0),(4,i64 (sg (Ga c.ss) i)),(14,.d (.sl 3 (Ey c.ss))),(15,i64 c.ss.length),(16,i64 i)]) (fun _=>[(b1,CS c)]) (fun i=>c.ss.length-i) 0 (Nat.zero_le _) rfl ?_ ?_ ?_
 ·simp -implicitDefEqProofs -proj only [go_sem,seval,AL,Fr,sg]
 ·exact ⟨AP,trivial⟩
 ·intro i hi
  have hk:AS (Ad [(b1,CS c)]) [(b1,CS c)]:=EQ (by simp [AN])
  have k1:=hk.1
  by_cases h:i<c.ss.length
  ·have hel:=KM h
   have hA:=hamt i hi
   have hA2:=hamt (i+1) (by omega)
   have hst:sg (Ga c.ss) (i+1)=sg (Ga c.ss) i+c.ss[i].a:=by rw [sg]; unfold Ga; rw [List.getElem?_eq_getElem h]
   generalize c.ss[i]=s at *
   have w:IntKind.i64.wrap (sg (Ga c.ss) i+s.a)=sg (Ga c.ss) (i+1):=by rw [IntKind.wrap_i64]; omega
   simp -implicitDefEqProofs -proj only [go_sem,seval,decide_eq_true (show (i:Int)<c.ss.length by omega)]
   refine Ai _ (by omega) hel ?_
   simp -implicitDefEqProofs -proj only [go_sem,seval]
   refine AI (fun b6 hb6=>?_)
   simp -implicitDefEqProofs -proj only [go_sem,seval,w]
   refine Ac (i+1) (by omega) (by show c.ss.length-(i+1)<c.ss.length-i; omega) rfl ?_ (Aj hb6 hk)
   simp -implicitDefEqProofs -proj only [go_sem,seval,AL,AR (show i<9223372036854775807 by omega)]
  ·have hi':i=c.ss.length:=by omega
   subst hi'
   have hA:=hamt c.ss.length (Nat.le_refl _)
   simp -implicitDefEqProofs -proj only [go_sem,seval,k1,decide_eq_false (show ¬(c.ss.length:Int)<c.ss.length by omega),FR]
   refine BJ (fun j:Nat=>j≤c.ps.length∧(∀(i:Nat) (h:i<c.ps.length),i<j→∀q:Nat,q<(EX c.ms c.ps[i].me+1).toNat→KK c.ps[i] q)∧∀i,i≤j→F9 c i≤1152921504606846976) 71 (fun j=>[(1,.ptr b1 0),(4,i64 (F9 c j)),(26,.d (.sl 9 (Ea c.ps))),(27,i64 c.ps.length),(28,i64 j)]) (fun _=>[(b1,CS c)]) (fun j=>c.ps.length-j) 0 ⟨Nat.zero_le _,fun i _ h=>absurd h (Nat.not_lt_zero _),fun i hi=>?_⟩ rfl ?_ ?_ ?_
   ·have:i=0:=by omega
    subst this
    simp -implicitDefEqProofs only [F9,sg]; omega
   ·simp -implicitDefEqProofs -proj only [go_sem,seval,AL,F9,sg,Int.add_zero,FR]
   ·exact hk
   ·rintro j ⟨hj,hs1,hs2⟩
    by_cases h:j<c.ps.length
    ·have helj:=IV h
     have hx:=List.getElem_mem h
     have hok:=hps _ hx
     have hfx:=hfp _ hx
     obtain ⟨m0,m1⟩:=hme _ hx
     have hno1:∀q:Nat,q<(EX c.ms c.ps[j].me+1).toNat→¬KK c.ps[j] q→¬mostC c:=fun q hq hn k=>hn (k.parts j h q hq)
     have hno2:¬F9 c (j+1)≤1152921504606846976→¬mostC c:=fun hn k=>hn (k.tot (j+1) (by omega))
     have hgo1:(∀q:Nat,q<(EX c.ms c.ps[j].me+1).toNat→KK c.ps[j] q)→∀(i:Nat) (h:i<c.ps.length),i<j+1→∀q:Nat,q<(EX c.ms c.ps[i].me+1).toNat→KK c.ps[i] q:=by
      intro e i hi hij
      by_cases hij2:i=j
      ·subst hij2; exact e
      ·exact hs1 i hi (by omega)
     have hb:=Wa (c:=c) h
     have hT0:=hs2 j (Nat.le_refl _)
     have hT1:0≤F9 c j:=by
      have:=hamt c.ss.length (Nat.le_refl _)
      have:=K5 (n:=j) fun i _=>MG (c:=c) i
      unfold F9; omega
     have hmxn:=hmxb c.ps[j].me.toNat (by omega)
     have hmx:EX c.ms c.ps[j].me=c.ms[c.ps[j].me.toNat].mx:=by unfold EX; rw [List.getElem?_eq_getElem (by omega)]
     have helm:=G8 (show c.ps[j].me.toNat<c.ms.length by omega)
     rw [Int.toNat_natCast] at helm
     rw [←hmx] at hmxn
     generalize c.ms[c.ps[j].me.toNat]=mm at *
     generalize c.ps[j]=x at *
     rw [hmx] at hno1 hgo1 hb hmxn
     have G:=MP hok
     have hcall:=fun (q:Int) (hq:Fit q)=>NY (q:=q) hfx hq G (Lp G.ts)
     simp -implicitDefEqProofs -proj only [go_sem,seval,decide_eq_true (show (j:Int)<c.ps.length by omega)]
     refine Ai _ (by omega) helj ?_
     simp -implicitDefEqProofs -proj only [go_sem,seval]
     refine AI (fun b8 hb8=>?_)
     replace hb8:Ad [(b1,CS c)] b8=none:=hb8
     obtain ⟨n1,n2⟩:=AG hb8 k1
     simp -implicitDefEqProofs -proj only [go_sem,seval]
     refine BJ (fun k:Nat=>k≤(mm.mx+1).toNat∧0≤G9 x k∧G9 x k≤1152921504606846976∧∀q:Nat,q<k→KK x q) 71 (fun k=>[(1,.ptr b1 0),(4,i64 (F9 c j)),(26,.d (.sl 9 (Ea c.ps))),(27,i64 c.ps.length),(28,i64 j),(8,.ptr b8 0),(9,i64 (G9 x k)),(10,i64 k)]) (fun _=>[(b8,Blk.box 40 [i64 x.me,i64 x.f,i64 x.t,i64 x.al,i64 x.bl,i64 x.ki,EZ x.ts,i64 x.mo,Ec x.ad]),(b1,CS c)]) (fun k=>(mm.mx+1).toNat-k) 0 ⟨Nat.zero_le _,Int.le_refl _,(by show (0:Int)≤1152921504606846976; decide),fun q h=>absurd h (Nat.not_lt_zero _)⟩ rfl ?_ ?_ ?_
     ·simp -implicitDefEqProofs -proj only [go_sem,seval,AL,G9]
     ·exact ⟨AP,(AD n1).trans k1,trivial⟩
     ·rintro k ⟨hk',hb0,hb1,hq⟩
      have hkk:AS (Ad [(b8,Blk.box 40 [i64 x.me,i64 x.f,i64 x.t,i64 x.al,i64 x.bl,i64 x.ki,EZ x.ts,i64 x.mo,Ec x.ad]),(b1,CS c)]) [(b8,Blk.box 40 [i64 x.me,i64 x.f,i64 x.t,i64 x.al,i64 x.bl,i64 x.ki,EZ x.ts,i64 x.mo,Ec x.ad]),(b1,CS c)]:=EQ (by simp [AN,n1])
      obtain ⟨k8,kb1,_⟩:=id hkk
      simp -implicitDefEqProofs -proj only [go_sem,seval,k8,kb1,n1,n2]
      refine Ai _ m0 helm ?_
      by_cases h2:(k:Int)≤mm.mx
      ·have hck:=hcall k (by unfold Fit; omega)
       have hbs:G9 x (k+1)=max (G9 x k) (pv x k):=rfl
       simp -implicitDefEqProofs -proj only [go_sem,seval,k8,kb1,n1,n2,decide_eq_true h2]
       refine AK hck ?_
       cases e:FI x (k:Int) with
       | none =>
        have hn:¬mostC c:=hno1 k (by omega) (fun ⟨n,h,_⟩=>by rw [e] at h; cases h)
        simp -implicitDefEqProofs -proj only [go_sem,seval,EN,Bool.not_false]
        exact hfin _ hn
       | some n =>
        have hpv:pv x k=n:=by unfold pv; rw [e]; rfl
        by_cases c1:1152921504606846976<n
        ·have hn:¬mostC c:=hno1 k (by omega) (fun ⟨n',h,_,h3⟩=>by rw [e] at h; cases h; omega)
         simp -implicitDefEqProofs -proj only [go_sem,seval,EN,Bool.not_true,decide_eq_true c1]
         exact hfin _ hn
        by_cases c2:n<0
        ·have hn:¬mostC c:=hno1 k (by omega) (fun ⟨n',h,h2,_⟩=>by rw [e] at h; cases h; omega)
         simp -implicitDefEqProofs -proj only [go_sem,seval,EN,Bool.not_true,decide_eq_false c1,decide_eq_true c2]
         exact hfin _ hn
        rw [hpv] at hbs
        simp -implicitDefEqProofs -proj only [go_sem,seval,EN,Bool.not_true,decide_eq_false c1,decide_eq_false c2]
        refine Ac (k+1) ⟨by omega,by rw [hbs]; omega,by rw [hbs]; omega,fun q hq2=>?_⟩ (by show (mm.mx+1).toNat-(k+1)<(mm.mx+1).toNat-k; omega) rfl ?_ hkk
        ·by_cases e2:q=k
         ·subst e2; exact ⟨n,e,by omega,by omega⟩
         ·exact hq q (by omega)
        ·simp -implicitDefEqProofs -proj only [go_sem,seval,AL,hbs,AR (show k<9223372036854775807 by omega)]
      ·have hk2:k=(mm.mx+1).toNat:=by omega
       subst hk2
       have w:IntKind.i64.wrap (F9 c j+G9 x (mm.mx+1).toNat)=F9 c (j+1):=by rw [IntKind.wrap_i64]; omega
       simp -implicitDefEqProofs -proj only [go_sem,seval,decide_eq_false h2,w]
       by_cases c1:1152921504606846976<F9 c (j+1)
       ·simp -implicitDefEqProofs -proj only [go_sem,seval,decide_eq_true c1]
        exact hfin _ (hno2 (by omega))
       ·simp -implicitDefEqProofs -proj only [go_sem,seval,decide_eq_false c1]
        refine Ac (j+1) ⟨by omega,hgo1 hq,fun i hi=>?_⟩ (by show c.ps.length-(j+1)<c.ps.length-j; omega) rfl ?_ ⟨kb1,trivial⟩
        ·by_cases e2:i=j+1
         ·subst e2; omega
         ·exact hs2 i (by omega)
        ·simp -implicitDefEqProofs -proj only [go_sem,seval,AL,AR (show j<9223372036854775807 by omega)]
    ·have hj':j=c.ps.length:=by omega
     subst hj'
     have hm:mostC c:=⟨fun i hi=>hs1 i hi hi,hs2⟩
     have:=hs2 c.ps.length (Nat.le_refl _)
     simp -implicitDefEqProofs -proj only [go_sem,seval,decide_eq_false (show ¬(c.ps.length:Int)<c.ps.length by omega),decide_eq_true this]
     exact hyes _ hm
theorem ALy {c:CoreX} (hc:c.Fit):DataW Tryz.prog AGO [Gz c] (bv (decide (fitsC c))):=by
 have hgd:=RO hc
 have hiff:=Vy (c:=c)
 have hmo:=fun h=>AK9 hc (c:=c) h
 refine AZ AKH (by simp) ?_
 simp -implicitDefEqProofs -proj only [go_sem,seval]
 refine AI (fun b1 hb1=>?_)
 simp -implicitDefEqProofs -proj only [go_sem,seval]
 refine AK Sy ?_
 by_cases g1:JV c
 ·simp -implicitDefEqProofs -proj only [go_sem,seval,decide_eq_true g1]
  exact AJ (by rw [decide_eq_false (fun k=>(hiff.1 k).1 g1)])
 simp -implicitDefEqProofs -proj only [go_sem,seval,decide_eq_false g1]
 refine AK hgd ?_
 by_cases g2:goodC c
 rotate_left
 ·simp -implicitDefEqProofs -proj only [go_sem,seval,decide_eq_false g2,Bool.not_false]
  exact AJ (by rw [decide_eq_false (fun k=>g2 (hiff.1 k).2.1)])
 obtain ⟨n,hmo⟩:=hmo g2
 simp -implicitDefEqProofs -proj only [go_sem,seval,decide_eq_true g2,Bool.not_true]
 refine AK hmo ?_
 simp -implicitDefEqProofs -proj only [go_sem,seval]
 exact AJ (by rw [decide_eq_decide.2 (hiff.trans ⟨fun h=>h.2.2,fun h=>⟨g1,g2,h⟩⟩)])
def JI (f t:Int):PartX:=⟨0,f,t,0,1,1,[⟨0,2000000⟩],0,[]⟩
def core18:CoreX:=⟨⟨⟨[]⟩⟩,0,9,[⟨⟨⟨[109]⟩⟩,⟨⟨[]⟩⟩,3,0,0⟩],[],[JI 2 4,JI 5 9]⟩
theorem ND {x:PartX} (h:x∈core18.ps):x=JI 2 4∨x=JI 5 9:=by
 rw [show core18.ps=[JI 2 4,JI 5 9] from rfl,List.mem_cons,List.mem_singleton] at h
 exact h
theorem S8 {f t:Int} (hf:Fit f) (ht:Fit t):(JI f t).Fit:=by
 refine ⟨by show Fit 0; decide,hf,ht,by show Fit 0; decide,by show Fit 1; decide,by show Fit 1; decide,?_,by show (1:Nat)≤_; decide,by show Fit 0; decide,?_,by show (0:Nat)≤_; decide⟩
 ·intro a h
  rw [show (JI f t).ts=[⟨0,2000000⟩] from rfl,List.mem_singleton] at h
  subst h
  exact ⟨by decide,by decide⟩
 ·intro a h
  cases h
theorem ABn:core18.Fit:=by
 refine ⟨by decide,by decide,?_,by decide,?_,by decide,?_,by decide⟩
 ·intro a h
  rw [show core18.ms=[⟨⟨⟨[109]⟩⟩,⟨⟨[]⟩⟩,3,0,0⟩] from rfl,List.mem_singleton] at h
  subst h
  exact ⟨by decide,by decide,by decide⟩
 ·intro a h
  cases h
 ·intro a h
  rcases ND h with rfl | rfl
  ·exact S8 (by decide) (by decide)
  ·exact S8 (by decide) (by decide)
theorem NS:goodC core18:=by
 refine ⟨by unfold KI; decide,?_,?_,?_⟩
 ·intro i h
  have:i=0:=by have:i<1:=h; omega
  subst this
  exact ⟨by decide +revert,by decide +revert,by decide +revert,fun p _ h=>absurd h (Nat.lt_irrefl _)⟩
 ·intro a h
  cases h
 ·intro a h
  have ht:∀(i:Nat) (h:i<1),Gc [⟨0,2000000⟩] i ([⟨0,2000000⟩][i]'h):=by
   intro i h
   have:i=0:=by omega
   subst this
   unfold Gc
   decide +revert
  rcases ND h with rfl | rfl
  ·exact ⟨by unfold Hq; decide,ht,fun a h=>by cases h⟩
  ·exact ⟨by unfold Hq; decide,ht,fun a h=>by cases h⟩
theorem R7 (q:Nat) (h:q<4):FI (JI 2 4) q=some ((2*q:Nat):Int)∧FI (JI 5 9) q=some ((2*q:Nat):Int):=by
 have:q=0∨q=1∨q=2∨q=3:=by omega
 rcases this with rfl | rfl | rfl | rfl <;> decide +kernel
theorem Pw:fitsC core18:=by
 refine ⟨?_,NS,?_,?_⟩
 ·rintro (h | ⟨m,hm,h⟩ | ⟨x,hx,h⟩)
  ·revert h; decide
  ·rw [show core18.ms=[⟨⟨⟨[109]⟩⟩,⟨⟨[]⟩⟩,3,0,0⟩] from rfl,List.mem_singleton] at hm
   subst hm
   revert h; unfold LJ; decide
  ·rcases ND hx with rfl | rfl
   ·revert h; unfold Kc; decide
   ·revert h; unfold Kc; decide
 ·intro x hx q hq
  rcases ND hx with rfl | rfl
  ·have hq:q<4:=hq
   exact ⟨_,(R7 q hq).1,by omega,by omega⟩
  ·have hq:q<4:=hq
   exact ⟨_,(R7 q hq).2,by omega,by omega⟩
 ·intro i hi
  have hi:i≤2:=hi
  have:i=0∨i=1∨i=2:=by omega
  rcases this with rfl | rfl | rfl <;> decide +kernel
def MQ:List (Seg Ei):=[⟨0,1,(0,[[0,0,0,0]])⟩,⟨2,9,(0,[[0,2,4,6]])⟩]
theorem W0 {d:Int} (h0:0≤d) (h1:d≤1):En core18 d=(0,[[0,0,0,0]]):=by
 have:d=0∨d=1:=by omega
 rcases this with rfl | rfl <;> decide +kernel
theorem ABl {d:Int} (h0:2≤d) (h1:d≤9):En core18 d=(0,[[0,2,4,6]]):=by
 have:d=2∨d=3∨d=4∨d=5∨d=6∨d=7∨d=8∨d=9:=by omega
 rcases this with rfl | rfl | rfl | rfl | rfl | rfl | rfl | rfl <;> decide +kernel
theorem AJT:¬((0,[[0,0,0,0]]):Ei)=(0,[[0,2,4,6]]):=fun e=>by
 have:=congrArg (fun v:Ei=>v.2) e
 revert this
 decide
theorem XW {val:Int→Ei} (ha:∀x,0≤x→x≤1→val x=(0,[[0,0,0,0]])) (hb:∀x,2≤x→x≤9→val x=(0,[[0,2,4,6]])):FwdB val 0 10 MQ:=by
 unfold MQ
 refine ⟨rfl,by show (0:Int)≤1; decide,fun x a b=>ha x a b,fun s hs=>?_,rfl,by show (2:Int)≤9; decide,fun x a b=>hb x a b,?_,rfl⟩
 ·cases hs
  exact AJT
 ·intro s hs
  cases hs
theorem ACY {c:CoreX} (hg:goodC c) {lo hi:Int} (e1:c.f=lo) (e2:c.t+1=hi) {S:List (Seg Ei)} (h:FwdB (En c) lo hi S):HK c=S:=by
 subst e1; subst e2
 exact FwdB.canon (Nf hg) h
theorem ALW:HK core18=MQ:=ACY NS (lo:=0) (hi:=10) rfl (by decide) (XW (fun x a b=>W0 a b) (fun x a b=>ABl a b))
theorem AL2:ER [0,0,0,0]=[⟨0,0,0,0,1⟩]:=by decide +kernel
theorem AS1:ER [0,2,4,6]=[⟨0,0,1,2,4⟩]:=by decide +kernel
theorem ZU:Aq MQ=[[.int .i64 0,.int .i64 1,.int .i64 0,.sl 2 [[.int .i64 3,.sl 5 [[.int .i64 0,.int .i64 0,.int .i64 0,.int .i64 0,.int .i64 1]]]]],[.int .i64 2,.int .i64 9,.int .i64 0,.sl 2 [[.int .i64 3,.sl 5 [[.int .i64 0,.int .i64 0,.int .i64 1,.int .i64 2,.int .i64 4]]]]]]:=by
 simp [Aq,Jh,MQ,Al,G6,AL2,AS1,A0,Grp.el]
theorem Ms {c:CoreX} (hf:fitsC c):∀s∈HK c,Jo s:=by
 intro s hs
 obtain ⟨i,hi,rfl⟩:=List.getElem_of_mem hs
 obtain ⟨_,h2,_,h4,_⟩:=(Nf hf.good).nth i _ (List.getElem?_eq_getElem hi)
 have:=h4 _ (Int.le_refl _) h2
 obtain ⟨_,_,_,g6,_⟩:=hf.good.hd
 refine ⟨fun l hl=>?_,?_⟩
 ·rw [←this] at hl; exact Lm hf _ l hl
 ·rw [←this]; show (Eh c _ c.ms.length).length≤1000000; rw [Ig]; omega
theorem Ni {c:CoreX} (hg:goodC c):(HK c).length≤1000000:=by
 have h:=(Nf hg).len
 have:=hg.hd.2.2.1
 omega
theorem PC:∀a:List MeterX,G1 a a=true
 | []=>rfl
 | x::a=>by simp [G1,mq,PC a]
theorem AHi {H:Heap} {cur:ByteArray} {f t:Int} {a b c:AV} {ms ss ps:List (List D)} (h1:LendV H a (.d (.sl 5 ms))) (h2:LendV H b (.d (.sl 3 ss))) (h3:LendV H c (.d (.sl 9 ps))):LendV H (.agg [.d (.str cur),i64 f,i64 t,a,b,c]) (Kq cur f t ms ss ps):=by
 refine .agg _ _ rfl fun j u v e1 e2=>?_
 match j with
 | 0=>cases e1; cases e2; exact .refl _
 | 1=>cases e1; cases e2; exact .refl _
 | 2=>cases e1; cases e2; exact .refl _
 | 3=>cases e1; cases e2; exact h1
 | 4=>cases e1; cases e2; exact h2
 | 5=>cases e1; cases e2; exact h3
 | j+6=>cases e1
open Classical in
theorem APT:DataW Tryz.prog Un [] (bv true):=by
 have h1:=So ABn Pw
 have h2:=AW0 (cu:=core18.cur) (cu':=core18.cur) (f:=core18.f) (t:=core18.t) (f':=core18.f) (t':=core18.t) (ms:=core18.ms) (ms':=core18.ms) (S:=HK core18) (S':=HK core18) (by decide) (by decide) (Ms Pw) (Ms Pw) (Ni NS) (Ni NS)
 rw [ALW] at h1 h2
 simp -implicitDefEqProofs only [PC,decide_true,beq_self_eq_true,Bool.and_self,Iz,JW,ZU] at h1 h2
 refine AZ Wv (by simp) ?_
 simp -implicitDefEqProofs -proj only [go_sem,seval]
 refine Ao (fun b6 h6=>?_)
 simp -implicitDefEqProofs -proj only [go_sem,seval]
 refine AI (fun b1 hb1=>?_)
 replace hb1:upd Heap.none b6 (some _) b1=none:=hb1
 obtain ⟨n1,n2⟩:=AG hb1 AP
 simp -implicitDefEqProofs -proj only [go_sem,seval,n1,n2]
 refine AI (fun b2 hb2=>?_)
 replace hb2:upd (upd Heap.none b6 (some _)) b1 _ b2=none:=hb2
 obtain ⟨n3,n4⟩:=AG hb2 AP
 obtain ⟨n5,n6⟩:=AG hb2 (by rw [AD n1]; exact AP)
 simp -implicitDefEqProofs -proj only [go_sem,seval,n1,n2,n3,n4,n5,n6]
 refine Ao (fun b13 h13=>?_)
 replace h13:upd (upd (upd Heap.none b6 (some _)) b1 _) b2 _ b13=none:=h13
 obtain ⟨n7,n8⟩:=AG h13 AP
 obtain ⟨n9,n10⟩:=AG h13 (by rw [AD n3]; exact AP)
 obtain ⟨n11,n12⟩:=AG h13 (by rw [AD n5,AD n1]; exact AP)
 simp -implicitDefEqProofs -proj only [go_sem,seval,n1,n2,n3,n4,n5,n6,n7,n8,n9,n10,n11,n12]
 refine Ao (fun b16 h16=>?_)
 obtain ⟨H0,hH0⟩:∃H0,upd (upd (upd (upd (upd Heap.none b6 (some (.row 63 2 1 [[.int .i64 0,.int .i64 2000000]]))) b1 (some (.box 40 [zI,i64 2,i64 4,zI,i64 1,i64 1,.own b6 2 0 1 1,zI,.nilsl 3]))) b2 (some (.box 40 [zI,i64 5,i64 9,zI,i64 1,i64 1,.own b6 2 0 1 1,zI,.nilsl 3]))) b13 (some (.row 42 5 1 [[.str ⟨⟨[109]⟩⟩,.str ⟨⟨[]⟩⟩,.int .i64 3,.int .i64 0,.int .i64 0]]))) b6 none=H0:=⟨_,rfl⟩
 have q13:H0 b13=some (.row 42 5 1 [[.str ⟨⟨[109]⟩⟩,.str ⟨⟨[]⟩⟩,.int .i64 3,.int .i64 0,.int .i64 0]]):=by
  rw [←hH0,AD n12]; exact AP
 replace h16:H0 b16=none:=by rw [←hH0]; exact h16
 obtain ⟨m1,m2⟩:=AG h16 q13
 have r13:=Aj (y:=some (.row 40 9 2 [[.int .i64 0,.int .i64 2,.int .i64 4,.int .i64 0,.int .i64 1,.int .i64 1,.sl 2 [[.int .i64 0,.int .i64 2000000]],.int .i64 0,.sl 3 []],[.int .i64 0,.int .i64 5,.int .i64 9,.int .i64 0,.int .i64 1,.int .i64 1,.sl 2 [[.int .i64 0,.int .i64 2000000]],.int .i64 0,.sl 3 []]])) h16 (show AS H0 [(b13,_)] from ⟨q13,trivial⟩)
 have a16:AS (upd H0 b16 (some (.row 40 9 2 [[.int .i64 0,.int .i64 2,.int .i64 4,.int .i64 0,.int .i64 1,.int .i64 1,.sl 2 [[.int .i64 0,.int .i64 2000000]],.int .i64 0,.sl 3 []],[.int .i64 0,.int .i64 5,.int .i64 9,.int .i64 0,.int .i64 1,.int .i64 1,.sl 2 [[.int .i64 0,.int .i64 2000000]],.int .i64 0,.sl 3 []]]))) ((b16,_)::[(b13,_)]):=⟨AP,r13⟩
 have hnd:(AN [(b16,Blk.row 40 9 2 [[.int .i64 0,.int .i64 2,.int .i64 4,.int .i64 0,.int .i64 1,.int .i64 1,.sl 2 [[.int .i64 0,.int .i64 2000000]],.int .i64 0,.sl 3 []],[.int .i64 0,.int .i64 5,.int .i64 9,.int .i64 0,.int .i64 1,.int .i64 1,.sl 2 [[.int .i64 0,.int .i64 2000000]],.int .i64 0,.sl 3 []]]),(b13,.row 42 5 1 [[.str ⟨⟨[109]⟩⟩,.str ⟨⟨[]⟩⟩,.int .i64 3,.int .i64 0,.int .i64 0]])]).Nodup:=by simp [AN,m1]
 have hk:=EQ hnd
 simp -implicitDefEqProofs -proj only [go_sem,seval,hH0]
 refine Ui h1 (E3 (AHi (KS hk.2.1 rfl) (.nilsl _ _) (KS hk.1 rfl)) GC) (J1 a16) (fun k=>.inl (Heap.none_get k)) ?_
 simp -implicitDefEqProofs -proj only [go_sem,seval]
 refine AI (fun b3 hb3=>?_)
 simp -implicitDefEqProofs -proj only [go_sem,seval]
 iterate 6 (refine Ai _ (by decide) rfl ?_; simp -implicitDefEqProofs -proj only [go_sem,seval])
 refine AK h2 ?_
 simp -implicitDefEqProofs -proj only [go_sem,seval]
 exact AJ rfl
open Classical in
theorem AVO {cu cu':ByteArray} {f t f' t':Int} {ms ms':List MeterX} {S S':List (Seg Ei)} (hm:ms.length≤1000000) (hm':ms'.length≤1000000) (hS:∀s∈S,Jo s) (hS':∀s∈S',Jo s) (hl:S.length≤1000000) (hl':S'.length≤1000000):DataW Tryz.prog Rw [Iz cu f t ms S,Iz cu' f' t' ms' S'] (bv ((cu.toList == cu'.toList)&&(decide (f=f')&&(decide (t=t')&&(G1 ms ms'&&decide (S=S')))))):=by
 refine AZ ADt (by simp) ?_
 simp -implicitDefEqProofs -proj only [go_sem,seval]
 refine AI (fun b2 hb2=>?_)
 simp -implicitDefEqProofs -proj only [go_sem,seval]
 refine AI (fun b3 hb3=>?_)
 replace hb3:upd Heap.none b2 _ b3=none:=hb3
 obtain ⟨n1,n2⟩:=AG hb3 AP
 cases c1:cu.toList == cu'.toList
 ·simp -implicitDefEqProofs -proj only [go_sem,seval,n1,n2,LM,c1]
  exact AJ (by simp)
 by_cases hf:f=f'
 rotate_left
 ·simp -implicitDefEqProofs -proj only [go_sem,seval,n1,n2,LM,c1,decide_eq_false hf]
  exact AJ (by simp)
 by_cases ht:t=t'
 rotate_left
 ·simp -implicitDefEqProofs -proj only [go_sem,seval,n1,n2,LM,c1,decide_eq_true hf,decide_eq_false ht]
  exact AJ (by simp)
 by_cases h3:ms.length=ms'.length
 rotate_left
 ·rw [Ps h3]
  simp -implicitDefEqProofs -proj only [go_sem,seval,n1,n2,LM,c1,decide_eq_true hf,decide_eq_true ht,FO,decide_eq_false (show ¬(ms.length:Int)=ms'.length by omega)]
  exact AJ (by simp)
 by_cases h4:S.length=S'.length
 rotate_left
 ·rw [decide_eq_false (show ¬S=S' from fun e=>h4 (by rw [e]))]
  simp -implicitDefEqProofs -proj only [go_sem,seval,n1,n2,LM,c1,decide_eq_true hf,decide_eq_true ht,FO,IL,decide_eq_true (show (ms.length:Int)=ms'.length by omega),decide_eq_false (show ¬(S.length:Int)=S'.length by omega)]
  exact AJ (by simp)
 rw [decide_eq_true hf,decide_eq_true ht]
 simp -implicitDefEqProofs only [Bool.true_and]
 have hk:AS (Ad [(b3,It cu' f' t' ms' S'),(b2,It cu f t ms S)]) [(b3,It cu' f' t' ms' S'),(b2,It cu f t ms S)]:=EQ (by simp [AN,n1])
 obtain ⟨k3,k2,_⟩:=id hk
 simp -implicitDefEqProofs only [It] at k3 k2
 simp -implicitDefEqProofs -proj only [go_sem,seval,n1,n2,LM,c1,decide_eq_true hf,decide_eq_true ht,FO,IL,decide_eq_true (show (ms.length:Int)=ms'.length by omega),decide_eq_true (show (S.length:Int)=S'.length by omega)]
 refine BJ (fun i:Nat=>i≤ms.length∧G1 (ms.drop i) (ms'.drop i)=G1 ms ms') 111 (fun i=>[(2,.ptr b2 0),(3,.ptr b3 0),(46,i64 ms.length),(47,i64 i)]) (fun _=>[(b3,It cu' f' t' ms' S'),(b2,It cu f t ms S)]) (fun i=>ms.length-i) 0 ⟨Nat.zero_le _,by simp⟩ rfl ?_ ?_ ?_
 ·simp -implicitDefEqProofs -proj only [go_sem,seval,AL]
 ·exact ⟨AP,(AD n1).trans AP,trivial⟩
 ·rintro i ⟨hi,hat⟩
  simp -implicitDefEqProofs only [It]
  by_cases h:i<ms.length
  ·have h':i<ms'.length:=by omega
   have e1:=G8 h
   have e2:=G8 h'
   rw [List.drop_eq_getElem_cons h,List.drop_eq_getElem_cons h',G1] at hat
   generalize ms[i]=x at *
   generalize ms'[i]=y at *
   simp -implicitDefEqProofs -proj only [go_sem,seval,k3,k2,n1,n2,decide_eq_true (show (i:Int)<ms.length by omega)]
   refine Ai _ (by omega) e1 ?_
   simp -implicitDefEqProofs -proj only [go_sem,seval,k3,k2,n1,n2]
   refine Ai _ (by omega) e2 ?_
   cases hp:mq x y
   ·rw [hp,Bool.false_and] at hat
    unfold mq at hp
    simp -implicitDefEqProofs -proj only [go_sem,seval,hp]
    rw [←hat]
    exact AJ rfl
   ·rw [hp,Bool.true_and] at hat
    unfold mq at hp
    simp -implicitDefEqProofs -proj only [go_sem,seval,hp]
    refine Ac (i+1) ⟨by omega,hat⟩ (by omega) rfl ?_ hk
    simp -implicitDefEqProofs -proj only [go_sem,seval,AL,AR (show i<9223372036854775807 by omega)]
  ·have hi':i=ms.length:=by omega
   subst hi'
   rw [List.drop_length,h3,List.drop_length] at hat
   rw [←hat]
   simp -implicitDefEqProofs only [G1,Bool.true_and]
   simp -implicitDefEqProofs -proj only [go_sem,seval,k3,k2,n1,n2,decide_eq_false (show ¬(ms.length:Int)<ms.length by omega),IL]
   refine BJ (fun i:Nat=>i≤S.length∧∀(j:Nat) (h:j<S.length) (h2:j<S'.length),j<i→S[j]=S'[j]) 111 (fun i=>[(2,.ptr b2 0),(3,.ptr b3 0),(64,i64 S.length),(65,i64 i)]) (fun _=>[(b3,It cu' f' t' ms' S'),(b2,It cu f t ms S)]) (fun i=>S.length-i) 0 ⟨Nat.zero_le _,fun j _ _ h=>absurd h (Nat.not_lt_zero _)⟩ rfl ?_ hk ?_
   ·simp -implicitDefEqProofs -proj only [go_sem,seval,AL]
   ·rintro i ⟨hi,hat⟩
    simp -implicitDefEqProofs only [It]
    by_cases h:i<S.length
    ·have h':i<S'.length:=by omega
     have e1:=OD h
     have e2:=OD h'
     have ca:=hS _ (List.getElem_mem h)
     have cb:=hS' _ (List.getElem_mem h')
     have hst:=fun (e:S[i]=S'[i])=>IZ (l:=List.range S.length) (P:=fun j _=>∀(h:j<S.length) (h2:j<S'.length),S[j]=S'[j]) (i:=i) (x:=i) (by simp [h]) (fun j hj hji=>fun h1 h2=>hat j h1 h2 hji) (fun _ _=>e)
     have hne:=fun (e:¬S[i]=S'[i])=>show ¬S=S' from fun k=>e (by subst k; rfl)
     have hcall:=SV ca.1 cb.1 ca.2 cb.2
     generalize S[i]=x at *
     generalize S'[i]=y at *
     by_cases p1:x.f=y.f
     rotate_left
     ·rw [decide_eq_false (hne (fun e=>p1 (by rw [e])))]
      simp -implicitDefEqProofs -proj only [go_sem,seval,k3,k2,n1,n2,decide_eq_true (show (i:Int)<S.length by omega)]
      refine Ai _ (by omega) e1 ?_
      simp -implicitDefEqProofs -proj only [go_sem,seval,k3,k2,n1,n2]
      refine Ai _ (by omega) e2 ?_
      simp -implicitDefEqProofs -proj only [go_sem,seval,k3,k2,n1,n2,decide_eq_false p1]
      exact AJ rfl
     by_cases p2:x.t=y.t
     rotate_left
     ·rw [decide_eq_false (hne (fun e=>p2 (by rw [e])))]
      simp -implicitDefEqProofs -proj only [go_sem,seval,k3,k2,n1,n2,decide_eq_true (show (i:Int)<S.length by omega)]
      refine Ai _ (by omega) e1 ?_
      simp -implicitDefEqProofs -proj only [go_sem,seval,k3,k2,n1,n2]
      refine Ai _ (by omega) e2 ?_
      simp -implicitDefEqProofs -proj only [go_sem,seval,k3,k2,n1,n2,decide_eq_true p1]
      refine Ai _ (by omega) e1 ?_
      simp -implicitDefEqProofs -proj only [go_sem,seval,k3,k2,n1,n2]
      refine Ai _ (by omega) e2 ?_
      simp -implicitDefEqProofs -proj only [go_sem,seval,k3,k2,n1,n2,decide_eq_false p2]
      exact AJ rfl
     simp -implicitDefEqProofs -proj only [go_sem,seval,k3,k2,n1,n2,decide_eq_true (show (i:Int)<S.length by omega)]
     refine Ai _ (by omega) e1 ?_
     simp -implicitDefEqProofs -proj only [go_sem,seval,k3,k2,n1,n2]
     refine Ai _ (by omega) e2 ?_
     simp -implicitDefEqProofs -proj only [go_sem,seval,k3,k2,n1,n2,decide_eq_true p1]
     refine Ai _ (by omega) e1 ?_
     simp -implicitDefEqProofs -proj only [go_sem,seval,k3,k2,n1,n2]
     refine Ai _ (by omega) e2 ?_
     simp -implicitDefEqProofs -proj only [go_sem,seval,k3,k2,n1,n2,decide_eq_true p2]
     refine Ai _ (by omega) e1 ?_
     simp -implicitDefEqProofs -proj only [go_sem,seval,k3,k2,n1,n2]
     refine Ai _ (by omega) e2 ?_
     simp -implicitDefEqProofs -proj only [go_sem,seval,k3,k2,n1,n2]
     refine AK hcall ?_
     by_cases p3:x.v=y.v
     ·simp -implicitDefEqProofs -proj only [go_sem,seval,decide_eq_true p3]
      refine Ac (i+1) ⟨by omega,fun j h1 h2 hj=>hst (P7.1 ⟨p1,p2,p3⟩) j (by simpa using h1) (by omega) h1 h2⟩ (by omega) rfl ?_ hk
      simp -implicitDefEqProofs -proj only [go_sem,seval,AL,AR (show i<9223372036854775807 by omega)]
     ·rw [decide_eq_false (hne (fun e=>p3 (by rw [e])))]
      simp -implicitDefEqProofs -proj only [go_sem,seval,decide_eq_false p3]
      exact AJ rfl
    ·have hi':i=S.length:=by omega
     subst hi'
     rw [decide_eq_true (List.ext_getElem h4 fun j h1 h2=>hat j h1 h2 h1)]
     simp -implicitDefEqProofs -proj only [go_sem,seval,k3,k2,decide_eq_false (show ¬(S.length:Int)<S.length by omega)]
     exact AJ rfl
open Classical in
noncomputable def QB (a b:CoreX):Bool:=(a.cur.toList == b.cur.toList)&&(decide (a.f=b.f)&&(decide (a.t=b.t)&&(G1 a.ms b.ms&&decide (HK a=HK b))))
theorem AUD {a:CoreX}:QB a a=true:=by simp [QB,PC]
theorem Yl {a b:CoreX} (ha:fitsC a) (hb:fitsC b):DataW Tryz.prog Rw [Iz a.cur a.f a.t a.ms (HK a),Iz b.cur b.f b.t b.ms (HK b)] (bv (QB a b)):=by
 obtain ⟨_,_,_,g1,_⟩:=ha.good.hd
 obtain ⟨_,_,_,g2,_⟩:=hb.good.hd
 exact AVO (by omega) (by omega) (Ms ha) (Ms hb) (Ni ha.good) (Ni hb.good)
set_option maxHeartbeats 4000000 in
theorem NormalIs_ok {c:CoreX} (hc:c.Fit):DataW Tryz.prog AA7 [Gz c] (bv true):=by
 have hgr:=Sy (c:=c)
 have hgd:=RO hc
 have hft:=ALy hc
 refine AZ ABL (by simp) ?_
 simp -implicitDefEqProofs -proj only [go_sem,seval]
 refine AI (fun b1 hb1=>?_)
 simp -implicitDefEqProofs -proj only [go_sem,seval]
 refine AK APT ?_
 simp -implicitDefEqProofs -proj only [go_sem,seval]
 refine AK hgr ?_
 by_cases g0:JV c
 ·simp -implicitDefEqProofs -proj only [go_sem,seval,decide_eq_true g0]
  exact AJ rfl
 by_cases g1:goodC c
 rotate_left
 ·simp -implicitDefEqProofs -proj only [go_sem,seval,decide_eq_false g0]
  refine Ek (Lu (AW9 hc g1) (fun k=>.inl rfl)) ?_
  rintro r H' ⟨H1,rfl,hsub,hkeep⟩
  have q1:H' b1=some (CS c):=hkeep _ _ AP rfl
  simp -implicitDefEqProofs only [CS] at q1
  simp -implicitDefEqProofs -proj only [go_sem,seval]
  refine AI (fun b3 hb3=>?_)
  replace hb3:H' b3=none:=hb3
  obtain ⟨n1,n2⟩:=AG hb3 q1
  simp -implicitDefEqProofs -proj only [go_sem,seval,n1,n2,q1]
  refine AK hgd ?_
  simp -implicitDefEqProofs -proj only [go_sem,seval,n1,n2,q1,decide_eq_false g1,Bool.not_false]
  exact AJ rfl
 by_cases g2:fitsC c
 ·have hmk:=So hc g2
  have hrm:=AGe hc g2
  have hsm:=Yl g2 g2
  rw [AUD] at hsm
  simp -implicitDefEqProofs -proj only [go_sem,seval,decide_eq_false g0]
  refine AK hmk ?_
  simp -implicitDefEqProofs -proj only [go_sem,seval]
  refine AI (fun b3 hb3=>?_)
  replace hb3:upd Heap.none b1 _ b3=none:=hb3
  obtain ⟨n1,n2⟩:=AG hb3 AP
  simp -implicitDefEqProofs -proj only [go_sem,seval,n1,n2]
  refine AK hgd ?_
  simp -implicitDefEqProofs -proj only [go_sem,seval,n1,n2,decide_eq_true g1,Bool.not_true]
  refine AK hft ?_
  simp -implicitDefEqProofs -proj only [go_sem,seval,n1,n2,decide_eq_true g2]
  refine Eb hrm ?_
  simp -implicitDefEqProofs -proj only [go_sem,seval,n1,n2]
  refine AK hsm ?_
  simp -implicitDefEqProofs -proj only [go_sem,seval]
  exact AJ rfl
 have hps:=g1.ps
 have hfp:=hc.ps
 obtain ⟨_,_,_,_,_,hps8⟩:=id g1.hd
 have hme:=(fitsC.bnd g1).me
 have hmxb:=(fitsC.bnd g1).mx
 simp -implicitDefEqProofs -proj only [go_sem,seval,decide_eq_false g0]
 refine Ek (Lu (AQE hc g1) (fun k=>.inl rfl)) ?_
 rintro r H' ⟨H1,⟨v0,v1,v2,v3,v4,e,rfl,he,he2,hov⟩,hsub,hkeep⟩
 have q1:H' b1=some (CS c):=hkeep _ _ AP rfl
 simp -implicitDefEqProofs only [CS] at q1
 simp -implicitDefEqProofs -proj only [go_sem,seval]
 refine AI (fun b3 hb3=>?_)
 replace hb3:H' b3=none:=hb3
 obtain ⟨n1,n2⟩:=AG hb3 q1
 simp -implicitDefEqProofs -proj only [go_sem,seval,n1,n2,q1]
 refine AK hgd ?_
 simp -implicitDefEqProofs -proj only [go_sem,seval,n1,n2,q1,decide_eq_true g1,Bool.not_true]
 refine AK hft ?_
 have hall:=GE (x:=.box 31 [v0,v1,v2,v3,v4]) hb3 (show AS H' [(b1,CS c)] from ⟨q1,trivial⟩)
 have hK:AS (Ad [(b3,.box 31 [v0,v1,v2,v3,v4]),(b1,CS c)]) [(b3,.box 31 [v0,v1,v2,v3,v4]),(b1,CS c)]:=EQ (by simp [AN,n1])
 obtain ⟨k3,k1,_⟩:=id hK
 simp -implicitDefEqProofs only [CS] at k1
 simp -implicitDefEqProofs -proj only [go_sem,seval,n1,n2,q1,decide_eq_false g2,FR]
 refine BJ (fun i:Nat=>i≤c.ps.length) 81 (fun i=>[(1,.ptr b1 0),(3,.ptr b3 0),(4,i64 e),(41,.d (.sl 9 (Ea c.ps))),(42,i64 c.ps.length),(43,i64 i)]) (fun _=>[(b3,.box 31 [v0,v1,v2,v3,v4]),(b1,CS c)]) (fun i=>c.ps.length-i) 0 (Nat.zero_le _) rfl ?_ hall ?_
 ·simp -implicitDefEqProofs -proj only [go_sem,seval,AL]
  try rfl
 intro i hi
 by_cases h:i<c.ps.length
 rotate_left
 ·rcases he with rfl | rfl
  ·simp -implicitDefEqProofs -proj only [go_sem,seval,decide_eq_false (show ¬(i:Int)<c.ps.length by omega)]
   exact AJ rfl
  ·simp -implicitDefEqProofs -proj only [go_sem,seval,decide_eq_false (show ¬(i:Int)<c.ps.length by omega)]
   exact AJ rfl
 have e1:=IV h
 have hxm:=hme _ (List.getElem_mem h)
 have hG:=MP (hps _ (List.getElem_mem h))
 have hfx:=hfp _ (List.getElem_mem h)
 have hov2:∀q:Nat,q<(EX c.ms c.ps[i].me+1).toNat→FI c.ps[i] q=none→e=2:=fun q hq hn=>hov ⟨_,List.getElem_mem h,q,hq,hn⟩
 have hmi:c.ps[i].me.toNat<c.ms.length:=by omega
 have hmxe:EX c.ms c.ps[i].me=c.ms[c.ps[i].me.toNat].mx:=by unfold EX; rw [List.getElem?_eq_getElem hmi]
 have hmx:=hmxb _ hmi
 have e2:=G8 hmi
 generalize c.ps[i]=x at *
 simp -implicitDefEqProofs -proj only [go_sem,seval,decide_eq_true (show (i:Int)<c.ps.length by omega)]
 refine Ai _ (by omega) e1 ?_
 simp -implicitDefEqProofs -proj only [go_sem,seval]
 refine AI (fun b6 hb6=>?_)
 replace hb6:Ad [(b3,.box 31 [v0,v1,v2,v3,v4]),(b1,CS c)] b6=none:=hb6
 obtain ⟨m1,m2⟩:=AG hb6 k3
 obtain ⟨m3,m4⟩:=AG hb6 k1
 have hK6:AS (Ad [(b6,.box 40 [i64 x.me,i64 x.f,i64 x.t,i64 x.al,i64 x.bl,i64 x.ki,EZ x.ts,i64 x.mo,Ec x.ad]),(b3,.box 31 [v0,v1,v2,v3,v4]),(b1,CS c)]) [(b6,.box 40 [i64 x.me,i64 x.f,i64 x.t,i64 x.al,i64 x.bl,i64 x.ki,EZ x.ts,i64 x.mo,Ec x.ad]),(b3,.box 31 [v0,v1,v2,v3,v4]),(b1,CS c)]:=EQ (by simp [AN,n1,m1,m3])
 obtain ⟨j6,j3,j1,_⟩:=id hK6
 simp -implicitDefEqProofs only [CS] at j1
 have hall6:=GE (x:=.box 40 [i64 x.me,i64 x.f,i64 x.t,i64 x.al,i64 x.bl,i64 x.ki,EZ x.ts,i64 x.mo,Ec x.ad]) hb6 hK
 simp -implicitDefEqProofs -proj only [go_sem,seval,m1,m2,m3,m4]
 refine BJ (fun q:Nat=>(q:Int)≤EX c.ms x.me+1) 81 (fun q=>[(1,.ptr b1 0),(3,.ptr b3 0),(4,i64 e),(6,.ptr b6 0),(7,i64 q),(41,.d (.sl 9 (Ea c.ps))),(42,i64 c.ps.length),(43,i64 i)]) (fun _=>[(b6,.box 40 [i64 x.me,i64 x.f,i64 x.t,i64 x.al,i64 x.bl,i64 x.ki,EZ x.ts,i64 x.mo,Ec x.ad]),(b3,.box 31 [v0,v1,v2,v3,v4]),(b1,CS c)]) (fun q=>(EX c.ms x.me+1).toNat-q) 0 (by omega) rfl ?_ hall6 ?_
 ·simp -implicitDefEqProofs -proj only [go_sem,seval,AL]
  try rfl
 intro q hq
 by_cases hqm:(q:Int)≤c.ms[x.me.toNat].mx
 rotate_left
 ·simp -implicitDefEqProofs -proj only [go_sem,seval,j1,j6]
  refine Ai _ hxm.1 (by rw [←Int.toNat_of_nonneg hxm.1]; exact e2) ?_
  simp -implicitDefEqProofs -proj only [go_sem,seval,decide_eq_false hqm]
  refine Ac (i+1) (by omega) (by omega) rfl ?_ ⟨j3,j1,trivial⟩
  simp -implicitDefEqProofs -proj only [go_sem,seval,AL,AR (show i<9223372036854775807 by omega)]
 have hpt:=NY (q:=(q:Int)) hfx (by unfold Fit; omega) hG (Lp hG.ts)
 simp -implicitDefEqProofs -proj only [go_sem,seval,j1,j6]
 refine Ai _ hxm.1 (by rw [←Int.toNat_of_nonneg hxm.1]; exact e2) ?_
 simp -implicitDefEqProofs -proj only [go_sem,seval,decide_eq_true hqm,j6]
 refine AK hpt ?_
 cases hpo:FI x q with
 | none =>
  obtain rfl:=hov2 q (by omega) hpo
  obtain rfl:=he2 rfl
  simp -implicitDefEqProofs -proj only [go_sem,seval,EN,j3]
  exact AJ rfl
 | some v =>
  simp -implicitDefEqProofs -proj only [go_sem,seval,EN,j3]
  refine Ac (q+1) (by omega) (by omega) rfl ?_ hK6
  simp -implicitDefEqProofs -proj only [go_sem,seval,AL,AR (show q<9223372036854775807 by omega)]
end Go.Proofs.YtbihahpaalcjjaaGreat.Abs
