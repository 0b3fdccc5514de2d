/- The code of the machine and the contracts of one law (joined by kmerge.py). No claim stands here. -/
import Derived.KernelRfl
import Derived.Test.YtndepejgafppmaaProg
import Derived.Test.YtndepejgafppmaaMcb
set_option maxRecDepth 100000
set_option linter.unusedSimpArgs false
set_option linter.unusedVariables false
namespace Go.Proofs.Ytndepejgafppmaa.Abs
open Go Go.RowKit Go.Proofs
abbrev QH:FuncId:=3
abbrev K3:List AO:=[oo 2 (.box 28 (.t 0)),oo 4 (.mov (cB .false))]
abbrev PP:List AO:=[oo 13 (.call 8 []),oo 14 (.un .not (.t 13))]
abbrev NW:List AO:=[oo 4 (.mov (cB .false))]
abbrev LT:List AO:=[oo 15 (.load (.some 13) (.t 2)),oo 16 (.call 9 [(.t 15)]),om 17 16,og 18 17 .false (.mov (.t 1)),og 19 17 .false (.slen (.t 18)),og 20 17 .false (.bin .gtr (.t 19) (cI 200)),oo 21 (.pick (.t 17) (cB .true) (.t 20))]
abbrev QO:List AO:=[oo 4 (.mov (cB .true))]
abbrev Ph:List AO:=[oo 22 (.load (.some 13) (.t 2)),oo 23 (.call 10 [(.t 22)]),om 5 23]
abbrev ML:List AO:=[om 24 5,oo 25 (.len (.t 24)),oo 26 (.fieldAddr 8 (.t 2)),oo 27 (.load .none (.t 26)),oo 28 (.len (.t 27)),oo 29 (.bin .neq (.t 25) (.t 28))]
abbrev On:List AO:=[oo 4 (.mov (cB .false))]
abbrev PH:List AO:=[om 30 5,oo 31 (.len (.t 30)),oo 32 (.mov (cI 0))]
abbrev RY:List AO:=[oo 33 (.bin .lss (.t 32) (.t 31))]
abbrev RR:List AO:=[om 34 32,oo 35 (.elemAddr 1 (.t 30) (.t 32)),oo 36 (.load .none (.t 35)),om 6 34,om 7 36]
abbrev Mw:List AO:=[om 37 6,oo 38 (.bin .gtr (.t 37) (cI 0)),om 39 38,og 40 39 .true (.mov (.t 5)),og 41 39 .true (.mov (.t 6)),og 42 39 .true (.bin .sub (.t 41) (cI 1)),og 43 39 .true (.elemAddr 1 (.t 40) (.t 42)),og 44 39 .true (.load .none (.t 43)),og 45 39 .true (.mov (.t 7)),og 46 39 .true (.bin .gtr (.t 44) (.t 45)),oo 47 (.pick (.t 39) (.t 46) (cB .false))]
abbrev Ol:List AO:=[oo 4 (.mov (cB .false))]
abbrev MI:List AO:=[oo 8 (.mov (cI 0)),oo 9 (.mov (cI 0))]
abbrev NF:List AO:=[om 48 5,oo 49 (.len (.t 48)),oo 50 (.mov (cI 0))]
abbrev Nm:List AO:=[oo 51 (.bin .lss (.t 50) (.t 49))]
abbrev K7:List AO:=[om 52 50,om 10 52]
abbrev RX:List AO:=[om 53 5,om 54 10,oo 55 (.elemAddr 1 (.t 53) (.t 54)),oo 56 (.load .none (.t 55)),om 57 7,oo 58 (.bin .eql (.t 56) (.t 57))]
abbrev PW:List AO:=[om 59 8,oo 60 (.bin .add (.t 59) (cI 1)),om 8 60]
abbrev PM:List AO:=[oo 61 (.fieldAddr 8 (.t 2)),oo 62 (.load .none (.t 61)),om 63 10,oo 64 (.elemAddr 5 (.t 62) (.t 63)),oo 65 (.fieldAddr 0 (.t 64)),oo 66 (.load .none (.t 65)),om 67 7,oo 68 (.bin .eql (.t 66) (.t 67))]
abbrev Od:List AO:=[om 69 9,oo 70 (.bin .add (.t 69) (cI 1)),om 9 70]
abbrev PT:List AO:=[oo 71 (.bin .add (.t 50) (cI 1)),om 50 71]
abbrev Ly:ACode:=(.seq (.ops Nm) (.seq (.cond (.t 51) .skip (.exit 2)) (.seq (.block 3 (.seq (.ops K7) (.seq (.seq (.ops RX) (.cond (.t 58) (.ops PW) .skip)) (.seq (.ops PM) (.cond (.t 68) (.ops Od) .skip))))) (.ops PT))))
abbrev PN:List AO:=[om 72 8,om 73 9,oo 74 (.bin .neq (.t 72) (.t 73))]
abbrev Pm:List AO:=[oo 4 (.mov (cB .false))]
abbrev OI:List AO:=[oo 75 (.bin .add (.t 32) (cI 1)),om 32 75]
abbrev Lf:ACode:=(.seq (.ops RY) (.seq (.cond (.t 33) .skip (.exit 0)) (.seq (.block 1 (.seq (.ops RR) (.seq (.seq (.ops Mw) (.cond (.t 47) (.seq (.ops Ol) .ret) .skip)) (.seq (.ops MI) (.seq (.seq (.ops NF) (.block 2 (.loop Ly))) (.seq (.ops PN) (.cond (.t 74) (.seq (.ops Pm) .ret) .skip))))))) (.ops OI))))
abbrev PD:List AO:=[oo 11 (.mov (cI (-1)))]
abbrev M5:List AO:=[oo 76 (.fieldAddr 8 (.t 2)),oo 77 (.load .none (.t 76)),oo 78 (.len (.t 77)),oo 79 (.bin .sub (.t 78) (cI 1)),om 12 79]
abbrev Qs:List AO:=[om 80 12,oo 81 (.bin .geq (.t 80) (cI 0))]
abbrev LF:List AO:=[oo 84 (.fieldAddr 8 (.t 2)),oo 85 (.load .none (.t 84)),om 86 12,oo 87 (.elemAddr 5 (.t 85) (.t 86)),oo 88 (.fieldAddr 0 (.t 87)),oo 89 (.load .none (.t 88)),om 90 1,oo 91 (.bin .eql (.t 89) (.t 90))]
abbrev MJ:List AO:=[om 92 12,om 11 92]
abbrev OS:List AO:=[om 82 12,oo 83 (.bin .sub (.t 82) (cI 1)),om 12 83]
abbrev MM:ACode:=(.seq (.seq (.ops Qs) (.cond (.t 81) .skip (.exit 4))) (.seq (.block 5 (.seq (.ops LF) (.cond (.t 91) (.ops MJ) .skip))) (.ops OS)))
abbrev ON:List AO:=[oo 93 (.load (.some 13) (.t 2)),om 94 1,oo 95 (.call 11 [(.t 93),(.t 94)]),om 96 11,oo 97 (.bin .eql (.t 95) (.t 96)),om 4 97]
abbrev Pi:AFunc:=⟨98,[(.tmp 4)],(.seq (.ops K3) (.seq (.seq (.ops PP) (.cond (.t 14) (.seq (.ops NW) .ret) .skip)) (.seq (.seq (.ops LT) (.cond (.t 21) (.seq (.ops QO) .ret) .skip)) (.seq (.ops Ph) (.seq (.seq (.ops ML) (.cond (.t 29) (.seq (.ops On) .ret) .skip)) (.seq (.seq (.ops PH) (.block 0 (.loop Lf))) (.seq (.ops PD) (.seq (.seq (.ops M5) (.block 4 (.loop MM))) (.seq (.ops ON) .ret)))))))))⟩
theorem RL:EL Try.prog 3=some Pi:=by kernel_rfl
abbrev Lc:FuncId:=8
abbrev Po:List AO:=[oo 0 (.mov (cB .false))]
abbrev Ql:List AO:=[oo 4 (.build [(.d (.str ⟨⟨[]⟩⟩)),(.d (.str ⟨⟨[]⟩⟩)),zI,zI,zI] [⟨0,⟨1,(.c (.d (.str ⟨⟨[98]⟩⟩)))⟩⟩]),oo 5 (.build [(.d (.str ⟨⟨[]⟩⟩)),(.d (.str ⟨⟨[]⟩⟩)),zI,zI,zI] [⟨0,⟨1,(.c (.d (.str ⟨⟨[97]⟩⟩)))⟩⟩]),oo 6 (.buildSlice 34 5 2 [(.d (.str ⟨⟨[]⟩⟩)),(.d (.str ⟨⟨[]⟩⟩)),zI,zI,zI] [⟨0,(.t 4)⟩,⟨1,(.t 5)⟩]),oo 7 (.build [(.d (.str ⟨⟨[]⟩⟩)),(.d (.str ⟨⟨[]⟩⟩)),zI,zI,zI,zI,zI,zI,(.nilsl 5),(.nilsl 10),(.nilsl 16),zI,zI] [⟨0,⟨1,(.c (.d (.str ⟨⟨[112]⟩⟩)))⟩⟩,⟨8,⟨1,(.t 6)⟩⟩]),oo 1 (.alloc 28 [(.d (.str ⟨⟨[]⟩⟩)),(.d (.str ⟨⟨[]⟩⟩)),zI,zI,zI,zI,zI,zI,(.nilsl 5),(.nilsl 10),(.nilsl 16),zI,zI]),on (.store 13 (.t 1) (.t 7))]
abbrev NX:List AO:=[oo 8 (.build [(.d (.str ⟨⟨[]⟩⟩)),(.d (.str ⟨⟨[]⟩⟩)),zI,zI,zI] [⟨0,⟨1,(.c (.d (.str ⟨⟨[98]⟩⟩)))⟩⟩,⟨4,⟨1,(cI 7)⟩⟩]),oo 9 (.build [(.d (.str ⟨⟨[]⟩⟩)),(.d (.str ⟨⟨[]⟩⟩)),zI,zI,zI] [⟨0,⟨1,(.c (.d (.str ⟨⟨[97]⟩⟩)))⟩⟩]),oo 10 (.buildSlice 34 5 2 [(.d (.str ⟨⟨[]⟩⟩)),(.d (.str ⟨⟨[]⟩⟩)),zI,zI,zI] [⟨0,(.t 8)⟩,⟨1,(.t 9)⟩]),oo 11 (.build [zI,(.d (.bool .false)),zI,zI,zI,zI,zI,zI,zI,zI] [⟨0,⟨1,(cI 5)⟩⟩]),oo 12 (.buildSlice 51 10 1 [zI,(.d (.bool .false)),zI,zI,zI,zI,zI,zI,zI,zI] [⟨0,(.t 11)⟩]),oo 13 (.build [(.d (.str ⟨⟨[]⟩⟩)),(.d (.str ⟨⟨[]⟩⟩)),zI,zI,zI,zI,zI,zI,(.nilsl 5),(.nilsl 10),(.nilsl 16),zI,zI] [⟨0,⟨1,(.c (.d (.str ⟨⟨[112]⟩⟩)))⟩⟩,⟨11,⟨1,(cI 3)⟩⟩,⟨8,⟨1,(.t 10)⟩⟩,⟨9,⟨1,(.t 12)⟩⟩]),oo 2 (.alloc 28 [(.d (.str ⟨⟨[]⟩⟩)),(.d (.str ⟨⟨[]⟩⟩)),zI,zI,zI,zI,zI,zI,(.nilsl 5),(.nilsl 10),(.nilsl 16),zI,zI]),on (.store 13 (.t 2) (.t 13))]
abbrev QL:List AO:=[oo 14 (.load (.some 13) (.t 1)),oo 15 (.call 10 [(.t 14)]),om 3 15]
abbrev RE:List AO:=[oo 16 (.load (.some 13) (.t 1)),oo 17 (.load (.some 13) (.t 1)),oo 18 (.call 19 [(.t 16),(.t 17)]),om 19 18,og 20 19 .true (.load (.some 13) (.t 1)),og 21 19 .true (.load (.some 13) (.t 2)),og 22 19 .true (.call 19 [(.t 20),(.t 21)]),og 23 19 .true (.un .not (.t 22)),oo 24 (.pick (.t 19) (.t 23) (cB .false)),om 25 24,og 26 25 .true (.load (.some 13) (.t 1)),og 27 25 .true (.call 11 [(.t 26),(.c (.d (.str ⟨⟨[97]⟩⟩)))]),og 28 25 .true (.bin .eql (.t 27) (cI 1)),oo 29 (.pick (.t 25) (.t 28) (cB .false)),om 30 29,og 31 30 .true (.mov (.t 3)),og 32 30 .true (.len (.t 31)),og 33 30 .true (.bin .eql (.t 32) (cI 2)),oo 34 (.pick (.t 30) (.t 33) (cB .false)),om 35 34,og 36 35 .true (.mov (.t 3)),og 37 35 .true (.elemAddr 1 (.t 36) (cI 0)),og 38 35 .true (.load .none (.t 37)),og 39 35 .true (.bin .eql (.t 38) (.c (.d (.str ⟨⟨[97]⟩⟩)))),oo 40 (.pick (.t 35) (.t 39) (cB .false)),om 0 40]
abbrev O1:AFunc:=⟨41,[(.tmp 0)],(.seq (.ops Po) (.seq (.ops Ql) (.seq (.ops NX) (.seq (.ops QL) (.seq (.ops RE) .ret)))))⟩
theorem MC:EL Try.prog 8=some O1:=by kernel_rfl
abbrev L2:FuncId:=9
abbrev Mo:List AO:=[oo 1 (.box 28 (.t 0)),oo 2 (.mov (cB .false))]
abbrev PJ:List AO:=[oo 7 (.fieldAddr 8 (.t 1)),oo 8 (.load .none (.t 7)),oo 9 (.len (.t 8)),oo 10 (.bin .gtr (.t 9) (cI 20)),om 11 10,og 12 11 .false (.fieldAddr 9 (.t 1)),og 13 11 .false (.load .none (.t 12)),og 14 11 .false (.len (.t 13)),og 15 11 .false (.bin .gtr (.t 14) (cI 40)),oo 16 (.pick (.t 11) (cB .true) (.t 15)),om 17 16,og 18 17 .false (.fieldAddr 10 (.t 1)),og 19 17 .false (.load .none (.t 18)),og 20 17 .false (.len (.t 19)),og 21 17 .false (.bin .gtr (.t 20) (cI 40)),oo 22 (.pick (.t 17) (cB .true) (.t 21)),om 23 22,og 24 23 .false (.fieldAddr 0 (.t 1)),og 25 23 .false (.load .none (.t 24)),og 26 23 .false (.slen (.t 25)),og 27 23 .false (.bin .gtr (.t 26) (cI 200)),oo 28 (.pick (.t 23) (cB .true) (.t 27)),om 29 28,og 30 29 .false (.fieldAddr 1 (.t 1)),og 31 29 .false (.load .none (.t 30)),og 32 29 .false (.slen (.t 31)),og 33 29 .false (.bin .gtr (.t 32) (cI 200)),oo 34 (.pick (.t 29) (cB .true) (.t 33))]
abbrev MP:List AO:=[oo 2 (.mov (cB .true))]
abbrev QI:List AO:=[oo 35 (.fieldAddr 8 (.t 1)),oo 36 (.load .none (.t 35)),oo 37 (.len (.t 36)),oo 38 (.mov (cI 0))]
abbrev P4:List AO:=[oo 39 (.bin .lss (.t 38) (.t 37))]
abbrev Ng:List AO:=[oo 40 (.elemAddr 5 (.t 36) (.t 38)),oo 41 (.load (.some 5) (.t 40)),oo 4 (.alloc 34 [(.d (.str ⟨⟨[]⟩⟩)),(.d (.str ⟨⟨[]⟩⟩)),zI,zI,zI]),on (.store 5 (.t 4) (.t 41))]
abbrev MV:List AO:=[oo 42 (.fieldAddr 0 (.t 4)),oo 43 (.load .none (.t 42)),oo 44 (.slen (.t 43)),oo 45 (.bin .gtr (.t 44) (cI 200)),om 46 45,og 47 46 .false (.fieldAddr 1 (.t 4)),og 48 46 .false (.load .none (.t 47)),og 49 46 .false (.slen (.t 48)),og 50 46 .false (.bin .gtr (.t 49) (cI 200)),oo 51 (.pick (.t 46) (cB .true) (.t 50))]
abbrev NC:List AO:=[oo 2 (.mov (cB .true))]
abbrev K1:List AO:=[oo 52 (.bin .add (.t 38) (cI 1)),om 38 52]
abbrev RJ:ACode:=(.seq (.ops P4) (.seq (.cond (.t 39) .skip (.exit 0)) (.seq (.block 1 (.seq (.ops Ng) (.seq (.ops MV) (.cond (.t 51) (.seq (.ops NC) .ret) .skip)))) (.ops K1))))
abbrev RN:List AO:=[oo 53 (.fieldAddr 10 (.t 1)),oo 54 (.load .none (.t 53)),oo 55 (.len (.t 54)),oo 56 (.mov (cI 0))]
abbrev Mb:List AO:=[oo 57 (.bin .lss (.t 56) (.t 55))]
abbrev NT:List AO:=[oo 58 (.elemAddr 16 (.t 54) (.t 56)),oo 59 (.load (.some 16) (.t 58)),oo 6 (.alloc 55 [(.d (.str ⟨⟨[]⟩⟩)),(.d (.bool .false)),zI,zI,zI,zI,zI,zI,zI,zI,zI,(.nilsl 2),zI,(.nilsl 3),zI,zI]),on (.store 16 (.t 6) (.t 59))]
abbrev MG:List AO:=[oo 60 (.fieldAddr 11 (.t 6)),oo 61 (.load .none (.t 60)),oo 62 (.len (.t 61)),oo 63 (.bin .gtr (.t 62) (cI 40)),om 64 63,og 65 64 .false (.fieldAddr 13 (.t 6)),og 66 64 .false (.load .none (.t 65)),og 67 64 .false (.len (.t 66)),og 68 64 .false (.bin .gtr (.t 67) (cI 40)),oo 69 (.pick (.t 64) (cB .true) (.t 68)),om 70 69,og 71 70 .false (.fieldAddr 0 (.t 6)),og 72 70 .false (.load .none (.t 71)),og 73 70 .false (.slen (.t 72)),og 74 70 .false (.bin .gtr (.t 73) (cI 200)),oo 75 (.pick (.t 70) (cB .true) (.t 74))]
abbrev QU:List AO:=[oo 2 (.mov (cB .true))]
abbrev MT:List AO:=[oo 76 (.bin .add (.t 56) (cI 1)),om 56 76]
abbrev Qf:ACode:=(.seq (.ops Mb) (.seq (.cond (.t 57) .skip (.exit 2)) (.seq (.block 3 (.seq (.ops NT) (.seq (.ops MG) (.cond (.t 75) (.seq (.ops QU) .ret) .skip)))) (.ops MT))))
abbrev M3:List AO:=[oo 2 (.mov (cB .false))]
abbrev Mt:AFunc:=⟨77,[(.tmp 2)],(.seq (.ops Mo) (.seq (.seq (.ops PJ) (.cond (.t 34) (.seq (.ops MP) .ret) .skip)) (.seq (.seq (.ops QI) (.block 0 (.loop RJ))) (.seq (.seq (.ops RN) (.block 2 (.loop Qf))) (.seq (.ops M3) .ret)))))⟩
theorem Mh:EL Try.prog 9=some Mt:=by kernel_rfl
abbrev KV:FuncId:=10
abbrev OM:List AO:=[oo 1 (.box 28 (.t 0)),oo 2 (.mov (.c (.nilsl 0)))]
abbrev Qh:List AO:=[oo 3 (.mov (.c (.nilsl 0)))]
abbrev RW:List AO:=[oo 6 (.fieldAddr 8 (.t 1)),oo 7 (.load .none (.t 6)),oo 8 (.len (.t 7)),oo 9 (.mov (cI 0))]
abbrev Mx:List AO:=[oo 10 (.bin .lss (.t 9) (.t 8))]
abbrev QP:List AO:=[oo 11 (.elemAddr 5 (.t 7) (.t 9)),oo 12 (.load (.some 5) (.t 11)),oo 5 (.alloc 34 [(.d (.str ⟨⟨[]⟩⟩)),(.d (.str ⟨⟨[]⟩⟩)),zI,zI,zI]),on (.store 5 (.t 5) (.t 12))]
abbrev P1:List AO:=[om 13 3,oo 14 (.fieldAddr 0 (.t 5)),oo 15 (.load .none (.t 14)),oo 16 (.buildSlice 9 1 1 [(.d (.str ⟨⟨[]⟩⟩))] [⟨0,(.t 15)⟩]),oo 17 (.append 9 1 16 [(.d (.str ⟨⟨[]⟩⟩))] (.t 13) (.t 16)),om 3 17]
abbrev Mj:List AO:=[oo 18 (.bin .add (.t 9) (cI 1)),om 9 18]
abbrev OP:ACode:=(.seq (.ops Mx) (.seq (.cond (.t 10) .skip (.exit 0)) (.seq (.block 1 (.seq (.ops QP) (.ops P1))) (.ops Mj))))
abbrev LW:List AO:=[om 19 3,oo 20 (.call 22 [(.t 19)])]
abbrev PS:List AO:=[om 21 3,om 2 21]
abbrev PZ:AFunc:=⟨22,[(.tmp 2)],(.seq (.ops OM) (.seq (.ops Qh) (.seq (.seq (.ops RW) (.block 0 (.loop OP))) (.seq (.ops LW) (.seq (.ops PS) .ret)))))⟩
theorem KZ:EL Try.prog 10=some PZ:=by kernel_rfl
abbrev KG:FuncId:=11
abbrev N7:List AO:=[oo 2 (.box 28 (.t 0)),oo 3 (.box 9 (.t 1)),oo 4 (.mov (cI 0))]
abbrev Pz:List AO:=[oo 5 (.fieldAddr 8 (.t 2)),oo 6 (.load .none (.t 5)),oo 7 (.mkfn 24 [(.t 3)]),oo 8 (.call 23 [(.t 6),(.t 7)]),om 4 8]
abbrev MH:AFunc:=⟨9,[(.tmp 4)],(.seq (.ops N7) (.seq (.ops Pz) .ret))⟩
theorem KO:EL Try.prog 11=some MH:=by kernel_rfl
abbrev Q8:FuncId:=19
abbrev QF:List AO:=[oo 2 (.box 28 (.t 0)),oo 3 (.box 28 (.t 1)),oo 4 (.mov (cB .false))]
abbrev Qu:List AO:=[oo 5 (.fieldAddr 0 (.t 2)),oo 6 (.load .none (.t 5)),oo 7 (.fieldAddr 0 (.t 3)),oo 8 (.load .none (.t 7)),oo 9 (.bin .eql (.t 6) (.t 8)),om 10 9,og 11 10 .true (.fieldAddr 1 (.t 2)),og 12 10 .true (.load .none (.t 11)),og 13 10 .true (.fieldAddr 1 (.t 3)),og 14 10 .true (.load .none (.t 13)),og 15 10 .true (.bin .eql (.t 12) (.t 14)),oo 16 (.pick (.t 10) (.t 15) (cB .false)),om 17 16,og 18 17 .true (.fieldAddr 2 (.t 2)),og 19 17 .true (.load (.some 3) (.t 18)),og 20 17 .true (.fieldAddr 2 (.t 3)),og 21 17 .true (.load (.some 3) (.t 20)),og 22 17 .true (.eqAgg .false [0,0,0] (.t 19) (.t 21)),oo 23 (.pick (.t 17) (.t 22) (cB .false)),om 24 23,og 25 24 .true (.fieldAddr 5 (.t 2)),og 26 24 .true (.load (.some 3) (.t 25)),og 27 24 .true (.fieldAddr 5 (.t 3)),og 28 24 .true (.load (.some 3) (.t 27)),og 29 24 .true (.eqAgg .false [0,0,0] (.t 26) (.t 28)),oo 30 (.pick (.t 24) (.t 29) (cB .false)),om 31 30,og 32 31 .true (.fieldAddr 8 (.t 2)),og 33 31 .true (.load .none (.t 32)),og 34 31 .true (.fieldAddr 8 (.t 3)),og 35 31 .true (.load .none (.t 34)),og 36 31 .true (.call 32 [(.t 33),(.t 35),(.c (.fn 33 []))]),oo 37 (.pick (.t 31) (.t 36) (cB .false)),om 38 37,og 39 38 .true (.fieldAddr 9 (.t 2)),og 40 38 .true (.load .none (.t 39)),og 41 38 .true (.fieldAddr 9 (.t 3)),og 42 38 .true (.load .none (.t 41)),og 43 38 .true (.call 34 [(.t 40),(.t 42),(.c (.fn 35 []))]),oo 44 (.pick (.t 38) (.t 43) (cB .false)),om 45 44,og 46 45 .true (.fieldAddr 10 (.t 2)),og 47 45 .true (.load .none (.t 46)),og 48 45 .true (.fieldAddr 10 (.t 3)),og 49 45 .true (.load .none (.t 48)),og 50 45 .true (.call 36 [(.t 47),(.t 49),(.c (.fn 37 []))]),oo 51 (.pick (.t 45) (.t 50) (cB .false)),om 4 51]
abbrev P7:AFunc:=⟨52,[(.tmp 4)],(.seq (.ops QF) (.seq (.ops Qu) .ret))⟩
theorem QB:EL Try.prog 19=some P7:=by kernel_rfl
abbrev IB:FuncId:=22
abbrev QQ:List AO:=[om 3 0,oo 4 (.len (.t 3)),om 2 4]
abbrev Lh:List AO:=[om 5 0,om 6 2,om 7 2,oo 8 (.conv .u64 (.t 7)),oo 9 (.call 41 [(.t 8)]),oo 10 (.call 40 [(.t 5),(cI 0),(.t 6),(.t 9)])]
abbrev LL:AFunc:=⟨11,[],(.seq (.ops QQ) (.ops Lh))⟩
theorem Kg:EL Try.prog 22=some LL:=by kernel_rfl
abbrev JL:FuncId:=23
abbrev ND:List AO:=[oo 4 (.mov (cI 0))]
abbrev Om:List AO:=[om 5 0,om 6 1,oo 7 (.call 42 [(.t 5),(.t 6)]),om 4 7]
abbrev Ls:AFunc:=⟨8,[(.tmp 4)],(.seq (.ops ND) (.seq (.ops Om) .ret))⟩
theorem JX:EL Try.prog 23=some Ls:=by kernel_rfl
abbrev FX:FuncId:=24
abbrev P0:List AO:=[oo 2 (.box 34 (.t 0)),oo 3 (.mov (cB .false))]
abbrev QJ:List AO:=[oo 4 (.fieldAddr 0 (.t 2)),oo 5 (.load .none (.t 4)),oo 6 (.load .none (.t 1)),oo 7 (.bin .eql (.t 5) (.t 6)),om 3 7]
abbrev QK:AFunc:=⟨8,[(.tmp 3)],(.seq (.ops P0) (.seq (.ops QJ) .ret))⟩
theorem Jm:EL Try.prog 24=some QK:=by kernel_rfl
abbrev Ot:FuncId:=32
abbrev N2:List AO:=[oo 6 (.mov (cB .false))]
abbrev QG:List AO:=[om 7 0,om 8 1,om 9 2,oo 10 (.call 43 [(.t 7),(.t 8),(.t 9)]),om 6 10]
abbrev LV:AFunc:=⟨11,[(.tmp 6)],(.seq (.ops N2) (.seq (.ops QG) .ret))⟩
theorem Ky:EL Try.prog 32=some LV:=by kernel_rfl
abbrev HY:FuncId:=33
abbrev Ll:List AO:=[oo 2 (.box 34 (.t 0)),oo 3 (.box 34 (.t 1)),oo 4 (.mov (cB .false))]
abbrev LM:List AO:=[oo 5 (.fieldAddr 0 (.t 2)),oo 6 (.load .none (.t 5)),oo 7 (.fieldAddr 0 (.t 3)),oo 8 (.load .none (.t 7)),oo 9 (.bin .eql (.t 6) (.t 8)),om 10 9,og 11 10 .true (.fieldAddr 1 (.t 2)),og 12 10 .true (.load .none (.t 11)),og 13 10 .true (.fieldAddr 1 (.t 3)),og 14 10 .true (.load .none (.t 13)),og 15 10 .true (.bin .eql (.t 12) (.t 14)),oo 16 (.pick (.t 10) (.t 15) (cB .false)),om 17 16,og 18 17 .true (.fieldAddr 2 (.t 2)),og 19 17 .true (.load .none (.t 18)),og 20 17 .true (.fieldAddr 2 (.t 3)),og 21 17 .true (.load .none (.t 20)),og 22 17 .true (.bin .eql (.t 19) (.t 21)),oo 23 (.pick (.t 17) (.t 22) (cB .false)),om 4 23]
abbrev QX:AFunc:=⟨24,[(.tmp 4)],(.seq (.ops Ll) (.seq (.ops LM) .ret))⟩
theorem Qo:EL Try.prog 33=some QX:=by kernel_rfl
abbrev Ix:FuncId:=34
abbrev Nl:List AO:=[oo 6 (.mov (cB .false))]
abbrev P3:List AO:=[om 7 0,om 8 1,om 9 2,oo 10 (.call 44 [(.t 7),(.t 8),(.t 9)]),om 6 10]
abbrev L7:AFunc:=⟨11,[(.tmp 6)],(.seq (.ops Nl) (.seq (.ops P3) .ret))⟩
theorem Pt:EL Try.prog 34=some L7:=by kernel_rfl
abbrev Hq:FuncId:=35
abbrev RO:FuncId:=36
abbrev Oy:List AO:=[oo 6 (.mov (cB .false))]
abbrev Pf:List AO:=[om 7 0,om 8 1,om 9 2,oo 10 (.call 45 [(.t 7),(.t 8),(.t 9)]),om 6 10]
abbrev QZ:AFunc:=⟨11,[(.tmp 6)],(.seq (.ops Oy) (.seq (.ops Pf) .ret))⟩
theorem Ok:EL Try.prog 36=some QZ:=by kernel_rfl
abbrev Jf:FuncId:=37
abbrev Je:FuncId:=40
abbrev Lr:List AO:=[oo 8 (.mov (cB .true))]
abbrev Pr:List AO:=[oo 9 (.mov (cB .true))]
abbrev Pp:List AO:=[om 19 2,om 20 1,oo 21 (.bin .sub (.t 19) (.t 20)),om 10 21]
abbrev Nn:List AO:=[om 22 10,oo 23 (.bin .leq (.t 22) (cI 12))]
abbrev Q3:List AO:=[om 24 0,om 25 1,om 26 2,oo 27 (.call 50 [(.t 24),(.t 25),(.t 26)])]
abbrev Mm:List AO:=[om 28 3,oo 29 (.bin .eql (.t 28) (cI 0))]
abbrev NY:List AO:=[om 30 0,om 31 1,om 32 2,oo 33 (.call 51 [(.t 30),(.t 31),(.t 32)])]
abbrev L3:List AO:=[om 34 8,oo 35 (.un .not (.t 34))]
abbrev OZ:List AO:=[om 36 0,om 37 1,om 38 2,oo 39 (.call 52 [(.t 36),(.t 37),(.t 38)])]
abbrev N1:List AO:=[om 40 3,oo 41 (.bin .sub (.t 40) (cI 1)),om 3 41]
abbrev NP:List AO:=[om 43 0,om 44 1,om 45 2,oo 46 (.call 53 [(.t 43),(.t 44),(.t 45)]),om 42 46,oo 47 (.extract (.t 42) 0),oo 48 (.extract (.t 42) 1),om 11 47,om 12 48]
abbrev RF:List AO:=[om 49 12,oo 50 (.bin .eql (.t 49) (cI 2))]
abbrev NR:List AO:=[om 51 0,om 52 1,om 53 2,oo 54 (.call 54 [(.t 51),(.t 52),(.t 53)])]
abbrev Qt:List AO:=[om 55 2,oo 56 (.bin .sub (.t 55) (cI 1)),om 57 11,om 58 1,oo 59 (.bin .sub (.t 57) (.t 58)),oo 60 (.bin .sub (.t 56) (.t 59)),om 11 60]
abbrev OK:List AO:=[oo 12 (.mov (cI 1))]
abbrev MD:List AO:=[om 61 8,om 62 61,og 63 62 .true (.mov (.t 9)),oo 64 (.pick (.t 62) (.t 63) (cB .false)),om 65 64,og 66 65 .true (.mov (.t 12)),og 67 65 .true (.bin .eql (.t 66) (cI 1)),oo 68 (.pick (.t 65) (.t 67) (cB .false))]
abbrev Pv:List AO:=[om 69 0,om 70 1,om 71 2,oo 72 (.call 55 [(.t 69),(.t 70),(.t 71)])]
abbrev RC:List AO:=[om 73 1,oo 74 (.bin .gtr (.t 73) (cI 0)),om 75 74,og 76 75 .true (.mov (.t 0)),og 77 75 .true (.mov (.t 1)),og 78 75 .true (.bin .sub (.t 77) (cI 1)),og 79 75 .true (.elemAddr 1 (.t 76) (.t 78)),og 81 75 .true (.mov (.t 0)),og 82 75 .true (.mov (.t 11)),og 83 75 .true (.elemAddr 1 (.t 81) (.t 82)),og 80 75 .true (.load .none (.t 79)),og 84 75 .true (.load .none (.t 83)),og 85 75 .true (.call 56 [(.t 80),(.t 84)]),og 86 75 .true (.un .not (.t 85)),oo 87 (.pick (.t 75) (.t 86) (cB .false))]
abbrev K4:List AO:=[om 88 0,om 89 1,om 90 2,om 91 11,oo 92 (.call 57 [(.t 88),(.t 89),(.t 90),(.t 91)]),om 13 92]
abbrev OX:List AO:=[om 93 13,om 1 93]
abbrev Mn:List AO:=[om 95 0,om 96 1,om 97 2,om 98 11,oo 99 (.call 58 [(.t 95),(.t 96),(.t 97),(.t 98)]),om 94 99,oo 100 (.extract (.t 94) 0),oo 101 (.extract (.t 94) 1),om 14 100,om 15 101]
abbrev QC:List AO:=[om 102 15,om 9 102]
abbrev Qj:List AO:=[om 103 14,om 104 1,oo 105 (.bin .sub (.t 103) (.t 104)),om 106 2,om 107 14,oo 108 (.bin .sub (.t 106) (.t 107)),om 16 105,om 17 108]
abbrev OA:List AO:=[om 109 10,oo 110 (.bin .quo (.t 109) (cI 8)),om 18 110]
abbrev Qi:List AO:=[om 111 16,om 112 17,oo 113 (.bin .lss (.t 111) (.t 112))]
abbrev L4:List AO:=[om 114 16,om 115 18,oo 116 (.bin .geq (.t 114) (.t 115)),om 8 116]
abbrev Qr:List AO:=[om 117 0,om 118 1,om 119 14,om 120 3,oo 121 (.call 40 [(.t 117),(.t 118),(.t 119),(.t 120)])]
abbrev MB:List AO:=[om 122 14,oo 123 (.bin .add (.t 122) (cI 1)),om 1 123]
abbrev LD:List AO:=[om 124 17,om 125 18,oo 126 (.bin .geq (.t 124) (.t 125)),om 8 126]
abbrev Nv:List AO:=[om 127 0,om 128 14,oo 129 (.bin .add (.t 128) (cI 1)),om 130 2,om 131 3,oo 132 (.call 40 [(.t 127),(.t 129),(.t 130),(.t 131)])]
abbrev M1:List AO:=[om 133 14,om 2 133]
abbrev PG:ACode:=(.block 1 (.seq (.ops Pp) (.seq (.seq (.ops Nn) (.cond (.t 23) (.seq (.ops Q3) .ret) .skip)) (.seq (.seq (.ops Mm) (.cond (.t 29) (.seq (.ops NY) .ret) .skip)) (.seq (.seq (.ops L3) (.cond (.t 35) (.seq (.ops OZ) (.ops N1)) .skip)) (.seq (.ops NP) (.seq (.seq (.ops RF) (.cond (.t 50) (.seq (.ops NR) (.seq (.ops Qt) (.ops OK))) .skip)) (.seq (.seq (.ops MD) (.cond (.t 68) (.seq (.ops Pv) (.cond (.t 72) .ret .skip)) .skip)) (.seq (.seq (.dops RC) (.cond (.t 87) (.seq (.ops K4) (.seq (.ops OX) (.exit 1))) .skip)) (.seq (.ops Mn) (.seq (.ops QC) (.seq (.ops Qj) (.seq (.ops OA) (.seq (.ops Qi) (.cond (.t 113) (.seq (.ops L4) (.seq (.ops Qr) (.ops MB))) (.seq (.ops LD) (.seq (.ops Nv) (.ops M1))))))))))))))))))
abbrev Ny:AFunc:=⟨134,[],(.seq (.ops Lr) (.seq (.ops Pr) (.block 0 (.loop PG))))⟩
theorem Jn:EL Try.prog 40=some Ny:=by kernel_rfl
abbrev JS:FuncId:=41
abbrev Ln:List AO:=[oo 2 (.mov (cI 0))]
abbrev LS:List AO:=[om 3 0,oo 4 (.conv .u32 (.t 3)),oo 5 (.call 59 [(.t 4)]),om 2 5]
abbrev Px:List AO:=[om 6 0,oo 7 (.call 60 [(.t 6)]),om 2 7]
abbrev NH:AFunc:=⟨8,[(.tmp 2)],(.seq (.ops Ln) (.seq (.cond (.c (.d (.bool .false))) (.seq (.ops LS) .ret) .skip) (.seq (.ops Px) .ret)))⟩
theorem I8:EL Try.prog 41=some NH:=by kernel_rfl
abbrev JI:FuncId:=42
abbrev MW:List AO:=[oo 4 (.mov (cI 0))]
abbrev RG:List AO:=[om 6 0,oo 7 (.len (.t 6)),oo 8 (.mov (cI 0))]
abbrev Qx:List AO:=[oo 9 (.bin .lss (.t 8) (.t 7))]
abbrev LG:List AO:=[om 10 8,om 5 10]
abbrev Li:List AO:=[om 11 1,om 12 0,om 13 5,oo 14 (.elemAddr 5 (.t 12) (.t 13)),oo 15 (.load (.some 5) (.t 14)),oo 16 (.callv (.t 11) [(.t 15)])]
abbrev RS:List AO:=[om 17 5,om 4 17]
abbrev OY:List AO:=[oo 18 (.bin .add (.t 8) (cI 1)),om 8 18]
abbrev Pa:ACode:=(.seq (.ops Qx) (.seq (.cond (.t 9) .skip (.exit 0)) (.seq (.block 1 (.seq (.ops LG) (.seq (.ops Li) (.cond (.t 16) (.seq (.ops RS) .ret) .skip)))) (.ops OY))))
abbrev PX:List AO:=[oo 4 (.mov (cI (-1)))]
abbrev Lp:AFunc:=⟨19,[(.tmp 4)],(.seq (.ops MW) (.seq (.seq (.ops RG) (.block 0 (.loop Pa))) (.seq (.ops PX) .ret)))⟩
theorem KT:EL Try.prog 42=some Lp:=by kernel_rfl
abbrev NV:FuncId:=43
abbrev OW:List AO:=[oo 6 (.mov (cB .false))]
abbrev LO:List AO:=[om 10 0,oo 11 (.len (.t 10)),om 12 1,oo 13 (.len (.t 12)),oo 14 (.bin .neq (.t 11) (.t 13))]
abbrev Pj:List AO:=[oo 6 (.mov (cB .false))]
abbrev Mp:List AO:=[om 15 0,oo 16 (.len (.t 15)),oo 17 (.mov (cI 0))]
abbrev Q9:List AO:=[oo 18 (.bin .lss (.t 17) (.t 16))]
abbrev Oq:List AO:=[om 19 17,oo 20 (.elemAddr 5 (.t 15) (.t 17)),oo 21 (.load (.some 5) (.t 20)),oo 8 (.alloc 34 [(.d (.str ⟨⟨[]⟩⟩)),(.d (.str ⟨⟨[]⟩⟩)),zI,zI,zI]),om 7 19,on (.store 5 (.t 8) (.t 21))]
abbrev Ms:List AO:=[om 22 1,om 23 7,oo 24 (.elemAddr 5 (.t 22) (.t 23)),oo 25 (.load (.some 5) (.t 24)),oo 9 (.alloc 34 [(.d (.str ⟨⟨[]⟩⟩)),(.d (.str ⟨⟨[]⟩⟩)),zI,zI,zI]),on (.store 5 (.t 9) (.t 25))]
abbrev OT:List AO:=[om 26 2,oo 27 (.load (.some 5) (.t 8)),oo 28 (.load (.some 5) (.t 9)),oo 29 (.callv (.t 26) [(.t 27),(.t 28)]),oo 30 (.un .not (.t 29))]
abbrev OL:List AO:=[oo 6 (.mov (cB .false))]
abbrev Nj:List AO:=[oo 31 (.bin .add (.t 17) (cI 1)),om 17 31]
abbrev Mi:ACode:=(.seq (.ops Q9) (.seq (.cond (.t 18) .skip (.exit 0)) (.seq (.block 1 (.seq (.ops Oq) (.seq (.ops Ms) (.seq (.ops OT) (.cond (.t 30) (.seq (.ops OL) .ret) .skip))))) (.ops Nj))))
abbrev Oh:List AO:=[oo 6 (.mov (cB .true))]
abbrev Nk:AFunc:=⟨32,[(.tmp 6)],(.seq (.ops OW) (.seq (.seq (.ops LO) (.cond (.t 14) (.seq (.ops Pj) .ret) .skip)) (.seq (.seq (.ops Mp) (.block 0 (.loop Mi))) (.seq (.ops Oh) .ret))))⟩
theorem NL:EL Try.prog 43=some Nk:=by kernel_rfl
abbrev MA:FuncId:=44
abbrev Qc:List AO:=[oo 6 (.mov (cB .false))]
abbrev NK:List AO:=[om 10 0,oo 11 (.len (.t 10)),om 12 1,oo 13 (.len (.t 12)),oo 14 (.bin .neq (.t 11) (.t 13))]
abbrev My:List AO:=[oo 6 (.mov (cB .false))]
abbrev OE:List AO:=[om 15 0,oo 16 (.len (.t 15)),oo 17 (.mov (cI 0))]
abbrev MR:List AO:=[oo 18 (.bin .lss (.t 17) (.t 16))]
abbrev Nc:List AO:=[om 19 17,oo 20 (.elemAddr 10 (.t 15) (.t 17)),oo 21 (.load (.some 10) (.t 20)),oo 8 (.alloc 51 [zI,(.d (.bool .false)),zI,zI,zI,zI,zI,zI,zI,zI]),om 7 19,on (.store 10 (.t 8) (.t 21))]
abbrev Lw:List AO:=[om 22 1,om 23 7,oo 24 (.elemAddr 10 (.t 22) (.t 23)),oo 25 (.load (.some 10) (.t 24)),oo 9 (.alloc 51 [zI,(.d (.bool .false)),zI,zI,zI,zI,zI,zI,zI,zI]),on (.store 10 (.t 9) (.t 25))]
abbrev OV:List AO:=[om 26 2,oo 27 (.load (.some 10) (.t 8)),oo 28 (.load (.some 10) (.t 9)),oo 29 (.callv (.t 26) [(.t 27),(.t 28)]),oo 30 (.un .not (.t 29))]
abbrev NI:List AO:=[oo 6 (.mov (cB .false))]
abbrev LI:List AO:=[oo 31 (.bin .add (.t 17) (cI 1)),om 17 31]
abbrev Pq:ACode:=(.seq (.ops MR) (.seq (.cond (.t 18) .skip (.exit 0)) (.seq (.block 1 (.seq (.ops Nc) (.seq (.ops Lw) (.seq (.ops OV) (.cond (.t 30) (.seq (.ops NI) .ret) .skip))))) (.ops LI))))
abbrev N0:List AO:=[oo 6 (.mov (cB .true))]
abbrev O3:AFunc:=⟨32,[(.tmp 6)],(.seq (.ops Qc) (.seq (.seq (.ops NK) (.cond (.t 14) (.seq (.ops My) .ret) .skip)) (.seq (.seq (.ops OE) (.block 0 (.loop Pq))) (.seq (.ops N0) .ret))))⟩
theorem Ps:EL Try.prog 44=some O3:=by kernel_rfl
abbrev Mz:FuncId:=45
abbrev PO:List AO:=[oo 6 (.mov (cB .false))]
abbrev RT:List AO:=[om 10 0,oo 11 (.len (.t 10)),om 12 1,oo 13 (.len (.t 12)),oo 14 (.bin .neq (.t 11) (.t 13))]
abbrev PB:List AO:=[oo 6 (.mov (cB .false))]
abbrev QD:List AO:=[om 15 0,oo 16 (.len (.t 15)),oo 17 (.mov (cI 0))]
abbrev NZ:List AO:=[oo 18 (.bin .lss (.t 17) (.t 16))]
abbrev MK:List AO:=[om 19 17,oo 20 (.elemAddr 16 (.t 15) (.t 17)),oo 21 (.load (.some 16) (.t 20)),oo 8 (.alloc 55 [(.d (.str ⟨⟨[]⟩⟩)),(.d (.bool .false)),zI,zI,zI,zI,zI,zI,zI,zI,zI,(.nilsl 2),zI,(.nilsl 3),zI,zI]),om 7 19,on (.store 16 (.t 8) (.t 21))]
abbrev Mc:List AO:=[om 22 1,om 23 7,oo 24 (.elemAddr 16 (.t 22) (.t 23)),oo 25 (.load (.some 16) (.t 24)),oo 9 (.alloc 55 [(.d (.str ⟨⟨[]⟩⟩)),(.d (.bool .false)),zI,zI,zI,zI,zI,zI,zI,zI,zI,(.nilsl 2),zI,(.nilsl 3),zI,zI]),on (.store 16 (.t 9) (.t 25))]
abbrev O0:List AO:=[om 26 2,oo 27 (.load (.some 16) (.t 8)),oo 28 (.load (.some 16) (.t 9)),oo 29 (.callv (.t 26) [(.t 27),(.t 28)]),oo 30 (.un .not (.t 29))]
abbrev Ov:List AO:=[oo 6 (.mov (cB .false))]
abbrev QE:List AO:=[oo 31 (.bin .add (.t 17) (cI 1)),om 17 31]
abbrev NE:ACode:=(.seq (.ops NZ) (.seq (.cond (.t 18) .skip (.exit 0)) (.seq (.block 1 (.seq (.ops MK) (.seq (.ops Mc) (.seq (.ops O0) (.cond (.t 30) (.seq (.ops Ov) .ret) .skip))))) (.ops QE))))
abbrev MY:List AO:=[oo 6 (.mov (cB .true))]
abbrev RU:AFunc:=⟨32,[(.tmp 6)],(.seq (.ops PO) (.seq (.seq (.ops RT) (.cond (.t 14) (.seq (.ops PB) .ret) .skip)) (.seq (.seq (.ops QD) (.block 0 (.loop NE))) (.seq (.ops MY) .ret))))⟩
theorem N9:EL Try.prog 45=some RU:=by kernel_rfl
abbrev Jr:FuncId:=50
abbrev Nz:List AO:=[om 8 1,oo 9 (.bin .add (.t 8) (cI 1)),om 6 9]
abbrev PA:List AO:=[om 10 6,om 11 2,oo 12 (.bin .lss (.t 10) (.t 11))]
abbrev M7:List AO:=[om 15 6,om 7 15]
abbrev Q7:List AO:=[om 16 7,om 17 1,oo 18 (.bin .gtr (.t 16) (.t 17)),om 19 18,og 20 19 .true (.mov (.t 0)),og 21 19 .true (.mov (.t 7)),og 22 19 .true (.elemAddr 1 (.t 20) (.t 21)),og 24 19 .true (.mov (.t 0)),og 25 19 .true (.mov (.t 7)),og 26 19 .true (.bin .sub (.t 25) (cI 1)),og 27 19 .true (.elemAddr 1 (.t 24) (.t 26)),og 23 19 .true (.load .none (.t 22)),og 28 19 .true (.load .none (.t 27)),og 29 19 .true (.call 56 [(.t 23),(.t 28)]),oo 30 (.pick (.t 19) (.t 29) (cB .false))]
abbrev Ml:List AO:=[om 33 0,om 34 7,om 35 0,om 36 7,oo 37 (.bin .sub (.t 36) (cI 1)),om 38 0,om 39 7,oo 40 (.bin .sub (.t 39) (cI 1)),oo 41 (.elemAddr 1 (.t 38) (.t 40)),om 43 0,om 44 7,oo 45 (.elemAddr 1 (.t 43) (.t 44)),oo 42 (.load .none (.t 41)),oo 46 (.load .none (.t 45)),oo 47 (.elemAddr 1 (.t 33) (.t 34)),on (.store 1 (.t 47) (.t 42)),oo 48 (.elemAddr 1 (.t 35) (.t 37)),on (.store 1 (.t 48) (.t 46))]
abbrev Qm:List AO:=[om 31 7,oo 32 (.bin .sub (.t 31) (cI 1)),om 7 32]
abbrev OB:ACode:=(.seq (.seq (.dops Q7) (.cond (.t 30) .skip (.exit 2))) (.seq (.block 3 (.dops Ml)) (.ops Qm)))
abbrev LC:List AO:=[om 13 6,oo 14 (.bin .add (.t 13) (cI 1)),om 6 14]
abbrev P6:ACode:=(.seq (.seq (.ops PA) (.cond (.t 12) .skip (.exit 0))) (.seq (.block 1 (.seq (.ops M7) (.block 2 (.loop OB)))) (.ops LC)))
abbrev Mk:AFunc:=⟨49,[],(.seq (.ops Nz) (.block 0 (.loop P6)))⟩
theorem KH:EL Try.prog 50=some Mk:=by kernel_rfl
abbrev PI:FuncId:=56
abbrev MO:List AO:=[oo 4 (.mov (cB .false))]
abbrev NS:List AO:=[om 5 0,oo 6 (.call 66 [(.t 5)]),om 7 6,og 8 7 .true (.mov (.t 1)),og 9 7 .true (.call 66 [(.t 8)]),og 10 7 .true (.un .not (.t 9)),oo 11 (.pick (.t 7) (.t 10) (cB .false)),om 12 11,og 13 12 .false (.mov (.t 0)),og 14 12 .false (.mov (.t 1)),og 15 12 .false (.bin .lss (.t 13) (.t 14)),oo 16 (.pick (.t 12) (cB .true) (.t 15)),om 4 16]
abbrev LH:AFunc:=⟨17,[(.tmp 4)],(.seq (.ops MO) (.seq (.ops NS) .ret))⟩
theorem M6:EL Try.prog 56=some LH:=by kernel_rfl
abbrev KI:FuncId:=60
abbrev O4:List AO:=[oo 2 (.mov (cI 0))]
abbrev P9:List AO:=[om 3 0,oo 4 (.bin .geq (.t 3) (.c (.d (.int .u64 4294967296))))]
abbrev Lv:List AO:=[om 5 0,oo 6 (.bin .shr (.t 5) (.c (.d (.int .u64 32)))),om 0 6]
abbrev L5:List AO:=[oo 2 (.mov (cI 32))]
abbrev Og:List AO:=[om 7 0,oo 8 (.bin .geq (.t 7) (.c (.d (.int .u64 65536))))]
abbrev OQ:List AO:=[om 9 0,oo 10 (.bin .shr (.t 9) (.c (.d (.int .u64 16)))),om 0 10]
abbrev ME:List AO:=[om 11 2,oo 12 (.bin .add (.t 11) (cI 16)),om 2 12]
abbrev RB:List AO:=[om 13 0,oo 14 (.bin .geq (.t 13) (.c (.d (.int .u64 256))))]
abbrev Lg:List AO:=[om 15 0,oo 16 (.bin .shr (.t 15) (.c (.d (.int .u64 8)))),om 0 16]
abbrev P2:List AO:=[om 17 2,oo 18 (.bin .add (.t 17) (cI 8)),om 2 18]
abbrev LK:List AO:=[om 19 2,om 20 0,oo 21 (.conv .u8 (.t 20)),oo 22 (.idxStr (.c (.d (.str ⟨⟨[0,1,2,2,3,3,3,3,4,4,4,4,4,4,4,4,5,5,5,5,5,5,5,5,5,5,5,5,5,5,5,5,6,6,6,6,6,6,6,6,6,6,6,6,6,6,6,6,6,6,6,6,6,6,6,6,6,6,6,6,6,6,6,6,7,7,7,7,7,7,7,7,7,7,7,7,7,7,7,7,7,7,7,7,7,7,7,7,7,7,7,7,7,7,7,7,7,7,7,7,7,7,7,7,7,7,7,7,7,7,7,7,7,7,7,7,7,7,7,7,7,7,7,7,7,7,7,7,8,8,8,8,8,8,8,8,8,8,8,8,8,8,8,8,8,8,8,8,8,8,8,8,8,8,8,8,8,8,8,8,8,8,8,8,8,8,8,8,8,8,8,8,8,8,8,8,8,8,8,8,8,8,8,8,8,8,8,8,8,8,8,8,8,8,8,8,8,8,8,8,8,8,8,8,8,8,8,8,8,8,8,8,8,8,8,8,8,8,8,8,8,8,8,8,8,8,8,8,8,8,8,8,8,8,8,8,8,8,8,8,8,8,8,8,8,8,8,8,8,8,8,8,8,8,8,8]⟩⟩))) (.t 21)),oo 23 (.conv .i64 (.t 22)),oo 24 (.bin .add (.t 19) (.t 23)),om 2 24]
abbrev Ou:AFunc:=⟨25,[(.tmp 2)],(.seq (.ops O4) (.seq (.seq (.ops P9) (.cond (.t 4) (.seq (.ops Lv) (.ops L5)) .skip)) (.seq (.seq (.ops Og) (.cond (.t 8) (.seq (.ops OQ) (.ops ME)) .skip)) (.seq (.seq (.ops RB) (.cond (.t 14) (.seq (.ops Lg) (.ops P2)) .skip)) (.seq (.ops LK) .ret)))))⟩
theorem JE:EL Try.prog 60=some Ou:=by kernel_rfl
abbrev Os:FuncId:=66
abbrev PV:List AO:=[oo 2 (.mov (cB .false))]
abbrev K8:List AO:=[om 3 0,om 4 0,oo 5 (.bin .neq (.t 3) (.t 4)),om 2 5]
abbrev RA:AFunc:=⟨6,[(.tmp 2)],(.seq (.ops PV) (.seq (.ops K8) .ret))⟩
theorem Lx:EL Try.prog 66=some RA:=by kernel_rfl
end Go.Proofs.Ytndepejgafppmaa.Abs
