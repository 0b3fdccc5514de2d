/- The code of the machine and the contracts of one law (joined by kmerge.py). No claim stands here. -/
import Derived.KernelRfl
import Derived.Test.YtndepejgafppmaaProg
import Derived.Test.YtndepejgafppmaaMeb
set_option maxRecDepth 100000
set_option linter.unusedSimpArgs false
set_option linter.unusedVariables false
namespace Go.Proofs.Ytndepejgafppmaa.Abs
open Go Go.RowKit Go.Proofs
abbrev T6:FuncId:=7
abbrev V4:List AO:=[oo 1 (.box 28 (.t 0)),oo 2 (.mov (cB .false))]
abbrev T0:List AO:=[oo 8 (.call 8 []),oo 9 (.un .not (.t 8))]
abbrev W5:List AO:=[oo 2 (.mov (cB .false))]
abbrev Ta:List AO:=[oo 10 (.load (.some 13) (.t 1)),oo 11 (.call 9 [(.t 10)])]
abbrev TF:List AO:=[oo 2 (.mov (cB .true))]
abbrev PB:List AO:=[oo 12 (.load (.some 13) (.t 1)),oo 13 (.call 18 [(.t 12)]),oo 3 (.alloc 28 [(.d (.str ⟨⟨[]⟩⟩)),(.d (.str ⟨⟨[]⟩⟩)),zI,zI,zI,zI,zI,zI,(.nilsl 5),(.nilsl 10),(.nilsl 16),zI,zI]),on (.store 13 (.t 3) (.t 13))]
abbrev Pk:List AO:=[oo 14 (.load (.some 13) (.t 3)),oo 15 (.call 18 [(.t 14)]),oo 4 (.alloc 28 [(.d (.str ⟨⟨[]⟩⟩)),(.d (.str ⟨⟨[]⟩⟩)),zI,zI,zI,zI,zI,zI,(.nilsl 5),(.nilsl 10),(.nilsl 16),zI,zI]),on (.store 13 (.t 4) (.t 15))]
abbrev Uc:List AO:=[oo 16 (.load (.some 13) (.t 3)),oo 17 (.load (.some 13) (.t 4)),oo 18 (.call 20 [(.t 16),(.t 17)]),oo 19 (.un .not (.t 18)),om 20 19,og 21 20 .false (.load (.some 13) (.t 3)),og 22 20 .false (.pcall 17 [(.t 21)]),og 23 20 .false (.load (.some 13) (.t 4)),og 24 20 .false (.call 17 [(.t 23)]),og 25 20 .false (.call 21 [(.t 22),(.t 24)]),og 26 20 .false (.un .not (.t 25)),oo 27 (.pick (.t 20) (cB .true) (.t 26))]
abbrev O0:List AO:=[oo 2 (.mov (cB .false))]
abbrev PR:List AO:=[oo 28 (.fieldAddr 8 (.t 4)),oo 29 (.load .none (.t 28)),oo 30 (.len (.t 29)),oo 31 (.mov (cI 0))]
abbrev Ud:List AO:=[oo 32 (.bin .lss (.t 31) (.t 30))]
abbrev Wj:List AO:=[om 33 31,om 5 33]
abbrev PX:List AO:=[oo 34 (.fieldAddr 8 (.t 4)),om 36 5,oo 37 (.fieldAddr 8 (.t 4)),om 39 5,oo 35 (.load .none (.t 34)),oo 38 (.load .none (.t 37)),oo 40 (.elemAddr 5 (.t 38) (.t 39)),oo 41 (.fieldAddr 0 (.t 40)),oo 42 (.load .none (.t 41)),oo 43 (.bin .add (.t 42) (.c (.d (.str ⟨⟨[122]⟩⟩)))),oo 44 (.elemAddr 5 (.t 35) (.t 36)),oo 45 (.fieldAddr 0 (.t 44)),on (.store 1 (.t 45) (.t 43))]
abbrev NR:List AO:=[oo 46 (.bin .add (.t 31) (cI 1)),om 31 46]
abbrev Va:ACode:=(.seq (.ops Ud) (.seq (.cond (.t 32) .skip (.exit 0)) (.seq (.block 1 (.seq (.ops Wj) (.dops PX))) (.ops NR))))
abbrev T3:List AO:=[oo 47 (.fieldAddr 10 (.t 4)),oo 48 (.load .none (.t 47)),oo 49 (.len (.t 48)),oo 50 (.mov (cI 0))]
abbrev P0:List AO:=[oo 51 (.bin .lss (.t 50) (.t 49))]
abbrev SA:List AO:=[om 52 50,om 6 52]
abbrev Qb:List AO:=[oo 53 (.fieldAddr 10 (.t 4)),oo 54 (.load .none (.t 53)),om 55 6,oo 56 (.elemAddr 16 (.t 54) (.t 55)),oo 57 (.fieldAddr 9 (.t 56)),oo 58 (.load .none (.t 57)),oo 59 (.bin .add (.t 58) (cI 1)),oo 60 (.elemAddr 16 (.t 54) (.t 55)),oo 61 (.fieldAddr 9 (.t 60)),on (.store 1 (.t 61) (.t 59))]
abbrev SC:List AO:=[oo 62 (.fieldAddr 10 (.t 4)),oo 63 (.load .none (.t 62)),om 64 6,oo 65 (.elemAddr 16 (.t 63) (.t 64)),oo 66 (.fieldAddr 11 (.t 65)),oo 67 (.load .none (.t 66)),oo 68 (.len (.t 67)),oo 69 (.mov (cI 0))]
abbrev SS:List AO:=[oo 70 (.bin .lss (.t 69) (.t 68))]
abbrev S4:List AO:=[om 71 69,om 7 71]
abbrev VB:List AO:=[oo 72 (.fieldAddr 10 (.t 4)),oo 73 (.load .none (.t 72)),om 74 6,oo 75 (.elemAddr 16 (.t 73) (.t 74)),oo 76 (.fieldAddr 11 (.t 75)),oo 77 (.load .none (.t 76)),om 78 7,oo 79 (.elemAddr 2 (.t 77) (.t 78)),oo 80 (.fieldAddr 1 (.t 79)),oo 81 (.load .none (.t 80)),oo 82 (.bin .add (.t 81) (cI 1)),oo 83 (.elemAddr 2 (.t 77) (.t 78)),oo 84 (.fieldAddr 1 (.t 83)),on (.store 1 (.t 84) (.t 82))]
abbrev W0:List AO:=[oo 85 (.bin .add (.t 69) (cI 1)),om 69 85]
abbrev SX:ACode:=(.seq (.ops SS) (.seq (.cond (.t 70) .skip (.exit 4)) (.seq (.block 5 (.seq (.ops S4) (.ops VB))) (.ops W0))))
abbrev U2:List AO:=[oo 86 (.bin .add (.t 50) (cI 1)),om 50 86]
abbrev UA:ACode:=(.seq (.ops P0) (.seq (.cond (.t 51) .skip (.exit 2)) (.seq (.block 3 (.seq (.ops SA) (.seq (.ops Qb) (.seq (.ops SC) (.block 4 (.loop SX)))))) (.ops U2))))
abbrev RY:List AO:=[oo 87 (.load (.some 13) (.t 3)),oo 88 (.load (.some 13) (.t 1)),oo 89 (.call 20 [(.t 87),(.t 88)]),om 2 89]
abbrev SZ:AFunc:=⟨90,[(.tmp 2)],(.seq (.ops V4) (.seq (.seq (.ops T0) (.cond (.t 9) (.seq (.ops W5) .ret) .skip)) (.seq (.seq (.ops Ta) (.cond (.t 11) (.seq (.ops TF) .ret) .skip)) (.seq (.ops PB) (.seq (.ops Pk) (.seq (.seq (.dops Uc) (.cond (.t 27) (.seq (.ops O0) .ret) .skip)) (.seq (.seq (.ops PR) (.block 0 (.loop Va))) (.seq (.seq (.ops T3) (.block 2 (.loop UA))) (.seq (.ops RY) .ret)))))))))⟩
theorem Wz:EK Try.prog 7=some SZ:=by kernel_rfl
abbrev WG:FuncId:=8
abbrev SN:List AO:=[oo 0 (.mov (cB .false))]
abbrev Wc:List AO:=[oo 4 (.build [(.d (.str ⟨⟨[]⟩⟩)),(.d (.str ⟨⟨[]⟩⟩)),zI,zI,zI] [⟨0,⟨1,(.c (.d (.str ⟨⟨[98]⟩⟩)))⟩⟩]),oo 5 (.build [(.d (.str ⟨⟨[]⟩⟩)),(.d (.str ⟨⟨[]⟩⟩)),zI,zI,zI] [⟨0,⟨1,(.c (.d (.str ⟨⟨[97]⟩⟩)))⟩⟩]),oo 6 (.buildSlice 34 5 2 [(.d (.str ⟨⟨[]⟩⟩)),(.d (.str ⟨⟨[]⟩⟩)),zI,zI,zI] [⟨0,(.t 4)⟩,⟨1,(.t 5)⟩]),oo 7 (.build [(.d (.str ⟨⟨[]⟩⟩)),(.d (.str ⟨⟨[]⟩⟩)),zI,zI,zI,zI,zI,zI,(.nilsl 5),(.nilsl 10),(.nilsl 16),zI,zI] [⟨0,⟨1,(.c (.d (.str ⟨⟨[112]⟩⟩)))⟩⟩,⟨8,⟨1,(.t 6)⟩⟩]),oo 1 (.alloc 28 [(.d (.str ⟨⟨[]⟩⟩)),(.d (.str ⟨⟨[]⟩⟩)),zI,zI,zI,zI,zI,zI,(.nilsl 5),(.nilsl 10),(.nilsl 16),zI,zI]),on (.store 13 (.t 1) (.t 7))]
abbrev S3:List AO:=[oo 8 (.build [(.d (.str ⟨⟨[]⟩⟩)),(.d (.str ⟨⟨[]⟩⟩)),zI,zI,zI] [⟨0,⟨1,(.c (.d (.str ⟨⟨[98]⟩⟩)))⟩⟩,⟨4,⟨1,(cI 7)⟩⟩]),oo 9 (.build [(.d (.str ⟨⟨[]⟩⟩)),(.d (.str ⟨⟨[]⟩⟩)),zI,zI,zI] [⟨0,⟨1,(.c (.d (.str ⟨⟨[97]⟩⟩)))⟩⟩]),oo 10 (.buildSlice 34 5 2 [(.d (.str ⟨⟨[]⟩⟩)),(.d (.str ⟨⟨[]⟩⟩)),zI,zI,zI] [⟨0,(.t 8)⟩,⟨1,(.t 9)⟩]),oo 11 (.build [zI,(.d (.bool .false)),zI,zI,zI,zI,zI,zI,zI,zI] [⟨0,⟨1,(cI 5)⟩⟩]),oo 12 (.buildSlice 51 10 1 [zI,(.d (.bool .false)),zI,zI,zI,zI,zI,zI,zI,zI] [⟨0,(.t 11)⟩]),oo 13 (.build [(.d (.str ⟨⟨[]⟩⟩)),(.d (.str ⟨⟨[]⟩⟩)),zI,zI,zI,zI,zI,zI,(.nilsl 5),(.nilsl 10),(.nilsl 16),zI,zI] [⟨0,⟨1,(.c (.d (.str ⟨⟨[112]⟩⟩)))⟩⟩,⟨11,⟨1,(cI 3)⟩⟩,⟨8,⟨1,(.t 10)⟩⟩,⟨9,⟨1,(.t 12)⟩⟩]),oo 2 (.alloc 28 [(.d (.str ⟨⟨[]⟩⟩)),(.d (.str ⟨⟨[]⟩⟩)),zI,zI,zI,zI,zI,zI,(.nilsl 5),(.nilsl 10),(.nilsl 16),zI,zI]),on (.store 13 (.t 2) (.t 13))]
abbrev Q5:List AO:=[oo 14 (.load (.some 13) (.t 1)),oo 15 (.call 10 [(.t 14)]),om 3 15]
abbrev TR:List AO:=[oo 16 (.load (.some 13) (.t 1)),oo 17 (.load (.some 13) (.t 1)),oo 18 (.call 19 [(.t 16),(.t 17)]),om 19 18,og 20 19 .true (.load (.some 13) (.t 1)),og 21 19 .true (.load (.some 13) (.t 2)),og 22 19 .true (.call 19 [(.t 20),(.t 21)]),og 23 19 .true (.un .not (.t 22)),oo 24 (.pick (.t 19) (.t 23) (cB .false)),om 25 24,og 26 25 .true (.load (.some 13) (.t 1)),og 27 25 .true (.call 11 [(.t 26),(.c (.d (.str ⟨⟨[97]⟩⟩)))]),og 28 25 .true (.bin .eql (.t 27) (cI 1)),oo 29 (.pick (.t 25) (.t 28) (cB .false)),om 30 29,og 31 30 .true (.mov (.t 3)),og 32 30 .true (.len (.t 31)),og 33 30 .true (.bin .eql (.t 32) (cI 2)),oo 34 (.pick (.t 30) (.t 33) (cB .false)),om 35 34,og 36 35 .true (.mov (.t 3)),og 37 35 .true (.elemAddr 1 (.t 36) (cI 0)),og 38 35 .true (.load .none (.t 37)),og 39 35 .true (.bin .eql (.t 38) (.c (.d (.str ⟨⟨[97]⟩⟩)))),oo 40 (.pick (.t 35) (.t 39) (cB .false)),om 0 40]
abbrev QS:AFunc:=⟨41,[(.tmp 0)],(.seq (.ops SN) (.seq (.ops Wc) (.seq (.ops S3) (.seq (.ops Q5) (.seq (.ops TR) .ret)))))⟩
theorem VD:EK Try.prog 8=some QS:=by kernel_rfl
abbrev Vr:FuncId:=9
abbrev Vf:List AO:=[oo 1 (.box 28 (.t 0)),oo 2 (.mov (cB .false))]
abbrev OQ:List AO:=[oo 7 (.fieldAddr 8 (.t 1)),oo 8 (.load .none (.t 7)),oo 9 (.len (.t 8)),oo 10 (.bin .gtr (.t 9) (cI 20)),om 11 10,og 12 11 .false (.fieldAddr 9 (.t 1)),og 13 11 .false (.load .none (.t 12)),og 14 11 .false (.len (.t 13)),og 15 11 .false (.bin .gtr (.t 14) (cI 40)),oo 16 (.pick (.t 11) (cB .true) (.t 15)),om 17 16,og 18 17 .false (.fieldAddr 10 (.t 1)),og 19 17 .false (.load .none (.t 18)),og 20 17 .false (.len (.t 19)),og 21 17 .false (.bin .gtr (.t 20) (cI 40)),oo 22 (.pick (.t 17) (cB .true) (.t 21)),om 23 22,og 24 23 .false (.fieldAddr 0 (.t 1)),og 25 23 .false (.load .none (.t 24)),og 26 23 .false (.slen (.t 25)),og 27 23 .false (.bin .gtr (.t 26) (cI 200)),oo 28 (.pick (.t 23) (cB .true) (.t 27)),om 29 28,og 30 29 .false (.fieldAddr 1 (.t 1)),og 31 29 .false (.load .none (.t 30)),og 32 29 .false (.slen (.t 31)),og 33 29 .false (.bin .gtr (.t 32) (cI 200)),oo 34 (.pick (.t 29) (cB .true) (.t 33))]
abbrev Tb:List AO:=[oo 2 (.mov (cB .true))]
abbrev Qd:List AO:=[oo 35 (.fieldAddr 8 (.t 1)),oo 36 (.load .none (.t 35)),oo 37 (.len (.t 36)),oo 38 (.mov (cI 0))]
abbrev Sn:List AO:=[oo 39 (.bin .lss (.t 38) (.t 37))]
abbrev VW:List AO:=[oo 40 (.elemAddr 5 (.t 36) (.t 38)),oo 41 (.load (.some 5) (.t 40)),oo 4 (.alloc 34 [(.d (.str ⟨⟨[]⟩⟩)),(.d (.str ⟨⟨[]⟩⟩)),zI,zI,zI]),on (.store 5 (.t 4) (.t 41))]
abbrev PL:List AO:=[oo 42 (.fieldAddr 0 (.t 4)),oo 43 (.load .none (.t 42)),oo 44 (.slen (.t 43)),oo 45 (.bin .gtr (.t 44) (cI 200)),om 46 45,og 47 46 .false (.fieldAddr 1 (.t 4)),og 48 46 .false (.load .none (.t 47)),og 49 46 .false (.slen (.t 48)),og 50 46 .false (.bin .gtr (.t 49) (cI 200)),oo 51 (.pick (.t 46) (cB .true) (.t 50))]
abbrev XZ:List AO:=[oo 2 (.mov (cB .true))]
abbrev QO:List AO:=[oo 52 (.bin .add (.t 38) (cI 1)),om 38 52]
abbrev Sz:ACode:=(.seq (.ops Sn) (.seq (.cond (.t 39) .skip (.exit 0)) (.seq (.block 1 (.seq (.ops VW) (.seq (.ops PL) (.cond (.t 51) (.seq (.ops XZ) .ret) .skip)))) (.ops QO))))
abbrev PC:List AO:=[oo 53 (.fieldAddr 10 (.t 1)),oo 54 (.load .none (.t 53)),oo 55 (.len (.t 54)),oo 56 (.mov (cI 0))]
abbrev SM:List AO:=[oo 57 (.bin .lss (.t 56) (.t 55))]
abbrev P7:List AO:=[oo 58 (.elemAddr 16 (.t 54) (.t 56)),oo 59 (.load (.some 16) (.t 58)),oo 6 (.alloc 55 [(.d (.str ⟨⟨[]⟩⟩)),(.d (.bool .false)),zI,zI,zI,zI,zI,zI,zI,zI,zI,(.nilsl 2),zI,(.nilsl 3),zI,zI]),on (.store 16 (.t 6) (.t 59))]
abbrev RI:List AO:=[oo 60 (.fieldAddr 11 (.t 6)),oo 61 (.load .none (.t 60)),oo 62 (.len (.t 61)),oo 63 (.bin .gtr (.t 62) (cI 40)),om 64 63,og 65 64 .false (.fieldAddr 13 (.t 6)),og 66 64 .false (.load .none (.t 65)),og 67 64 .false (.len (.t 66)),og 68 64 .false (.bin .gtr (.t 67) (cI 40)),oo 69 (.pick (.t 64) (cB .true) (.t 68)),om 70 69,og 71 70 .false (.fieldAddr 0 (.t 6)),og 72 70 .false (.load .none (.t 71)),og 73 70 .false (.slen (.t 72)),og 74 70 .false (.bin .gtr (.t 73) (cI 200)),oo 75 (.pick (.t 70) (cB .true) (.t 74))]
abbrev WB:List AO:=[oo 2 (.mov (cB .true))]
abbrev Wn:List AO:=[oo 76 (.bin .add (.t 56) (cI 1)),om 56 76]
abbrev Tt:ACode:=(.seq (.ops SM) (.seq (.cond (.t 57) .skip (.exit 2)) (.seq (.block 3 (.seq (.ops P7) (.seq (.ops RI) (.cond (.t 75) (.seq (.ops WB) .ret) .skip)))) (.ops Wn))))
abbrev OE:List AO:=[oo 2 (.mov (cB .false))]
abbrev U6:AFunc:=⟨77,[(.tmp 2)],(.seq (.ops Vf) (.seq (.seq (.ops OQ) (.cond (.t 34) (.seq (.ops Tb) .ret) .skip)) (.seq (.seq (.ops Qd) (.block 0 (.loop Sz))) (.seq (.seq (.ops PC) (.block 2 (.loop Tt))) (.seq (.ops OE) .ret)))))⟩
theorem XD:EK Try.prog 9=some U6:=by kernel_rfl
abbrev WW:FuncId:=10
abbrev TD:List AO:=[oo 1 (.box 28 (.t 0)),oo 2 (.mov (.c (.nilsl 0)))]
abbrev Pw:List AO:=[oo 3 (.mov (.c (.nilsl 0)))]
abbrev W1:List AO:=[oo 6 (.fieldAddr 8 (.t 1)),oo 7 (.load .none (.t 6)),oo 8 (.len (.t 7)),oo 9 (.mov (cI 0))]
abbrev Up:List AO:=[oo 10 (.bin .lss (.t 9) (.t 8))]
abbrev VV:List AO:=[oo 11 (.elemAddr 5 (.t 7) (.t 9)),oo 12 (.load (.some 5) (.t 11)),oo 5 (.alloc 34 [(.d (.str ⟨⟨[]⟩⟩)),(.d (.str ⟨⟨[]⟩⟩)),zI,zI,zI]),on (.store 5 (.t 5) (.t 12))]
abbrev QE:List AO:=[om 13 3,oo 14 (.fieldAddr 0 (.t 5)),oo 15 (.load .none (.t 14)),oo 16 (.buildSlice 9 1 1 [(.d (.str ⟨⟨[]⟩⟩))] [⟨0,(.t 15)⟩]),oo 17 (.append 9 1 16 [(.d (.str ⟨⟨[]⟩⟩))] (.t 13) (.t 16)),om 3 17]
abbrev XE:List AO:=[oo 18 (.bin .add (.t 9) (cI 1)),om 9 18]
abbrev Rp:ACode:=(.seq (.ops Up) (.seq (.cond (.t 10) .skip (.exit 0)) (.seq (.block 1 (.seq (.ops VV) (.ops QE))) (.ops XE))))
abbrev QI:List AO:=[om 19 3,oo 20 (.call 22 [(.t 19)])]
abbrev NC:List AO:=[om 21 3,om 2 21]
abbrev Um:AFunc:=⟨22,[(.tmp 2)],(.seq (.ops TD) (.seq (.ops Pw) (.seq (.seq (.ops W1) (.block 0 (.loop Rp))) (.seq (.ops QI) (.seq (.ops NC) .ret)))))⟩
theorem Vo:EK Try.prog 10=some Um:=by kernel_rfl
abbrev TK:FuncId:=11
abbrev R5:List AO:=[oo 2 (.box 28 (.t 0)),oo 3 (.box 9 (.t 1)),oo 4 (.mov (cI 0))]
abbrev QX:List AO:=[oo 5 (.fieldAddr 8 (.t 2)),oo 6 (.load .none (.t 5)),oo 7 (.mkfn 24 [(.t 3)]),oo 8 (.call 23 [(.t 6),(.t 7)]),om 4 8]
abbrev OP:AFunc:=⟨9,[(.tmp 4)],(.seq (.ops R5) (.seq (.ops QX) .ret))⟩
theorem O2:EK Try.prog 11=some OP:=by kernel_rfl
abbrev Lm:FuncId:=17
abbrev TE:List AO:=[oo 1 (.box 28 (.t 0)),oo 2 (.mov (.c (.nilsl 0)))]
abbrev Ty:List AO:=[oo 10 (.fieldAddr 11 (.t 1)),oo 11 (.load .none (.t 10)),oo 12 (.fieldAddr 12 (.t 1)),oo 13 (.load .none (.t 12)),oo 14 (.buildSlice 3 1 2 [zI] [⟨0,(.t 11)⟩,⟨1,(.t 13)⟩]),om 3 14]
abbrev UC:List AO:=[oo 15 (.fieldAddr 8 (.t 1)),oo 16 (.load .none (.t 15)),oo 17 (.len (.t 16)),oo 18 (.mov (cI 0))]
abbrev SV:List AO:=[oo 19 (.bin .lss (.t 18) (.t 17))]
abbrev WX:List AO:=[oo 20 (.elemAddr 5 (.t 16) (.t 18)),oo 21 (.load (.some 5) (.t 20)),oo 5 (.alloc 34 [(.d (.str ⟨⟨[]⟩⟩)),(.d (.str ⟨⟨[]⟩⟩)),zI,zI,zI]),on (.store 5 (.t 5) (.t 21))]
abbrev Vb:List AO:=[om 22 3,oo 23 (.fieldAddr 3 (.t 5)),oo 24 (.load .none (.t 23)),oo 25 (.fieldAddr 4 (.t 5)),oo 26 (.load .none (.t 25)),oo 27 (.buildSlice 3 1 2 [zI] [⟨0,(.t 24)⟩,⟨1,(.t 26)⟩]),oo 28 (.append 3 1 8 [zI] (.t 22) (.t 27)),om 3 28]
abbrev Uv:List AO:=[oo 29 (.bin .add (.t 18) (cI 1)),om 18 29]
abbrev S5:ACode:=(.seq (.ops SV) (.seq (.cond (.t 19) .skip (.exit 0)) (.seq (.block 1 (.seq (.ops WX) (.ops Vb))) (.ops Uv))))
abbrev Rv:List AO:=[oo 30 (.fieldAddr 9 (.t 1)),oo 31 (.load .none (.t 30)),oo 32 (.len (.t 31)),oo 33 (.mov (cI 0))]
abbrev RB:List AO:=[oo 34 (.bin .lss (.t 33) (.t 32))]
abbrev Nq:List AO:=[oo 35 (.elemAddr 10 (.t 31) (.t 33)),oo 36 (.load (.some 10) (.t 35)),oo 7 (.alloc 51 [zI,(.d (.bool .false)),zI,zI,zI,zI,zI,zI,zI,zI]),on (.store 10 (.t 7) (.t 36))]
abbrev U1:List AO:=[om 37 3,oo 38 (.fieldAddr 8 (.t 7)),oo 39 (.load .none (.t 38)),oo 40 (.fieldAddr 9 (.t 7)),oo 41 (.load .none (.t 40)),oo 42 (.buildSlice 3 1 2 [zI] [⟨0,(.t 39)⟩,⟨1,(.t 41)⟩]),oo 43 (.append 3 1 8 [zI] (.t 37) (.t 42)),om 3 43]
abbrev XO:List AO:=[oo 44 (.bin .add (.t 33) (cI 1)),om 33 44]
abbrev RT:ACode:=(.seq (.ops RB) (.seq (.cond (.t 34) .skip (.exit 2)) (.seq (.block 3 (.seq (.ops Nq) (.ops U1))) (.ops XO))))
abbrev UX:List AO:=[oo 45 (.fieldAddr 10 (.t 1)),oo 46 (.load .none (.t 45)),oo 47 (.len (.t 46)),oo 48 (.mov (cI 0))]
abbrev Nc:List AO:=[oo 49 (.bin .lss (.t 48) (.t 47))]
abbrev Q9:List AO:=[oo 50 (.elemAddr 16 (.t 46) (.t 48)),oo 51 (.load (.some 16) (.t 50)),oo 9 (.alloc 55 [(.d (.str ⟨⟨[]⟩⟩)),(.d (.bool .false)),zI,zI,zI,zI,zI,zI,zI,zI,zI,(.nilsl 2),zI,(.nilsl 3),zI,zI]),on (.store 16 (.t 9) (.t 51))]
abbrev TJ:List AO:=[om 52 3,oo 53 (.fieldAddr 14 (.t 9)),oo 54 (.load .none (.t 53)),oo 55 (.fieldAddr 15 (.t 9)),oo 56 (.load .none (.t 55)),oo 57 (.buildSlice 3 1 2 [zI] [⟨0,(.t 54)⟩,⟨1,(.t 56)⟩]),oo 58 (.append 3 1 8 [zI] (.t 52) (.t 57)),om 3 58]
abbrev Sk:List AO:=[oo 59 (.bin .add (.t 48) (cI 1)),om 48 59]
abbrev XY:ACode:=(.seq (.ops Nc) (.seq (.cond (.t 49) .skip (.exit 4)) (.seq (.block 5 (.seq (.ops Q9) (.ops TJ))) (.ops Sk))))
abbrev QC:List AO:=[om 60 3,om 2 60]
abbrev P5:AFunc:=⟨61,[(.tmp 2)],(.seq (.ops TE) (.seq (.ops Ty) (.seq (.seq (.ops UC) (.block 0 (.loop S5))) (.seq (.seq (.ops Rv) (.block 2 (.loop RT))) (.seq (.seq (.ops UX) (.block 4 (.loop XY))) (.seq (.ops QC) .ret))))))⟩
theorem XK:EK Try.prog 17=some P5:=by kernel_rfl
abbrev KS:FuncId:=18
abbrev Ot:List AO:=[oo 1 (.box 28 (.t 0)),oo 2 (.alloc 28 [(.d (.str ⟨⟨[]⟩⟩)),(.d (.str ⟨⟨[]⟩⟩)),zI,zI,zI,zI,zI,zI,(.nilsl 5),(.nilsl 10),(.nilsl 16),zI,zI])]
abbrev NO:List AO:=[oo 7 (.fieldAddr 11 (.t 1)),on (.store 1 (.t 7) (cI 0)),oo 8 (.fieldAddr 12 (.t 1)),on (.store 1 (.t 8) (cI 0))]
abbrev UI:List AO:=[oo 9 (.fieldAddr 8 (.t 1)),oo 12 (.fieldAddr 9 (.t 1)),oo 15 (.fieldAddr 10 (.t 1)),oo 10 (.load .none (.t 9)),oo 13 (.load .none (.t 12)),oo 16 (.load .none (.t 15)),oo 11 (.ncall 27 [(.t 10)]),oo 18 (.fieldAddr 8 (.t 1)),oo 14 (.ncall 28 [(.t 13)]),oo 17 (.call 29 [(.t 16)]),on (.store 1 (.t 18) (.t 11)),oo 19 (.fieldAddr 9 (.t 1)),on (.store 1 (.t 19) (.t 14)),oo 20 (.fieldAddr 10 (.t 1)),on (.store 1 (.t 20) (.t 17))]
abbrev Qk:List AO:=[oo 21 (.fieldAddr 8 (.t 1)),oo 22 (.load .none (.t 21)),oo 23 (.len (.t 22)),oo 24 (.mov (cI 0))]
abbrev Ps:List AO:=[oo 25 (.bin .lss (.t 24) (.t 23))]
abbrev Nb:List AO:=[om 26 24,om 3 26]
abbrev XU:List AO:=[oo 27 (.fieldAddr 8 (.t 1)),om 29 3,oo 30 (.fieldAddr 8 (.t 1)),om 32 3,oo 28 (.load .none (.t 27)),oo 33 (.elemAddr 5 (.t 28) (.t 29)),oo 34 (.fieldAddr 3 (.t 33)),oo 31 (.loadP .none 30),on (.storeR 1 (.t 34) (cI 0)),oo 35 (.elemAddr 5 (.t 31) (.t 32)),oo 36 (.fieldAddr 4 (.t 35)),on (.store 1 (.t 36) (cI 0))]
abbrev Oe:List AO:=[oo 37 (.bin .add (.t 24) (cI 1)),om 24 37]
abbrev TX:ACode:=(.seq (.ops Ps) (.seq (.cond (.t 25) .skip (.exit 0)) (.seq (.block 1 (.seq (.ops Nb) (.dops XU))) (.ops Oe))))
abbrev Vs:List AO:=[oo 38 (.fieldAddr 9 (.t 1)),oo 39 (.load .none (.t 38)),oo 40 (.len (.t 39)),oo 41 (.mov (cI 0))]
abbrev Ny:List AO:=[oo 42 (.bin .lss (.t 41) (.t 40))]
abbrev Uf:List AO:=[om 43 41,om 4 43]
abbrev O3:List AO:=[oo 44 (.fieldAddr 9 (.t 1)),om 46 4,oo 47 (.fieldAddr 9 (.t 1)),om 49 4,oo 45 (.load .none (.t 44)),oo 50 (.elemAddr 10 (.t 45) (.t 46)),oo 51 (.fieldAddr 8 (.t 50)),oo 48 (.loadP .none 47),on (.storeR 1 (.t 51) (cI 0)),oo 52 (.elemAddr 10 (.t 48) (.t 49)),oo 53 (.fieldAddr 9 (.t 52)),on (.store 1 (.t 53) (cI 0))]
abbrev Qt:List AO:=[oo 54 (.bin .add (.t 41) (cI 1)),om 41 54]
abbrev Pd:ACode:=(.seq (.ops Ny) (.seq (.cond (.t 42) .skip (.exit 2)) (.seq (.block 3 (.seq (.ops Uf) (.dops O3))) (.ops Qt))))
abbrev Vl:List AO:=[oo 55 (.fieldAddr 10 (.t 1)),oo 56 (.load .none (.t 55)),oo 57 (.len (.t 56)),oo 58 (.mov (cI 0))]
abbrev VY:List AO:=[oo 59 (.bin .lss (.t 58) (.t 57))]
abbrev RP:List AO:=[om 60 58,om 5 60]
abbrev Q0:List AO:=[oo 61 (.fieldAddr 10 (.t 1)),oo 62 (.load .none (.t 61)),om 63 5,oo 64 (.elemAddr 16 (.t 62) (.t 63)),om 6 64]
abbrev Qy:List AO:=[om 65 6,om 66 6,oo 67 (.nilCheck (.t 65)),oo 68 (.fieldAddr 14 (.t 67)),on (.store 1 (.t 68) (cI 0)),oo 69 (.nilCheck (.t 66)),oo 70 (.fieldAddr 15 (.t 69)),on (.store 1 (.t 70) (cI 0))]
abbrev Pu:List AO:=[om 71 6,om 72 6,om 73 6,oo 74 (.nilCheck (.t 73)),oo 75 (.fieldAddr 11 (.t 74)),om 78 6,oo 79 (.nilCheck (.t 78)),oo 80 (.fieldAddr 13 (.t 79)),oo 76 (.load .none (.t 75)),oo 81 (.load .none (.t 80)),oo 77 (.ncall 30 [(.t 76)]),oo 82 (.call 31 [(.t 81)]),oo 83 (.nilCheck (.t 71)),oo 84 (.fieldAddr 11 (.t 83)),on (.store 1 (.t 84) (.t 77)),oo 85 (.nilCheck (.t 72)),oo 86 (.fieldAddr 13 (.t 85)),on (.store 1 (.t 86) (.t 82))]
abbrev UO:List AO:=[oo 87 (.bin .add (.t 58) (cI 1)),om 58 87]
abbrev OX:ACode:=(.seq (.ops VY) (.seq (.cond (.t 59) .skip (.exit 4)) (.seq (.block 5 (.seq (.ops RP) (.seq (.ops Q0) (.seq (.ops Qy) (.dops Pu))))) (.ops UO))))
abbrev Us:List AO:=[oo 88 (.load (.some 13) (.t 1)),on (.store 13 (.t 2) (.t 88))]
abbrev Pm:AFunc:=⟨89,[(.cell 2 (.some 13))],(.seq (.ops Ot) (.seq (.ops NO) (.seq (.dops UI) (.seq (.seq (.ops Qk) (.block 0 (.loop TX))) (.seq (.seq (.ops Vs) (.block 2 (.loop Pd))) (.seq (.seq (.ops Vl) (.block 4 (.loop OX))) (.seq (.ops Us) .ret)))))))⟩
theorem UF:EK Try.prog 18=some Pm:=by kernel_rfl
abbrev US:FuncId:=19
abbrev Wh:List AO:=[oo 2 (.box 28 (.t 0)),oo 3 (.box 28 (.t 1)),oo 4 (.mov (cB .false))]
abbrev NP:List AO:=[oo 5 (.fieldAddr 0 (.t 2)),oo 6 (.load .none (.t 5)),oo 7 (.fieldAddr 0 (.t 3)),oo 8 (.load .none (.t 7)),oo 9 (.bin .eql (.t 6) (.t 8)),om 10 9,og 11 10 .true (.fieldAddr 1 (.t 2)),og 12 10 .true (.load .none (.t 11)),og 13 10 .true (.fieldAddr 1 (.t 3)),og 14 10 .true (.load .none (.t 13)),og 15 10 .true (.bin .eql (.t 12) (.t 14)),oo 16 (.pick (.t 10) (.t 15) (cB .false)),om 17 16,og 18 17 .true (.fieldAddr 2 (.t 2)),og 19 17 .true (.load (.some 3) (.t 18)),og 20 17 .true (.fieldAddr 2 (.t 3)),og 21 17 .true (.load (.some 3) (.t 20)),og 22 17 .true (.eqAgg .false [0,0,0] (.t 19) (.t 21)),oo 23 (.pick (.t 17) (.t 22) (cB .false)),om 24 23,og 25 24 .true (.fieldAddr 5 (.t 2)),og 26 24 .true (.load (.some 3) (.t 25)),og 27 24 .true (.fieldAddr 5 (.t 3)),og 28 24 .true (.load (.some 3) (.t 27)),og 29 24 .true (.eqAgg .false [0,0,0] (.t 26) (.t 28)),oo 30 (.pick (.t 24) (.t 29) (cB .false)),om 31 30,og 32 31 .true (.fieldAddr 8 (.t 2)),og 33 31 .true (.load .none (.t 32)),og 34 31 .true (.fieldAddr 8 (.t 3)),og 35 31 .true (.load .none (.t 34)),og 36 31 .true (.call 32 [(.t 33),(.t 35),(.c (.fn 33 []))]),oo 37 (.pick (.t 31) (.t 36) (cB .false)),om 38 37,og 39 38 .true (.fieldAddr 9 (.t 2)),og 40 38 .true (.load .none (.t 39)),og 41 38 .true (.fieldAddr 9 (.t 3)),og 42 38 .true (.load .none (.t 41)),og 43 38 .true (.call 34 [(.t 40),(.t 42),(.c (.fn 35 []))]),oo 44 (.pick (.t 38) (.t 43) (cB .false)),om 45 44,og 46 45 .true (.fieldAddr 10 (.t 2)),og 47 45 .true (.load .none (.t 46)),og 48 45 .true (.fieldAddr 10 (.t 3)),og 49 45 .true (.load .none (.t 48)),og 50 45 .true (.call 36 [(.t 47),(.t 49),(.c (.fn 37 []))]),oo 51 (.pick (.t 45) (.t 50) (cB .false)),om 4 51]
abbrev Nf:AFunc:=⟨52,[(.tmp 4)],(.seq (.ops Wh) (.seq (.ops NP) .ret))⟩
theorem SL:EK Try.prog 19=some Nf:=by kernel_rfl
abbrev OV:FuncId:=20
abbrev Na:List AO:=[oo 2 (.box 28 (.t 0)),oo 3 (.box 28 (.t 1)),oo 4 (.mov (cB .false))]
abbrev NU:List AO:=[oo 5 (.load (.some 13) (.t 2)),oo 6 (.pcall 39 [(.t 5)]),oo 7 (.load (.some 13) (.t 3)),oo 8 (.call 39 [(.t 7)]),oo 9 (.call 38 [(.t 6),(.t 8)]),om 4 9]
abbrev Uu:AFunc:=⟨10,[(.tmp 4)],(.seq (.ops Na) (.seq (.dops NU) .ret))⟩
theorem Qq:EK Try.prog 20=some Uu:=by kernel_rfl
abbrev VI:FuncId:=21
abbrev Nj:List AO:=[oo 4 (.mov (cB .false))]
abbrev NY:List AO:=[om 6 0,oo 7 (.len (.t 6)),om 8 1,oo 9 (.len (.t 8)),oo 10 (.bin .neq (.t 7) (.t 9))]
abbrev Pp:List AO:=[oo 4 (.mov (cB .false))]
abbrev Vk:List AO:=[om 11 0,oo 12 (.len (.t 11)),oo 13 (.mov (cI 0))]
abbrev Wk:List AO:=[oo 14 (.bin .lss (.t 13) (.t 12))]
abbrev WS:List AO:=[om 15 13,om 5 15]
abbrev NA:List AO:=[om 16 0,om 17 5,oo 18 (.elemAddr 1 (.t 16) (.t 17)),om 20 1,om 21 5,oo 22 (.elemAddr 1 (.t 20) (.t 21)),oo 19 (.load .none (.t 18)),oo 23 (.load .none (.t 22)),oo 24 (.bin .neq (.t 19) (.t 23))]
abbrev T9:List AO:=[oo 4 (.mov (cB .false))]
abbrev NX:List AO:=[oo 25 (.bin .add (.t 13) (cI 1)),om 13 25]
abbrev Qn:ACode:=(.seq (.ops Wk) (.seq (.cond (.t 14) .skip (.exit 0)) (.seq (.block 1 (.seq (.ops WS) (.seq (.dops NA) (.cond (.t 24) (.seq (.ops T9) .ret) .skip)))) (.ops NX))))
abbrev Ts:List AO:=[oo 4 (.mov (cB .true))]
abbrev RU:AFunc:=⟨26,[(.tmp 4)],(.seq (.ops Nj) (.seq (.seq (.ops NY) (.cond (.t 10) (.seq (.ops Pp) .ret) .skip)) (.seq (.seq (.ops Vk) (.block 0 (.loop Qn))) (.seq (.ops Ts) .ret))))⟩
theorem Ox:EK Try.prog 21=some RU:=by kernel_rfl
abbrev Qs:FuncId:=22
abbrev NT:List AO:=[om 3 0,oo 4 (.len (.t 3)),om 2 4]
abbrev Ou:List AO:=[om 5 0,om 6 2,om 7 2,oo 8 (.conv .u64 (.t 7)),oo 9 (.call 41 [(.t 8)]),oo 10 (.call 40 [(.t 5),(cI 0),(.t 6),(.t 9)])]
abbrev Ws:AFunc:=⟨11,[],(.seq (.ops NT) (.ops Ou))⟩
theorem Wr:EK Try.prog 22=some Ws:=by kernel_rfl
abbrev Ng:FuncId:=23
abbrev Uo:List AO:=[oo 4 (.mov (cI 0))]
abbrev XP:List AO:=[om 5 0,om 6 1,oo 7 (.call 42 [(.t 5),(.t 6)]),om 4 7]
abbrev VZ:AFunc:=⟨8,[(.tmp 4)],(.seq (.ops Uo) (.seq (.ops XP) .ret))⟩
theorem Rb:EK Try.prog 23=some VZ:=by kernel_rfl
abbrev Ii:FuncId:=24
abbrev Vz:List AO:=[oo 2 (.box 34 (.t 0)),oo 3 (.mov (cB .false))]
abbrev Wt:List AO:=[oo 4 (.fieldAddr 0 (.t 2)),oo 5 (.load .none (.t 4)),oo 6 (.load .none (.t 1)),oo 7 (.bin .eql (.t 5) (.t 6)),om 3 7]
abbrev T7:AFunc:=⟨8,[(.tmp 3)],(.seq (.ops Vz) (.seq (.ops Wt) .ret))⟩
theorem OS:EK Try.prog 24=some T7:=by kernel_rfl
abbrev Nn:FuncId:=27
abbrev Wf:List AO:=[oo 2 (.mov (.c (.nilsl 0)))]
abbrev Om:List AO:=[om 3 0,oo 4 (.isNil .false (.t 3))]
abbrev ON:List AO:=[oo 2 (.mov (.c (.nilsl 0)))]
abbrev RF:List AO:=[oo 5 (.buildSlice 34 5 0 [(.d (.str ⟨⟨[]⟩⟩)),(.d (.str ⟨⟨[]⟩⟩)),zI,zI,zI] []),om 6 0,oo 7 (.append 34 5 56 [(.d (.str ⟨⟨[]⟩⟩)),(.d (.str ⟨⟨[]⟩⟩)),zI,zI,zI] (.t 5) (.t 6)),om 2 7]
abbrev UE:AFunc:=⟨8,[(.tmp 2)],(.seq (.ops Wf) (.seq (.seq (.ops Om) (.cond (.t 4) (.seq (.ops ON) .ret) .skip)) (.seq (.ops RF) .ret)))⟩
theorem Tu:EK Try.prog 27=some UE:=by kernel_rfl
abbrev Po:FuncId:=28
abbrev QT:List AO:=[oo 2 (.mov (.c (.nilsl 0)))]
abbrev XF:List AO:=[om 3 0,oo 4 (.isNil .false (.t 3))]
abbrev Ut:List AO:=[oo 2 (.mov (.c (.nilsl 0)))]
abbrev Se:List AO:=[oo 5 (.buildSlice 51 10 0 [zI,(.d (.bool .false)),zI,zI,zI,zI,zI,zI,zI,zI] []),om 6 0,oo 7 (.append 51 10 80 [zI,(.d (.bool .false)),zI,zI,zI,zI,zI,zI,zI,zI] (.t 5) (.t 6)),om 2 7]
abbrev RJ:AFunc:=⟨8,[(.tmp 2)],(.seq (.ops QT) (.seq (.seq (.ops XF) (.cond (.t 4) (.seq (.ops Ut) .ret) .skip)) (.seq (.ops Se) .ret)))⟩
theorem Wg:EK Try.prog 28=some RJ:=by kernel_rfl
abbrev WE:FuncId:=29
abbrev U0:List AO:=[oo 2 (.mov (.c (.nilsl 0)))]
abbrev XT:List AO:=[om 3 0,oo 4 (.isNil .false (.t 3))]
abbrev Wy:List AO:=[oo 2 (.mov (.c (.nilsl 0)))]
abbrev QQ:List AO:=[oo 5 (.buildSlice 55 16 0 [(.d (.str ⟨⟨[]⟩⟩)),(.d (.bool .false)),zI,zI,zI,zI,zI,zI,zI,zI,zI,(.nilsl 2),zI,(.nilsl 3),zI,zI] []),om 6 0,oo 7 (.append 55 16 168 [(.d (.str ⟨⟨[]⟩⟩)),(.d (.bool .false)),zI,zI,zI,zI,zI,zI,zI,zI,zI,(.nilsl 2),zI,(.nilsl 3),zI,zI] (.t 5) (.t 6)),om 2 7]
abbrev Qo:AFunc:=⟨8,[(.tmp 2)],(.seq (.ops U0) (.seq (.seq (.ops XT) (.cond (.t 4) (.seq (.ops Wy) .ret) .skip)) (.seq (.ops QQ) .ret)))⟩
theorem WL:EK Try.prog 29=some Qo:=by kernel_rfl
abbrev Nr:FuncId:=30
abbrev Xb:List AO:=[oo 2 (.mov (.c (.nilsl 0)))]
abbrev Vc:List AO:=[om 3 0,oo 4 (.isNil .false (.t 3))]
abbrev WU:List AO:=[oo 2 (.mov (.c (.nilsl 0)))]
abbrev NB:List AO:=[oo 5 (.buildSlice 58 2 0 [zI,zI] []),om 6 0,oo 7 (.append 58 2 16 [zI,zI] (.t 5) (.t 6)),om 2 7]
abbrev Ru:AFunc:=⟨8,[(.tmp 2)],(.seq (.ops Xb) (.seq (.seq (.ops Vc) (.cond (.t 4) (.seq (.ops WU) .ret) .skip)) (.seq (.ops NB) .ret)))⟩
theorem Qp:EK Try.prog 30=some Ru:=by kernel_rfl
abbrev Vm:FuncId:=31
abbrev Oy:List AO:=[oo 2 (.mov (.c (.nilsl 0)))]
abbrev TU:List AO:=[om 3 0,oo 4 (.isNil .false (.t 3))]
abbrev Un:List AO:=[oo 2 (.mov (.c (.nilsl 0)))]
abbrev Qi:List AO:=[oo 5 (.buildSlice 60 3 0 [zI,zI,zI] []),om 6 0,oo 7 (.append 60 3 24 [zI,zI,zI] (.t 5) (.t 6)),om 2 7]
abbrev Nk:AFunc:=⟨8,[(.tmp 2)],(.seq (.ops Oy) (.seq (.seq (.ops TU) (.cond (.t 4) (.seq (.ops Un) .ret) .skip)) (.seq (.ops Qi) .ret)))⟩
theorem P8:EK Try.prog 31=some Nk:=by kernel_rfl
abbrev Q3:FuncId:=32
abbrev P6:List AO:=[oo 6 (.mov (cB .false))]
abbrev On:List AO:=[om 7 0,om 8 1,om 9 2,oo 10 (.call 43 [(.t 7),(.t 8),(.t 9)]),om 6 10]
abbrev WT:AFunc:=⟨11,[(.tmp 6)],(.seq (.ops P6) (.seq (.ops On) .ret))⟩
theorem OF:EK Try.prog 32=some WT:=by kernel_rfl
abbrev I7:FuncId:=33
abbrev ST:List AO:=[oo 2 (.box 34 (.t 0)),oo 3 (.box 34 (.t 1)),oo 4 (.mov (cB .false))]
abbrev Wd:List AO:=[oo 5 (.fieldAddr 0 (.t 2)),oo 6 (.load .none (.t 5)),oo 7 (.fieldAddr 0 (.t 3)),oo 8 (.load .none (.t 7)),oo 9 (.bin .eql (.t 6) (.t 8)),om 10 9,og 11 10 .true (.fieldAddr 1 (.t 2)),og 12 10 .true (.load .none (.t 11)),og 13 10 .true (.fieldAddr 1 (.t 3)),og 14 10 .true (.load .none (.t 13)),og 15 10 .true (.bin .eql (.t 12) (.t 14)),oo 16 (.pick (.t 10) (.t 15) (cB .false)),om 17 16,og 18 17 .true (.fieldAddr 2 (.t 2)),og 19 17 .true (.load .none (.t 18)),og 20 17 .true (.fieldAddr 2 (.t 3)),og 21 17 .true (.load .none (.t 20)),og 22 17 .true (.bin .eql (.t 19) (.t 21)),oo 23 (.pick (.t 17) (.t 22) (cB .false)),om 4 23]
abbrev Tp:AFunc:=⟨24,[(.tmp 4)],(.seq (.ops ST) (.seq (.ops Wd) .ret))⟩
theorem Oj:EK Try.prog 33=some Tp:=by kernel_rfl
abbrev Ls:FuncId:=34
abbrev NN:List AO:=[oo 6 (.mov (cB .false))]
abbrev N6:List AO:=[om 7 0,om 8 1,om 9 2,oo 10 (.call 44 [(.t 7),(.t 8),(.t 9)]),om 6 10]
abbrev U3:AFunc:=⟨11,[(.tmp 6)],(.seq (.ops NN) (.seq (.ops N6) .ret))⟩
theorem Si:EK Try.prog 34=some U3:=by kernel_rfl
abbrev Kh:FuncId:=35
abbrev PN:FuncId:=36
abbrev XV:List AO:=[oo 6 (.mov (cB .false))]
abbrev N7:List AO:=[om 7 0,om 8 1,om 9 2,oo 10 (.call 45 [(.t 7),(.t 8),(.t 9)]),om 6 10]
abbrev Pj:AFunc:=⟨11,[(.tmp 6)],(.seq (.ops XV) (.seq (.ops N7) .ret))⟩
theorem WR:EK Try.prog 36=some Pj:=by kernel_rfl
abbrev Kv:FuncId:=37
abbrev Ow:FuncId:=38
abbrev PP:List AO:=[oo 4 (.mov (cB .false))]
abbrev Wv:List AO:=[om 6 0,oo 7 (.len (.t 6)),om 8 1,oo 9 (.len (.t 8)),oo 10 (.bin .neq (.t 7) (.t 9))]
abbrev SH:List AO:=[oo 4 (.mov (cB .false))]
abbrev Vy:List AO:=[om 11 0,oo 12 (.len (.t 11)),oo 13 (.mov (cI 0))]
abbrev VM:List AO:=[oo 14 (.bin .lss (.t 13) (.t 12))]
abbrev NG:List AO:=[om 15 13,om 5 15]
abbrev PG:List AO:=[om 16 0,om 17 5,oo 18 (.elemAddr 1 (.t 16) (.t 17)),om 20 1,om 21 5,oo 22 (.elemAddr 1 (.t 20) (.t 21)),oo 19 (.load .none (.t 18)),oo 23 (.load .none (.t 22)),oo 24 (.bin .neq (.t 19) (.t 23))]
abbrev Oq:List AO:=[oo 4 (.mov (cB .false))]
abbrev WH:List AO:=[oo 25 (.bin .add (.t 13) (cI 1)),om 13 25]
abbrev Rd:ACode:=(.seq (.ops VM) (.seq (.cond (.t 14) .skip (.exit 0)) (.seq (.block 1 (.seq (.ops NG) (.seq (.dops PG) (.cond (.t 24) (.seq (.ops Oq) .ret) .skip)))) (.ops WH))))
abbrev Ww:List AO:=[oo 4 (.mov (cB .true))]
abbrev XH:AFunc:=⟨26,[(.tmp 4)],(.seq (.ops PP) (.seq (.seq (.ops Wv) (.cond (.t 10) (.seq (.ops SH) .ret) .skip)) (.seq (.seq (.ops Vy) (.block 0 (.loop Rd))) (.seq (.ops Ww) .ret))))⟩
theorem RX:EK Try.prog 38=some XH:=by kernel_rfl
abbrev PF:FuncId:=39
abbrev W7:List AO:=[oo 1 (.box 28 (.t 0)),oo 2 (.mov (.c (.nilsl 0)))]
abbrev Sr:List AO:=[oo 14 (.fieldAddr 0 (.t 1)),oo 15 (.load .none (.t 14)),oo 16 (.fieldAddr 1 (.t 1)),oo 17 (.load .none (.t 16)),oo 18 (.buildSlice 9 1 2 [(.d (.str ⟨⟨[]⟩⟩))] [⟨0,(.t 15)⟩,⟨1,(.t 17)⟩]),om 3 18]
abbrev WM:List AO:=[om 19 3,oo 20 (.fieldAddr 2 (.t 1)),oo 21 (.load (.some 3) (.t 20)),oo 22 (.fieldAddr 5 (.t 1)),oo 23 (.load (.some 3) (.t 22)),oo 24 (.build [(.d (.bool .false)),zI,zI,zI,zI,zI,zI] [⟨1,⟨3,(.t 21)⟩⟩,⟨4,⟨3,(.t 23)⟩⟩]),oo 25 (.call 48 [(.t 24)]),oo 26 (.append 9 1 16 [(.d (.str ⟨⟨[]⟩⟩))] (.t 19) (.t 25)),om 3 26]
abbrev RM:List AO:=[om 27 3,oo 28 (.fieldAddr 8 (.t 1)),oo 32 (.fieldAddr 9 (.t 1)),oo 36 (.fieldAddr 10 (.t 1)),oo 29 (.load .none (.t 28)),oo 30 (.len (.t 29)),oo 31 (.pcall 49 [(.t 30)]),oo 33 (.load .none (.t 32)),oo 34 (.len (.t 33)),oo 35 (.pcall 49 [(.t 34)]),oo 37 (.load .none (.t 36)),oo 38 (.len (.t 37)),oo 39 (.call 49 [(.t 38)]),oo 40 (.buildSliceD 9 1 3 [(.d (.str ⟨⟨[]⟩⟩))] [⟨0,(.t 31)⟩,⟨1,(.t 35)⟩,⟨2,(.t 39)⟩]),oo 41 (.append 9 1 16 [(.d (.str ⟨⟨[]⟩⟩))] (.t 27) (.t 40)),om 3 41]
abbrev Pt:List AO:=[oo 42 (.fieldAddr 8 (.t 1)),oo 43 (.load .none (.t 42)),oo 44 (.len (.t 43)),oo 45 (.mov (cI 0))]
abbrev W8:List AO:=[oo 46 (.bin .lss (.t 45) (.t 44))]
abbrev XL:List AO:=[oo 47 (.elemAddr 5 (.t 43) (.t 45)),oo 48 (.load (.some 5) (.t 47)),oo 5 (.alloc 34 [(.d (.str ⟨⟨[]⟩⟩)),(.d (.str ⟨⟨[]⟩⟩)),zI,zI,zI]),on (.store 5 (.t 5) (.t 48))]
abbrev Ro:List AO:=[om 49 3,oo 50 (.fieldAddr 0 (.t 5)),oo 52 (.fieldAddr 1 (.t 5)),oo 54 (.fieldAddr 2 (.t 5)),oo 51 (.load .none (.t 50)),oo 53 (.load .none (.t 52)),oo 55 (.load .none (.t 54)),oo 56 (.pcall 49 [(.t 55)]),oo 57 (.buildSliceD 9 1 3 [(.d (.str ⟨⟨[]⟩⟩))] [⟨0,(.t 51)⟩,⟨1,(.t 53)⟩,⟨2,(.t 56)⟩]),oo 58 (.append 9 1 16 [(.d (.str ⟨⟨[]⟩⟩))] (.t 49) (.t 57)),om 3 58]
abbrev QF:List AO:=[oo 59 (.bin .add (.t 45) (cI 1)),om 45 59]
abbrev N8:ACode:=(.seq (.ops W8) (.seq (.cond (.t 46) .skip (.exit 0)) (.seq (.block 1 (.seq (.ops XL) (.dops Ro))) (.ops QF))))
abbrev Tm:List AO:=[oo 60 (.fieldAddr 9 (.t 1)),oo 61 (.load .none (.t 60)),oo 62 (.len (.t 61)),oo 63 (.mov (cI 0))]
abbrev Oi:List AO:=[oo 64 (.bin .lss (.t 63) (.t 62))]
abbrev NV:List AO:=[oo 65 (.elemAddr 10 (.t 61) (.t 63)),oo 66 (.load (.some 10) (.t 65)),oo 7 (.alloc 51 [zI,(.d (.bool .false)),zI,zI,zI,zI,zI,zI,zI,zI]),on (.store 10 (.t 7) (.t 66))]
abbrev SF:List AO:=[om 67 3,oo 68 (.fieldAddr 0 (.t 7)),oo 73 (.fieldAddr 1 (.t 7)),oo 69 (.load .none (.t 68)),oo 70 (.pcall 49 [(.t 69)]),oo 74 (.loadP (.some 7) 73),oo 71 (.buildSliceD 9 1 1 [(.d (.str ⟨⟨[]⟩⟩))] [⟨0,(.t 70)⟩]),oo 72 (.append 9 1 16 [(.d (.str ⟨⟨[]⟩⟩))] (.t 67) (.t 71)),oo 75 (.call 48 [(.t 74)]),oo 76 (.append 9 1 16 [(.d (.str ⟨⟨[]⟩⟩))] (.t 72) (.t 75)),om 3 76]
abbrev Pf:List AO:=[oo 77 (.bin .add (.t 63) (cI 1)),om 63 77]
abbrev QA:ACode:=(.seq (.ops Oi) (.seq (.cond (.t 64) .skip (.exit 2)) (.seq (.block 3 (.seq (.ops NV) (.dops SF))) (.ops Pf))))
abbrev U9:List AO:=[oo 78 (.fieldAddr 10 (.t 1)),oo 79 (.load .none (.t 78)),oo 80 (.len (.t 79)),oo 81 (.mov (cI 0))]
abbrev OH:List AO:=[oo 82 (.bin .lss (.t 81) (.t 80))]
abbrev Nd:List AO:=[oo 83 (.elemAddr 16 (.t 79) (.t 81)),oo 84 (.load (.some 16) (.t 83)),oo 9 (.alloc 55 [(.d (.str ⟨⟨[]⟩⟩)),(.d (.bool .false)),zI,zI,zI,zI,zI,zI,zI,zI,zI,(.nilsl 2),zI,(.nilsl 3),zI,zI]),on (.store 16 (.t 9) (.t 84))]
abbrev VT:List AO:=[om 85 3,oo 86 (.fieldAddr 0 (.t 9)),oo 90 (.fieldAddr 1 (.t 9)),oo 87 (.load .none (.t 86)),oo 91 (.loadP (.some 7) 90),oo 88 (.buildSliceD 9 1 1 [(.d (.str ⟨⟨[]⟩⟩))] [⟨0,(.t 87)⟩]),oo 89 (.append 9 1 16 [(.d (.str ⟨⟨[]⟩⟩))] (.t 85) (.t 88)),oo 92 (.call 48 [(.t 91)]),oo 93 (.append 9 1 16 [(.d (.str ⟨⟨[]⟩⟩))] (.t 89) (.t 92)),om 3 93]
abbrev UU:List AO:=[om 94 3,oo 95 (.fieldAddr 8 (.t 9)),oo 98 (.fieldAddr 9 (.t 9)),oo 101 (.fieldAddr 10 (.t 9)),oo 104 (.fieldAddr 12 (.t 9)),oo 107 (.fieldAddr 11 (.t 9)),oo 111 (.fieldAddr 13 (.t 9)),oo 96 (.load .none (.t 95)),oo 97 (.pcall 49 [(.t 96)]),oo 99 (.load .none (.t 98)),oo 100 (.pcall 49 [(.t 99)]),oo 102 (.load .none (.t 101)),oo 103 (.pcall 49 [(.t 102)]),oo 105 (.load .none (.t 104)),oo 106 (.pcall 49 [(.t 105)]),oo 108 (.load .none (.t 107)),oo 109 (.len (.t 108)),oo 110 (.pcall 49 [(.t 109)]),oo 112 (.load .none (.t 111)),oo 113 (.len (.t 112)),oo 114 (.call 49 [(.t 113)]),oo 115 (.buildSliceD 9 1 6 [(.d (.str ⟨⟨[]⟩⟩))] [⟨0,(.t 97)⟩,⟨1,(.t 100)⟩,⟨2,(.t 103)⟩,⟨3,(.t 106)⟩,⟨4,(.t 110)⟩,⟨5,(.t 114)⟩]),oo 116 (.append 9 1 16 [(.d (.str ⟨⟨[]⟩⟩))] (.t 94) (.t 115)),om 3 116]
abbrev PU:List AO:=[oo 117 (.fieldAddr 11 (.t 9)),oo 118 (.load .none (.t 117)),oo 119 (.len (.t 118)),oo 120 (.mov (cI 0))]
abbrev WZ:List AO:=[oo 121 (.bin .lss (.t 120) (.t 119))]
abbrev Tg:List AO:=[oo 122 (.elemAddr 2 (.t 118) (.t 120)),oo 123 (.load (.some 2) (.t 122)),oo 11 (.alloc 58 [zI,zI]),on (.store 2 (.t 11) (.t 123))]
abbrev Tw:List AO:=[om 124 3,oo 125 (.fieldAddr 0 (.t 11)),oo 128 (.fieldAddr 1 (.t 11)),oo 126 (.load .none (.t 125)),oo 127 (.pcall 49 [(.t 126)]),oo 129 (.load .none (.t 128)),oo 130 (.call 49 [(.t 129)]),oo 131 (.buildSliceD 9 1 2 [(.d (.str ⟨⟨[]⟩⟩))] [⟨0,(.t 127)⟩,⟨1,(.t 130)⟩]),oo 132 (.append 9 1 16 [(.d (.str ⟨⟨[]⟩⟩))] (.t 124) (.t 131)),om 3 132]
abbrev QP:List AO:=[oo 133 (.bin .add (.t 120) (cI 1)),om 120 133]
abbrev Os:ACode:=(.seq (.ops WZ) (.seq (.cond (.t 121) .skip (.exit 6)) (.seq (.block 7 (.seq (.ops Tg) (.dops Tw))) (.ops QP))))
abbrev VK:List AO:=[oo 134 (.fieldAddr 13 (.t 9)),oo 135 (.load .none (.t 134)),oo 136 (.len (.t 135)),oo 137 (.mov (cI 0))]
abbrev XI:List AO:=[oo 138 (.bin .lss (.t 137) (.t 136))]
abbrev Oc:List AO:=[oo 139 (.elemAddr 3 (.t 135) (.t 137)),oo 140 (.load (.some 3) (.t 139)),oo 13 (.alloc 60 [zI,zI,zI]),on (.store 3 (.t 13) (.t 140))]
abbrev Ug:List AO:=[om 141 3,oo 142 (.fieldAddr 0 (.t 13)),oo 145 (.fieldAddr 1 (.t 13)),oo 148 (.fieldAddr 2 (.t 13)),oo 143 (.load .none (.t 142)),oo 144 (.pcall 49 [(.t 143)]),oo 146 (.load .none (.t 145)),oo 147 (.pcall 49 [(.t 146)]),oo 149 (.load .none (.t 148)),oo 150 (.call 49 [(.t 149)]),oo 151 (.buildSliceD 9 1 3 [(.d (.str ⟨⟨[]⟩⟩))] [⟨0,(.t 144)⟩,⟨1,(.t 147)⟩,⟨2,(.t 150)⟩]),oo 152 (.append 9 1 16 [(.d (.str ⟨⟨[]⟩⟩))] (.t 141) (.t 151)),om 3 152]
abbrev W6:List AO:=[oo 153 (.bin .add (.t 137) (cI 1)),om 137 153]
abbrev Tz:ACode:=(.seq (.ops XI) (.seq (.cond (.t 138) .skip (.exit 8)) (.seq (.block 9 (.seq (.ops Oc) (.dops Ug))) (.ops W6))))
abbrev Ur:List AO:=[oo 154 (.bin .add (.t 81) (cI 1)),om 81 154]
abbrev PS:ACode:=(.seq (.ops OH) (.seq (.cond (.t 82) .skip (.exit 4)) (.seq (.block 5 (.seq (.ops Nd) (.seq (.dops VT) (.seq (.dops UU) (.seq (.seq (.ops PU) (.block 6 (.loop Os))) (.seq (.ops VK) (.block 8 (.loop Tz)))))))) (.ops Ur))))
abbrev VO:List AO:=[om 155 3,om 2 155]
abbrev WV:AFunc:=⟨156,[(.tmp 2)],(.seq (.ops W7) (.seq (.ops Sr) (.seq (.ops WM) (.seq (.dops RM) (.seq (.seq (.ops Pt) (.block 0 (.loop N8))) (.seq (.seq (.ops Tm) (.block 2 (.loop QA))) (.seq (.seq (.ops U9) (.block 4 (.loop PS))) (.seq (.ops VO) .ret))))))))⟩
theorem Np:EK Try.prog 39=some WV:=by kernel_rfl
abbrev WY:FuncId:=40
abbrev PY:List AO:=[oo 8 (.mov (cB .true))]
abbrev T4:List AO:=[oo 9 (.mov (cB .true))]
abbrev N0:List AO:=[om 19 2,om 20 1,oo 21 (.bin .sub (.t 19) (.t 20)),om 10 21]
abbrev TA:List AO:=[om 22 10,oo 23 (.bin .leq (.t 22) (cI 12))]
abbrev XQ:List AO:=[om 24 0,om 25 1,om 26 2,oo 27 (.call 50 [(.t 24),(.t 25),(.t 26)])]
abbrev Rk:List AO:=[om 28 3,oo 29 (.bin .eql (.t 28) (cI 0))]
abbrev T2:List AO:=[om 30 0,om 31 1,om 32 2,oo 33 (.call 51 [(.t 30),(.t 31),(.t 32)])]
abbrev Xa:List AO:=[om 34 8,oo 35 (.un .not (.t 34))]
abbrev V6:List AO:=[om 36 0,om 37 1,om 38 2,oo 39 (.call 52 [(.t 36),(.t 37),(.t 38)])]
abbrev Tn:List AO:=[om 40 3,oo 41 (.bin .sub (.t 40) (cI 1)),om 3 41]
abbrev OZ:List AO:=[om 43 0,om 44 1,om 45 2,oo 46 (.call 53 [(.t 43),(.t 44),(.t 45)]),om 42 46,oo 47 (.extract (.t 42) 0),oo 48 (.extract (.t 42) 1),om 11 47,om 12 48]
abbrev NL:List AO:=[om 49 12,oo 50 (.bin .eql (.t 49) (cI 2))]
abbrev TN:List AO:=[om 51 0,om 52 1,om 53 2,oo 54 (.call 54 [(.t 51),(.t 52),(.t 53)])]
abbrev V2:List AO:=[om 55 2,oo 56 (.bin .sub (.t 55) (cI 1)),om 57 11,om 58 1,oo 59 (.bin .sub (.t 57) (.t 58)),oo 60 (.bin .sub (.t 56) (.t 59)),om 11 60]
abbrev M8:List AO:=[oo 12 (.mov (cI 1))]
abbrev QZ:List AO:=[om 61 8,om 62 61,og 63 62 .true (.mov (.t 9)),oo 64 (.pick (.t 62) (.t 63) (cB .false)),om 65 64,og 66 65 .true (.mov (.t 12)),og 67 65 .true (.bin .eql (.t 66) (cI 1)),oo 68 (.pick (.t 65) (.t 67) (cB .false))]
abbrev Qf:List AO:=[om 69 0,om 70 1,om 71 2,oo 72 (.call 55 [(.t 69),(.t 70),(.t 71)])]
abbrev We:List AO:=[om 73 1,oo 74 (.bin .gtr (.t 73) (cI 0)),om 75 74,og 76 75 .true (.mov (.t 0)),og 77 75 .true (.mov (.t 1)),og 78 75 .true (.bin .sub (.t 77) (cI 1)),og 79 75 .true (.elemAddr 1 (.t 76) (.t 78)),og 81 75 .true (.mov (.t 0)),og 82 75 .true (.mov (.t 11)),og 83 75 .true (.elemAddr 1 (.t 81) (.t 82)),og 80 75 .true (.load .none (.t 79)),og 84 75 .true (.load .none (.t 83)),og 85 75 .true (.call 56 [(.t 80),(.t 84)]),og 86 75 .true (.un .not (.t 85)),oo 87 (.pick (.t 75) (.t 86) (cB .false))]
abbrev Uw:List AO:=[om 88 0,om 89 1,om 90 2,om 91 11,oo 92 (.call 57 [(.t 88),(.t 89),(.t 90),(.t 91)]),om 13 92]
abbrev TZ:List AO:=[om 93 13,om 1 93]
abbrev Nm:List AO:=[om 95 0,om 96 1,om 97 2,om 98 11,oo 99 (.call 58 [(.t 95),(.t 96),(.t 97),(.t 98)]),om 94 99,oo 100 (.extract (.t 94) 0),oo 101 (.extract (.t 94) 1),om 14 100,om 15 101]
abbrev Px:List AO:=[om 102 15,om 9 102]
abbrev XJ:List AO:=[om 103 14,om 104 1,oo 105 (.bin .sub (.t 103) (.t 104)),om 106 2,om 107 14,oo 108 (.bin .sub (.t 106) (.t 107)),om 16 105,om 17 108]
abbrev P9:List AO:=[om 109 10,oo 110 (.bin .quo (.t 109) (cI 8)),om 18 110]
abbrev Py:List AO:=[om 111 16,om 112 17,oo 113 (.bin .lss (.t 111) (.t 112))]
abbrev Ux:List AO:=[om 114 16,om 115 18,oo 116 (.bin .geq (.t 114) (.t 115)),om 8 116]
abbrev OU:List AO:=[om 117 0,om 118 1,om 119 14,om 120 3,oo 121 (.call 40 [(.t 117),(.t 118),(.t 119),(.t 120)])]
abbrev Ry:List AO:=[om 122 14,oo 123 (.bin .add (.t 122) (cI 1)),om 1 123]
abbrev VG:List AO:=[om 124 17,om 125 18,oo 126 (.bin .geq (.t 124) (.t 125)),om 8 126]
abbrev XM:List AO:=[om 127 0,om 128 14,oo 129 (.bin .add (.t 128) (cI 1)),om 130 2,om 131 3,oo 132 (.call 40 [(.t 127),(.t 129),(.t 130),(.t 131)])]
abbrev SY:List AO:=[om 133 14,om 2 133]
abbrev Vh:ACode:=(.block 1 (.seq (.ops N0) (.seq (.seq (.ops TA) (.cond (.t 23) (.seq (.ops XQ) .ret) .skip)) (.seq (.seq (.ops Rk) (.cond (.t 29) (.seq (.ops T2) .ret) .skip)) (.seq (.seq (.ops Xa) (.cond (.t 35) (.seq (.ops V6) (.ops Tn)) .skip)) (.seq (.ops OZ) (.seq (.seq (.ops NL) (.cond (.t 50) (.seq (.ops TN) (.seq (.ops V2) (.ops M8))) .skip)) (.seq (.seq (.ops QZ) (.cond (.t 68) (.seq (.ops Qf) (.cond (.t 72) .ret .skip)) .skip)) (.seq (.seq (.dops We) (.cond (.t 87) (.seq (.ops Uw) (.seq (.ops TZ) (.exit 1))) .skip)) (.seq (.ops Nm) (.seq (.ops Px) (.seq (.ops XJ) (.seq (.ops P9) (.seq (.ops Py) (.cond (.t 113) (.seq (.ops Ux) (.seq (.ops OU) (.ops Ry))) (.seq (.ops VG) (.seq (.ops XM) (.ops SY))))))))))))))))))
abbrev XA:AFunc:=⟨134,[],(.seq (.ops PY) (.seq (.ops T4) (.block 0 (.loop Vh))))⟩
theorem Q4:EK Try.prog 40=some XA:=by kernel_rfl
abbrev UY:FuncId:=41
abbrev P1:List AO:=[oo 2 (.mov (cI 0))]
abbrev N4:List AO:=[om 3 0,oo 4 (.conv .u32 (.t 3)),oo 5 (.call 59 [(.t 4)]),om 2 5]
abbrev NE:List AO:=[om 6 0,oo 7 (.call 60 [(.t 6)]),om 2 7]
abbrev TP:AFunc:=⟨8,[(.tmp 2)],(.seq (.ops P1) (.seq (.cond (.c (.d (.bool .false))) (.seq (.ops N4) .ret) .skip) (.seq (.ops NE) .ret)))⟩
theorem Q7:EK Try.prog 41=some TP:=by kernel_rfl
abbrev WO:FuncId:=42
abbrev VU:List AO:=[oo 4 (.mov (cI 0))]
abbrev VH:List AO:=[om 6 0,oo 7 (.len (.t 6)),oo 8 (.mov (cI 0))]
abbrev Rm:List AO:=[oo 9 (.bin .lss (.t 8) (.t 7))]
abbrev RZ:List AO:=[om 10 8,om 5 10]
abbrev RH:List AO:=[om 11 1,om 12 0,om 13 5,oo 14 (.elemAddr 5 (.t 12) (.t 13)),oo 15 (.load (.some 5) (.t 14)),oo 16 (.callv (.t 11) [(.t 15)])]
abbrev Su:List AO:=[om 17 5,om 4 17]
abbrev QD:List AO:=[oo 18 (.bin .add (.t 8) (cI 1)),om 8 18]
abbrev QR:ACode:=(.seq (.ops Rm) (.seq (.cond (.t 9) .skip (.exit 0)) (.seq (.block 1 (.seq (.ops RZ) (.seq (.ops RH) (.cond (.t 16) (.seq (.ops Su) .ret) .skip)))) (.ops QD))))
abbrev TI:List AO:=[oo 4 (.mov (cI (-1)))]
abbrev OR:AFunc:=⟨19,[(.tmp 4)],(.seq (.ops VU) (.seq (.seq (.ops VH) (.block 0 (.loop QR))) (.seq (.ops TI) .ret)))⟩
theorem VX:EK Try.prog 42=some OR:=by kernel_rfl
abbrev Pb:FuncId:=43
abbrev So:List AO:=[oo 6 (.mov (cB .false))]
abbrev R7:List AO:=[om 10 0,oo 11 (.len (.t 10)),om 12 1,oo 13 (.len (.t 12)),oo 14 (.bin .neq (.t 11) (.t 13))]
abbrev Sv:List AO:=[oo 6 (.mov (cB .false))]
abbrev Wl:List AO:=[om 15 0,oo 16 (.len (.t 15)),oo 17 (.mov (cI 0))]
abbrev O6:List AO:=[oo 18 (.bin .lss (.t 17) (.t 16))]
abbrev VJ:List AO:=[om 19 17,oo 20 (.elemAddr 5 (.t 15) (.t 17)),oo 21 (.load (.some 5) (.t 20)),oo 8 (.alloc 34 [(.d (.str ⟨⟨[]⟩⟩)),(.d (.str ⟨⟨[]⟩⟩)),zI,zI,zI]),om 7 19,on (.store 5 (.t 8) (.t 21))]
abbrev QV:List AO:=[om 22 1,om 23 7,oo 24 (.elemAddr 5 (.t 22) (.t 23)),oo 25 (.load (.some 5) (.t 24)),oo 9 (.alloc 34 [(.d (.str ⟨⟨[]⟩⟩)),(.d (.str ⟨⟨[]⟩⟩)),zI,zI,zI]),on (.store 5 (.t 9) (.t 25))]
abbrev VP:List AO:=[om 26 2,oo 27 (.load (.some 5) (.t 8)),oo 28 (.load (.some 5) (.t 9)),oo 29 (.callv (.t 26) [(.t 27),(.t 28)]),oo 30 (.un .not (.t 29))]
abbrev OJ:List AO:=[oo 6 (.mov (cB .false))]
abbrev R9:List AO:=[oo 31 (.bin .add (.t 17) (cI 1)),om 17 31]
abbrev Qz:ACode:=(.seq (.ops O6) (.seq (.cond (.t 18) .skip (.exit 0)) (.seq (.block 1 (.seq (.ops VJ) (.seq (.ops QV) (.seq (.ops VP) (.cond (.t 30) (.seq (.ops OJ) .ret) .skip))))) (.ops R9))))
abbrev TW:List AO:=[oo 6 (.mov (cB .true))]
abbrev RN:AFunc:=⟨32,[(.tmp 6)],(.seq (.ops So) (.seq (.seq (.ops R7) (.cond (.t 14) (.seq (.ops Sv) .ret) .skip)) (.seq (.seq (.ops Wl) (.block 0 (.loop Qz))) (.seq (.ops TW) .ret))))⟩
theorem RG:EK Try.prog 43=some RN:=by kernel_rfl
abbrev Ns:FuncId:=44
abbrev SU:List AO:=[oo 6 (.mov (cB .false))]
abbrev V7:List AO:=[om 10 0,oo 11 (.len (.t 10)),om 12 1,oo 13 (.len (.t 12)),oo 14 (.bin .neq (.t 11) (.t 13))]
abbrev NS:List AO:=[oo 6 (.mov (cB .false))]
abbrev XX:List AO:=[om 15 0,oo 16 (.len (.t 15)),oo 17 (.mov (cI 0))]
abbrev P4:List AO:=[oo 18 (.bin .lss (.t 17) (.t 16))]
abbrev Vi:List AO:=[om 19 17,oo 20 (.elemAddr 10 (.t 15) (.t 17)),oo 21 (.load (.some 10) (.t 20)),oo 8 (.alloc 51 [zI,(.d (.bool .false)),zI,zI,zI,zI,zI,zI,zI,zI]),om 7 19,on (.store 10 (.t 8) (.t 21))]
abbrev QL:List AO:=[om 22 1,om 23 7,oo 24 (.elemAddr 10 (.t 22) (.t 23)),oo 25 (.load (.some 10) (.t 24)),oo 9 (.alloc 51 [zI,(.d (.bool .false)),zI,zI,zI,zI,zI,zI,zI,zI]),on (.store 10 (.t 9) (.t 25))]
abbrev RC:List AO:=[om 26 2,oo 27 (.load (.some 10) (.t 8)),oo 28 (.load (.some 10) (.t 9)),oo 29 (.callv (.t 26) [(.t 27),(.t 28)]),oo 30 (.un .not (.t 29))]
abbrev Uy:List AO:=[oo 6 (.mov (cB .false))]
abbrev RL:List AO:=[oo 31 (.bin .add (.t 17) (cI 1)),om 17 31]
abbrev T1:ACode:=(.seq (.ops P4) (.seq (.cond (.t 18) .skip (.exit 0)) (.seq (.block 1 (.seq (.ops Vi) (.seq (.ops QL) (.seq (.ops RC) (.cond (.t 30) (.seq (.ops Uy) .ret) .skip))))) (.ops RL))))
abbrev XR:List AO:=[oo 6 (.mov (cB .true))]
abbrev PH:AFunc:=⟨32,[(.tmp 6)],(.seq (.ops SU) (.seq (.seq (.ops V7) (.cond (.t 14) (.seq (.ops NS) .ret) .skip)) (.seq (.seq (.ops XX) (.block 0 (.loop T1))) (.seq (.ops XR) .ret))))⟩
theorem SW:EK Try.prog 44=some PH:=by kernel_rfl
abbrev Qw:FuncId:=45
abbrev Vj:List AO:=[oo 6 (.mov (cB .false))]
abbrev R6:List AO:=[om 10 0,oo 11 (.len (.t 10)),om 12 1,oo 13 (.len (.t 12)),oo 14 (.bin .neq (.t 11) (.t 13))]
abbrev Wo:List AO:=[oo 6 (.mov (cB .false))]
abbrev Sp:List AO:=[om 15 0,oo 16 (.len (.t 15)),oo 17 (.mov (cI 0))]
abbrev QJ:List AO:=[oo 18 (.bin .lss (.t 17) (.t 16))]
abbrev Ss:List AO:=[om 19 17,oo 20 (.elemAddr 16 (.t 15) (.t 17)),oo 21 (.load (.some 16) (.t 20)),oo 8 (.alloc 55 [(.d (.str ⟨⟨[]⟩⟩)),(.d (.bool .false)),zI,zI,zI,zI,zI,zI,zI,zI,zI,(.nilsl 2),zI,(.nilsl 3),zI,zI]),om 7 19,on (.store 16 (.t 8) (.t 21))]
abbrev UQ:List AO:=[om 22 1,om 23 7,oo 24 (.elemAddr 16 (.t 22) (.t 23)),oo 25 (.load (.some 16) (.t 24)),oo 9 (.alloc 55 [(.d (.str ⟨⟨[]⟩⟩)),(.d (.bool .false)),zI,zI,zI,zI,zI,zI,zI,zI,zI,(.nilsl 2),zI,(.nilsl 3),zI,zI]),on (.store 16 (.t 9) (.t 25))]
abbrev S1:List AO:=[om 26 2,oo 27 (.load (.some 16) (.t 8)),oo 28 (.load (.some 16) (.t 9)),oo 29 (.callv (.t 26) [(.t 27),(.t 28)]),oo 30 (.un .not (.t 29))]
abbrev S8:List AO:=[oo 6 (.mov (cB .false))]
abbrev Rg:List AO:=[oo 31 (.bin .add (.t 17) (cI 1)),om 17 31]
abbrev Ra:ACode:=(.seq (.ops QJ) (.seq (.cond (.t 18) .skip (.exit 0)) (.seq (.block 1 (.seq (.ops Ss) (.seq (.ops UQ) (.seq (.ops S1) (.cond (.t 30) (.seq (.ops S8) .ret) .skip))))) (.ops Rg))))
abbrev NW:List AO:=[oo 6 (.mov (cB .true))]
abbrev QB:AFunc:=⟨32,[(.tmp 6)],(.seq (.ops Vj) (.seq (.seq (.ops R6) (.cond (.t 14) (.seq (.ops Wo) .ret) .skip)) (.seq (.seq (.ops Sp) (.block 0 (.loop Ra))) (.seq (.ops NW) .ret))))⟩
theorem Ni:EK Try.prog 45=some QB:=by kernel_rfl
abbrev Qh:FuncId:=48
abbrev O1:List AO:=[oo 1 (.box 49 (.t 0)),oo 2 (.mov (.c (.nilsl 0)))]
abbrev Vx:List AO:=[oo 3 (.mov (.c (.d (.str ⟨⟨[110,111]⟩⟩))))]
abbrev TH:List AO:=[oo 4 (.fieldAddr 0 (.t 1)),oo 5 (.load .none (.t 4))]
abbrev Xc:List AO:=[oo 3 (.mov (.c (.d (.str ⟨⟨[121,101,115]⟩⟩))))]
abbrev UV:List AO:=[om 6 3,oo 7 (.fieldAddr 1 (.t 1)),oo 8 (.fieldAddr 0 (.t 7)),oo 11 (.fieldAddr 1 (.t 1)),oo 12 (.fieldAddr 1 (.t 11)),oo 15 (.fieldAddr 1 (.t 1)),oo 16 (.fieldAddr 2 (.t 15)),oo 19 (.fieldAddr 4 (.t 1)),oo 20 (.fieldAddr 0 (.t 19)),oo 23 (.fieldAddr 4 (.t 1)),oo 24 (.fieldAddr 1 (.t 23)),oo 27 (.fieldAddr 4 (.t 1)),oo 28 (.fieldAddr 2 (.t 27)),oo 9 (.load .none (.t 8)),oo 10 (.pcall 49 [(.t 9)]),oo 13 (.load .none (.t 12)),oo 14 (.pcall 49 [(.t 13)]),oo 17 (.load .none (.t 16)),oo 18 (.pcall 49 [(.t 17)]),oo 21 (.load .none (.t 20)),oo 22 (.pcall 49 [(.t 21)]),oo 25 (.load .none (.t 24)),oo 26 (.pcall 49 [(.t 25)]),oo 29 (.load .none (.t 28)),oo 30 (.call 49 [(.t 29)]),oo 31 (.buildSliceD 9 1 7 [(.d (.str ⟨⟨[]⟩⟩))] [⟨0,(.t 6)⟩,⟨1,(.t 10)⟩,⟨2,(.t 14)⟩,⟨3,(.t 18)⟩,⟨4,(.t 22)⟩,⟨5,(.t 26)⟩,⟨6,(.t 30)⟩]),om 2 31]
abbrev TC:AFunc:=⟨32,[(.tmp 2)],(.seq (.ops O1) (.seq (.ops Vx) (.seq (.seq (.ops TH) (.cond (.t 5) (.ops Xc) .skip)) (.seq (.dops UV) .ret))))⟩
theorem Sg:EK Try.prog 48=some TC:=by kernel_rfl
abbrev W3:FuncId:=49
abbrev Ob:List AO:=[oo 2 (.mov (.c (.d (.str ⟨⟨[]⟩⟩))))]
abbrev V5:List AO:=[om 4 0,oo 5 (.conv .u64 (.t 4)),om 3 5]
abbrev QH:List AO:=[om 6 3,oo 7 (.conv .u8 (.t 6)),om 8 3,oo 9 (.bin .shr (.t 8) (.c (.d (.int .u64 8)))),oo 10 (.conv .u8 (.t 9)),om 11 3,oo 12 (.bin .shr (.t 11) (.c (.d (.int .u64 16)))),oo 13 (.conv .u8 (.t 12)),om 14 3,oo 15 (.bin .shr (.t 14) (.c (.d (.int .u64 24)))),oo 16 (.conv .u8 (.t 15)),om 17 3,oo 18 (.bin .shr (.t 17) (.c (.d (.int .u64 32)))),oo 19 (.conv .u8 (.t 18)),om 20 3,oo 21 (.bin .shr (.t 20) (.c (.d (.int .u64 40)))),oo 22 (.conv .u8 (.t 21)),om 23 3,oo 24 (.bin .shr (.t 23) (.c (.d (.int .u64 48)))),oo 25 (.conv .u8 (.t 24)),om 26 3,oo 27 (.bin .shr (.t 26) (.c (.d (.int .u64 56)))),oo 28 (.conv .u8 (.t 27)),oo 29 (.buildSlice 5 1 8 [(.d (.int .u8 0))] [⟨0,(.t 7)⟩,⟨1,(.t 10)⟩,⟨2,(.t 13)⟩,⟨3,(.t 16)⟩,⟨4,(.t 19)⟩,⟨5,(.t 22)⟩,⟨6,(.t 25)⟩,⟨7,(.t 28)⟩]),oo 30 (.strOf (.t 29)),om 2 30]
abbrev Tq:AFunc:=⟨31,[(.tmp 2)],(.seq (.ops Ob) (.seq (.ops V5) (.seq (.ops QH) .ret)))⟩
theorem RA:EK Try.prog 49=some Tq:=by kernel_rfl
abbrev Nl:FuncId:=50
abbrev UZ:List AO:=[om 8 1,oo 9 (.bin .add (.t 8) (cI 1)),om 6 9]
abbrev W9:List AO:=[om 10 6,om 11 2,oo 12 (.bin .lss (.t 10) (.t 11))]
abbrev Ub:List AO:=[om 15 6,om 7 15]
abbrev WN:List AO:=[om 16 7,om 17 1,oo 18 (.bin .gtr (.t 16) (.t 17)),om 19 18,og 20 19 .true (.mov (.t 0)),og 21 19 .true (.mov (.t 7)),og 22 19 .true (.elemAddr 1 (.t 20) (.t 21)),og 24 19 .true (.mov (.t 0)),og 25 19 .true (.mov (.t 7)),og 26 19 .true (.bin .sub (.t 25) (cI 1)),og 27 19 .true (.elemAddr 1 (.t 24) (.t 26)),og 23 19 .true (.load .none (.t 22)),og 28 19 .true (.load .none (.t 27)),og 29 19 .true (.call 56 [(.t 23),(.t 28)]),oo 30 (.pick (.t 19) (.t 29) (cB .false))]
abbrev WD:List AO:=[om 33 0,om 34 7,om 35 0,om 36 7,oo 37 (.bin .sub (.t 36) (cI 1)),om 38 0,om 39 7,oo 40 (.bin .sub (.t 39) (cI 1)),oo 41 (.elemAddr 1 (.t 38) (.t 40)),om 43 0,om 44 7,oo 45 (.elemAddr 1 (.t 43) (.t 44)),oo 42 (.load .none (.t 41)),oo 46 (.load .none (.t 45)),oo 47 (.elemAddr 1 (.t 33) (.t 34)),on (.store 1 (.t 47) (.t 42)),oo 48 (.elemAddr 1 (.t 35) (.t 37)),on (.store 1 (.t 48) (.t 46))]
abbrev OT:List AO:=[om 31 7,oo 32 (.bin .sub (.t 31) (cI 1)),om 7 32]
abbrev Rh:ACode:=(.seq (.seq (.dops WN) (.cond (.t 30) .skip (.exit 2))) (.seq (.block 3 (.dops WD)) (.ops OT)))
abbrev Or:List AO:=[om 13 6,oo 14 (.bin .add (.t 13) (cI 1)),om 6 14]
abbrev NI:ACode:=(.seq (.seq (.ops W9) (.cond (.t 12) .skip (.exit 0))) (.seq (.block 1 (.seq (.ops Ub) (.block 2 (.loop Rh)))) (.ops Or)))
abbrev R4:AFunc:=⟨49,[],(.seq (.ops UZ) (.block 0 (.loop NI)))⟩
theorem Wx:EK Try.prog 50=some R4:=by kernel_rfl
abbrev Te:FuncId:=56
abbrev N5:List AO:=[oo 4 (.mov (cB .false))]
abbrev Oa:List AO:=[om 5 0,oo 6 (.call 66 [(.t 5)]),om 7 6,og 8 7 .true (.mov (.t 1)),og 9 7 .true (.call 66 [(.t 8)]),og 10 7 .true (.un .not (.t 9)),oo 11 (.pick (.t 7) (.t 10) (cB .false)),om 12 11,og 13 12 .false (.mov (.t 0)),og 14 12 .false (.mov (.t 1)),og 15 12 .false (.bin .lss (.t 13) (.t 14)),oo 16 (.pick (.t 12) (cB .true) (.t 15)),om 4 16]
abbrev TY:AFunc:=⟨17,[(.tmp 4)],(.seq (.ops N5) (.seq (.ops Oa) .ret))⟩
theorem SD:EK Try.prog 56=some TY:=by kernel_rfl
abbrev Qg:FuncId:=60
abbrev Tr:List AO:=[oo 2 (.mov (cI 0))]
abbrev QY:List AO:=[om 3 0,oo 4 (.bin .geq (.t 3) (.c (.d (.int .u64 4294967296))))]
abbrev SK:List AO:=[om 5 0,oo 6 (.bin .shr (.t 5) (.c (.d (.int .u64 32)))),om 0 6]
abbrev Rf:List AO:=[oo 2 (.mov (cI 32))]
abbrev Qm:List AO:=[om 7 0,oo 8 (.bin .geq (.t 7) (.c (.d (.int .u64 65536))))]
abbrev OC:List AO:=[om 9 0,oo 10 (.bin .shr (.t 9) (.c (.d (.int .u64 16)))),om 0 10]
abbrev Sq:List AO:=[om 11 2,oo 12 (.bin .add (.t 11) (cI 16)),om 2 12]
abbrev Ti:List AO:=[om 13 0,oo 14 (.bin .geq (.t 13) (.c (.d (.int .u64 256))))]
abbrev R2:List AO:=[om 15 0,oo 16 (.bin .shr (.t 15) (.c (.d (.int .u64 8)))),om 0 16]
abbrev Qa:List AO:=[om 17 2,oo 18 (.bin .add (.t 17) (cI 8)),om 2 18]
abbrev Wa:List AO:=[om 19 2,om 20 0,oo 21 (.conv .u8 (.t 20)),oo 22 (.idxStr (.c (.d (.str ⟨⟨[0,1,2,2,3,3,3,3,4,4,4,4,4,4,4,4,5,5,5,5,5,5,5,5,5,5,5,5,5,5,5,5,6,6,6,6,6,6,6,6,6,6,6,6,6,6,6,6,6,6,6,6,6,6,6,6,6,6,6,6,6,6,6,6,7,7,7,7,7,7,7,7,7,7,7,7,7,7,7,7,7,7,7,7,7,7,7,7,7,7,7,7,7,7,7,7,7,7,7,7,7,7,7,7,7,7,7,7,7,7,7,7,7,7,7,7,7,7,7,7,7,7,7,7,7,7,7,7,8,8,8,8,8,8,8,8,8,8,8,8,8,8,8,8,8,8,8,8,8,8,8,8,8,8,8,8,8,8,8,8,8,8,8,8,8,8,8,8,8,8,8,8,8,8,8,8,8,8,8,8,8,8,8,8,8,8,8,8,8,8,8,8,8,8,8,8,8,8,8,8,8,8,8,8,8,8,8,8,8,8,8,8,8,8,8,8,8,8,8,8,8,8,8,8,8,8,8,8,8,8,8,8,8,8,8,8,8,8,8,8,8,8,8,8,8,8,8,8,8,8,8,8,8,8,8,8]⟩⟩))) (.t 21)),oo 23 (.conv .i64 (.t 22)),oo 24 (.bin .add (.t 19) (.t 23)),om 2 24]
abbrev O8:AFunc:=⟨25,[(.tmp 2)],(.seq (.ops Tr) (.seq (.seq (.ops QY) (.cond (.t 4) (.seq (.ops SK) (.ops Rf)) .skip)) (.seq (.seq (.ops Qm) (.cond (.t 8) (.seq (.ops OC) (.ops Sq)) .skip)) (.seq (.seq (.ops Ti) (.cond (.t 14) (.seq (.ops R2) (.ops Qa)) .skip)) (.seq (.ops Wa) .ret)))))⟩
theorem OM:EK Try.prog 60=some O8:=by kernel_rfl
abbrev NM:FuncId:=66
abbrev UH:List AO:=[oo 2 (.mov (cB .false))]
abbrev Nh:List AO:=[om 3 0,om 4 0,oo 5 (.bin .neq (.t 3) (.t 4)),om 2 5]
abbrev Qe:AFunc:=⟨6,[(.tmp 2)],(.seq (.ops UH) (.seq (.ops Nh) .ret))⟩
theorem Vw:EK Try.prog 66=some Qe:=by kernel_rfl
end Go.Proofs.Ytndepejgafppmaa.Abs
