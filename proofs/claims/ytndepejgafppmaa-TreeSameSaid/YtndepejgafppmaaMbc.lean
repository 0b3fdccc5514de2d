/- The code of the machine and the contracts of one law (joined by kmerge.py). No claim stands here. -/
import Derived.KernelRfl
import Derived.Test.YtndepejgafppmaaProg
import Derived.Test.YtndepejgafppmaaMbb
set_option maxRecDepth 100000
set_option linter.unusedSimpArgs false
set_option linter.unusedVariables false
namespace Go.Proofs.Ytndepejgafppmaa.Abs
open Go Go.RowKit Go.Proofs
abbrev T1:FuncId:=5
abbrev OA:List AO:=[oo 2 (.box 28 (.t 0)),oo 3 (.box 28 (.t 1)),oo 4 (.mov (cB .false))]
abbrev Um:List AO:=[oo 9 (.call 8 []),oo 10 (.un .not (.t 9))]
abbrev So:List AO:=[oo 4 (.mov (cB .false))]
abbrev Tm:List AO:=[oo 11 (.load (.some 13) (.t 2)),oo 12 (.call 9 [(.t 11)]),om 13 12,og 14 13 .false (.load (.some 13) (.t 3)),og 15 13 .false (.call 9 [(.t 14)]),oo 16 (.pick (.t 13) (cB .true) (.t 15))]
abbrev RU:List AO:=[oo 4 (.mov (cB .true))]
abbrev Wc:List AO:=[oo 17 (.load (.some 13) (.t 2)),oo 18 (.call 17 [(.t 17)]),om 5 18]
abbrev NF:List AO:=[oo 19 (.load (.some 13) (.t 2)),oo 20 (.call 18 [(.t 19)]),oo 6 (.alloc 28 [(.d (.str ⟨⟨[]⟩⟩)),(.d (.str ⟨⟨[]⟩⟩)),zI,zI,zI,zI,zI,zI,(.nilsl 5),(.nilsl 10),(.nilsl 16),zI,zI]),on (.store 13 (.t 6) (.t 20))]
abbrev QH:List AO:=[oo 21 (.load (.some 13) (.t 6)),oo 22 (.call 17 [(.t 21)]),oo 23 (.len (.t 22)),oo 24 (.mov (cI 0))]
abbrev QE:List AO:=[oo 25 (.bin .lss (.t 24) (.t 23))]
abbrev SX:List AO:=[oo 26 (.elemAddr 1 (.t 22) (.t 24)),oo 27 (.load .none (.t 26)),om 8 27]
abbrev OV:List AO:=[om 28 8,oo 29 (.bin .neq (.t 28) (cI 0))]
abbrev SD:List AO:=[oo 4 (.mov (cB .false))]
abbrev TX:List AO:=[oo 30 (.bin .add (.t 24) (cI 1)),om 24 30]
abbrev Oo:ACode:=(.seq (.ops QE) (.seq (.cond (.t 25) .skip (.exit 0)) (.seq (.block 1 (.seq (.ops SX) (.seq (.ops OV) (.cond (.t 29) (.seq (.ops SD) .ret) .skip)))) (.ops TX))))
abbrev Ou:List AO:=[oo 31 (.load (.some 13) (.t 2)),oo 32 (.load (.some 13) (.t 3)),oo 33 (.pcall 19 [(.t 31),(.t 32)]),oo 34 (.load (.some 13) (.t 2)),oo 35 (.load (.some 13) (.t 3)),oo 36 (.call 20 [(.t 34),(.t 35)]),oo 37 (.binb .false (.t 33) (.t 36)),om 38 37,og 39 38 .true (.load (.some 13) (.t 2)),og 40 38 .true (.load (.some 13) (.t 2)),og 41 38 .true (.call 19 [(.t 39),(.t 40)]),oo 42 (.pick (.t 38) (.t 41) (cB .false)),om 43 42,og 44 43 .true (.load (.some 13) (.t 2)),og 45 43 .true (.load (.some 13) (.t 6)),og 46 43 .true (.call 19 [(.t 44),(.t 45)]),oo 47 (.pick (.t 43) (.t 46) (cB .false)),om 48 47,og 49 48 .true (.load (.some 13) (.t 2)),og 50 48 .true (.load (.some 13) (.t 6)),og 51 48 .true (.call 20 [(.t 49),(.t 50)]),oo 52 (.pick (.t 48) (.t 51) (cB .false)),om 53 52,og 54 53 .true (.mov (.t 5)),og 55 53 .true (.load (.some 13) (.t 2)),og 56 53 .true (.call 17 [(.t 55)]),og 57 53 .true (.call 21 [(.t 54),(.t 56)]),oo 58 (.pick (.t 53) (.t 57) (cB .false)),om 4 58]
abbrev Wx:AFunc:=⟨59,[(.tmp 4)],(.seq (.ops OA) (.seq (.seq (.ops Um) (.cond (.t 10) (.seq (.ops So) .ret) .skip)) (.seq (.seq (.ops Tm) (.cond (.t 16) (.seq (.ops RU) .ret) .skip)) (.seq (.ops Wc) (.seq (.ops NF) (.seq (.seq (.ops QH) (.block 0 (.loop Oo))) (.seq (.dops Ou) .ret)))))))⟩
theorem OU:EJ Try.prog 5=some Wx:=by kernel_rfl
abbrev VN:FuncId:=8
abbrev SI:List AO:=[oo 0 (.mov (cB .false))]
abbrev VL:List AO:=[oo 4 (.build [(.d (.str ⟨⟨[]⟩⟩)),(.d (.str ⟨⟨[]⟩⟩)),zI,zI,zI] [⟨0,⟨1,(.c (.d (.str ⟨⟨[98]⟩⟩)))⟩⟩]),oo 5 (.build [(.d (.str ⟨⟨[]⟩⟩)),(.d (.str ⟨⟨[]⟩⟩)),zI,zI,zI] [⟨0,⟨1,(.c (.d (.str ⟨⟨[97]⟩⟩)))⟩⟩]),oo 6 (.buildSlice 34 5 2 [(.d (.str ⟨⟨[]⟩⟩)),(.d (.str ⟨⟨[]⟩⟩)),zI,zI,zI] [⟨0,(.t 4)⟩,⟨1,(.t 5)⟩]),oo 7 (.build [(.d (.str ⟨⟨[]⟩⟩)),(.d (.str ⟨⟨[]⟩⟩)),zI,zI,zI,zI,zI,zI,(.nilsl 5),(.nilsl 10),(.nilsl 16),zI,zI] [⟨0,⟨1,(.c (.d (.str ⟨⟨[112]⟩⟩)))⟩⟩,⟨8,⟨1,(.t 6)⟩⟩]),oo 1 (.alloc 28 [(.d (.str ⟨⟨[]⟩⟩)),(.d (.str ⟨⟨[]⟩⟩)),zI,zI,zI,zI,zI,zI,(.nilsl 5),(.nilsl 10),(.nilsl 16),zI,zI]),on (.store 13 (.t 1) (.t 7))]
abbrev TZ:List AO:=[oo 8 (.build [(.d (.str ⟨⟨[]⟩⟩)),(.d (.str ⟨⟨[]⟩⟩)),zI,zI,zI] [⟨0,⟨1,(.c (.d (.str ⟨⟨[98]⟩⟩)))⟩⟩,⟨4,⟨1,(cI 7)⟩⟩]),oo 9 (.build [(.d (.str ⟨⟨[]⟩⟩)),(.d (.str ⟨⟨[]⟩⟩)),zI,zI,zI] [⟨0,⟨1,(.c (.d (.str ⟨⟨[97]⟩⟩)))⟩⟩]),oo 10 (.buildSlice 34 5 2 [(.d (.str ⟨⟨[]⟩⟩)),(.d (.str ⟨⟨[]⟩⟩)),zI,zI,zI] [⟨0,(.t 8)⟩,⟨1,(.t 9)⟩]),oo 11 (.build [zI,(.d (.bool .false)),zI,zI,zI,zI,zI,zI,zI,zI] [⟨0,⟨1,(cI 5)⟩⟩]),oo 12 (.buildSlice 51 10 1 [zI,(.d (.bool .false)),zI,zI,zI,zI,zI,zI,zI,zI] [⟨0,(.t 11)⟩]),oo 13 (.build [(.d (.str ⟨⟨[]⟩⟩)),(.d (.str ⟨⟨[]⟩⟩)),zI,zI,zI,zI,zI,zI,(.nilsl 5),(.nilsl 10),(.nilsl 16),zI,zI] [⟨0,⟨1,(.c (.d (.str ⟨⟨[112]⟩⟩)))⟩⟩,⟨11,⟨1,(cI 3)⟩⟩,⟨8,⟨1,(.t 10)⟩⟩,⟨9,⟨1,(.t 12)⟩⟩]),oo 2 (.alloc 28 [(.d (.str ⟨⟨[]⟩⟩)),(.d (.str ⟨⟨[]⟩⟩)),zI,zI,zI,zI,zI,zI,(.nilsl 5),(.nilsl 10),(.nilsl 16),zI,zI]),on (.store 13 (.t 2) (.t 13))]
abbrev P7:List AO:=[oo 14 (.load (.some 13) (.t 1)),oo 15 (.call 10 [(.t 14)]),om 3 15]
abbrev Oy:List AO:=[oo 16 (.load (.some 13) (.t 1)),oo 17 (.load (.some 13) (.t 1)),oo 18 (.call 19 [(.t 16),(.t 17)]),om 19 18,og 20 19 .true (.load (.some 13) (.t 1)),og 21 19 .true (.load (.some 13) (.t 2)),og 22 19 .true (.call 19 [(.t 20),(.t 21)]),og 23 19 .true (.un .not (.t 22)),oo 24 (.pick (.t 19) (.t 23) (cB .false)),om 25 24,og 26 25 .true (.load (.some 13) (.t 1)),og 27 25 .true (.call 11 [(.t 26),(.c (.d (.str ⟨⟨[97]⟩⟩)))]),og 28 25 .true (.bin .eql (.t 27) (cI 1)),oo 29 (.pick (.t 25) (.t 28) (cB .false)),om 30 29,og 31 30 .true (.mov (.t 3)),og 32 30 .true (.len (.t 31)),og 33 30 .true (.bin .eql (.t 32) (cI 2)),oo 34 (.pick (.t 30) (.t 33) (cB .false)),om 35 34,og 36 35 .true (.mov (.t 3)),og 37 35 .true (.elemAddr 1 (.t 36) (cI 0)),og 38 35 .true (.load .none (.t 37)),og 39 35 .true (.bin .eql (.t 38) (.c (.d (.str ⟨⟨[97]⟩⟩)))),oo 40 (.pick (.t 35) (.t 39) (cB .false)),om 0 40]
abbrev Ol:AFunc:=⟨41,[(.tmp 0)],(.seq (.ops SI) (.seq (.ops VL) (.seq (.ops TZ) (.seq (.ops P7) (.seq (.ops Oy) .ret)))))⟩
theorem N7:EJ Try.prog 8=some Ol:=by kernel_rfl
abbrev WZ:FuncId:=9
abbrev V6:List AO:=[oo 1 (.box 28 (.t 0)),oo 2 (.mov (cB .false))]
abbrev N1:List AO:=[oo 7 (.fieldAddr 8 (.t 1)),oo 8 (.load .none (.t 7)),oo 9 (.len (.t 8)),oo 10 (.bin .gtr (.t 9) (cI 20)),om 11 10,og 12 11 .false (.fieldAddr 9 (.t 1)),og 13 11 .false (.load .none (.t 12)),og 14 11 .false (.len (.t 13)),og 15 11 .false (.bin .gtr (.t 14) (cI 40)),oo 16 (.pick (.t 11) (cB .true) (.t 15)),om 17 16,og 18 17 .false (.fieldAddr 10 (.t 1)),og 19 17 .false (.load .none (.t 18)),og 20 17 .false (.len (.t 19)),og 21 17 .false (.bin .gtr (.t 20) (cI 40)),oo 22 (.pick (.t 17) (cB .true) (.t 21)),om 23 22,og 24 23 .false (.fieldAddr 0 (.t 1)),og 25 23 .false (.load .none (.t 24)),og 26 23 .false (.slen (.t 25)),og 27 23 .false (.bin .gtr (.t 26) (cI 200)),oo 28 (.pick (.t 23) (cB .true) (.t 27)),om 29 28,og 30 29 .false (.fieldAddr 1 (.t 1)),og 31 29 .false (.load .none (.t 30)),og 32 29 .false (.slen (.t 31)),og 33 29 .false (.bin .gtr (.t 32) (cI 200)),oo 34 (.pick (.t 29) (cB .true) (.t 33))]
abbrev Rt:List AO:=[oo 2 (.mov (cB .true))]
abbrev Qx:List AO:=[oo 35 (.fieldAddr 8 (.t 1)),oo 36 (.load .none (.t 35)),oo 37 (.len (.t 36)),oo 38 (.mov (cI 0))]
abbrev PM:List AO:=[oo 39 (.bin .lss (.t 38) (.t 37))]
abbrev NS:List AO:=[oo 40 (.elemAddr 5 (.t 36) (.t 38)),oo 41 (.load (.some 5) (.t 40)),oo 4 (.alloc 34 [(.d (.str ⟨⟨[]⟩⟩)),(.d (.str ⟨⟨[]⟩⟩)),zI,zI,zI]),on (.store 5 (.t 4) (.t 41))]
abbrev OW:List AO:=[oo 42 (.fieldAddr 0 (.t 4)),oo 43 (.load .none (.t 42)),oo 44 (.slen (.t 43)),oo 45 (.bin .gtr (.t 44) (cI 200)),om 46 45,og 47 46 .false (.fieldAddr 1 (.t 4)),og 48 46 .false (.load .none (.t 47)),og 49 46 .false (.slen (.t 48)),og 50 46 .false (.bin .gtr (.t 49) (cI 200)),oo 51 (.pick (.t 46) (cB .true) (.t 50))]
abbrev Ul:List AO:=[oo 2 (.mov (cB .true))]
abbrev XI:List AO:=[oo 52 (.bin .add (.t 38) (cI 1)),om 38 52]
abbrev Wd:ACode:=(.seq (.ops PM) (.seq (.cond (.t 39) .skip (.exit 0)) (.seq (.block 1 (.seq (.ops NS) (.seq (.ops OW) (.cond (.t 51) (.seq (.ops Ul) .ret) .skip)))) (.ops XI))))
abbrev TG:List AO:=[oo 53 (.fieldAddr 10 (.t 1)),oo 54 (.load .none (.t 53)),oo 55 (.len (.t 54)),oo 56 (.mov (cI 0))]
abbrev Nv:List AO:=[oo 57 (.bin .lss (.t 56) (.t 55))]
abbrev WK:List AO:=[oo 58 (.elemAddr 16 (.t 54) (.t 56)),oo 59 (.load (.some 16) (.t 58)),oo 6 (.alloc 55 [(.d (.str ⟨⟨[]⟩⟩)),(.d (.bool .false)),zI,zI,zI,zI,zI,zI,zI,zI,zI,(.nilsl 2),zI,(.nilsl 3),zI,zI]),on (.store 16 (.t 6) (.t 59))]
abbrev Q1:List AO:=[oo 60 (.fieldAddr 11 (.t 6)),oo 61 (.load .none (.t 60)),oo 62 (.len (.t 61)),oo 63 (.bin .gtr (.t 62) (cI 40)),om 64 63,og 65 64 .false (.fieldAddr 13 (.t 6)),og 66 64 .false (.load .none (.t 65)),og 67 64 .false (.len (.t 66)),og 68 64 .false (.bin .gtr (.t 67) (cI 40)),oo 69 (.pick (.t 64) (cB .true) (.t 68)),om 70 69,og 71 70 .false (.fieldAddr 0 (.t 6)),og 72 70 .false (.load .none (.t 71)),og 73 70 .false (.slen (.t 72)),og 74 70 .false (.bin .gtr (.t 73) (cI 200)),oo 75 (.pick (.t 70) (cB .true) (.t 74))]
abbrev UJ:List AO:=[oo 2 (.mov (cB .true))]
abbrev WI:List AO:=[oo 76 (.bin .add (.t 56) (cI 1)),om 56 76]
abbrev Te:ACode:=(.seq (.ops Nv) (.seq (.cond (.t 57) .skip (.exit 2)) (.seq (.block 3 (.seq (.ops WK) (.seq (.ops Q1) (.cond (.t 75) (.seq (.ops UJ) .ret) .skip)))) (.ops WI))))
abbrev Tv:List AO:=[oo 2 (.mov (cB .false))]
abbrev PG:AFunc:=⟨77,[(.tmp 2)],(.seq (.ops V6) (.seq (.seq (.ops N1) (.cond (.t 34) (.seq (.ops Rt) .ret) .skip)) (.seq (.seq (.ops Qx) (.block 0 (.loop Wd))) (.seq (.seq (.ops TG) (.block 2 (.loop Te))) (.seq (.ops Tv) .ret)))))⟩
theorem Tn:EJ Try.prog 9=some PG:=by kernel_rfl
abbrev QU:FuncId:=10
abbrev WD:List AO:=[oo 1 (.box 28 (.t 0)),oo 2 (.mov (.c (.nilsl 0)))]
abbrev OR:List AO:=[oo 3 (.mov (.c (.nilsl 0)))]
abbrev N5:List AO:=[oo 6 (.fieldAddr 8 (.t 1)),oo 7 (.load .none (.t 6)),oo 8 (.len (.t 7)),oo 9 (.mov (cI 0))]
abbrev QX:List AO:=[oo 10 (.bin .lss (.t 9) (.t 8))]
abbrev UX:List AO:=[oo 11 (.elemAddr 5 (.t 7) (.t 9)),oo 12 (.load (.some 5) (.t 11)),oo 5 (.alloc 34 [(.d (.str ⟨⟨[]⟩⟩)),(.d (.str ⟨⟨[]⟩⟩)),zI,zI,zI]),on (.store 5 (.t 5) (.t 12))]
abbrev On:List AO:=[om 13 3,oo 14 (.fieldAddr 0 (.t 5)),oo 15 (.load .none (.t 14)),oo 16 (.buildSlice 9 1 1 [(.d (.str ⟨⟨[]⟩⟩))] [⟨0,(.t 15)⟩]),oo 17 (.append 9 1 16 [(.d (.str ⟨⟨[]⟩⟩))] (.t 13) (.t 16)),om 3 17]
abbrev SE:List AO:=[oo 18 (.bin .add (.t 9) (cI 1)),om 9 18]
abbrev Nf:ACode:=(.seq (.ops QX) (.seq (.cond (.t 10) .skip (.exit 0)) (.seq (.block 1 (.seq (.ops UX) (.ops On))) (.ops SE))))
abbrev Vj:List AO:=[om 19 3,oo 20 (.call 22 [(.t 19)])]
abbrev Sq:List AO:=[om 21 3,om 2 21]
abbrev WO:AFunc:=⟨22,[(.tmp 2)],(.seq (.ops WD) (.seq (.ops OR) (.seq (.seq (.ops N5) (.block 0 (.loop Nf))) (.seq (.ops Vj) (.seq (.ops Sq) .ret)))))⟩
theorem NG:EJ Try.prog 10=some WO:=by kernel_rfl
abbrev Qt:FuncId:=11
abbrev W5:List AO:=[oo 2 (.box 28 (.t 0)),oo 3 (.box 9 (.t 1)),oo 4 (.mov (cI 0))]
abbrev QG:List AO:=[oo 5 (.fieldAddr 8 (.t 2)),oo 6 (.load .none (.t 5)),oo 7 (.mkfn 24 [(.t 3)]),oo 8 (.call 23 [(.t 6),(.t 7)]),om 4 8]
abbrev O8:AFunc:=⟨9,[(.tmp 4)],(.seq (.ops W5) (.seq (.ops QG) .ret))⟩
theorem UC:EJ Try.prog 11=some O8:=by kernel_rfl
abbrev Rl:FuncId:=17
abbrev UA:List AO:=[oo 1 (.box 28 (.t 0)),oo 2 (.mov (.c (.nilsl 0)))]
abbrev OS:List AO:=[oo 10 (.fieldAddr 11 (.t 1)),oo 11 (.load .none (.t 10)),oo 12 (.fieldAddr 12 (.t 1)),oo 13 (.load .none (.t 12)),oo 14 (.buildSlice 3 1 2 [zI] [⟨0,(.t 11)⟩,⟨1,(.t 13)⟩]),om 3 14]
abbrev RW:List AO:=[oo 15 (.fieldAddr 8 (.t 1)),oo 16 (.load .none (.t 15)),oo 17 (.len (.t 16)),oo 18 (.mov (cI 0))]
abbrev P1:List AO:=[oo 19 (.bin .lss (.t 18) (.t 17))]
abbrev TD:List AO:=[oo 20 (.elemAddr 5 (.t 16) (.t 18)),oo 21 (.load (.some 5) (.t 20)),oo 5 (.alloc 34 [(.d (.str ⟨⟨[]⟩⟩)),(.d (.str ⟨⟨[]⟩⟩)),zI,zI,zI]),on (.store 5 (.t 5) (.t 21))]
abbrev PL:List AO:=[om 22 3,oo 23 (.fieldAddr 3 (.t 5)),oo 24 (.load .none (.t 23)),oo 25 (.fieldAddr 4 (.t 5)),oo 26 (.load .none (.t 25)),oo 27 (.buildSlice 3 1 2 [zI] [⟨0,(.t 24)⟩,⟨1,(.t 26)⟩]),oo 28 (.append 3 1 8 [zI] (.t 22) (.t 27)),om 3 28]
abbrev W6:List AO:=[oo 29 (.bin .add (.t 18) (cI 1)),om 18 29]
abbrev UV:ACode:=(.seq (.ops P1) (.seq (.cond (.t 19) .skip (.exit 0)) (.seq (.block 1 (.seq (.ops TD) (.ops PL))) (.ops W6))))
abbrev T3:List AO:=[oo 30 (.fieldAddr 9 (.t 1)),oo 31 (.load .none (.t 30)),oo 32 (.len (.t 31)),oo 33 (.mov (cI 0))]
abbrev XB:List AO:=[oo 34 (.bin .lss (.t 33) (.t 32))]
abbrev SC:List AO:=[oo 35 (.elemAddr 10 (.t 31) (.t 33)),oo 36 (.load (.some 10) (.t 35)),oo 7 (.alloc 51 [zI,(.d (.bool .false)),zI,zI,zI,zI,zI,zI,zI,zI]),on (.store 10 (.t 7) (.t 36))]
abbrev VB:List AO:=[om 37 3,oo 38 (.fieldAddr 8 (.t 7)),oo 39 (.load .none (.t 38)),oo 40 (.fieldAddr 9 (.t 7)),oo 41 (.load .none (.t 40)),oo 42 (.buildSlice 3 1 2 [zI] [⟨0,(.t 39)⟩,⟨1,(.t 41)⟩]),oo 43 (.append 3 1 8 [zI] (.t 37) (.t 42)),om 3 43]
abbrev P2:List AO:=[oo 44 (.bin .add (.t 33) (cI 1)),om 33 44]
abbrev QR:ACode:=(.seq (.ops XB) (.seq (.cond (.t 34) .skip (.exit 2)) (.seq (.block 3 (.seq (.ops SC) (.ops VB))) (.ops P2))))
abbrev Wb:List AO:=[oo 45 (.fieldAddr 10 (.t 1)),oo 46 (.load .none (.t 45)),oo 47 (.len (.t 46)),oo 48 (.mov (cI 0))]
abbrev NN:List AO:=[oo 49 (.bin .lss (.t 48) (.t 47))]
abbrev Qu:List AO:=[oo 50 (.elemAddr 16 (.t 46) (.t 48)),oo 51 (.load (.some 16) (.t 50)),oo 9 (.alloc 55 [(.d (.str ⟨⟨[]⟩⟩)),(.d (.bool .false)),zI,zI,zI,zI,zI,zI,zI,zI,zI,(.nilsl 2),zI,(.nilsl 3),zI,zI]),on (.store 16 (.t 9) (.t 51))]
abbrev NV:List AO:=[om 52 3,oo 53 (.fieldAddr 14 (.t 9)),oo 54 (.load .none (.t 53)),oo 55 (.fieldAddr 15 (.t 9)),oo 56 (.load .none (.t 55)),oo 57 (.buildSlice 3 1 2 [zI] [⟨0,(.t 54)⟩,⟨1,(.t 56)⟩]),oo 58 (.append 3 1 8 [zI] (.t 52) (.t 57)),om 3 58]
abbrev RG:List AO:=[oo 59 (.bin .add (.t 48) (cI 1)),om 48 59]
abbrev TB:ACode:=(.seq (.ops NN) (.seq (.cond (.t 49) .skip (.exit 4)) (.seq (.block 5 (.seq (.ops Qu) (.ops NV))) (.ops RG))))
abbrev Np:List AO:=[om 60 3,om 2 60]
abbrev QS:AFunc:=⟨61,[(.tmp 2)],(.seq (.ops UA) (.seq (.ops OS) (.seq (.seq (.ops RW) (.block 0 (.loop UV))) (.seq (.seq (.ops T3) (.block 2 (.loop QR))) (.seq (.seq (.ops Wb) (.block 4 (.loop TB))) (.seq (.ops Np) .ret))))))⟩
theorem Uz:EJ Try.prog 17=some QS:=by kernel_rfl
abbrev Jz:FuncId:=18
abbrev Ts:List AO:=[oo 1 (.box 28 (.t 0)),oo 2 (.alloc 28 [(.d (.str ⟨⟨[]⟩⟩)),(.d (.str ⟨⟨[]⟩⟩)),zI,zI,zI,zI,zI,zI,(.nilsl 5),(.nilsl 10),(.nilsl 16),zI,zI])]
abbrev VO:List AO:=[oo 7 (.fieldAddr 11 (.t 1)),on (.store 1 (.t 7) (cI 0)),oo 8 (.fieldAddr 12 (.t 1)),on (.store 1 (.t 8) (cI 0))]
abbrev Tk:List AO:=[oo 9 (.fieldAddr 8 (.t 1)),oo 12 (.fieldAddr 9 (.t 1)),oo 15 (.fieldAddr 10 (.t 1)),oo 10 (.load .none (.t 9)),oo 13 (.load .none (.t 12)),oo 16 (.load .none (.t 15)),oo 11 (.ncall 27 [(.t 10)]),oo 18 (.fieldAddr 8 (.t 1)),oo 14 (.ncall 28 [(.t 13)]),oo 17 (.call 29 [(.t 16)]),on (.store 1 (.t 18) (.t 11)),oo 19 (.fieldAddr 9 (.t 1)),on (.store 1 (.t 19) (.t 14)),oo 20 (.fieldAddr 10 (.t 1)),on (.store 1 (.t 20) (.t 17))]
abbrev QN:List AO:=[oo 21 (.fieldAddr 8 (.t 1)),oo 22 (.load .none (.t 21)),oo 23 (.len (.t 22)),oo 24 (.mov (cI 0))]
abbrev UD:List AO:=[oo 25 (.bin .lss (.t 24) (.t 23))]
abbrev Tx:List AO:=[om 26 24,om 3 26]
abbrev OI:List AO:=[oo 27 (.fieldAddr 8 (.t 1)),om 29 3,oo 30 (.fieldAddr 8 (.t 1)),om 32 3,oo 28 (.load .none (.t 27)),oo 33 (.elemAddr 5 (.t 28) (.t 29)),oo 34 (.fieldAddr 3 (.t 33)),oo 31 (.loadP .none 30),on (.storeR 1 (.t 34) (cI 0)),oo 35 (.elemAddr 5 (.t 31) (.t 32)),oo 36 (.fieldAddr 4 (.t 35)),on (.store 1 (.t 36) (cI 0))]
abbrev Nb:List AO:=[oo 37 (.bin .add (.t 24) (cI 1)),om 24 37]
abbrev OQ:ACode:=(.seq (.ops UD) (.seq (.cond (.t 25) .skip (.exit 0)) (.seq (.block 1 (.seq (.ops Tx) (.dops OI))) (.ops Nb))))
abbrev Rv:List AO:=[oo 38 (.fieldAddr 9 (.t 1)),oo 39 (.load .none (.t 38)),oo 40 (.len (.t 39)),oo 41 (.mov (cI 0))]
abbrev WQ:List AO:=[oo 42 (.bin .lss (.t 41) (.t 40))]
abbrev Vk:List AO:=[om 43 41,om 4 43]
abbrev Ve:List AO:=[oo 44 (.fieldAddr 9 (.t 1)),om 46 4,oo 47 (.fieldAddr 9 (.t 1)),om 49 4,oo 45 (.load .none (.t 44)),oo 50 (.elemAddr 10 (.t 45) (.t 46)),oo 51 (.fieldAddr 8 (.t 50)),oo 48 (.loadP .none 47),on (.storeR 1 (.t 51) (cI 0)),oo 52 (.elemAddr 10 (.t 48) (.t 49)),oo 53 (.fieldAddr 9 (.t 52)),on (.store 1 (.t 53) (cI 0))]
abbrev T6:List AO:=[oo 54 (.bin .add (.t 41) (cI 1)),om 41 54]
abbrev N0:ACode:=(.seq (.ops WQ) (.seq (.cond (.t 42) .skip (.exit 2)) (.seq (.block 3 (.seq (.ops Vk) (.dops Ve))) (.ops T6))))
abbrev NL:List AO:=[oo 55 (.fieldAddr 10 (.t 1)),oo 56 (.load .none (.t 55)),oo 57 (.len (.t 56)),oo 58 (.mov (cI 0))]
abbrev Ug:List AO:=[oo 59 (.bin .lss (.t 58) (.t 57))]
abbrev R4:List AO:=[om 60 58,om 5 60]
abbrev R0:List AO:=[oo 61 (.fieldAddr 10 (.t 1)),oo 62 (.load .none (.t 61)),om 63 5,oo 64 (.elemAddr 16 (.t 62) (.t 63)),om 6 64]
abbrev Vl:List AO:=[om 65 6,om 66 6,oo 67 (.nilCheck (.t 65)),oo 68 (.fieldAddr 14 (.t 67)),on (.store 1 (.t 68) (cI 0)),oo 69 (.nilCheck (.t 66)),oo 70 (.fieldAddr 15 (.t 69)),on (.store 1 (.t 70) (cI 0))]
abbrev V1:List AO:=[om 71 6,om 72 6,om 73 6,oo 74 (.nilCheck (.t 73)),oo 75 (.fieldAddr 11 (.t 74)),om 78 6,oo 79 (.nilCheck (.t 78)),oo 80 (.fieldAddr 13 (.t 79)),oo 76 (.load .none (.t 75)),oo 81 (.load .none (.t 80)),oo 77 (.ncall 30 [(.t 76)]),oo 82 (.call 31 [(.t 81)]),oo 83 (.nilCheck (.t 71)),oo 84 (.fieldAddr 11 (.t 83)),on (.store 1 (.t 84) (.t 77)),oo 85 (.nilCheck (.t 72)),oo 86 (.fieldAddr 13 (.t 85)),on (.store 1 (.t 86) (.t 82))]
abbrev Ps:List AO:=[oo 87 (.bin .add (.t 58) (cI 1)),om 58 87]
abbrev WR:ACode:=(.seq (.ops Ug) (.seq (.cond (.t 59) .skip (.exit 4)) (.seq (.block 5 (.seq (.ops R4) (.seq (.ops R0) (.seq (.ops Vl) (.dops V1))))) (.ops Ps))))
abbrev Pd:List AO:=[oo 88 (.load (.some 13) (.t 1)),on (.store 13 (.t 2) (.t 88))]
abbrev Sh:AFunc:=⟨89,[(.cell 2 (.some 13))],(.seq (.ops Ts) (.seq (.ops VO) (.seq (.dops Tk) (.seq (.seq (.ops QN) (.block 0 (.loop OQ))) (.seq (.seq (.ops Rv) (.block 2 (.loop N0))) (.seq (.seq (.ops NL) (.block 4 (.loop WR))) (.seq (.ops Pd) .ret)))))))⟩
theorem W0:EJ Try.prog 18=some Sh:=by kernel_rfl
abbrev Lh:FuncId:=19
abbrev RM:List AO:=[oo 2 (.box 28 (.t 0)),oo 3 (.box 28 (.t 1)),oo 4 (.mov (cB .false))]
abbrev SS:List AO:=[oo 5 (.fieldAddr 0 (.t 2)),oo 6 (.load .none (.t 5)),oo 7 (.fieldAddr 0 (.t 3)),oo 8 (.load .none (.t 7)),oo 9 (.bin .eql (.t 6) (.t 8)),om 10 9,og 11 10 .true (.fieldAddr 1 (.t 2)),og 12 10 .true (.load .none (.t 11)),og 13 10 .true (.fieldAddr 1 (.t 3)),og 14 10 .true (.load .none (.t 13)),og 15 10 .true (.bin .eql (.t 12) (.t 14)),oo 16 (.pick (.t 10) (.t 15) (cB .false)),om 17 16,og 18 17 .true (.fieldAddr 2 (.t 2)),og 19 17 .true (.load (.some 3) (.t 18)),og 20 17 .true (.fieldAddr 2 (.t 3)),og 21 17 .true (.load (.some 3) (.t 20)),og 22 17 .true (.eqAgg .false [0,0,0] (.t 19) (.t 21)),oo 23 (.pick (.t 17) (.t 22) (cB .false)),om 24 23,og 25 24 .true (.fieldAddr 5 (.t 2)),og 26 24 .true (.load (.some 3) (.t 25)),og 27 24 .true (.fieldAddr 5 (.t 3)),og 28 24 .true (.load (.some 3) (.t 27)),og 29 24 .true (.eqAgg .false [0,0,0] (.t 26) (.t 28)),oo 30 (.pick (.t 24) (.t 29) (cB .false)),om 31 30,og 32 31 .true (.fieldAddr 8 (.t 2)),og 33 31 .true (.load .none (.t 32)),og 34 31 .true (.fieldAddr 8 (.t 3)),og 35 31 .true (.load .none (.t 34)),og 36 31 .true (.call 32 [(.t 33),(.t 35),(.c (.fn 33 []))]),oo 37 (.pick (.t 31) (.t 36) (cB .false)),om 38 37,og 39 38 .true (.fieldAddr 9 (.t 2)),og 40 38 .true (.load .none (.t 39)),og 41 38 .true (.fieldAddr 9 (.t 3)),og 42 38 .true (.load .none (.t 41)),og 43 38 .true (.call 34 [(.t 40),(.t 42),(.c (.fn 35 []))]),oo 44 (.pick (.t 38) (.t 43) (cB .false)),om 45 44,og 46 45 .true (.fieldAddr 10 (.t 2)),og 47 45 .true (.load .none (.t 46)),og 48 45 .true (.fieldAddr 10 (.t 3)),og 49 45 .true (.load .none (.t 48)),og 50 45 .true (.call 36 [(.t 47),(.t 49),(.c (.fn 37 []))]),oo 51 (.pick (.t 45) (.t 50) (cB .false)),om 4 51]
abbrev SA:AFunc:=⟨52,[(.tmp 4)],(.seq (.ops RM) (.seq (.ops SS) .ret))⟩
theorem LP:EJ Try.prog 19=some SA:=by kernel_rfl
abbrev Ru:FuncId:=20
abbrev VU:List AO:=[oo 2 (.box 28 (.t 0)),oo 3 (.box 28 (.t 1)),oo 4 (.mov (cB .false))]
abbrev XR:List AO:=[oo 5 (.load (.some 13) (.t 2)),oo 6 (.pcall 39 [(.t 5)]),oo 7 (.load (.some 13) (.t 3)),oo 8 (.call 39 [(.t 7)]),oo 9 (.call 38 [(.t 6),(.t 8)]),om 4 9]
abbrev Wg:AFunc:=⟨10,[(.tmp 4)],(.seq (.ops VU) (.seq (.dops XR) .ret))⟩
theorem WY:EJ Try.prog 20=some Wg:=by kernel_rfl
abbrev Vp:FuncId:=21
abbrev WU:List AO:=[oo 4 (.mov (cB .false))]
abbrev Wv:List AO:=[om 6 0,oo 7 (.len (.t 6)),om 8 1,oo 9 (.len (.t 8)),oo 10 (.bin .neq (.t 7) (.t 9))]
abbrev QA:List AO:=[oo 4 (.mov (cB .false))]
abbrev P3:List AO:=[om 11 0,oo 12 (.len (.t 11)),oo 13 (.mov (cI 0))]
abbrev Q0:List AO:=[oo 14 (.bin .lss (.t 13) (.t 12))]
abbrev Q9:List AO:=[om 15 13,om 5 15]
abbrev QP:List AO:=[om 16 0,om 17 5,oo 18 (.elemAddr 1 (.t 16) (.t 17)),om 20 1,om 21 5,oo 22 (.elemAddr 1 (.t 20) (.t 21)),oo 19 (.load .none (.t 18)),oo 23 (.load .none (.t 22)),oo 24 (.bin .neq (.t 19) (.t 23))]
abbrev V8:List AO:=[oo 4 (.mov (cB .false))]
abbrev Qy:List AO:=[oo 25 (.bin .add (.t 13) (cI 1)),om 13 25]
abbrev SJ:ACode:=(.seq (.ops Q0) (.seq (.cond (.t 14) .skip (.exit 0)) (.seq (.block 1 (.seq (.ops Q9) (.seq (.dops QP) (.cond (.t 24) (.seq (.ops V8) .ret) .skip)))) (.ops Qy))))
abbrev O3:List AO:=[oo 4 (.mov (cB .true))]
abbrev Xf:AFunc:=⟨26,[(.tmp 4)],(.seq (.ops WU) (.seq (.seq (.ops Wv) (.cond (.t 10) (.seq (.ops QA) .ret) .skip)) (.seq (.seq (.ops P3) (.block 0 (.loop SJ))) (.seq (.ops O3) .ret))))⟩
theorem Pl:EJ Try.prog 21=some Xf:=by kernel_rfl
abbrev RB:FuncId:=22
abbrev TF:List AO:=[om 3 0,oo 4 (.len (.t 3)),om 2 4]
abbrev Rq:List AO:=[om 5 0,om 6 2,om 7 2,oo 8 (.conv .u64 (.t 7)),oo 9 (.call 41 [(.t 8)]),oo 10 (.call 40 [(.t 5),(cI 0),(.t 6),(.t 9)])]
abbrev QT:AFunc:=⟨11,[],(.seq (.ops TF) (.ops Rq))⟩
theorem Vs:EJ Try.prog 22=some QT:=by kernel_rfl
abbrev QF:FuncId:=23
abbrev Wt:List AO:=[oo 4 (.mov (cI 0))]
abbrev O9:List AO:=[om 5 0,om 6 1,oo 7 (.call 42 [(.t 5),(.t 6)]),om 4 7]
abbrev XH:AFunc:=⟨8,[(.tmp 4)],(.seq (.ops Wt) (.seq (.ops O9) .ret))⟩
theorem UW:EJ Try.prog 23=some XH:=by kernel_rfl
abbrev Ik:FuncId:=24
abbrev Wf:List AO:=[oo 2 (.box 34 (.t 0)),oo 3 (.mov (cB .false))]
abbrev Tb:List AO:=[oo 4 (.fieldAddr 0 (.t 2)),oo 5 (.load .none (.t 4)),oo 6 (.load .none (.t 1)),oo 7 (.bin .eql (.t 5) (.t 6)),om 3 7]
abbrev Ne:AFunc:=⟨8,[(.tmp 3)],(.seq (.ops Wf) (.seq (.ops Tb) .ret))⟩
theorem P9:EJ Try.prog 24=some Ne:=by kernel_rfl
abbrev OT:FuncId:=27
abbrev NE:List AO:=[oo 2 (.mov (.c (.nilsl 0)))]
abbrev TH:List AO:=[om 3 0,oo 4 (.isNil .false (.t 3))]
abbrev TS:List AO:=[oo 2 (.mov (.c (.nilsl 0)))]
abbrev V0:List AO:=[oo 5 (.buildSlice 34 5 0 [(.d (.str ⟨⟨[]⟩⟩)),(.d (.str ⟨⟨[]⟩⟩)),zI,zI,zI] []),om 6 0,oo 7 (.append 34 5 56 [(.d (.str ⟨⟨[]⟩⟩)),(.d (.str ⟨⟨[]⟩⟩)),zI,zI,zI] (.t 5) (.t 6)),om 2 7]
abbrev PA:AFunc:=⟨8,[(.tmp 2)],(.seq (.ops NE) (.seq (.seq (.ops TH) (.cond (.t 4) (.seq (.ops TS) .ret) .skip)) (.seq (.ops V0) .ret)))⟩
theorem XC:EJ Try.prog 27=some PA:=by kernel_rfl
abbrev QL:FuncId:=28
abbrev WN:List AO:=[oo 2 (.mov (.c (.nilsl 0)))]
abbrev WX:List AO:=[om 3 0,oo 4 (.isNil .false (.t 3))]
abbrev VH:List AO:=[oo 2 (.mov (.c (.nilsl 0)))]
abbrev RQ:List AO:=[oo 5 (.buildSlice 51 10 0 [zI,(.d (.bool .false)),zI,zI,zI,zI,zI,zI,zI,zI] []),om 6 0,oo 7 (.append 51 10 80 [zI,(.d (.bool .false)),zI,zI,zI,zI,zI,zI,zI,zI] (.t 5) (.t 6)),om 2 7]
abbrev VG:AFunc:=⟨8,[(.tmp 2)],(.seq (.ops WN) (.seq (.seq (.ops WX) (.cond (.t 4) (.seq (.ops VH) .ret) .skip)) (.seq (.ops RQ) .ret)))⟩
theorem Td:EJ Try.prog 28=some VG:=by kernel_rfl
abbrev PS:FuncId:=29
abbrev NM:List AO:=[oo 2 (.mov (.c (.nilsl 0)))]
abbrev QO:List AO:=[om 3 0,oo 4 (.isNil .false (.t 3))]
abbrev W3:List AO:=[oo 2 (.mov (.c (.nilsl 0)))]
abbrev Tw:List AO:=[oo 5 (.buildSlice 55 16 0 [(.d (.str ⟨⟨[]⟩⟩)),(.d (.bool .false)),zI,zI,zI,zI,zI,zI,zI,zI,zI,(.nilsl 2),zI,(.nilsl 3),zI,zI] []),om 6 0,oo 7 (.append 55 16 168 [(.d (.str ⟨⟨[]⟩⟩)),(.d (.bool .false)),zI,zI,zI,zI,zI,zI,zI,zI,zI,(.nilsl 2),zI,(.nilsl 3),zI,zI] (.t 5) (.t 6)),om 2 7]
abbrev VI:AFunc:=⟨8,[(.tmp 2)],(.seq (.ops NM) (.seq (.seq (.ops QO) (.cond (.t 4) (.seq (.ops W3) .ret) .skip)) (.seq (.ops Tw) .ret)))⟩
theorem OF:EJ Try.prog 29=some VI:=by kernel_rfl
abbrev XA:FuncId:=30
abbrev Qh:List AO:=[oo 2 (.mov (.c (.nilsl 0)))]
abbrev Sr:List AO:=[om 3 0,oo 4 (.isNil .false (.t 3))]
abbrev WB:List AO:=[oo 2 (.mov (.c (.nilsl 0)))]
abbrev RI:List AO:=[oo 5 (.buildSlice 58 2 0 [zI,zI] []),om 6 0,oo 7 (.append 58 2 16 [zI,zI] (.t 5) (.t 6)),om 2 7]
abbrev Nz:AFunc:=⟨8,[(.tmp 2)],(.seq (.ops Qh) (.seq (.seq (.ops Sr) (.cond (.t 4) (.seq (.ops WB) .ret) .skip)) (.seq (.ops RI) .ret)))⟩
theorem Rb:EJ Try.prog 30=some Nz:=by kernel_rfl
abbrev SB:FuncId:=31
abbrev UU:List AO:=[oo 2 (.mov (.c (.nilsl 0)))]
abbrev Ok:List AO:=[om 3 0,oo 4 (.isNil .false (.t 3))]
abbrev NX:List AO:=[oo 2 (.mov (.c (.nilsl 0)))]
abbrev PO:List AO:=[oo 5 (.buildSlice 60 3 0 [zI,zI,zI] []),om 6 0,oo 7 (.append 60 3 24 [zI,zI,zI] (.t 5) (.t 6)),om 2 7]
abbrev SY:AFunc:=⟨8,[(.tmp 2)],(.seq (.ops UU) (.seq (.seq (.ops Ok) (.cond (.t 4) (.seq (.ops NX) .ret) .skip)) (.seq (.ops PO) .ret)))⟩
theorem SG:EJ Try.prog 31=some SY:=by kernel_rfl
abbrev K3:FuncId:=32
abbrev N2:List AO:=[oo 6 (.mov (cB .false))]
abbrev S4:List AO:=[om 7 0,om 8 1,om 9 2,oo 10 (.call 43 [(.t 7),(.t 8),(.t 9)]),om 6 10]
abbrev V7:AFunc:=⟨11,[(.tmp 6)],(.seq (.ops N2) (.seq (.ops S4) .ret))⟩
theorem Lv:EJ Try.prog 32=some V7:=by kernel_rfl
abbrev Hw:FuncId:=33
abbrev Si:List AO:=[oo 2 (.box 34 (.t 0)),oo 3 (.box 34 (.t 1)),oo 4 (.mov (cB .false))]
abbrev Tl:List AO:=[oo 5 (.fieldAddr 0 (.t 2)),oo 6 (.load .none (.t 5)),oo 7 (.fieldAddr 0 (.t 3)),oo 8 (.load .none (.t 7)),oo 9 (.bin .eql (.t 6) (.t 8)),om 10 9,og 11 10 .true (.fieldAddr 1 (.t 2)),og 12 10 .true (.load .none (.t 11)),og 13 10 .true (.fieldAddr 1 (.t 3)),og 14 10 .true (.load .none (.t 13)),og 15 10 .true (.bin .eql (.t 12) (.t 14)),oo 16 (.pick (.t 10) (.t 15) (cB .false)),om 17 16,og 18 17 .true (.fieldAddr 2 (.t 2)),og 19 17 .true (.load .none (.t 18)),og 20 17 .true (.fieldAddr 2 (.t 3)),og 21 17 .true (.load .none (.t 20)),og 22 17 .true (.bin .eql (.t 19) (.t 21)),oo 23 (.pick (.t 17) (.t 22) (cB .false)),om 4 23]
abbrev Uu:AFunc:=⟨24,[(.tmp 4)],(.seq (.ops Si) (.seq (.ops Tl) .ret))⟩
theorem Kq:EJ Try.prog 33=some Uu:=by kernel_rfl
abbrev Jr:FuncId:=34
abbrev Qp:List AO:=[oo 6 (.mov (cB .false))]
abbrev SR:List AO:=[om 7 0,om 8 1,om 9 2,oo 10 (.call 44 [(.t 7),(.t 8),(.t 9)]),om 6 10]
abbrev P5:AFunc:=⟨11,[(.tmp 6)],(.seq (.ops Qp) (.seq (.ops SR) .ret))⟩
theorem ML:EJ Try.prog 34=some P5:=by kernel_rfl
abbrev Ib:FuncId:=35
abbrev VW:List AO:=[oo 2 (.box 51 (.t 0)),oo 3 (.box 51 (.t 1)),oo 4 (.mov (cB .false))]
abbrev SF:List AO:=[oo 5 (.fieldAddr 0 (.t 2)),oo 6 (.load .none (.t 5)),oo 7 (.fieldAddr 0 (.t 3)),oo 8 (.load .none (.t 7)),oo 9 (.bin .eql (.t 6) (.t 8)),om 10 9,og 11 10 .true (.fieldAddr 1 (.t 2)),og 12 10 .true (.load (.some 7) (.t 11)),og 13 10 .true (.fieldAddr 1 (.t 3)),og 14 10 .true (.load (.some 7) (.t 13)),og 15 10 .true (.eqAgg .false [1,0,0,0,0,0,0] (.t 12) (.t 14)),oo 16 (.pick (.t 10) (.t 15) (cB .false)),om 4 16]
abbrev R1:AFunc:=⟨17,[(.tmp 4)],(.seq (.ops VW) (.seq (.ops SF) .ret))⟩
theorem Wq:EJ Try.prog 35=some R1:=by kernel_rfl
abbrev MV:FuncId:=36
abbrev TC:List AO:=[oo 6 (.mov (cB .false))]
abbrev Vi:List AO:=[om 7 0,om 8 1,om 9 2,oo 10 (.call 45 [(.t 7),(.t 8),(.t 9)]),om 6 10]
abbrev U4:AFunc:=⟨11,[(.tmp 6)],(.seq (.ops TC) (.seq (.ops Vi) .ret))⟩
theorem MK:EJ Try.prog 36=some U4:=by kernel_rfl
abbrev JW:FuncId:=37
abbrev P8:List AO:=[oo 2 (.box 55 (.t 0)),oo 3 (.box 55 (.t 1)),oo 4 (.mov (cB .false))]
abbrev RP:List AO:=[oo 5 (.fieldAddr 0 (.t 2)),oo 6 (.load .none (.t 5)),oo 7 (.fieldAddr 0 (.t 3)),oo 8 (.load .none (.t 7)),oo 9 (.bin .eql (.t 6) (.t 8)),om 10 9,og 11 10 .true (.fieldAddr 1 (.t 2)),og 12 10 .true (.load (.some 7) (.t 11)),og 13 10 .true (.fieldAddr 1 (.t 3)),og 14 10 .true (.load (.some 7) (.t 13)),og 15 10 .true (.eqAgg .false [1,0,0,0,0,0,0] (.t 12) (.t 14)),oo 16 (.pick (.t 10) (.t 15) (cB .false)),om 17 16,og 18 17 .true (.fieldAddr 8 (.t 2)),og 19 17 .true (.load .none (.t 18)),og 20 17 .true (.fieldAddr 8 (.t 3)),og 21 17 .true (.load .none (.t 20)),og 22 17 .true (.bin .eql (.t 19) (.t 21)),oo 23 (.pick (.t 17) (.t 22) (cB .false)),om 24 23,og 25 24 .true (.fieldAddr 9 (.t 2)),og 26 24 .true (.load .none (.t 25)),og 27 24 .true (.fieldAddr 9 (.t 3)),og 28 24 .true (.load .none (.t 27)),og 29 24 .true (.bin .eql (.t 26) (.t 28)),oo 30 (.pick (.t 24) (.t 29) (cB .false)),om 31 30,og 32 31 .true (.fieldAddr 10 (.t 2)),og 33 31 .true (.load .none (.t 32)),og 34 31 .true (.fieldAddr 10 (.t 3)),og 35 31 .true (.load .none (.t 34)),og 36 31 .true (.bin .eql (.t 33) (.t 35)),oo 37 (.pick (.t 31) (.t 36) (cB .false)),om 38 37,og 39 38 .true (.fieldAddr 12 (.t 2)),og 40 38 .true (.load .none (.t 39)),og 41 38 .true (.fieldAddr 12 (.t 3)),og 42 38 .true (.load .none (.t 41)),og 43 38 .true (.bin .eql (.t 40) (.t 42)),oo 44 (.pick (.t 38) (.t 43) (cB .false)),om 45 44,og 46 45 .true (.fieldAddr 11 (.t 2)),og 47 45 .true (.load .none (.t 46)),og 48 45 .true (.fieldAddr 11 (.t 3)),og 49 45 .true (.load .none (.t 48)),og 50 45 .true (.call 46 [(.t 47),(.t 49)]),oo 51 (.pick (.t 45) (.t 50) (cB .false)),om 52 51,og 53 52 .true (.fieldAddr 13 (.t 2)),og 54 52 .true (.load .none (.t 53)),og 55 52 .true (.fieldAddr 13 (.t 3)),og 56 52 .true (.load .none (.t 55)),og 57 52 .true (.call 47 [(.t 54),(.t 56)]),oo 58 (.pick (.t 52) (.t 57) (cB .false)),om 4 58]
abbrev Pa:AFunc:=⟨59,[(.tmp 4)],(.seq (.ops P8) (.seq (.ops RP) .ret))⟩
theorem RJ:EJ Try.prog 37=some Pa:=by kernel_rfl
abbrev SQ:FuncId:=38
abbrev S5:List AO:=[oo 4 (.mov (cB .false))]
abbrev UG:List AO:=[om 6 0,oo 7 (.len (.t 6)),om 8 1,oo 9 (.len (.t 8)),oo 10 (.bin .neq (.t 7) (.t 9))]
abbrev Oz:List AO:=[oo 4 (.mov (cB .false))]
abbrev OG:List AO:=[om 11 0,oo 12 (.len (.t 11)),oo 13 (.mov (cI 0))]
abbrev Vm:List AO:=[oo 14 (.bin .lss (.t 13) (.t 12))]
abbrev UE:List AO:=[om 15 13,om 5 15]
abbrev Nj:List AO:=[om 16 0,om 17 5,oo 18 (.elemAddr 1 (.t 16) (.t 17)),om 20 1,om 21 5,oo 22 (.elemAddr 1 (.t 20) (.t 21)),oo 19 (.load .none (.t 18)),oo 23 (.load .none (.t 22)),oo 24 (.bin .neq (.t 19) (.t 23))]
abbrev R3:List AO:=[oo 4 (.mov (cB .false))]
abbrev VD:List AO:=[oo 25 (.bin .add (.t 13) (cI 1)),om 13 25]
abbrev Nw:ACode:=(.seq (.ops Vm) (.seq (.cond (.t 14) .skip (.exit 0)) (.seq (.block 1 (.seq (.ops UE) (.seq (.dops Nj) (.cond (.t 24) (.seq (.ops R3) .ret) .skip)))) (.ops VD))))
abbrev Ti:List AO:=[oo 4 (.mov (cB .true))]
abbrev S2:AFunc:=⟨26,[(.tmp 4)],(.seq (.ops S5) (.seq (.seq (.ops UG) (.cond (.t 10) (.seq (.ops Oz) .ret) .skip)) (.seq (.seq (.ops OG) (.block 0 (.loop Nw))) (.seq (.ops Ti) .ret))))⟩
theorem Ph:EJ Try.prog 38=some S2:=by kernel_rfl
abbrev NI:FuncId:=39
abbrev WE:List AO:=[oo 1 (.box 28 (.t 0)),oo 2 (.mov (.c (.nilsl 0)))]
abbrev Sg:List AO:=[oo 14 (.fieldAddr 0 (.t 1)),oo 15 (.load .none (.t 14)),oo 16 (.fieldAddr 1 (.t 1)),oo 17 (.load .none (.t 16)),oo 18 (.buildSlice 9 1 2 [(.d (.str ⟨⟨[]⟩⟩))] [⟨0,(.t 15)⟩,⟨1,(.t 17)⟩]),om 3 18]
abbrev WM:List AO:=[om 19 3,oo 20 (.fieldAddr 2 (.t 1)),oo 21 (.load (.some 3) (.t 20)),oo 22 (.fieldAddr 5 (.t 1)),oo 23 (.load (.some 3) (.t 22)),oo 24 (.build [(.d (.bool .false)),zI,zI,zI,zI,zI,zI] [⟨1,⟨3,(.t 21)⟩⟩,⟨4,⟨3,(.t 23)⟩⟩]),oo 25 (.call 48 [(.t 24)]),oo 26 (.append 9 1 16 [(.d (.str ⟨⟨[]⟩⟩))] (.t 19) (.t 25)),om 3 26]
abbrev Xb:List AO:=[om 27 3,oo 28 (.fieldAddr 8 (.t 1)),oo 32 (.fieldAddr 9 (.t 1)),oo 36 (.fieldAddr 10 (.t 1)),oo 29 (.load .none (.t 28)),oo 30 (.len (.t 29)),oo 31 (.pcall 49 [(.t 30)]),oo 33 (.load .none (.t 32)),oo 34 (.len (.t 33)),oo 35 (.pcall 49 [(.t 34)]),oo 37 (.load .none (.t 36)),oo 38 (.len (.t 37)),oo 39 (.call 49 [(.t 38)]),oo 40 (.buildSliceD 9 1 3 [(.d (.str ⟨⟨[]⟩⟩))] [⟨0,(.t 31)⟩,⟨1,(.t 35)⟩,⟨2,(.t 39)⟩]),oo 41 (.append 9 1 16 [(.d (.str ⟨⟨[]⟩⟩))] (.t 27) (.t 40)),om 3 41]
abbrev Tz:List AO:=[oo 42 (.fieldAddr 8 (.t 1)),oo 43 (.load .none (.t 42)),oo 44 (.len (.t 43)),oo 45 (.mov (cI 0))]
abbrev WL:List AO:=[oo 46 (.bin .lss (.t 45) (.t 44))]
abbrev OY:List AO:=[oo 47 (.elemAddr 5 (.t 43) (.t 45)),oo 48 (.load (.some 5) (.t 47)),oo 5 (.alloc 34 [(.d (.str ⟨⟨[]⟩⟩)),(.d (.str ⟨⟨[]⟩⟩)),zI,zI,zI]),on (.store 5 (.t 5) (.t 48))]
abbrev Vb:List AO:=[om 49 3,oo 50 (.fieldAddr 0 (.t 5)),oo 52 (.fieldAddr 1 (.t 5)),oo 54 (.fieldAddr 2 (.t 5)),oo 51 (.load .none (.t 50)),oo 53 (.load .none (.t 52)),oo 55 (.load .none (.t 54)),oo 56 (.pcall 49 [(.t 55)]),oo 57 (.buildSliceD 9 1 3 [(.d (.str ⟨⟨[]⟩⟩))] [⟨0,(.t 51)⟩,⟨1,(.t 53)⟩,⟨2,(.t 56)⟩]),oo 58 (.append 9 1 16 [(.d (.str ⟨⟨[]⟩⟩))] (.t 49) (.t 57)),om 3 58]
abbrev S9:List AO:=[oo 59 (.bin .add (.t 45) (cI 1)),om 45 59]
abbrev R8:ACode:=(.seq (.ops WL) (.seq (.cond (.t 46) .skip (.exit 0)) (.seq (.block 1 (.seq (.ops OY) (.dops Vb))) (.ops S9))))
abbrev RT:List AO:=[oo 60 (.fieldAddr 9 (.t 1)),oo 61 (.load .none (.t 60)),oo 62 (.len (.t 61)),oo 63 (.mov (cI 0))]
abbrev Vq:List AO:=[oo 64 (.bin .lss (.t 63) (.t 62))]
abbrev QI:List AO:=[oo 65 (.elemAddr 10 (.t 61) (.t 63)),oo 66 (.load (.some 10) (.t 65)),oo 7 (.alloc 51 [zI,(.d (.bool .false)),zI,zI,zI,zI,zI,zI,zI,zI]),on (.store 10 (.t 7) (.t 66))]
abbrev Up:List AO:=[om 67 3,oo 68 (.fieldAddr 0 (.t 7)),oo 73 (.fieldAddr 1 (.t 7)),oo 69 (.load .none (.t 68)),oo 70 (.pcall 49 [(.t 69)]),oo 74 (.loadP (.some 7) 73),oo 71 (.buildSliceD 9 1 1 [(.d (.str ⟨⟨[]⟩⟩))] [⟨0,(.t 70)⟩]),oo 72 (.append 9 1 16 [(.d (.str ⟨⟨[]⟩⟩))] (.t 67) (.t 71)),oo 75 (.call 48 [(.t 74)]),oo 76 (.append 9 1 16 [(.d (.str ⟨⟨[]⟩⟩))] (.t 72) (.t 75)),om 3 76]
abbrev Rh:List AO:=[oo 77 (.bin .add (.t 63) (cI 1)),om 63 77]
abbrev Sk:ACode:=(.seq (.ops Vq) (.seq (.cond (.t 64) .skip (.exit 2)) (.seq (.block 3 (.seq (.ops QI) (.dops Up))) (.ops Rh))))
abbrev R5:List AO:=[oo 78 (.fieldAddr 10 (.t 1)),oo 79 (.load .none (.t 78)),oo 80 (.len (.t 79)),oo 81 (.mov (cI 0))]
abbrev Rg:List AO:=[oo 82 (.bin .lss (.t 81) (.t 80))]
abbrev Q5:List AO:=[oo 83 (.elemAddr 16 (.t 79) (.t 81)),oo 84 (.load (.some 16) (.t 83)),oo 9 (.alloc 55 [(.d (.str ⟨⟨[]⟩⟩)),(.d (.bool .false)),zI,zI,zI,zI,zI,zI,zI,zI,zI,(.nilsl 2),zI,(.nilsl 3),zI,zI]),on (.store 16 (.t 9) (.t 84))]
abbrev Rc:List AO:=[om 85 3,oo 86 (.fieldAddr 0 (.t 9)),oo 90 (.fieldAddr 1 (.t 9)),oo 87 (.load .none (.t 86)),oo 91 (.loadP (.some 7) 90),oo 88 (.buildSliceD 9 1 1 [(.d (.str ⟨⟨[]⟩⟩))] [⟨0,(.t 87)⟩]),oo 89 (.append 9 1 16 [(.d (.str ⟨⟨[]⟩⟩))] (.t 85) (.t 88)),oo 92 (.call 48 [(.t 91)]),oo 93 (.append 9 1 16 [(.d (.str ⟨⟨[]⟩⟩))] (.t 89) (.t 92)),om 3 93]
abbrev Ty:List AO:=[om 94 3,oo 95 (.fieldAddr 8 (.t 9)),oo 98 (.fieldAddr 9 (.t 9)),oo 101 (.fieldAddr 10 (.t 9)),oo 104 (.fieldAddr 12 (.t 9)),oo 107 (.fieldAddr 11 (.t 9)),oo 111 (.fieldAddr 13 (.t 9)),oo 96 (.load .none (.t 95)),oo 97 (.pcall 49 [(.t 96)]),oo 99 (.load .none (.t 98)),oo 100 (.pcall 49 [(.t 99)]),oo 102 (.load .none (.t 101)),oo 103 (.pcall 49 [(.t 102)]),oo 105 (.load .none (.t 104)),oo 106 (.pcall 49 [(.t 105)]),oo 108 (.load .none (.t 107)),oo 109 (.len (.t 108)),oo 110 (.pcall 49 [(.t 109)]),oo 112 (.load .none (.t 111)),oo 113 (.len (.t 112)),oo 114 (.call 49 [(.t 113)]),oo 115 (.buildSliceD 9 1 6 [(.d (.str ⟨⟨[]⟩⟩))] [⟨0,(.t 97)⟩,⟨1,(.t 100)⟩,⟨2,(.t 103)⟩,⟨3,(.t 106)⟩,⟨4,(.t 110)⟩,⟨5,(.t 114)⟩]),oo 116 (.append 9 1 16 [(.d (.str ⟨⟨[]⟩⟩))] (.t 94) (.t 115)),om 3 116]
abbrev NT:List AO:=[oo 117 (.fieldAddr 11 (.t 9)),oo 118 (.load .none (.t 117)),oo 119 (.len (.t 118)),oo 120 (.mov (cI 0))]
abbrev Ni:List AO:=[oo 121 (.bin .lss (.t 120) (.t 119))]
abbrev XO:List AO:=[oo 122 (.elemAddr 2 (.t 118) (.t 120)),oo 123 (.load (.some 2) (.t 122)),oo 11 (.alloc 58 [zI,zI]),on (.store 2 (.t 11) (.t 123))]
abbrev VM:List AO:=[om 124 3,oo 125 (.fieldAddr 0 (.t 11)),oo 128 (.fieldAddr 1 (.t 11)),oo 126 (.load .none (.t 125)),oo 127 (.pcall 49 [(.t 126)]),oo 129 (.load .none (.t 128)),oo 130 (.call 49 [(.t 129)]),oo 131 (.buildSliceD 9 1 2 [(.d (.str ⟨⟨[]⟩⟩))] [⟨0,(.t 127)⟩,⟨1,(.t 130)⟩]),oo 132 (.append 9 1 16 [(.d (.str ⟨⟨[]⟩⟩))] (.t 124) (.t 131)),om 3 132]
abbrev S7:List AO:=[oo 133 (.bin .add (.t 120) (cI 1)),om 120 133]
abbrev U9:ACode:=(.seq (.ops Ni) (.seq (.cond (.t 121) .skip (.exit 6)) (.seq (.block 7 (.seq (.ops XO) (.dops VM))) (.ops S7))))
abbrev XZ:List AO:=[oo 134 (.fieldAddr 13 (.t 9)),oo 135 (.load .none (.t 134)),oo 136 (.len (.t 135)),oo 137 (.mov (cI 0))]
abbrev OC:List AO:=[oo 138 (.bin .lss (.t 137) (.t 136))]
abbrev TW:List AO:=[oo 139 (.elemAddr 3 (.t 135) (.t 137)),oo 140 (.load (.some 3) (.t 139)),oo 13 (.alloc 60 [zI,zI,zI]),on (.store 3 (.t 13) (.t 140))]
abbrev TL:List AO:=[om 141 3,oo 142 (.fieldAddr 0 (.t 13)),oo 145 (.fieldAddr 1 (.t 13)),oo 148 (.fieldAddr 2 (.t 13)),oo 143 (.load .none (.t 142)),oo 144 (.pcall 49 [(.t 143)]),oo 146 (.load .none (.t 145)),oo 147 (.pcall 49 [(.t 146)]),oo 149 (.load .none (.t 148)),oo 150 (.call 49 [(.t 149)]),oo 151 (.buildSliceD 9 1 3 [(.d (.str ⟨⟨[]⟩⟩))] [⟨0,(.t 144)⟩,⟨1,(.t 147)⟩,⟨2,(.t 150)⟩]),oo 152 (.append 9 1 16 [(.d (.str ⟨⟨[]⟩⟩))] (.t 141) (.t 151)),om 3 152]
abbrev Qo:List AO:=[oo 153 (.bin .add (.t 137) (cI 1)),om 137 153]
abbrev Ut:ACode:=(.seq (.ops OC) (.seq (.cond (.t 138) .skip (.exit 8)) (.seq (.block 9 (.seq (.ops TW) (.dops TL))) (.ops Qo))))
abbrev Pj:List AO:=[oo 154 (.bin .add (.t 81) (cI 1)),om 81 154]
abbrev Vx:ACode:=(.seq (.ops Rg) (.seq (.cond (.t 82) .skip (.exit 4)) (.seq (.block 5 (.seq (.ops Q5) (.seq (.dops Rc) (.seq (.dops Ty) (.seq (.seq (.ops NT) (.block 6 (.loop U9))) (.seq (.ops XZ) (.block 8 (.loop Ut)))))))) (.ops Pj))))
abbrev WC:List AO:=[om 155 3,om 2 155]
abbrev XJ:AFunc:=⟨156,[(.tmp 2)],(.seq (.ops WE) (.seq (.ops Sg) (.seq (.ops WM) (.seq (.dops Xb) (.seq (.seq (.ops Tz) (.block 0 (.loop R8))) (.seq (.seq (.ops RT) (.block 2 (.loop Sk))) (.seq (.seq (.ops R5) (.block 4 (.loop Vx))) (.seq (.ops WC) .ret))))))))⟩
theorem Nl:EJ Try.prog 39=some XJ:=by kernel_rfl
abbrev QJ:FuncId:=40
abbrev Ng:List AO:=[oo 8 (.mov (cB .true))]
abbrev Ry:List AO:=[oo 9 (.mov (cB .true))]
abbrev V2:List AO:=[om 19 2,om 20 1,oo 21 (.bin .sub (.t 19) (.t 20)),om 10 21]
abbrev Wo:List AO:=[om 22 10,oo 23 (.bin .leq (.t 22) (cI 12))]
abbrev Pp:List AO:=[om 24 0,om 25 1,om 26 2,oo 27 (.call 50 [(.t 24),(.t 25),(.t 26)])]
abbrev PR:List AO:=[om 28 3,oo 29 (.bin .eql (.t 28) (cI 0))]
abbrev Vd:List AO:=[om 30 0,om 31 1,om 32 2,oo 33 (.call 51 [(.t 30),(.t 31),(.t 32)])]
abbrev W1:List AO:=[om 34 8,oo 35 (.un .not (.t 34))]
abbrev U7:List AO:=[om 36 0,om 37 1,om 38 2,oo 39 (.call 52 [(.t 36),(.t 37),(.t 38)])]
abbrev V3:List AO:=[om 40 3,oo 41 (.bin .sub (.t 40) (cI 1)),om 3 41]
abbrev U8:List AO:=[om 43 0,om 44 1,om 45 2,oo 46 (.call 53 [(.t 43),(.t 44),(.t 45)]),om 42 46,oo 47 (.extract (.t 42) 0),oo 48 (.extract (.t 42) 1),om 11 47,om 12 48]
abbrev We:List AO:=[om 49 12,oo 50 (.bin .eql (.t 49) (cI 2))]
abbrev RO:List AO:=[om 51 0,om 52 1,om 53 2,oo 54 (.call 54 [(.t 51),(.t 52),(.t 53)])]
abbrev Nc:List AO:=[om 55 2,oo 56 (.bin .sub (.t 55) (cI 1)),om 57 11,om 58 1,oo 59 (.bin .sub (.t 57) (.t 58)),oo 60 (.bin .sub (.t 56) (.t 59)),om 11 60]
abbrev Rs:List AO:=[oo 12 (.mov (cI 1))]
abbrev NO:List AO:=[om 61 8,om 62 61,og 63 62 .true (.mov (.t 9)),oo 64 (.pick (.t 62) (.t 63) (cB .false)),om 65 64,og 66 65 .true (.mov (.t 12)),og 67 65 .true (.bin .eql (.t 66) (cI 1)),oo 68 (.pick (.t 65) (.t 67) (cB .false))]
abbrev OJ:List AO:=[om 69 0,om 70 1,om 71 2,oo 72 (.call 55 [(.t 69),(.t 70),(.t 71)])]
abbrev NZ:List AO:=[om 73 1,oo 74 (.bin .gtr (.t 73) (cI 0)),om 75 74,og 76 75 .true (.mov (.t 0)),og 77 75 .true (.mov (.t 1)),og 78 75 .true (.bin .sub (.t 77) (cI 1)),og 79 75 .true (.elemAddr 1 (.t 76) (.t 78)),og 81 75 .true (.mov (.t 0)),og 82 75 .true (.mov (.t 11)),og 83 75 .true (.elemAddr 1 (.t 81) (.t 82)),og 80 75 .true (.load .none (.t 79)),og 84 75 .true (.load .none (.t 83)),og 85 75 .true (.call 56 [(.t 80),(.t 84)]),og 86 75 .true (.un .not (.t 85)),oo 87 (.pick (.t 75) (.t 86) (cB .false))]
abbrev UH:List AO:=[om 88 0,om 89 1,om 90 2,om 91 11,oo 92 (.call 57 [(.t 88),(.t 89),(.t 90),(.t 91)]),om 13 92]
abbrev XN:List AO:=[om 93 13,om 1 93]
abbrev TR:List AO:=[om 95 0,om 96 1,om 97 2,om 98 11,oo 99 (.call 58 [(.t 95),(.t 96),(.t 97),(.t 98)]),om 94 99,oo 100 (.extract (.t 94) 0),oo 101 (.extract (.t 94) 1),om 14 100,om 15 101]
abbrev S1:List AO:=[om 102 15,om 9 102]
abbrev NU:List AO:=[om 103 14,om 104 1,oo 105 (.bin .sub (.t 103) (.t 104)),om 106 2,om 107 14,oo 108 (.bin .sub (.t 106) (.t 107)),om 16 105,om 17 108]
abbrev XE:List AO:=[om 109 10,oo 110 (.bin .quo (.t 109) (cI 8)),om 18 110]
abbrev Tq:List AO:=[om 111 16,om 112 17,oo 113 (.bin .lss (.t 111) (.t 112))]
abbrev RL:List AO:=[om 114 16,om 115 18,oo 116 (.bin .geq (.t 114) (.t 115)),om 8 116]
abbrev US:List AO:=[om 117 0,om 118 1,om 119 14,om 120 3,oo 121 (.call 40 [(.t 117),(.t 118),(.t 119),(.t 120)])]
abbrev Wl:List AO:=[om 122 14,oo 123 (.bin .add (.t 122) (cI 1)),om 1 123]
abbrev Ox:List AO:=[om 124 17,om 125 18,oo 126 (.bin .geq (.t 124) (.t 125)),om 8 126]
abbrev RN:List AO:=[om 127 0,om 128 14,oo 129 (.bin .add (.t 128) (cI 1)),om 130 2,om 131 3,oo 132 (.call 40 [(.t 127),(.t 129),(.t 130),(.t 131)])]
abbrev SK:List AO:=[om 133 14,om 2 133]
abbrev OH:ACode:=(.block 1 (.seq (.ops V2) (.seq (.seq (.ops Wo) (.cond (.t 23) (.seq (.ops Pp) .ret) .skip)) (.seq (.seq (.ops PR) (.cond (.t 29) (.seq (.ops Vd) .ret) .skip)) (.seq (.seq (.ops W1) (.cond (.t 35) (.seq (.ops U7) (.ops V3)) .skip)) (.seq (.ops U8) (.seq (.seq (.ops We) (.cond (.t 50) (.seq (.ops RO) (.seq (.ops Nc) (.ops Rs))) .skip)) (.seq (.seq (.ops NO) (.cond (.t 68) (.seq (.ops OJ) (.cond (.t 72) .ret .skip)) .skip)) (.seq (.seq (.dops NZ) (.cond (.t 87) (.seq (.ops UH) (.seq (.ops XN) (.exit 1))) .skip)) (.seq (.ops TR) (.seq (.ops S1) (.seq (.ops NU) (.seq (.ops XE) (.seq (.ops Tq) (.cond (.t 113) (.seq (.ops RL) (.seq (.ops US) (.ops Wl))) (.seq (.ops Ox) (.seq (.ops RN) (.ops SK))))))))))))))))))
abbrev RH:AFunc:=⟨134,[],(.seq (.ops Ng) (.seq (.ops Ry) (.block 0 (.loop OH))))⟩
theorem Qk:EJ Try.prog 40=some RH:=by kernel_rfl
abbrev Wz:FuncId:=41
abbrev Pg:List AO:=[oo 2 (.mov (cI 0))]
abbrev Vr:List AO:=[om 3 0,oo 4 (.conv .u32 (.t 3)),oo 5 (.call 59 [(.t 4)]),om 2 5]
abbrev NH:List AO:=[om 6 0,oo 7 (.call 60 [(.t 6)]),om 2 7]
abbrev SZ:AFunc:=⟨8,[(.tmp 2)],(.seq (.ops Pg) (.seq (.cond (.c (.d (.bool .false))) (.seq (.ops Vr) .ret) .skip) (.seq (.ops NH) .ret)))⟩
theorem WT:EJ Try.prog 41=some SZ:=by kernel_rfl
abbrev ON:FuncId:=42
abbrev Us:List AO:=[oo 4 (.mov (cI 0))]
abbrev Uv:List AO:=[om 6 0,oo 7 (.len (.t 6)),oo 8 (.mov (cI 0))]
abbrev Qw:List AO:=[oo 9 (.bin .lss (.t 8) (.t 7))]
abbrev Rm:List AO:=[om 10 8,om 5 10]
abbrev Qr:List AO:=[om 11 1,om 12 0,om 13 5,oo 14 (.elemAddr 5 (.t 12) (.t 13)),oo 15 (.load (.some 5) (.t 14)),oo 16 (.callv (.t 11) [(.t 15)])]
abbrev PZ:List AO:=[om 17 5,om 4 17]
abbrev R7:List AO:=[oo 18 (.bin .add (.t 8) (cI 1)),om 8 18]
abbrev VS:ACode:=(.seq (.ops Qw) (.seq (.cond (.t 9) .skip (.exit 0)) (.seq (.block 1 (.seq (.ops Rm) (.seq (.ops Qr) (.cond (.t 16) (.seq (.ops PZ) .ret) .skip)))) (.ops R7))))
abbrev Th:List AO:=[oo 4 (.mov (cI (-1)))]
abbrev SH:AFunc:=⟨19,[(.tmp 4)],(.seq (.ops Us) (.seq (.seq (.ops Uv) (.block 0 (.loop VS))) (.seq (.ops Th) .ret)))⟩
theorem Oj:EJ Try.prog 42=some SH:=by kernel_rfl
abbrev LG:FuncId:=43
abbrev V9:List AO:=[oo 6 (.mov (cB .false))]
abbrev RE:List AO:=[om 10 0,oo 11 (.len (.t 10)),om 12 1,oo 13 (.len (.t 12)),oo 14 (.bin .neq (.t 11) (.t 13))]
abbrev Vv:List AO:=[oo 6 (.mov (cB .false))]
abbrev Tc:List AO:=[om 15 0,oo 16 (.len (.t 15)),oo 17 (.mov (cI 0))]
abbrev T9:List AO:=[oo 18 (.bin .lss (.t 17) (.t 16))]
abbrev XK:List AO:=[om 19 17,oo 20 (.elemAddr 5 (.t 15) (.t 17)),oo 21 (.load (.some 5) (.t 20)),oo 8 (.alloc 34 [(.d (.str ⟨⟨[]⟩⟩)),(.d (.str ⟨⟨[]⟩⟩)),zI,zI,zI]),om 7 19,on (.store 5 (.t 8) (.t 21))]
abbrev UN:List AO:=[om 22 1,om 23 7,oo 24 (.elemAddr 5 (.t 22) (.t 23)),oo 25 (.load (.some 5) (.t 24)),oo 9 (.alloc 34 [(.d (.str ⟨⟨[]⟩⟩)),(.d (.str ⟨⟨[]⟩⟩)),zI,zI,zI]),on (.store 5 (.t 9) (.t 25))]
abbrev Q8:List AO:=[om 26 2,oo 27 (.load (.some 5) (.t 8)),oo 28 (.load (.some 5) (.t 9)),oo 29 (.callv (.t 26) [(.t 27),(.t 28)]),oo 30 (.un .not (.t 29))]
abbrev WG:List AO:=[oo 6 (.mov (cB .false))]
abbrev OP:List AO:=[oo 31 (.bin .add (.t 17) (cI 1)),om 17 31]
abbrev O2:ACode:=(.seq (.ops T9) (.seq (.cond (.t 18) .skip (.exit 0)) (.seq (.block 1 (.seq (.ops XK) (.seq (.ops UN) (.seq (.ops Q8) (.cond (.t 30) (.seq (.ops WG) .ret) .skip))))) (.ops OP))))
abbrev Ra:List AO:=[oo 6 (.mov (cB .true))]
abbrev QQ:AFunc:=⟨32,[(.tmp 6)],(.seq (.ops V9) (.seq (.seq (.ops RE) (.cond (.t 14) (.seq (.ops Vv) .ret) .skip)) (.seq (.seq (.ops Tc) (.block 0 (.loop O2))) (.seq (.ops Ra) .ret))))⟩
theorem Lp:EJ Try.prog 43=some QQ:=by kernel_rfl
abbrev Ly:FuncId:=44
abbrev Qi:List AO:=[oo 6 (.mov (cB .false))]
abbrev NK:List AO:=[om 10 0,oo 11 (.len (.t 10)),om 12 1,oo 13 (.len (.t 12)),oo 14 (.bin .neq (.t 11) (.t 13))]
abbrev Oe:List AO:=[oo 6 (.mov (cB .false))]
abbrev PY:List AO:=[om 15 0,oo 16 (.len (.t 15)),oo 17 (.mov (cI 0))]
abbrev Ow:List AO:=[oo 18 (.bin .lss (.t 17) (.t 16))]
abbrev Pq:List AO:=[om 19 17,oo 20 (.elemAddr 10 (.t 15) (.t 17)),oo 21 (.load (.some 10) (.t 20)),oo 8 (.alloc 51 [zI,(.d (.bool .false)),zI,zI,zI,zI,zI,zI,zI,zI]),om 7 19,on (.store 10 (.t 8) (.t 21))]
abbrev RZ:List AO:=[om 22 1,om 23 7,oo 24 (.elemAddr 10 (.t 22) (.t 23)),oo 25 (.load (.some 10) (.t 24)),oo 9 (.alloc 51 [zI,(.d (.bool .false)),zI,zI,zI,zI,zI,zI,zI,zI]),on (.store 10 (.t 9) (.t 25))]
abbrev Sb:List AO:=[om 26 2,oo 27 (.load (.some 10) (.t 8)),oo 28 (.load (.some 10) (.t 9)),oo 29 (.callv (.t 26) [(.t 27),(.t 28)]),oo 30 (.un .not (.t 29))]
abbrev Nh:List AO:=[oo 6 (.mov (cB .false))]
abbrev Xa:List AO:=[oo 31 (.bin .add (.t 17) (cI 1)),om 17 31]
abbrev QW:ACode:=(.seq (.ops Ow) (.seq (.cond (.t 18) .skip (.exit 0)) (.seq (.block 1 (.seq (.ops Pq) (.seq (.ops RZ) (.seq (.ops Sb) (.cond (.t 30) (.seq (.ops Nh) .ret) .skip))))) (.ops Xa))))
abbrev Ot:List AO:=[oo 6 (.mov (cB .true))]
abbrev TE:AFunc:=⟨32,[(.tmp 6)],(.seq (.ops Qi) (.seq (.seq (.ops NK) (.cond (.t 14) (.seq (.ops Oe) .ret) .skip)) (.seq (.seq (.ops PY) (.block 0 (.loop QW))) (.seq (.ops Ot) .ret))))⟩
theorem Mr:EJ Try.prog 44=some TE:=by kernel_rfl
abbrev Mt:FuncId:=45
abbrev VE:List AO:=[oo 6 (.mov (cB .false))]
abbrev RK:List AO:=[om 10 0,oo 11 (.len (.t 10)),om 12 1,oo 13 (.len (.t 12)),oo 14 (.bin .neq (.t 11) (.t 13))]
abbrev PP:List AO:=[oo 6 (.mov (cB .false))]
abbrev Od:List AO:=[om 15 0,oo 16 (.len (.t 15)),oo 17 (.mov (cI 0))]
abbrev Vo:List AO:=[oo 18 (.bin .lss (.t 17) (.t 16))]
abbrev Pe:List AO:=[om 19 17,oo 20 (.elemAddr 16 (.t 15) (.t 17)),oo 21 (.load (.some 16) (.t 20)),oo 8 (.alloc 55 [(.d (.str ⟨⟨[]⟩⟩)),(.d (.bool .false)),zI,zI,zI,zI,zI,zI,zI,zI,zI,(.nilsl 2),zI,(.nilsl 3),zI,zI]),om 7 19,on (.store 16 (.t 8) (.t 21))]
abbrev T0:List AO:=[om 22 1,om 23 7,oo 24 (.elemAddr 16 (.t 22) (.t 23)),oo 25 (.load (.some 16) (.t 24)),oo 9 (.alloc 55 [(.d (.str ⟨⟨[]⟩⟩)),(.d (.bool .false)),zI,zI,zI,zI,zI,zI,zI,zI,zI,(.nilsl 2),zI,(.nilsl 3),zI,zI]),on (.store 16 (.t 9) (.t 25))]
abbrev SP:List AO:=[om 26 2,oo 27 (.load (.some 16) (.t 8)),oo 28 (.load (.some 16) (.t 9)),oo 29 (.callv (.t 26) [(.t 27),(.t 28)]),oo 30 (.un .not (.t 29))]
abbrev Nx:List AO:=[oo 6 (.mov (cB .false))]
abbrev OK:List AO:=[oo 31 (.bin .add (.t 17) (cI 1)),om 17 31]
abbrev Pc:ACode:=(.seq (.ops Vo) (.seq (.cond (.t 18) .skip (.exit 0)) (.seq (.block 1 (.seq (.ops Pe) (.seq (.ops T0) (.seq (.ops SP) (.cond (.t 30) (.seq (.ops Nx) .ret) .skip))))) (.ops OK))))
abbrev Rd:List AO:=[oo 6 (.mov (cB .true))]
abbrev Q4:AFunc:=⟨32,[(.tmp 6)],(.seq (.ops VE) (.seq (.seq (.ops RK) (.cond (.t 14) (.seq (.ops PP) .ret) .skip)) (.seq (.seq (.ops Od) (.block 0 (.loop Pc))) (.seq (.ops Rd) .ret))))⟩
theorem Lu:EJ Try.prog 45=some Q4:=by kernel_rfl
abbrev PB:FuncId:=46
abbrev WP:List AO:=[oo 4 (.mov (cB .false))]
abbrev Pt:List AO:=[om 6 0,oo 7 (.len (.t 6)),om 8 1,oo 9 (.len (.t 8)),oo 10 (.bin .neq (.t 7) (.t 9))]
abbrev XF:List AO:=[oo 4 (.mov (cB .false))]
abbrev Nr:List AO:=[om 11 0,oo 12 (.len (.t 11)),oo 13 (.mov (cI 0))]
abbrev QM:List AO:=[oo 14 (.bin .lss (.t 13) (.t 12))]
abbrev SL:List AO:=[om 15 13,om 5 15]
abbrev VP:List AO:=[om 16 0,om 17 5,oo 18 (.elemAddr 2 (.t 16) (.t 17)),om 20 1,om 21 5,oo 22 (.elemAddr 2 (.t 20) (.t 21)),oo 19 (.load (.some 2) (.t 18)),oo 23 (.load (.some 2) (.t 22)),oo 24 (.eqAgg .true [0,0] (.t 19) (.t 23))]
abbrev Vy:List AO:=[oo 4 (.mov (cB .false))]
abbrev Po:List AO:=[oo 25 (.bin .add (.t 13) (cI 1)),om 13 25]
abbrev QZ:ACode:=(.seq (.ops QM) (.seq (.cond (.t 14) .skip (.exit 0)) (.seq (.block 1 (.seq (.ops SL) (.seq (.dops VP) (.cond (.t 24) (.seq (.ops Vy) .ret) .skip)))) (.ops Po))))
abbrev Rw:List AO:=[oo 4 (.mov (cB .true))]
abbrev Qg:AFunc:=⟨26,[(.tmp 4)],(.seq (.ops WP) (.seq (.seq (.ops Pt) (.cond (.t 10) (.seq (.ops XF) .ret) .skip)) (.seq (.seq (.ops Nr) (.block 0 (.loop QZ))) (.seq (.ops Rw) .ret))))⟩
theorem XU:EJ Try.prog 46=some Qg:=by kernel_rfl
abbrev Ue:FuncId:=47
abbrev RC:List AO:=[oo 4 (.mov (cB .false))]
abbrev XQ:List AO:=[om 6 0,oo 7 (.len (.t 6)),om 8 1,oo 9 (.len (.t 8)),oo 10 (.bin .neq (.t 7) (.t 9))]
abbrev SO:List AO:=[oo 4 (.mov (cB .false))]
abbrev Om:List AO:=[om 11 0,oo 12 (.len (.t 11)),oo 13 (.mov (cI 0))]
abbrev U2:List AO:=[oo 14 (.bin .lss (.t 13) (.t 12))]
abbrev TN:List AO:=[om 15 13,om 5 15]
abbrev XY:List AO:=[om 16 0,om 17 5,oo 18 (.elemAddr 3 (.t 16) (.t 17)),om 20 1,om 21 5,oo 22 (.elemAddr 3 (.t 20) (.t 21)),oo 19 (.load (.some 3) (.t 18)),oo 23 (.load (.some 3) (.t 22)),oo 24 (.eqAgg .true [0,0,0] (.t 19) (.t 23))]
abbrev XM:List AO:=[oo 4 (.mov (cB .false))]
abbrev Wi:List AO:=[oo 25 (.bin .add (.t 13) (cI 1)),om 13 25]
abbrev UP:ACode:=(.seq (.ops U2) (.seq (.cond (.t 14) .skip (.exit 0)) (.seq (.block 1 (.seq (.ops TN) (.seq (.dops XY) (.cond (.t 24) (.seq (.ops XM) .ret) .skip)))) (.ops Wi))))
abbrev Rx:List AO:=[oo 4 (.mov (cB .true))]
abbrev WH:AFunc:=⟨26,[(.tmp 4)],(.seq (.ops RC) (.seq (.seq (.ops XQ) (.cond (.t 10) (.seq (.ops SO) .ret) .skip)) (.seq (.seq (.ops Om) (.block 0 (.loop UP))) (.seq (.ops Rx) .ret))))⟩
theorem Q2:EJ Try.prog 47=some WH:=by kernel_rfl
abbrev Ub:FuncId:=48
abbrev VK:List AO:=[oo 1 (.box 49 (.t 0)),oo 2 (.mov (.c (.nilsl 0)))]
abbrev VT:List AO:=[oo 3 (.mov (.c (.d (.str ⟨⟨[110,111]⟩⟩))))]
abbrev Vc:List AO:=[oo 4 (.fieldAddr 0 (.t 1)),oo 5 (.load .none (.t 4))]
abbrev Wm:List AO:=[oo 3 (.mov (.c (.d (.str ⟨⟨[121,101,115]⟩⟩))))]
abbrev Ur:List AO:=[om 6 3,oo 7 (.fieldAddr 1 (.t 1)),oo 8 (.fieldAddr 0 (.t 7)),oo 11 (.fieldAddr 1 (.t 1)),oo 12 (.fieldAddr 1 (.t 11)),oo 15 (.fieldAddr 1 (.t 1)),oo 16 (.fieldAddr 2 (.t 15)),oo 19 (.fieldAddr 4 (.t 1)),oo 20 (.fieldAddr 0 (.t 19)),oo 23 (.fieldAddr 4 (.t 1)),oo 24 (.fieldAddr 1 (.t 23)),oo 27 (.fieldAddr 4 (.t 1)),oo 28 (.fieldAddr 2 (.t 27)),oo 9 (.load .none (.t 8)),oo 10 (.pcall 49 [(.t 9)]),oo 13 (.load .none (.t 12)),oo 14 (.pcall 49 [(.t 13)]),oo 17 (.load .none (.t 16)),oo 18 (.pcall 49 [(.t 17)]),oo 21 (.load .none (.t 20)),oo 22 (.pcall 49 [(.t 21)]),oo 25 (.load .none (.t 24)),oo 26 (.pcall 49 [(.t 25)]),oo 29 (.load .none (.t 28)),oo 30 (.call 49 [(.t 29)]),oo 31 (.buildSliceD 9 1 7 [(.d (.str ⟨⟨[]⟩⟩))] [⟨0,(.t 6)⟩,⟨1,(.t 10)⟩,⟨2,(.t 14)⟩,⟨3,(.t 18)⟩,⟨4,(.t 22)⟩,⟨5,(.t 26)⟩,⟨6,(.t 30)⟩]),om 2 31]
abbrev Q6:AFunc:=⟨32,[(.tmp 2)],(.seq (.ops VK) (.seq (.ops VT) (.seq (.seq (.ops Vc) (.cond (.t 5) (.ops Wm) .skip)) (.seq (.dops Ur) .ret))))⟩
theorem Ww:EJ Try.prog 48=some Q6:=by kernel_rfl
abbrev Sn:FuncId:=49
abbrev VY:List AO:=[oo 2 (.mov (.c (.d (.str ⟨⟨[]⟩⟩))))]
abbrev NQ:List AO:=[om 4 0,oo 5 (.conv .u64 (.t 4)),om 3 5]
abbrev Nk:List AO:=[om 6 3,oo 7 (.conv .u8 (.t 6)),om 8 3,oo 9 (.bin .shr (.t 8) (.c (.d (.int .u64 8)))),oo 10 (.conv .u8 (.t 9)),om 11 3,oo 12 (.bin .shr (.t 11) (.c (.d (.int .u64 16)))),oo 13 (.conv .u8 (.t 12)),om 14 3,oo 15 (.bin .shr (.t 14) (.c (.d (.int .u64 24)))),oo 16 (.conv .u8 (.t 15)),om 17 3,oo 18 (.bin .shr (.t 17) (.c (.d (.int .u64 32)))),oo 19 (.conv .u8 (.t 18)),om 20 3,oo 21 (.bin .shr (.t 20) (.c (.d (.int .u64 40)))),oo 22 (.conv .u8 (.t 21)),om 23 3,oo 24 (.bin .shr (.t 23) (.c (.d (.int .u64 48)))),oo 25 (.conv .u8 (.t 24)),om 26 3,oo 27 (.bin .shr (.t 26) (.c (.d (.int .u64 56)))),oo 28 (.conv .u8 (.t 27)),oo 29 (.buildSlice 5 1 8 [(.d (.int .u8 0))] [⟨0,(.t 7)⟩,⟨1,(.t 10)⟩,⟨2,(.t 13)⟩,⟨3,(.t 16)⟩,⟨4,(.t 19)⟩,⟨5,(.t 22)⟩,⟨6,(.t 25)⟩,⟨7,(.t 28)⟩]),oo 30 (.strOf (.t 29)),om 2 30]
abbrev OD:AFunc:=⟨31,[(.tmp 2)],(.seq (.ops VY) (.seq (.ops NQ) (.seq (.ops Nk) .ret)))⟩
theorem R2:EJ Try.prog 49=some OD:=by kernel_rfl
abbrev O0:FuncId:=50
abbrev N4:List AO:=[om 8 1,oo 9 (.bin .add (.t 8) (cI 1)),om 6 9]
abbrev TT:List AO:=[om 10 6,om 11 2,oo 12 (.bin .lss (.t 10) (.t 11))]
abbrev XG:List AO:=[om 15 6,om 7 15]
abbrev WW:List AO:=[om 16 7,om 17 1,oo 18 (.bin .gtr (.t 16) (.t 17)),om 19 18,og 20 19 .true (.mov (.t 0)),og 21 19 .true (.mov (.t 7)),og 22 19 .true (.elemAddr 1 (.t 20) (.t 21)),og 24 19 .true (.mov (.t 0)),og 25 19 .true (.mov (.t 7)),og 26 19 .true (.bin .sub (.t 25) (cI 1)),og 27 19 .true (.elemAddr 1 (.t 24) (.t 26)),og 23 19 .true (.load .none (.t 22)),og 28 19 .true (.load .none (.t 27)),og 29 19 .true (.call 56 [(.t 23),(.t 28)]),oo 30 (.pick (.t 19) (.t 29) (cB .false))]
abbrev WV:List AO:=[om 33 0,om 34 7,om 35 0,om 36 7,oo 37 (.bin .sub (.t 36) (cI 1)),om 38 0,om 39 7,oo 40 (.bin .sub (.t 39) (cI 1)),oo 41 (.elemAddr 1 (.t 38) (.t 40)),om 43 0,om 44 7,oo 45 (.elemAddr 1 (.t 43) (.t 44)),oo 42 (.load .none (.t 41)),oo 46 (.load .none (.t 45)),oo 47 (.elemAddr 1 (.t 33) (.t 34)),on (.store 1 (.t 47) (.t 42)),oo 48 (.elemAddr 1 (.t 35) (.t 37)),on (.store 1 (.t 48) (.t 46))]
abbrev Vn:List AO:=[om 31 7,oo 32 (.bin .sub (.t 31) (cI 1)),om 7 32]
abbrev Nu:ACode:=(.seq (.seq (.dops WW) (.cond (.t 30) .skip (.exit 2))) (.seq (.block 3 (.dops WV)) (.ops Vn)))
abbrev Og:List AO:=[om 13 6,oo 14 (.bin .add (.t 13) (cI 1)),om 6 14]
abbrev Tu:ACode:=(.seq (.seq (.ops TT) (.cond (.t 12) .skip (.exit 0))) (.seq (.block 1 (.seq (.ops XG) (.block 2 (.loop Nu)))) (.ops Og)))
abbrev UK:AFunc:=⟨49,[],(.seq (.ops N4) (.block 0 (.loop Tu)))⟩
theorem Oi:EJ Try.prog 50=some UK:=by kernel_rfl
abbrev Vu:FuncId:=56
abbrev TY:List AO:=[oo 4 (.mov (cB .false))]
abbrev S3:List AO:=[om 5 0,oo 6 (.call 66 [(.t 5)]),om 7 6,og 8 7 .true (.mov (.t 1)),og 9 7 .true (.call 66 [(.t 8)]),og 10 7 .true (.un .not (.t 9)),oo 11 (.pick (.t 7) (.t 10) (cB .false)),om 12 11,og 13 12 .false (.mov (.t 0)),og 14 12 .false (.mov (.t 1)),og 15 12 .false (.bin .lss (.t 13) (.t 14)),oo 16 (.pick (.t 12) (cB .true) (.t 15)),om 4 16]
abbrev Ta:AFunc:=⟨17,[(.tmp 4)],(.seq (.ops TY) (.seq (.ops S3) .ret))⟩
theorem Xg:EJ Try.prog 56=some Ta:=by kernel_rfl
abbrev VZ:FuncId:=60
abbrev PQ:List AO:=[oo 2 (.mov (cI 0))]
abbrev Sw:List AO:=[om 3 0,oo 4 (.bin .geq (.t 3) (.c (.d (.int .u64 4294967296))))]
abbrev Ns:List AO:=[om 5 0,oo 6 (.bin .shr (.t 5) (.c (.d (.int .u64 32)))),om 0 6]
abbrev Qf:List AO:=[oo 2 (.mov (cI 32))]
abbrev Ua:List AO:=[om 7 0,oo 8 (.bin .geq (.t 7) (.c (.d (.int .u64 65536))))]
abbrev Nn:List AO:=[om 9 0,oo 10 (.bin .shr (.t 9) (.c (.d (.int .u64 16)))),om 0 10]
abbrev Wu:List AO:=[om 11 2,oo 12 (.bin .add (.t 11) (cI 16)),om 2 12]
abbrev Tg:List AO:=[om 13 0,oo 14 (.bin .geq (.t 13) (.c (.d (.int .u64 256))))]
abbrev UL:List AO:=[om 15 0,oo 16 (.bin .shr (.t 15) (.c (.d (.int .u64 8)))),om 0 16]
abbrev Sd:List AO:=[om 17 2,oo 18 (.bin .add (.t 17) (cI 8)),om 2 18]
abbrev Wr:List AO:=[om 19 2,om 20 0,oo 21 (.conv .u8 (.t 20)),oo 22 (.idxStr (.c (.d (.str ⟨⟨[0,1,2,2,3,3,3,3,4,4,4,4,4,4,4,4,5,5,5,5,5,5,5,5,5,5,5,5,5,5,5,5,6,6,6,6,6,6,6,6,6,6,6,6,6,6,6,6,6,6,6,6,6,6,6,6,6,6,6,6,6,6,6,6,7,7,7,7,7,7,7,7,7,7,7,7,7,7,7,7,7,7,7,7,7,7,7,7,7,7,7,7,7,7,7,7,7,7,7,7,7,7,7,7,7,7,7,7,7,7,7,7,7,7,7,7,7,7,7,7,7,7,7,7,7,7,7,7,8,8,8,8,8,8,8,8,8,8,8,8,8,8,8,8,8,8,8,8,8,8,8,8,8,8,8,8,8,8,8,8,8,8,8,8,8,8,8,8,8,8,8,8,8,8,8,8,8,8,8,8,8,8,8,8,8,8,8,8,8,8,8,8,8,8,8,8,8,8,8,8,8,8,8,8,8,8,8,8,8,8,8,8,8,8,8,8,8,8,8,8,8,8,8,8,8,8,8,8,8,8,8,8,8,8,8,8,8,8,8,8,8,8,8,8,8,8,8,8,8,8,8,8,8,8,8,8]⟩⟩))) (.t 21)),oo 23 (.conv .i64 (.t 22)),oo 24 (.bin .add (.t 19) (.t 23)),om 2 24]
abbrev QV:AFunc:=⟨25,[(.tmp 2)],(.seq (.ops PQ) (.seq (.seq (.ops Sw) (.cond (.t 4) (.seq (.ops Ns) (.ops Qf)) .skip)) (.seq (.seq (.ops Ua) (.cond (.t 8) (.seq (.ops Nn) (.ops Wu)) .skip)) (.seq (.seq (.ops Tg) (.cond (.t 14) (.seq (.ops UL) (.ops Sd)) .skip)) (.seq (.ops Wr) .ret)))))⟩
theorem S0:EJ Try.prog 60=some QV:=by kernel_rfl
abbrev PK:FuncId:=66
abbrev TI:List AO:=[oo 2 (.mov (cB .false))]
abbrev QY:List AO:=[om 3 0,om 4 0,oo 5 (.bin .neq (.t 3) (.t 4)),om 2 5]
abbrev NR:AFunc:=⟨6,[(.tmp 2)],(.seq (.ops TI) (.seq (.ops QY) .ret))⟩
theorem P0:EJ Try.prog 66=some NR:=by kernel_rfl
end Go.Proofs.Ytndepejgafppmaa.Abs
