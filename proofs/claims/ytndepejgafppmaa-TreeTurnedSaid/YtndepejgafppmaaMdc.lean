/- The code of the machine and the contracts of one law (joined by kmerge.py). No claim stands here. -/
import Derived.KernelRfl
import Derived.Test.YtndepejgafppmaaProg
import Derived.Test.YtndepejgafppmaaMdb
set_option maxRecDepth 100000
set_option linter.unusedSimpArgs false
set_option linter.unusedVariables false
namespace Go.Proofs.Ytndepejgafppmaa.Abs
open Go Go.RowKit Go.Proofs
abbrev Fc:FuncId:=6
abbrev OH:List AO:=[oo 3 (.box 28 (.t 0)),oo 6 (.mov (cB .false))]
abbrev Qe:List AO:=[oo 11 (.call 8 []),oo 12 (.un .not (.t 11))]
abbrev TO:List AO:=[oo 6 (.mov (cB .false))]
abbrev RE:List AO:=[oo 13 (.load (.some 13) (.t 3)),oo 14 (.call 9 [(.t 13)])]
abbrev SK:List AO:=[oo 6 (.mov (cB .true))]
abbrev M4:List AO:=[oo 15 (.load (.some 13) (.t 3)),oo 16 (.call 18 [(.t 15)]),oo 7 (.alloc 28 [(.d (.str ⟨⟨[]⟩⟩)),(.d (.str ⟨⟨[]⟩⟩)),zI,zI,zI,zI,zI,zI,(.nilsl 5),(.nilsl 10),(.nilsl 16),zI,zI]),on (.store 13 (.t 7) (.t 16))]
abbrev Q5:List AO:=[oo 8 (.mov (cI 1))]
abbrev Qr:List AO:=[oo 9 (.mov (cB .false))]
abbrev OA:List AO:=[om 17 2,oo 18 (.conv .u64 (.t 17)),oo 19 (.bin .rem (.t 18) (.c (.d (.int .u64 12)))),oo 20 (.conv .i64 (.t 19))]
abbrev OV:List AO:=[oo 103 (.bin .eql (.t 20) (cI 0)),om 102 103]
abbrev Oe:List AO:=[oo 104 (.fieldAddr 0 (.t 7)),oo 105 (.load .none (.t 104)),oo 106 (.bin .add (.t 105) (.c (.d (.str ⟨⟨[122]⟩⟩)))),oo 107 (.fieldAddr 0 (.t 7)),on (.store 1 (.t 107) (.t 106))]
abbrev OP:List AO:=[oo 109 (.bin .eql (.t 20) (cI 1)),om 108 109]
abbrev Sb:List AO:=[oo 110 (.fieldAddr 5 (.t 7)),oo 111 (.fieldAddr 2 (.t 110)),oo 112 (.load .none (.t 111)),oo 113 (.bin .add (.t 112) (cI 1)),oo 114 (.fieldAddr 5 (.t 7)),oo 115 (.fieldAddr 2 (.t 114)),on (.store 1 (.t 115) (.t 113))]
abbrev Rf:List AO:=[oo 117 (.bin .eql (.t 20) (cI 2)),om 116 117]
abbrev Om:List AO:=[oo 118 (.fieldAddr 8 (.t 7)),oo 119 (.load .none (.t 118)),oo 120 (.build [(.d (.str ⟨⟨[]⟩⟩)),(.d (.str ⟨⟨[]⟩⟩)),zI,zI,zI] []),oo 121 (.buildSlice 34 5 1 [(.d (.str ⟨⟨[]⟩⟩)),(.d (.str ⟨⟨[]⟩⟩)),zI,zI,zI] [⟨0,(.t 120)⟩]),oo 122 (.append 34 5 56 [(.d (.str ⟨⟨[]⟩⟩)),(.d (.str ⟨⟨[]⟩⟩)),zI,zI,zI] (.t 119) (.t 121)),oo 123 (.fieldAddr 8 (.t 7)),on (.store 1 (.t 123) (.t 122))]
abbrev Nn:List AO:=[oo 125 (.bin .eql (.t 20) (cI 3)),om 124 125]
abbrev Rz:List AO:=[oo 126 (.fieldAddr 9 (.t 7)),oo 127 (.load .none (.t 126)),oo 128 (.build [zI,(.d (.bool .false)),zI,zI,zI,zI,zI,zI,zI,zI] []),oo 129 (.buildSlice 51 10 1 [zI,(.d (.bool .false)),zI,zI,zI,zI,zI,zI,zI,zI] [⟨0,(.t 128)⟩]),oo 130 (.append 51 10 80 [zI,(.d (.bool .false)),zI,zI,zI,zI,zI,zI,zI,zI] (.t 127) (.t 129)),oo 131 (.fieldAddr 9 (.t 7)),on (.store 1 (.t 131) (.t 130))]
abbrev TJ:List AO:=[oo 133 (.bin .eql (.t 20) (cI 4)),om 132 133]
abbrev TS:List AO:=[oo 134 (.fieldAddr 10 (.t 7)),oo 135 (.load .none (.t 134)),oo 136 (.build [(.d (.str ⟨⟨[]⟩⟩)),(.d (.bool .false)),zI,zI,zI,zI,zI,zI,zI,zI,zI,(.nilsl 2),zI,(.nilsl 3),zI,zI] []),oo 137 (.buildSlice 55 16 1 [(.d (.str ⟨⟨[]⟩⟩)),(.d (.bool .false)),zI,zI,zI,zI,zI,zI,zI,zI,zI,(.nilsl 2),zI,(.nilsl 3),zI,zI] [⟨0,(.t 136)⟩]),oo 138 (.append 55 16 168 [(.d (.str ⟨⟨[]⟩⟩)),(.d (.bool .false)),zI,zI,zI,zI,zI,zI,zI,zI,zI,(.nilsl 2),zI,(.nilsl 3),zI,zI] (.t 135) (.t 137)),oo 139 (.fieldAddr 10 (.t 7)),on (.store 1 (.t 139) (.t 138))]
abbrev O9:List AO:=[oo 141 (.bin .eql (.t 20) (cI 5)),om 140 141]
abbrev Pv:List AO:=[oo 142 (.fieldAddr 11 (.t 7)),on (.store 1 (.t 142) (cI 7)),oo 143 (.fieldAddr 12 (.t 7)),on (.store 1 (.t 143) (cI 8))]
abbrev Mo:List AO:=[oo 9 (.mov (cB .true))]
abbrev PS:List AO:=[oo 21 (.fieldAddr 10 (.t 7)),oo 22 (.load .none (.t 21)),oo 23 (.len (.t 22)),om 8 23]
abbrev Rb:List AO:=[om 24 8,oo 25 (.bin .eql (.t 24) (cI 0))]
abbrev Rc:List AO:=[oo 6 (.mov (cB .true))]
abbrev P1:List AO:=[oo 26 (.fieldAddr 10 (.t 7)),om 28 1,oo 29 (.conv .u64 (.t 28)),om 30 8,oo 31 (.conv .u64 (.t 30)),oo 32 (.bin .rem (.t 29) (.t 31)),oo 33 (.conv .i64 (.t 32)),oo 27 (.load .none (.t 26)),oo 34 (.elemAddr 16 (.t 27) (.t 33)),om 10 34]
abbrev M1:List AO:=[om 35 2,oo 36 (.conv .u64 (.t 35)),oo 37 (.bin .rem (.t 36) (.c (.d (.int .u64 12)))),oo 38 (.conv .i64 (.t 37))]
abbrev T7:List AO:=[oo 40 (.bin .eql (.t 38) (cI 6)),om 39 40]
abbrev Tr:List AO:=[om 41 10,om 42 10,oo 43 (.nilCheck (.t 42)),oo 44 (.fieldAddr 11 (.t 43)),oo 45 (.load .none (.t 44)),oo 46 (.build [zI,zI] []),oo 47 (.buildSlice 58 2 1 [zI,zI] [⟨0,(.t 46)⟩]),oo 48 (.append 58 2 16 [zI,zI] (.t 45) (.t 47)),oo 49 (.nilCheck (.t 41)),oo 50 (.fieldAddr 11 (.t 49)),on (.store 1 (.t 50) (.t 48))]
abbrev O3:List AO:=[oo 52 (.bin .eql (.t 38) (cI 7)),om 51 52]
abbrev Pi:List AO:=[om 53 10,om 54 10,oo 55 (.nilCheck (.t 54)),oo 56 (.fieldAddr 13 (.t 55)),oo 57 (.load .none (.t 56)),oo 58 (.build [zI,zI,zI] []),oo 59 (.buildSlice 60 3 1 [zI,zI,zI] [⟨0,(.t 58)⟩]),oo 60 (.append 60 3 24 [zI,zI,zI] (.t 57) (.t 59)),oo 61 (.nilCheck (.t 53)),oo 62 (.fieldAddr 13 (.t 61)),on (.store 1 (.t 62) (.t 60))]
abbrev U8:List AO:=[oo 64 (.bin .eql (.t 38) (cI 8)),om 63 64]
abbrev P9:List AO:=[om 65 10,om 66 10,oo 67 (.nilCheck (.t 66)),oo 68 (.fieldAddr 1 (.t 67)),oo 69 (.fieldAddr 0 (.t 68)),oo 70 (.load .none (.t 69)),oo 71 (.un .not (.t 70)),oo 72 (.nilCheck (.t 65)),oo 73 (.fieldAddr 1 (.t 72)),oo 74 (.fieldAddr 0 (.t 73)),on (.store 1 (.t 74) (.t 71))]
abbrev Oq:List AO:=[oo 76 (.bin .eql (.t 38) (cI 9)),om 75 76]
abbrev VG:List AO:=[om 77 10,oo 78 (.nilCheck (.t 77)),oo 79 (.fieldAddr 12 (.t 78)),oo 80 (.load .none (.t 79)),oo 81 (.bin .add (.t 80) (cI 1)),oo 82 (.nilCheck (.t 77)),oo 83 (.fieldAddr 12 (.t 82)),on (.store 1 (.t 83) (.t 81))]
abbrev SO:List AO:=[oo 85 (.bin .eql (.t 38) (cI 10)),om 84 85]
abbrev RS:List AO:=[om 86 10,oo 87 (.nilCheck (.t 86)),oo 88 (.fieldAddr 14 (.t 87)),oo 89 (.load .none (.t 88)),oo 90 (.bin .add (.t 89) (cI 1)),oo 91 (.nilCheck (.t 86)),oo 92 (.fieldAddr 14 (.t 91)),on (.store 1 (.t 92) (.t 90))]
abbrev UU:List AO:=[oo 9 (.mov (cB .true))]
abbrev Qv:List AO:=[oo 94 (.bin .eql (.t 38) (cI 11)),om 93 94]
abbrev VO:List AO:=[om 95 10,oo 96 (.nilCheck (.t 95)),oo 97 (.fieldAddr 9 (.t 96)),oo 98 (.load .none (.t 97)),oo 99 (.bin .add (.t 98) (cI 1)),oo 100 (.nilCheck (.t 95)),oo 101 (.fieldAddr 9 (.t 100)),on (.store 1 (.t 101) (.t 99))]
abbrev TN:List AO:=[oo 144 (.load (.some 13) (.t 3)),oo 145 (.load (.some 13) (.t 7)),oo 146 (.call 19 [(.t 144),(.t 145)]),om 147 9,oo 148 (.binb .false (.t 146) (.t 147)),om 149 148,og 150 149 .true (.load (.some 13) (.t 7)),og 151 149 .true (.load (.some 13) (.t 3)),og 152 149 .true (.call 19 [(.t 150),(.t 151)]),og 153 149 .true (.mov (.t 9)),og 154 149 .true (.binb .false (.t 152) (.t 153)),oo 155 (.pick (.t 149) (.t 154) (cB .false)),om 6 155]
abbrev Qs:AFunc:=⟨156,[(.tmp 6)],(.seq (.ops OH) (.seq (.seq (.ops Qe) (.cond (.t 12) (.seq (.ops TO) .ret) .skip)) (.seq (.seq (.ops RE) (.cond (.t 14) (.seq (.ops SK) .ret) .skip)) (.seq (.ops M4) (.seq (.ops Q5) (.seq (.ops Qr) (.seq (.seq (.ops OA) (.block 0 (.seq (.ops OV) (.cond (.t 102) (.ops Oe) (.seq (.ops OP) (.cond (.t 108) (.ops Sb) (.seq (.ops Rf) (.cond (.t 116) (.ops Om) (.seq (.ops Nn) (.cond (.t 124) (.ops Rz) (.seq (.ops TJ) (.cond (.t 132) (.ops TS) (.seq (.ops O9) (.cond (.t 140) (.seq (.ops Pv) (.ops Mo)) (.seq (.ops PS) (.seq (.seq (.ops Rb) (.cond (.t 25) (.seq (.ops Rc) .ret) .skip)) (.seq (.dops P1) (.seq (.ops M1) (.block 1 (.seq (.ops T7) (.cond (.t 39) (.ops Tr) (.seq (.ops O3) (.cond (.t 51) (.ops Pi) (.seq (.ops U8) (.cond (.t 63) (.ops P9) (.seq (.ops Oq) (.cond (.t 75) (.ops VG) (.seq (.ops SO) (.cond (.t 84) (.seq (.ops RS) (.ops UU)) (.seq (.ops Qv) (.cond (.t 93) (.ops VO) .skip))))))))))))))))))))))))))))))) (.seq (.ops TN) .ret))))))))⟩
theorem FW:EU Try.prog 6=some Qs:=by kernel_rfl
abbrev Tv:FuncId:=8
abbrev VD:List AO:=[oo 0 (.mov (cB .false))]
abbrev UE:List AO:=[oo 4 (.build [(.d (.str ⟨⟨[]⟩⟩)),(.d (.str ⟨⟨[]⟩⟩)),zI,zI,zI] [⟨0,⟨1,(.c (.d (.str ⟨⟨[98]⟩⟩)))⟩⟩]),oo 5 (.build [(.d (.str ⟨⟨[]⟩⟩)),(.d (.str ⟨⟨[]⟩⟩)),zI,zI,zI] [⟨0,⟨1,(.c (.d (.str ⟨⟨[97]⟩⟩)))⟩⟩]),oo 6 (.buildSlice 34 5 2 [(.d (.str ⟨⟨[]⟩⟩)),(.d (.str ⟨⟨[]⟩⟩)),zI,zI,zI] [⟨0,(.t 4)⟩,⟨1,(.t 5)⟩]),oo 7 (.build [(.d (.str ⟨⟨[]⟩⟩)),(.d (.str ⟨⟨[]⟩⟩)),zI,zI,zI,zI,zI,zI,(.nilsl 5),(.nilsl 10),(.nilsl 16),zI,zI] [⟨0,⟨1,(.c (.d (.str ⟨⟨[112]⟩⟩)))⟩⟩,⟨8,⟨1,(.t 6)⟩⟩]),oo 1 (.alloc 28 [(.d (.str ⟨⟨[]⟩⟩)),(.d (.str ⟨⟨[]⟩⟩)),zI,zI,zI,zI,zI,zI,(.nilsl 5),(.nilsl 10),(.nilsl 16),zI,zI]),on (.store 13 (.t 1) (.t 7))]
abbrev Rv:List AO:=[oo 8 (.build [(.d (.str ⟨⟨[]⟩⟩)),(.d (.str ⟨⟨[]⟩⟩)),zI,zI,zI] [⟨0,⟨1,(.c (.d (.str ⟨⟨[98]⟩⟩)))⟩⟩,⟨4,⟨1,(cI 7)⟩⟩]),oo 9 (.build [(.d (.str ⟨⟨[]⟩⟩)),(.d (.str ⟨⟨[]⟩⟩)),zI,zI,zI] [⟨0,⟨1,(.c (.d (.str ⟨⟨[97]⟩⟩)))⟩⟩]),oo 10 (.buildSlice 34 5 2 [(.d (.str ⟨⟨[]⟩⟩)),(.d (.str ⟨⟨[]⟩⟩)),zI,zI,zI] [⟨0,(.t 8)⟩,⟨1,(.t 9)⟩]),oo 11 (.build [zI,(.d (.bool .false)),zI,zI,zI,zI,zI,zI,zI,zI] [⟨0,⟨1,(cI 5)⟩⟩]),oo 12 (.buildSlice 51 10 1 [zI,(.d (.bool .false)),zI,zI,zI,zI,zI,zI,zI,zI] [⟨0,(.t 11)⟩]),oo 13 (.build [(.d (.str ⟨⟨[]⟩⟩)),(.d (.str ⟨⟨[]⟩⟩)),zI,zI,zI,zI,zI,zI,(.nilsl 5),(.nilsl 10),(.nilsl 16),zI,zI] [⟨0,⟨1,(.c (.d (.str ⟨⟨[112]⟩⟩)))⟩⟩,⟨11,⟨1,(cI 3)⟩⟩,⟨8,⟨1,(.t 10)⟩⟩,⟨9,⟨1,(.t 12)⟩⟩]),oo 2 (.alloc 28 [(.d (.str ⟨⟨[]⟩⟩)),(.d (.str ⟨⟨[]⟩⟩)),zI,zI,zI,zI,zI,zI,(.nilsl 5),(.nilsl 10),(.nilsl 16),zI,zI]),on (.store 13 (.t 2) (.t 13))]
abbrev Mm:List AO:=[oo 14 (.load (.some 13) (.t 1)),oo 15 (.call 10 [(.t 14)]),om 3 15]
abbrev Pd:List AO:=[oo 16 (.load (.some 13) (.t 1)),oo 17 (.load (.some 13) (.t 1)),oo 18 (.call 19 [(.t 16),(.t 17)]),om 19 18,og 20 19 .true (.load (.some 13) (.t 1)),og 21 19 .true (.load (.some 13) (.t 2)),og 22 19 .true (.call 19 [(.t 20),(.t 21)]),og 23 19 .true (.un .not (.t 22)),oo 24 (.pick (.t 19) (.t 23) (cB .false)),om 25 24,og 26 25 .true (.load (.some 13) (.t 1)),og 27 25 .true (.call 11 [(.t 26),(.c (.d (.str ⟨⟨[97]⟩⟩)))]),og 28 25 .true (.bin .eql (.t 27) (cI 1)),oo 29 (.pick (.t 25) (.t 28) (cB .false)),om 30 29,og 31 30 .true (.mov (.t 3)),og 32 30 .true (.len (.t 31)),og 33 30 .true (.bin .eql (.t 32) (cI 2)),oo 34 (.pick (.t 30) (.t 33) (cB .false)),om 35 34,og 36 35 .true (.mov (.t 3)),og 37 35 .true (.elemAddr 1 (.t 36) (cI 0)),og 38 35 .true (.load .none (.t 37)),og 39 35 .true (.bin .eql (.t 38) (.c (.d (.str ⟨⟨[97]⟩⟩)))),oo 40 (.pick (.t 35) (.t 39) (cB .false)),om 0 40]
abbrev QJ:AFunc:=⟨41,[(.tmp 0)],(.seq (.ops VD) (.seq (.ops UE) (.seq (.ops Rv) (.seq (.ops Mm) (.seq (.ops Pd) .ret)))))⟩
theorem PM:EU Try.prog 8=some QJ:=by kernel_rfl
abbrev T1:FuncId:=9
abbrev VB:List AO:=[oo 1 (.box 28 (.t 0)),oo 2 (.mov (cB .false))]
abbrev QE:List AO:=[oo 7 (.fieldAddr 8 (.t 1)),oo 8 (.load .none (.t 7)),oo 9 (.len (.t 8)),oo 10 (.bin .gtr (.t 9) (cI 20)),om 11 10,og 12 11 .false (.fieldAddr 9 (.t 1)),og 13 11 .false (.load .none (.t 12)),og 14 11 .false (.len (.t 13)),og 15 11 .false (.bin .gtr (.t 14) (cI 40)),oo 16 (.pick (.t 11) (cB .true) (.t 15)),om 17 16,og 18 17 .false (.fieldAddr 10 (.t 1)),og 19 17 .false (.load .none (.t 18)),og 20 17 .false (.len (.t 19)),og 21 17 .false (.bin .gtr (.t 20) (cI 40)),oo 22 (.pick (.t 17) (cB .true) (.t 21)),om 23 22,og 24 23 .false (.fieldAddr 0 (.t 1)),og 25 23 .false (.load .none (.t 24)),og 26 23 .false (.slen (.t 25)),og 27 23 .false (.bin .gtr (.t 26) (cI 200)),oo 28 (.pick (.t 23) (cB .true) (.t 27)),om 29 28,og 30 29 .false (.fieldAddr 1 (.t 1)),og 31 29 .false (.load .none (.t 30)),og 32 29 .false (.slen (.t 31)),og 33 29 .false (.bin .gtr (.t 32) (cI 200)),oo 34 (.pick (.t 29) (cB .true) (.t 33))]
abbrev UN:List AO:=[oo 2 (.mov (cB .true))]
abbrev N6:List AO:=[oo 35 (.fieldAddr 8 (.t 1)),oo 36 (.load .none (.t 35)),oo 37 (.len (.t 36)),oo 38 (.mov (cI 0))]
abbrev VJ:List AO:=[oo 39 (.bin .lss (.t 38) (.t 37))]
abbrev Ph:List AO:=[oo 40 (.elemAddr 5 (.t 36) (.t 38)),oo 41 (.load (.some 5) (.t 40)),oo 4 (.alloc 34 [(.d (.str ⟨⟨[]⟩⟩)),(.d (.str ⟨⟨[]⟩⟩)),zI,zI,zI]),on (.store 5 (.t 4) (.t 41))]
abbrev Ou:List AO:=[oo 42 (.fieldAddr 0 (.t 4)),oo 43 (.load .none (.t 42)),oo 44 (.slen (.t 43)),oo 45 (.bin .gtr (.t 44) (cI 200)),om 46 45,og 47 46 .false (.fieldAddr 1 (.t 4)),og 48 46 .false (.load .none (.t 47)),og 49 46 .false (.slen (.t 48)),og 50 46 .false (.bin .gtr (.t 49) (cI 200)),oo 51 (.pick (.t 46) (cB .true) (.t 50))]
abbrev SG:List AO:=[oo 2 (.mov (cB .true))]
abbrev NK:List AO:=[oo 52 (.bin .add (.t 38) (cI 1)),om 38 52]
abbrev PZ:ACode:=(.seq (.ops VJ) (.seq (.cond (.t 39) .skip (.exit 0)) (.seq (.block 1 (.seq (.ops Ph) (.seq (.ops Ou) (.cond (.t 51) (.seq (.ops SG) .ret) .skip)))) (.ops NK))))
abbrev Qj:List AO:=[oo 53 (.fieldAddr 10 (.t 1)),oo 54 (.load .none (.t 53)),oo 55 (.len (.t 54)),oo 56 (.mov (cI 0))]
abbrev VM:List AO:=[oo 57 (.bin .lss (.t 56) (.t 55))]
abbrev NI:List AO:=[oo 58 (.elemAddr 16 (.t 54) (.t 56)),oo 59 (.load (.some 16) (.t 58)),oo 6 (.alloc 55 [(.d (.str ⟨⟨[]⟩⟩)),(.d (.bool .false)),zI,zI,zI,zI,zI,zI,zI,zI,zI,(.nilsl 2),zI,(.nilsl 3),zI,zI]),on (.store 16 (.t 6) (.t 59))]
abbrev M2:List AO:=[oo 60 (.fieldAddr 11 (.t 6)),oo 61 (.load .none (.t 60)),oo 62 (.len (.t 61)),oo 63 (.bin .gtr (.t 62) (cI 40)),om 64 63,og 65 64 .false (.fieldAddr 13 (.t 6)),og 66 64 .false (.load .none (.t 65)),og 67 64 .false (.len (.t 66)),og 68 64 .false (.bin .gtr (.t 67) (cI 40)),oo 69 (.pick (.t 64) (cB .true) (.t 68)),om 70 69,og 71 70 .false (.fieldAddr 0 (.t 6)),og 72 70 .false (.load .none (.t 71)),og 73 70 .false (.slen (.t 72)),og 74 70 .false (.bin .gtr (.t 73) (cI 200)),oo 75 (.pick (.t 70) (cB .true) (.t 74))]
abbrev TU:List AO:=[oo 2 (.mov (cB .true))]
abbrev NB:List AO:=[oo 76 (.bin .add (.t 56) (cI 1)),om 56 76]
abbrev RN:ACode:=(.seq (.ops VM) (.seq (.cond (.t 57) .skip (.exit 2)) (.seq (.block 3 (.seq (.ops NI) (.seq (.ops M2) (.cond (.t 75) (.seq (.ops TU) .ret) .skip)))) (.ops NB))))
abbrev Uv:List AO:=[oo 2 (.mov (cB .false))]
abbrev T8:AFunc:=⟨77,[(.tmp 2)],(.seq (.ops VB) (.seq (.seq (.ops QE) (.cond (.t 34) (.seq (.ops UN) .ret) .skip)) (.seq (.seq (.ops N6) (.block 0 (.loop PZ))) (.seq (.seq (.ops Qj) (.block 2 (.loop RN))) (.seq (.ops Uv) .ret)))))⟩
theorem TG:EU Try.prog 9=some T8:=by kernel_rfl
abbrev SP:FuncId:=10
abbrev Va:List AO:=[oo 1 (.box 28 (.t 0)),oo 2 (.mov (.c (.nilsl 0)))]
abbrev SA:List AO:=[oo 3 (.mov (.c (.nilsl 0)))]
abbrev Pu:List AO:=[oo 6 (.fieldAddr 8 (.t 1)),oo 7 (.load .none (.t 6)),oo 8 (.len (.t 7)),oo 9 (.mov (cI 0))]
abbrev RI:List AO:=[oo 10 (.bin .lss (.t 9) (.t 8))]
abbrev T5:List AO:=[oo 11 (.elemAddr 5 (.t 7) (.t 9)),oo 12 (.load (.some 5) (.t 11)),oo 5 (.alloc 34 [(.d (.str ⟨⟨[]⟩⟩)),(.d (.str ⟨⟨[]⟩⟩)),zI,zI,zI]),on (.store 5 (.t 5) (.t 12))]
abbrev Q8:List AO:=[om 13 3,oo 14 (.fieldAddr 0 (.t 5)),oo 15 (.load .none (.t 14)),oo 16 (.buildSlice 9 1 1 [(.d (.str ⟨⟨[]⟩⟩))] [⟨0,(.t 15)⟩]),oo 17 (.append 9 1 16 [(.d (.str ⟨⟨[]⟩⟩))] (.t 13) (.t 16)),om 3 17]
abbrev R1:List AO:=[oo 18 (.bin .add (.t 9) (cI 1)),om 9 18]
abbrev Oj:ACode:=(.seq (.ops RI) (.seq (.cond (.t 10) .skip (.exit 0)) (.seq (.block 1 (.seq (.ops T5) (.ops Q8))) (.ops R1))))
abbrev Q9:List AO:=[om 19 3,oo 20 (.call 22 [(.t 19)])]
abbrev Mu:List AO:=[om 21 3,om 2 21]
abbrev Tp:AFunc:=⟨22,[(.tmp 2)],(.seq (.ops Va) (.seq (.ops SA) (.seq (.seq (.ops Pu) (.block 0 (.loop Oj))) (.seq (.ops Q9) (.seq (.ops Mu) .ret)))))⟩
theorem U1:EU Try.prog 10=some Tp:=by kernel_rfl
abbrev QL:FuncId:=11
abbrev PA:List AO:=[oo 2 (.box 28 (.t 0)),oo 3 (.box 9 (.t 1)),oo 4 (.mov (cI 0))]
abbrev QH:List AO:=[oo 5 (.fieldAddr 8 (.t 2)),oo 6 (.load .none (.t 5)),oo 7 (.mkfn 24 [(.t 3)]),oo 8 (.call 23 [(.t 6),(.t 7)]),om 4 8]
abbrev R6:AFunc:=⟨9,[(.tmp 4)],(.seq (.ops PA) (.seq (.ops QH) .ret))⟩
theorem Og:EU Try.prog 11=some R6:=by kernel_rfl
abbrev LS:FuncId:=18
abbrev VA:List AO:=[oo 1 (.box 28 (.t 0)),oo 2 (.alloc 28 [(.d (.str ⟨⟨[]⟩⟩)),(.d (.str ⟨⟨[]⟩⟩)),zI,zI,zI,zI,zI,zI,(.nilsl 5),(.nilsl 10),(.nilsl 16),zI,zI])]
abbrev Q6:List AO:=[oo 7 (.fieldAddr 11 (.t 1)),on (.store 1 (.t 7) (cI 0)),oo 8 (.fieldAddr 12 (.t 1)),on (.store 1 (.t 8) (cI 0))]
abbrev TC:List AO:=[oo 9 (.fieldAddr 8 (.t 1)),oo 12 (.fieldAddr 9 (.t 1)),oo 15 (.fieldAddr 10 (.t 1)),oo 10 (.load .none (.t 9)),oo 13 (.load .none (.t 12)),oo 16 (.load .none (.t 15)),oo 11 (.ncall 27 [(.t 10)]),oo 18 (.fieldAddr 8 (.t 1)),oo 14 (.ncall 28 [(.t 13)]),oo 17 (.call 29 [(.t 16)]),on (.store 1 (.t 18) (.t 11)),oo 19 (.fieldAddr 9 (.t 1)),on (.store 1 (.t 19) (.t 14)),oo 20 (.fieldAddr 10 (.t 1)),on (.store 1 (.t 20) (.t 17))]
abbrev Ne:List AO:=[oo 21 (.fieldAddr 8 (.t 1)),oo 22 (.load .none (.t 21)),oo 23 (.len (.t 22)),oo 24 (.mov (cI 0))]
abbrev Mh:List AO:=[oo 25 (.bin .lss (.t 24) (.t 23))]
abbrev Ns:List AO:=[om 26 24,om 3 26]
abbrev O5:List AO:=[oo 27 (.fieldAddr 8 (.t 1)),om 29 3,oo 30 (.fieldAddr 8 (.t 1)),om 32 3,oo 28 (.load .none (.t 27)),oo 33 (.elemAddr 5 (.t 28) (.t 29)),oo 34 (.fieldAddr 3 (.t 33)),oo 31 (.loadP .none 30),on (.storeR 1 (.t 34) (cI 0)),oo 35 (.elemAddr 5 (.t 31) (.t 32)),oo 36 (.fieldAddr 4 (.t 35)),on (.store 1 (.t 36) (cI 0))]
abbrev QY:List AO:=[oo 37 (.bin .add (.t 24) (cI 1)),om 24 37]
abbrev QP:ACode:=(.seq (.ops Mh) (.seq (.cond (.t 25) .skip (.exit 0)) (.seq (.block 1 (.seq (.ops Ns) (.dops O5))) (.ops QY))))
abbrev Qp:List AO:=[oo 38 (.fieldAddr 9 (.t 1)),oo 39 (.load .none (.t 38)),oo 40 (.len (.t 39)),oo 41 (.mov (cI 0))]
abbrev U0:List AO:=[oo 42 (.bin .lss (.t 41) (.t 40))]
abbrev Pz:List AO:=[om 43 41,om 4 43]
abbrev UV:List AO:=[oo 44 (.fieldAddr 9 (.t 1)),om 46 4,oo 47 (.fieldAddr 9 (.t 1)),om 49 4,oo 45 (.load .none (.t 44)),oo 50 (.elemAddr 10 (.t 45) (.t 46)),oo 51 (.fieldAddr 8 (.t 50)),oo 48 (.loadP .none 47),on (.storeR 1 (.t 51) (cI 0)),oo 52 (.elemAddr 10 (.t 48) (.t 49)),oo 53 (.fieldAddr 9 (.t 52)),on (.store 1 (.t 53) (cI 0))]
abbrev Rt:List AO:=[oo 54 (.bin .add (.t 41) (cI 1)),om 41 54]
abbrev OE:ACode:=(.seq (.ops U0) (.seq (.cond (.t 42) .skip (.exit 2)) (.seq (.block 3 (.seq (.ops Pz) (.dops UV))) (.ops Rt))))
abbrev Oa:List AO:=[oo 55 (.fieldAddr 10 (.t 1)),oo 56 (.load .none (.t 55)),oo 57 (.len (.t 56)),oo 58 (.mov (cI 0))]
abbrev Us:List AO:=[oo 59 (.bin .lss (.t 58) (.t 57))]
abbrev Sk:List AO:=[om 60 58,om 5 60]
abbrev TP:List AO:=[oo 61 (.fieldAddr 10 (.t 1)),oo 62 (.load .none (.t 61)),om 63 5,oo 64 (.elemAddr 16 (.t 62) (.t 63)),om 6 64]
abbrev VZ:List AO:=[om 65 6,om 66 6,oo 67 (.nilCheck (.t 65)),oo 68 (.fieldAddr 14 (.t 67)),on (.store 1 (.t 68) (cI 0)),oo 69 (.nilCheck (.t 66)),oo 70 (.fieldAddr 15 (.t 69)),on (.store 1 (.t 70) (cI 0))]
abbrev Sp:List AO:=[om 71 6,om 72 6,om 73 6,oo 74 (.nilCheck (.t 73)),oo 75 (.fieldAddr 11 (.t 74)),om 78 6,oo 79 (.nilCheck (.t 78)),oo 80 (.fieldAddr 13 (.t 79)),oo 76 (.load .none (.t 75)),oo 81 (.load .none (.t 80)),oo 77 (.ncall 30 [(.t 76)]),oo 82 (.call 31 [(.t 81)]),oo 83 (.nilCheck (.t 71)),oo 84 (.fieldAddr 11 (.t 83)),on (.store 1 (.t 84) (.t 77)),oo 85 (.nilCheck (.t 72)),oo 86 (.fieldAddr 13 (.t 85)),on (.store 1 (.t 86) (.t 82))]
abbrev Sn:List AO:=[oo 87 (.bin .add (.t 58) (cI 1)),om 58 87]
abbrev Mn:ACode:=(.seq (.ops Us) (.seq (.cond (.t 59) .skip (.exit 4)) (.seq (.block 5 (.seq (.ops Sk) (.seq (.ops TP) (.seq (.ops VZ) (.dops Sp))))) (.ops Sn))))
abbrev OR:List AO:=[oo 88 (.load (.some 13) (.t 1)),on (.store 13 (.t 2) (.t 88))]
abbrev OW:AFunc:=⟨89,[(.cell 2 (.some 13))],(.seq (.ops VA) (.seq (.ops Q6) (.seq (.dops TC) (.seq (.seq (.ops Ne) (.block 0 (.loop QP))) (.seq (.seq (.ops Qp) (.block 2 (.loop OE))) (.seq (.seq (.ops Oa) (.block 4 (.loop Mn))) (.seq (.ops OR) .ret)))))))⟩
theorem PC:EU Try.prog 18=some OW:=by kernel_rfl
abbrev ML:FuncId:=19
abbrev VW:List AO:=[oo 2 (.box 28 (.t 0)),oo 3 (.box 28 (.t 1)),oo 4 (.mov (cB .false))]
abbrev S2:List AO:=[oo 5 (.fieldAddr 0 (.t 2)),oo 6 (.load .none (.t 5)),oo 7 (.fieldAddr 0 (.t 3)),oo 8 (.load .none (.t 7)),oo 9 (.bin .eql (.t 6) (.t 8)),om 10 9,og 11 10 .true (.fieldAddr 1 (.t 2)),og 12 10 .true (.load .none (.t 11)),og 13 10 .true (.fieldAddr 1 (.t 3)),og 14 10 .true (.load .none (.t 13)),og 15 10 .true (.bin .eql (.t 12) (.t 14)),oo 16 (.pick (.t 10) (.t 15) (cB .false)),om 17 16,og 18 17 .true (.fieldAddr 2 (.t 2)),og 19 17 .true (.load (.some 3) (.t 18)),og 20 17 .true (.fieldAddr 2 (.t 3)),og 21 17 .true (.load (.some 3) (.t 20)),og 22 17 .true (.eqAgg .false [0,0,0] (.t 19) (.t 21)),oo 23 (.pick (.t 17) (.t 22) (cB .false)),om 24 23,og 25 24 .true (.fieldAddr 5 (.t 2)),og 26 24 .true (.load (.some 3) (.t 25)),og 27 24 .true (.fieldAddr 5 (.t 3)),og 28 24 .true (.load (.some 3) (.t 27)),og 29 24 .true (.eqAgg .false [0,0,0] (.t 26) (.t 28)),oo 30 (.pick (.t 24) (.t 29) (cB .false)),om 31 30,og 32 31 .true (.fieldAddr 8 (.t 2)),og 33 31 .true (.load .none (.t 32)),og 34 31 .true (.fieldAddr 8 (.t 3)),og 35 31 .true (.load .none (.t 34)),og 36 31 .true (.call 32 [(.t 33),(.t 35),(.c (.fn 33 []))]),oo 37 (.pick (.t 31) (.t 36) (cB .false)),om 38 37,og 39 38 .true (.fieldAddr 9 (.t 2)),og 40 38 .true (.load .none (.t 39)),og 41 38 .true (.fieldAddr 9 (.t 3)),og 42 38 .true (.load .none (.t 41)),og 43 38 .true (.call 34 [(.t 40),(.t 42),(.c (.fn 35 []))]),oo 44 (.pick (.t 38) (.t 43) (cB .false)),om 45 44,og 46 45 .true (.fieldAddr 10 (.t 2)),og 47 45 .true (.load .none (.t 46)),og 48 45 .true (.fieldAddr 10 (.t 3)),og 49 45 .true (.load .none (.t 48)),og 50 45 .true (.call 36 [(.t 47),(.t 49),(.c (.fn 37 []))]),oo 51 (.pick (.t 45) (.t 50) (cB .false)),om 4 51]
abbrev PO:AFunc:=⟨52,[(.tmp 4)],(.seq (.ops VW) (.seq (.ops S2) .ret))⟩
theorem Ki:EU Try.prog 19=some PO:=by kernel_rfl
abbrev Pt:FuncId:=22
abbrev O2:List AO:=[om 3 0,oo 4 (.len (.t 3)),om 2 4]
abbrev RL:List AO:=[om 5 0,om 6 2,om 7 2,oo 8 (.conv .u64 (.t 7)),oo 9 (.call 41 [(.t 8)]),oo 10 (.call 40 [(.t 5),(cI 0),(.t 6),(.t 9)])]
abbrev Rj:AFunc:=⟨11,[],(.seq (.ops O2) (.ops RL))⟩
theorem OB:EU Try.prog 22=some Rj:=by kernel_rfl
abbrev Sz:FuncId:=23
abbrev Uj:List AO:=[oo 4 (.mov (cI 0))]
abbrev Ue:List AO:=[om 5 0,om 6 1,oo 7 (.call 42 [(.t 5),(.t 6)]),om 4 7]
abbrev Ru:AFunc:=⟨8,[(.tmp 4)],(.seq (.ops Uj) (.seq (.ops Ue) .ret))⟩
theorem ND:EU Try.prog 23=some Ru:=by kernel_rfl
abbrev IL:FuncId:=24
abbrev SW:List AO:=[oo 2 (.box 34 (.t 0)),oo 3 (.mov (cB .false))]
abbrev Rg:List AO:=[oo 4 (.fieldAddr 0 (.t 2)),oo 5 (.load .none (.t 4)),oo 6 (.load .none (.t 1)),oo 7 (.bin .eql (.t 5) (.t 6)),om 3 7]
abbrev NO:AFunc:=⟨8,[(.tmp 3)],(.seq (.ops SW) (.seq (.ops Rg) .ret))⟩
theorem NG:EU Try.prog 24=some NO:=by kernel_rfl
abbrev Ul:FuncId:=27
abbrev M0:List AO:=[oo 2 (.mov (.c (.nilsl 0)))]
abbrev Up:List AO:=[om 3 0,oo 4 (.isNil .false (.t 3))]
abbrev UA:List AO:=[oo 2 (.mov (.c (.nilsl 0)))]
abbrev RB:List AO:=[oo 5 (.buildSlice 34 5 0 [(.d (.str ⟨⟨[]⟩⟩)),(.d (.str ⟨⟨[]⟩⟩)),zI,zI,zI] []),om 6 0,oo 7 (.append 34 5 56 [(.d (.str ⟨⟨[]⟩⟩)),(.d (.str ⟨⟨[]⟩⟩)),zI,zI,zI] (.t 5) (.t 6)),om 2 7]
abbrev PR:AFunc:=⟨8,[(.tmp 2)],(.seq (.ops M0) (.seq (.seq (.ops Up) (.cond (.t 4) (.seq (.ops UA) .ret) .skip)) (.seq (.ops RB) .ret)))⟩
theorem Uz:EU Try.prog 27=some PR:=by kernel_rfl
abbrev OQ:FuncId:=28
abbrev NC:List AO:=[oo 2 (.mov (.c (.nilsl 0)))]
abbrev Rr:List AO:=[om 3 0,oo 4 (.isNil .false (.t 3))]
abbrev Nl:List AO:=[oo 2 (.mov (.c (.nilsl 0)))]
abbrev PF:List AO:=[oo 5 (.buildSlice 51 10 0 [zI,(.d (.bool .false)),zI,zI,zI,zI,zI,zI,zI,zI] []),om 6 0,oo 7 (.append 51 10 80 [zI,(.d (.bool .false)),zI,zI,zI,zI,zI,zI,zI,zI] (.t 5) (.t 6)),om 2 7]
abbrev Qy:AFunc:=⟨8,[(.tmp 2)],(.seq (.ops NC) (.seq (.seq (.ops Rr) (.cond (.t 4) (.seq (.ops Nl) .ret) .skip)) (.seq (.ops PF) .ret)))⟩
theorem OG:EU Try.prog 28=some Qy:=by kernel_rfl
abbrev Q2:FuncId:=29
abbrev QT:List AO:=[oo 2 (.mov (.c (.nilsl 0)))]
abbrev Qb:List AO:=[om 3 0,oo 4 (.isNil .false (.t 3))]
abbrev Mz:List AO:=[oo 2 (.mov (.c (.nilsl 0)))]
abbrev SS:List AO:=[oo 5 (.buildSlice 55 16 0 [(.d (.str ⟨⟨[]⟩⟩)),(.d (.bool .false)),zI,zI,zI,zI,zI,zI,zI,zI,zI,(.nilsl 2),zI,(.nilsl 3),zI,zI] []),om 6 0,oo 7 (.append 55 16 168 [(.d (.str ⟨⟨[]⟩⟩)),(.d (.bool .false)),zI,zI,zI,zI,zI,zI,zI,zI,zI,(.nilsl 2),zI,(.nilsl 3),zI,zI] (.t 5) (.t 6)),om 2 7]
abbrev UG:AFunc:=⟨8,[(.tmp 2)],(.seq (.ops QT) (.seq (.seq (.ops Qb) (.cond (.t 4) (.seq (.ops Mz) .ret) .skip)) (.seq (.ops SS) .ret)))⟩
theorem NY:EU Try.prog 29=some UG:=by kernel_rfl
abbrev Tg:FuncId:=30
abbrev Uw:List AO:=[oo 2 (.mov (.c (.nilsl 0)))]
abbrev Ng:List AO:=[om 3 0,oo 4 (.isNil .false (.t 3))]
abbrev Nv:List AO:=[oo 2 (.mov (.c (.nilsl 0)))]
abbrev QG:List AO:=[oo 5 (.buildSlice 58 2 0 [zI,zI] []),om 6 0,oo 7 (.append 58 2 16 [zI,zI] (.t 5) (.t 6)),om 2 7]
abbrev S8:AFunc:=⟨8,[(.tmp 2)],(.seq (.ops Uw) (.seq (.seq (.ops Ng) (.cond (.t 4) (.seq (.ops Nv) .ret) .skip)) (.seq (.ops QG) .ret)))⟩
theorem Os:EU Try.prog 30=some S8:=by kernel_rfl
abbrev Sr:FuncId:=31
abbrev OK:List AO:=[oo 2 (.mov (.c (.nilsl 0)))]
abbrev Ry:List AO:=[om 3 0,oo 4 (.isNil .false (.t 3))]
abbrev Uy:List AO:=[oo 2 (.mov (.c (.nilsl 0)))]
abbrev Q0:List AO:=[oo 5 (.buildSlice 60 3 0 [zI,zI,zI] []),om 6 0,oo 7 (.append 60 3 24 [zI,zI,zI] (.t 5) (.t 6)),om 2 7]
abbrev VT:AFunc:=⟨8,[(.tmp 2)],(.seq (.ops OK) (.seq (.seq (.ops Ry) (.cond (.t 4) (.seq (.ops Uy) .ret) .skip)) (.seq (.ops Q0) .ret)))⟩
theorem UK:EU Try.prog 31=some VT:=by kernel_rfl
abbrev MB:FuncId:=32
abbrev PY:List AO:=[oo 6 (.mov (cB .false))]
abbrev Py:List AO:=[om 7 0,om 8 1,om 9 2,oo 10 (.call 43 [(.t 7),(.t 8),(.t 9)]),om 6 10]
abbrev TF:AFunc:=⟨11,[(.tmp 6)],(.seq (.ops PY) (.seq (.ops Py) .ret))⟩
theorem KU:EU Try.prog 32=some TF:=by kernel_rfl
abbrev H6:FuncId:=33
abbrev RX:List AO:=[oo 2 (.box 34 (.t 0)),oo 3 (.box 34 (.t 1)),oo 4 (.mov (cB .false))]
abbrev SX:List AO:=[oo 5 (.fieldAddr 0 (.t 2)),oo 6 (.load .none (.t 5)),oo 7 (.fieldAddr 0 (.t 3)),oo 8 (.load .none (.t 7)),oo 9 (.bin .eql (.t 6) (.t 8)),om 10 9,og 11 10 .true (.fieldAddr 1 (.t 2)),og 12 10 .true (.load .none (.t 11)),og 13 10 .true (.fieldAddr 1 (.t 3)),og 14 10 .true (.load .none (.t 13)),og 15 10 .true (.bin .eql (.t 12) (.t 14)),oo 16 (.pick (.t 10) (.t 15) (cB .false)),om 17 16,og 18 17 .true (.fieldAddr 2 (.t 2)),og 19 17 .true (.load .none (.t 18)),og 20 17 .true (.fieldAddr 2 (.t 3)),og 21 17 .true (.load .none (.t 20)),og 22 17 .true (.bin .eql (.t 19) (.t 21)),oo 23 (.pick (.t 17) (.t 22) (cB .false)),om 4 23]
abbrev UP:AFunc:=⟨24,[(.tmp 4)],(.seq (.ops RX) (.seq (.ops SX) .ret))⟩
theorem LP:EU Try.prog 33=some UP:=by kernel_rfl
abbrev JC:FuncId:=34
abbrev Ua:List AO:=[oo 6 (.mov (cB .false))]
abbrev Mx:List AO:=[om 7 0,om 8 1,om 9 2,oo 10 (.call 44 [(.t 7),(.t 8),(.t 9)]),om 6 10]
abbrev RA:AFunc:=⟨11,[(.tmp 6)],(.seq (.ops Ua) (.seq (.ops Mx) .ret))⟩
theorem MQ:EU Try.prog 34=some RA:=by kernel_rfl
abbrev Ig:FuncId:=35
abbrev S6:List AO:=[oo 2 (.box 51 (.t 0)),oo 3 (.box 51 (.t 1)),oo 4 (.mov (cB .false))]
abbrev Ub:List AO:=[oo 5 (.fieldAddr 0 (.t 2)),oo 6 (.load .none (.t 5)),oo 7 (.fieldAddr 0 (.t 3)),oo 8 (.load .none (.t 7)),oo 9 (.bin .eql (.t 6) (.t 8)),om 10 9,og 11 10 .true (.fieldAddr 1 (.t 2)),og 12 10 .true (.load (.some 7) (.t 11)),og 13 10 .true (.fieldAddr 1 (.t 3)),og 14 10 .true (.load (.some 7) (.t 13)),og 15 10 .true (.eqAgg .false [1,0,0,0,0,0,0] (.t 12) (.t 14)),oo 16 (.pick (.t 10) (.t 15) (cB .false)),om 4 16]
abbrev Tl:AFunc:=⟨17,[(.tmp 4)],(.seq (.ops S6) (.seq (.ops Ub) .ret))⟩
theorem RQ:EU Try.prog 35=some Tl:=by kernel_rfl
abbrev Lk:FuncId:=36
abbrev UX:List AO:=[oo 6 (.mov (cB .false))]
abbrev Oz:List AO:=[om 7 0,om 8 1,om 9 2,oo 10 (.call 45 [(.t 7),(.t 8),(.t 9)]),om 6 10]
abbrev Mw:AFunc:=⟨11,[(.tmp 6)],(.seq (.ops UX) (.seq (.ops Oz) .ret))⟩
theorem Ke:EU Try.prog 36=some Mw:=by kernel_rfl
abbrev I2:FuncId:=37
abbrev Na:List AO:=[oo 2 (.box 55 (.t 0)),oo 3 (.box 55 (.t 1)),oo 4 (.mov (cB .false))]
abbrev Tx:List AO:=[oo 5 (.fieldAddr 0 (.t 2)),oo 6 (.load .none (.t 5)),oo 7 (.fieldAddr 0 (.t 3)),oo 8 (.load .none (.t 7)),oo 9 (.bin .eql (.t 6) (.t 8)),om 10 9,og 11 10 .true (.fieldAddr 1 (.t 2)),og 12 10 .true (.load (.some 7) (.t 11)),og 13 10 .true (.fieldAddr 1 (.t 3)),og 14 10 .true (.load (.some 7) (.t 13)),og 15 10 .true (.eqAgg .false [1,0,0,0,0,0,0] (.t 12) (.t 14)),oo 16 (.pick (.t 10) (.t 15) (cB .false)),om 17 16,og 18 17 .true (.fieldAddr 8 (.t 2)),og 19 17 .true (.load .none (.t 18)),og 20 17 .true (.fieldAddr 8 (.t 3)),og 21 17 .true (.load .none (.t 20)),og 22 17 .true (.bin .eql (.t 19) (.t 21)),oo 23 (.pick (.t 17) (.t 22) (cB .false)),om 24 23,og 25 24 .true (.fieldAddr 9 (.t 2)),og 26 24 .true (.load .none (.t 25)),og 27 24 .true (.fieldAddr 9 (.t 3)),og 28 24 .true (.load .none (.t 27)),og 29 24 .true (.bin .eql (.t 26) (.t 28)),oo 30 (.pick (.t 24) (.t 29) (cB .false)),om 31 30,og 32 31 .true (.fieldAddr 10 (.t 2)),og 33 31 .true (.load .none (.t 32)),og 34 31 .true (.fieldAddr 10 (.t 3)),og 35 31 .true (.load .none (.t 34)),og 36 31 .true (.bin .eql (.t 33) (.t 35)),oo 37 (.pick (.t 31) (.t 36) (cB .false)),om 38 37,og 39 38 .true (.fieldAddr 12 (.t 2)),og 40 38 .true (.load .none (.t 39)),og 41 38 .true (.fieldAddr 12 (.t 3)),og 42 38 .true (.load .none (.t 41)),og 43 38 .true (.bin .eql (.t 40) (.t 42)),oo 44 (.pick (.t 38) (.t 43) (cB .false)),om 45 44,og 46 45 .true (.fieldAddr 11 (.t 2)),og 47 45 .true (.load .none (.t 46)),og 48 45 .true (.fieldAddr 11 (.t 3)),og 49 45 .true (.load .none (.t 48)),og 50 45 .true (.call 46 [(.t 47),(.t 49)]),oo 51 (.pick (.t 45) (.t 50) (cB .false)),om 52 51,og 53 52 .true (.fieldAddr 13 (.t 2)),og 54 52 .true (.load .none (.t 53)),og 55 52 .true (.fieldAddr 13 (.t 3)),og 56 52 .true (.load .none (.t 55)),og 57 52 .true (.call 47 [(.t 54),(.t 56)]),oo 58 (.pick (.t 52) (.t 57) (cB .false)),om 4 58]
abbrev Ny:AFunc:=⟨59,[(.tmp 4)],(.seq (.ops Na) (.seq (.ops Tx) .ret))⟩
theorem UT:EU Try.prog 37=some Ny:=by kernel_rfl
abbrev Ob:FuncId:=40
abbrev Sf:List AO:=[oo 8 (.mov (cB .true))]
abbrev Nc:List AO:=[oo 9 (.mov (cB .true))]
abbrev N2:List AO:=[om 19 2,om 20 1,oo 21 (.bin .sub (.t 19) (.t 20)),om 10 21]
abbrev Ti:List AO:=[om 22 10,oo 23 (.bin .leq (.t 22) (cI 12))]
abbrev QQ:List AO:=[om 24 0,om 25 1,om 26 2,oo 27 (.call 50 [(.t 24),(.t 25),(.t 26)])]
abbrev UB:List AO:=[om 28 3,oo 29 (.bin .eql (.t 28) (cI 0))]
abbrev VS:List AO:=[om 30 0,om 31 1,om 32 2,oo 33 (.call 51 [(.t 30),(.t 31),(.t 32)])]
abbrev PP:List AO:=[om 34 8,oo 35 (.un .not (.t 34))]
abbrev P5:List AO:=[om 36 0,om 37 1,om 38 2,oo 39 (.call 52 [(.t 36),(.t 37),(.t 38)])]
abbrev OT:List AO:=[om 40 3,oo 41 (.bin .sub (.t 40) (cI 1)),om 3 41]
abbrev RT:List AO:=[om 43 0,om 44 1,om 45 2,oo 46 (.call 53 [(.t 43),(.t 44),(.t 45)]),om 42 46,oo 47 (.extract (.t 42) 0),oo 48 (.extract (.t 42) 1),om 11 47,om 12 48]
abbrev Qq:List AO:=[om 49 12,oo 50 (.bin .eql (.t 49) (cI 2))]
abbrev R4:List AO:=[om 51 0,om 52 1,om 53 2,oo 54 (.call 54 [(.t 51),(.t 52),(.t 53)])]
abbrev R3:List AO:=[om 55 2,oo 56 (.bin .sub (.t 55) (cI 1)),om 57 11,om 58 1,oo 59 (.bin .sub (.t 57) (.t 58)),oo 60 (.bin .sub (.t 56) (.t 59)),om 11 60]
abbrev TA:List AO:=[oo 12 (.mov (cI 1))]
abbrev RV:List AO:=[om 61 8,om 62 61,og 63 62 .true (.mov (.t 9)),oo 64 (.pick (.t 62) (.t 63) (cB .false)),om 65 64,og 66 65 .true (.mov (.t 12)),og 67 65 .true (.bin .eql (.t 66) (cI 1)),oo 68 (.pick (.t 65) (.t 67) (cB .false))]
abbrev Pm:List AO:=[om 69 0,om 70 1,om 71 2,oo 72 (.call 55 [(.t 69),(.t 70),(.t 71)])]
abbrev Uf:List AO:=[om 73 1,oo 74 (.bin .gtr (.t 73) (cI 0)),om 75 74,og 76 75 .true (.mov (.t 0)),og 77 75 .true (.mov (.t 1)),og 78 75 .true (.bin .sub (.t 77) (cI 1)),og 79 75 .true (.elemAddr 1 (.t 76) (.t 78)),og 81 75 .true (.mov (.t 0)),og 82 75 .true (.mov (.t 11)),og 83 75 .true (.elemAddr 1 (.t 81) (.t 82)),og 80 75 .true (.load .none (.t 79)),og 84 75 .true (.load .none (.t 83)),og 85 75 .true (.call 56 [(.t 80),(.t 84)]),og 86 75 .true (.un .not (.t 85)),oo 87 (.pick (.t 75) (.t 86) (cB .false))]
abbrev Tn:List AO:=[om 88 0,om 89 1,om 90 2,om 91 11,oo 92 (.call 57 [(.t 88),(.t 89),(.t 90),(.t 91)]),om 13 92]
abbrev PK:List AO:=[om 93 13,om 1 93]
abbrev Nz:List AO:=[om 95 0,om 96 1,om 97 2,om 98 11,oo 99 (.call 58 [(.t 95),(.t 96),(.t 97),(.t 98)]),om 94 99,oo 100 (.extract (.t 94) 0),oo 101 (.extract (.t 94) 1),om 14 100,om 15 101]
abbrev Sw:List AO:=[om 102 15,om 9 102]
abbrev S1:List AO:=[om 103 14,om 104 1,oo 105 (.bin .sub (.t 103) (.t 104)),om 106 2,om 107 14,oo 108 (.bin .sub (.t 106) (.t 107)),om 16 105,om 17 108]
abbrev Oi:List AO:=[om 109 10,oo 110 (.bin .quo (.t 109) (cI 8)),om 18 110]
abbrev RH:List AO:=[om 111 16,om 112 17,oo 113 (.bin .lss (.t 111) (.t 112))]
abbrev TQ:List AO:=[om 114 16,om 115 18,oo 116 (.bin .geq (.t 114) (.t 115)),om 8 116]
abbrev PJ:List AO:=[om 117 0,om 118 1,om 119 14,om 120 3,oo 121 (.call 40 [(.t 117),(.t 118),(.t 119),(.t 120)])]
abbrev Ts:List AO:=[om 122 14,oo 123 (.bin .add (.t 122) (cI 1)),om 1 123]
abbrev VI:List AO:=[om 124 17,om 125 18,oo 126 (.bin .geq (.t 124) (.t 125)),om 8 126]
abbrev QB:List AO:=[om 127 0,om 128 14,oo 129 (.bin .add (.t 128) (cI 1)),om 130 2,om 131 3,oo 132 (.call 40 [(.t 127),(.t 129),(.t 130),(.t 131)])]
abbrev R8:List AO:=[om 133 14,om 2 133]
abbrev TT:ACode:=(.block 1 (.seq (.ops N2) (.seq (.seq (.ops Ti) (.cond (.t 23) (.seq (.ops QQ) .ret) .skip)) (.seq (.seq (.ops UB) (.cond (.t 29) (.seq (.ops VS) .ret) .skip)) (.seq (.seq (.ops PP) (.cond (.t 35) (.seq (.ops P5) (.ops OT)) .skip)) (.seq (.ops RT) (.seq (.seq (.ops Qq) (.cond (.t 50) (.seq (.ops R4) (.seq (.ops R3) (.ops TA))) .skip)) (.seq (.seq (.ops RV) (.cond (.t 68) (.seq (.ops Pm) (.cond (.t 72) .ret .skip)) .skip)) (.seq (.seq (.dops Uf) (.cond (.t 87) (.seq (.ops Tn) (.seq (.ops PK) (.exit 1))) .skip)) (.seq (.ops Nz) (.seq (.ops Sw) (.seq (.ops S1) (.seq (.ops Oi) (.seq (.ops RH) (.cond (.t 113) (.seq (.ops TQ) (.seq (.ops PJ) (.ops Ts))) (.seq (.ops VI) (.seq (.ops QB) (.ops R8))))))))))))))))))
abbrev M9:AFunc:=⟨134,[],(.seq (.ops Sf) (.seq (.ops Nc) (.block 0 (.loop TT))))⟩
theorem OC:EU Try.prog 40=some M9:=by kernel_rfl
abbrev My:FuncId:=41
abbrev Nf:List AO:=[oo 2 (.mov (cI 0))]
abbrev Rd:List AO:=[om 3 0,oo 4 (.conv .u32 (.t 3)),oo 5 (.call 59 [(.t 4)]),om 2 5]
abbrev PW:List AO:=[om 6 0,oo 7 (.call 60 [(.t 6)]),om 2 7]
abbrev Sa:AFunc:=⟨8,[(.tmp 2)],(.seq (.ops Nf) (.seq (.cond (.c (.d (.bool .false))) (.seq (.ops Rd) .ret) .skip) (.seq (.ops PW) .ret)))⟩
theorem NX:EU Try.prog 41=some Sa:=by kernel_rfl
abbrev PL:FuncId:=42
abbrev TH:List AO:=[oo 4 (.mov (cI 0))]
abbrev Ty:List AO:=[om 6 0,oo 7 (.len (.t 6)),oo 8 (.mov (cI 0))]
abbrev Su:List AO:=[oo 9 (.bin .lss (.t 8) (.t 7))]
abbrev N8:List AO:=[om 10 8,om 5 10]
abbrev Tz:List AO:=[om 11 1,om 12 0,om 13 5,oo 14 (.elemAddr 5 (.t 12) (.t 13)),oo 15 (.load (.some 5) (.t 14)),oo 16 (.callv (.t 11) [(.t 15)])]
abbrev Pa:List AO:=[om 17 5,om 4 17]
abbrev UL:List AO:=[oo 18 (.bin .add (.t 8) (cI 1)),om 8 18]
abbrev QZ:ACode:=(.seq (.ops Su) (.seq (.cond (.t 9) .skip (.exit 0)) (.seq (.block 1 (.seq (.ops N8) (.seq (.ops Tz) (.cond (.t 16) (.seq (.ops Pa) .ret) .skip)))) (.ops UL))))
abbrev OX:List AO:=[oo 4 (.mov (cI (-1)))]
abbrev NE:AFunc:=⟨19,[(.tmp 4)],(.seq (.ops TH) (.seq (.seq (.ops Ty) (.block 0 (.loop QZ))) (.seq (.ops OX) .ret)))⟩
theorem SU:EU Try.prog 42=some NE:=by kernel_rfl
abbrev LK:FuncId:=43
abbrev QM:List AO:=[oo 6 (.mov (cB .false))]
abbrev UQ:List AO:=[om 10 0,oo 11 (.len (.t 10)),om 12 1,oo 13 (.len (.t 12)),oo 14 (.bin .neq (.t 11) (.t 13))]
abbrev NT:List AO:=[oo 6 (.mov (cB .false))]
abbrev SI:List AO:=[om 15 0,oo 16 (.len (.t 15)),oo 17 (.mov (cI 0))]
abbrev SD:List AO:=[oo 18 (.bin .lss (.t 17) (.t 16))]
abbrev PT:List AO:=[om 19 17,oo 20 (.elemAddr 5 (.t 15) (.t 17)),oo 21 (.load (.some 5) (.t 20)),oo 8 (.alloc 34 [(.d (.str ⟨⟨[]⟩⟩)),(.d (.str ⟨⟨[]⟩⟩)),zI,zI,zI]),om 7 19,on (.store 5 (.t 8) (.t 21))]
abbrev O0:List AO:=[om 22 1,om 23 7,oo 24 (.elemAddr 5 (.t 22) (.t 23)),oo 25 (.load (.some 5) (.t 24)),oo 9 (.alloc 34 [(.d (.str ⟨⟨[]⟩⟩)),(.d (.str ⟨⟨[]⟩⟩)),zI,zI,zI]),on (.store 5 (.t 9) (.t 25))]
abbrev Mk:List AO:=[om 26 2,oo 27 (.load (.some 5) (.t 8)),oo 28 (.load (.some 5) (.t 9)),oo 29 (.callv (.t 26) [(.t 27),(.t 28)]),oo 30 (.un .not (.t 29))]
abbrev N4:List AO:=[oo 6 (.mov (cB .false))]
abbrev Q7:List AO:=[oo 31 (.bin .add (.t 17) (cI 1)),om 17 31]
abbrev Rk:ACode:=(.seq (.ops SD) (.seq (.cond (.t 18) .skip (.exit 0)) (.seq (.block 1 (.seq (.ops PT) (.seq (.ops O0) (.seq (.ops Mk) (.cond (.t 30) (.seq (.ops N4) .ret) .skip))))) (.ops Q7))))
abbrev PX:List AO:=[oo 6 (.mov (cB .true))]
abbrev Sj:AFunc:=⟨32,[(.tmp 6)],(.seq (.ops QM) (.seq (.seq (.ops UQ) (.cond (.t 14) (.seq (.ops NT) .ret) .skip)) (.seq (.seq (.ops SI) (.block 0 (.loop Rk))) (.seq (.ops PX) .ret))))⟩
theorem Li:EU Try.prog 43=some Sj:=by kernel_rfl
abbrev LU:FuncId:=44
abbrev Po:List AO:=[oo 6 (.mov (cB .false))]
abbrev Tc:List AO:=[om 10 0,oo 11 (.len (.t 10)),om 12 1,oo 13 (.len (.t 12)),oo 14 (.bin .neq (.t 11) (.t 13))]
abbrev PU:List AO:=[oo 6 (.mov (cB .false))]
abbrev PE:List AO:=[om 15 0,oo 16 (.len (.t 15)),oo 17 (.mov (cI 0))]
abbrev UM:List AO:=[oo 18 (.bin .lss (.t 17) (.t 16))]
abbrev Rx:List AO:=[om 19 17,oo 20 (.elemAddr 10 (.t 15) (.t 17)),oo 21 (.load (.some 10) (.t 20)),oo 8 (.alloc 51 [zI,(.d (.bool .false)),zI,zI,zI,zI,zI,zI,zI,zI]),om 7 19,on (.store 10 (.t 8) (.t 21))]
abbrev Pj:List AO:=[om 22 1,om 23 7,oo 24 (.elemAddr 10 (.t 22) (.t 23)),oo 25 (.load (.some 10) (.t 24)),oo 9 (.alloc 51 [zI,(.d (.bool .false)),zI,zI,zI,zI,zI,zI,zI,zI]),on (.store 10 (.t 9) (.t 25))]
abbrev P3:List AO:=[om 26 2,oo 27 (.load (.some 10) (.t 8)),oo 28 (.load (.some 10) (.t 9)),oo 29 (.callv (.t 26) [(.t 27),(.t 28)]),oo 30 (.un .not (.t 29))]
abbrev Uu:List AO:=[oo 6 (.mov (cB .false))]
abbrev TB:List AO:=[oo 31 (.bin .add (.t 17) (cI 1)),om 17 31]
abbrev QF:ACode:=(.seq (.ops UM) (.seq (.cond (.t 18) .skip (.exit 0)) (.seq (.block 1 (.seq (.ops Rx) (.seq (.ops Pj) (.seq (.ops P3) (.cond (.t 30) (.seq (.ops Uu) .ret) .skip))))) (.ops TB))))
abbrev TE:List AO:=[oo 6 (.mov (cB .true))]
abbrev VE:AFunc:=⟨32,[(.tmp 6)],(.seq (.ops Po) (.seq (.seq (.ops Tc) (.cond (.t 14) (.seq (.ops PU) .ret) .skip)) (.seq (.seq (.ops PE) (.block 0 (.loop QF))) (.seq (.ops TE) .ret))))⟩
theorem Lz:EU Try.prog 44=some VE:=by kernel_rfl
abbrev K4:FuncId:=45
abbrev Ri:List AO:=[oo 6 (.mov (cB .false))]
abbrev Sg:List AO:=[om 10 0,oo 11 (.len (.t 10)),om 12 1,oo 13 (.len (.t 12)),oo 14 (.bin .neq (.t 11) (.t 13))]
abbrev NR:List AO:=[oo 6 (.mov (cB .false))]
abbrev QK:List AO:=[om 15 0,oo 16 (.len (.t 15)),oo 17 (.mov (cI 0))]
abbrev QW:List AO:=[oo 18 (.bin .lss (.t 17) (.t 16))]
abbrev Mt:List AO:=[om 19 17,oo 20 (.elemAddr 16 (.t 15) (.t 17)),oo 21 (.load (.some 16) (.t 20)),oo 8 (.alloc 55 [(.d (.str ⟨⟨[]⟩⟩)),(.d (.bool .false)),zI,zI,zI,zI,zI,zI,zI,zI,zI,(.nilsl 2),zI,(.nilsl 3),zI,zI]),om 7 19,on (.store 16 (.t 8) (.t 21))]
abbrev On:List AO:=[om 22 1,om 23 7,oo 24 (.elemAddr 16 (.t 22) (.t 23)),oo 25 (.load (.some 16) (.t 24)),oo 9 (.alloc 55 [(.d (.str ⟨⟨[]⟩⟩)),(.d (.bool .false)),zI,zI,zI,zI,zI,zI,zI,zI,zI,(.nilsl 2),zI,(.nilsl 3),zI,zI]),on (.store 16 (.t 9) (.t 25))]
abbrev Nk:List AO:=[om 26 2,oo 27 (.load (.some 16) (.t 8)),oo 28 (.load (.some 16) (.t 9)),oo 29 (.callv (.t 26) [(.t 27),(.t 28)]),oo 30 (.un .not (.t 29))]
abbrev Ur:List AO:=[oo 6 (.mov (cB .false))]
abbrev O8:List AO:=[oo 31 (.bin .add (.t 17) (cI 1)),om 17 31]
abbrev M7:ACode:=(.seq (.ops QW) (.seq (.cond (.t 18) .skip (.exit 0)) (.seq (.block 1 (.seq (.ops Mt) (.seq (.ops On) (.seq (.ops Nk) (.cond (.t 30) (.seq (.ops Ur) .ret) .skip))))) (.ops O8))))
abbrev UZ:List AO:=[oo 6 (.mov (cB .true))]
abbrev Se:AFunc:=⟨32,[(.tmp 6)],(.seq (.ops Ri) (.seq (.seq (.ops Sg) (.cond (.t 14) (.seq (.ops NR) .ret) .skip)) (.seq (.seq (.ops QK) (.block 0 (.loop M7))) (.seq (.ops UZ) .ret))))⟩
theorem KS:EU Try.prog 45=some Se:=by kernel_rfl
abbrev Tq:FuncId:=46
abbrev M5:List AO:=[oo 4 (.mov (cB .false))]
abbrev NA:List AO:=[om 6 0,oo 7 (.len (.t 6)),om 8 1,oo 9 (.len (.t 8)),oo 10 (.bin .neq (.t 7) (.t 9))]
abbrev QA:List AO:=[oo 4 (.mov (cB .false))]
abbrev NP:List AO:=[om 11 0,oo 12 (.len (.t 11)),oo 13 (.mov (cI 0))]
abbrev UH:List AO:=[oo 14 (.bin .lss (.t 13) (.t 12))]
abbrev UO:List AO:=[om 15 13,om 5 15]
abbrev M3:List AO:=[om 16 0,om 17 5,oo 18 (.elemAddr 2 (.t 16) (.t 17)),om 20 1,om 21 5,oo 22 (.elemAddr 2 (.t 20) (.t 21)),oo 19 (.load (.some 2) (.t 18)),oo 23 (.load (.some 2) (.t 22)),oo 24 (.eqAgg .true [0,0] (.t 19) (.t 23))]
abbrev RJ:List AO:=[oo 4 (.mov (cB .false))]
abbrev SL:List AO:=[oo 25 (.bin .add (.t 13) (cI 1)),om 13 25]
abbrev SV:ACode:=(.seq (.ops UH) (.seq (.cond (.t 14) .skip (.exit 0)) (.seq (.block 1 (.seq (.ops UO) (.seq (.dops M3) (.cond (.t 24) (.seq (.ops RJ) .ret) .skip)))) (.ops SL))))
abbrev Pf:List AO:=[oo 4 (.mov (cB .true))]
abbrev Qh:AFunc:=⟨26,[(.tmp 4)],(.seq (.ops M5) (.seq (.seq (.ops NA) (.cond (.t 10) (.seq (.ops QA) .ret) .skip)) (.seq (.seq (.ops NP) (.block 0 (.loop SV))) (.seq (.ops Pf) .ret))))⟩
theorem PN:EU Try.prog 46=some Qh:=by kernel_rfl
abbrev Qi:FuncId:=47
abbrev Tj:List AO:=[oo 4 (.mov (cB .false))]
abbrev Te:List AO:=[om 6 0,oo 7 (.len (.t 6)),om 8 1,oo 9 (.len (.t 8)),oo 10 (.bin .neq (.t 7) (.t 9))]
abbrev Um:List AO:=[oo 4 (.mov (cB .false))]
abbrev Sd:List AO:=[om 11 0,oo 12 (.len (.t 11)),oo 13 (.mov (cI 0))]
abbrev ON:List AO:=[oo 14 (.bin .lss (.t 13) (.t 12))]
abbrev VX:List AO:=[om 15 13,om 5 15]
abbrev UI:List AO:=[om 16 0,om 17 5,oo 18 (.elemAddr 3 (.t 16) (.t 17)),om 20 1,om 21 5,oo 22 (.elemAddr 3 (.t 20) (.t 21)),oo 19 (.load (.some 3) (.t 18)),oo 23 (.load (.some 3) (.t 22)),oo 24 (.eqAgg .true [0,0,0] (.t 19) (.t 23))]
abbrev T9:List AO:=[oo 4 (.mov (cB .false))]
abbrev Q4:List AO:=[oo 25 (.bin .add (.t 13) (cI 1)),om 13 25]
abbrev T6:ACode:=(.seq (.ops ON) (.seq (.cond (.t 14) .skip (.exit 0)) (.seq (.block 1 (.seq (.ops VX) (.seq (.dops UI) (.cond (.t 24) (.seq (.ops T9) .ret) .skip)))) (.ops Q4))))
abbrev S4:List AO:=[oo 4 (.mov (cB .true))]
abbrev S3:AFunc:=⟨26,[(.tmp 4)],(.seq (.ops Tj) (.seq (.seq (.ops Te) (.cond (.t 10) (.seq (.ops Um) .ret) .skip)) (.seq (.seq (.ops Sd) (.block 0 (.loop T6))) (.seq (.ops S4) .ret))))⟩
theorem PD:EU Try.prog 47=some S3:=by kernel_rfl
abbrev SY:FuncId:=50
abbrev Uh:List AO:=[om 8 1,oo 9 (.bin .add (.t 8) (cI 1)),om 6 9]
abbrev RF:List AO:=[om 10 6,om 11 2,oo 12 (.bin .lss (.t 10) (.t 11))]
abbrev OL:List AO:=[om 15 6,om 7 15]
abbrev VF:List AO:=[om 16 7,om 17 1,oo 18 (.bin .gtr (.t 16) (.t 17)),om 19 18,og 20 19 .true (.mov (.t 0)),og 21 19 .true (.mov (.t 7)),og 22 19 .true (.elemAddr 1 (.t 20) (.t 21)),og 24 19 .true (.mov (.t 0)),og 25 19 .true (.mov (.t 7)),og 26 19 .true (.bin .sub (.t 25) (cI 1)),og 27 19 .true (.elemAddr 1 (.t 24) (.t 26)),og 23 19 .true (.load .none (.t 22)),og 28 19 .true (.load .none (.t 27)),og 29 19 .true (.call 56 [(.t 23),(.t 28)]),oo 30 (.pick (.t 19) (.t 29) (cB .false))]
abbrev R0:List AO:=[om 33 0,om 34 7,om 35 0,om 36 7,oo 37 (.bin .sub (.t 36) (cI 1)),om 38 0,om 39 7,oo 40 (.bin .sub (.t 39) (cI 1)),oo 41 (.elemAddr 1 (.t 38) (.t 40)),om 43 0,om 44 7,oo 45 (.elemAddr 1 (.t 43) (.t 44)),oo 42 (.load .none (.t 41)),oo 46 (.load .none (.t 45)),oo 47 (.elemAddr 1 (.t 33) (.t 34)),on (.store 1 (.t 47) (.t 42)),oo 48 (.elemAddr 1 (.t 35) (.t 37)),on (.store 1 (.t 48) (.t 46))]
abbrev QU:List AO:=[om 31 7,oo 32 (.bin .sub (.t 31) (cI 1)),om 7 32]
abbrev VH:ACode:=(.seq (.seq (.dops VF) (.cond (.t 30) .skip (.exit 2))) (.seq (.block 3 (.dops R0)) (.ops QU)))
abbrev Sl:List AO:=[om 13 6,oo 14 (.bin .add (.t 13) (cI 1)),om 6 14]
abbrev P2:ACode:=(.seq (.seq (.ops RF) (.cond (.t 12) .skip (.exit 0))) (.seq (.block 1 (.seq (.ops OL) (.block 2 (.loop VH)))) (.ops Sl)))
abbrev Uc:AFunc:=⟨49,[],(.seq (.ops Uh) (.block 0 (.loop P2)))⟩
theorem UW:EU Try.prog 50=some Uc:=by kernel_rfl
abbrev Rh:FuncId:=56
abbrev TK:List AO:=[oo 4 (.mov (cB .false))]
abbrev VV:List AO:=[om 5 0,oo 6 (.call 66 [(.t 5)]),om 7 6,og 8 7 .true (.mov (.t 1)),og 9 7 .true (.call 66 [(.t 8)]),og 10 7 .true (.un .not (.t 9)),oo 11 (.pick (.t 7) (.t 10) (cB .false)),om 12 11,og 13 12 .false (.mov (.t 0)),og 14 12 .false (.mov (.t 1)),og 15 12 .false (.bin .lss (.t 13) (.t 14)),oo 16 (.pick (.t 12) (cB .true) (.t 15)),om 4 16]
abbrev VN:AFunc:=⟨17,[(.tmp 4)],(.seq (.ops TK) (.seq (.ops VV) .ret))⟩
theorem P0:EU Try.prog 56=some VN:=by kernel_rfl
abbrev N1:FuncId:=60
abbrev OM:List AO:=[oo 2 (.mov (cI 0))]
abbrev Ra:List AO:=[om 3 0,oo 4 (.bin .geq (.t 3) (.c (.d (.int .u64 4294967296))))]
abbrev Mv:List AO:=[om 5 0,oo 6 (.bin .shr (.t 5) (.c (.d (.int .u64 32)))),om 0 6]
abbrev S7:List AO:=[oo 2 (.mov (cI 32))]
abbrev Nu:List AO:=[om 7 0,oo 8 (.bin .geq (.t 7) (.c (.d (.int .u64 65536))))]
abbrev Qn:List AO:=[om 9 0,oo 10 (.bin .shr (.t 9) (.c (.d (.int .u64 16)))),om 0 10]
abbrev Np:List AO:=[om 11 2,oo 12 (.bin .add (.t 11) (cI 16)),om 2 12]
abbrev Rp:List AO:=[om 13 0,oo 14 (.bin .geq (.t 13) (.c (.d (.int .u64 256))))]
abbrev Qa:List AO:=[om 15 0,oo 16 (.bin .shr (.t 15) (.c (.d (.int .u64 8)))),om 0 16]
abbrev U4:List AO:=[om 17 2,oo 18 (.bin .add (.t 17) (cI 8)),om 2 18]
abbrev SZ:List AO:=[om 19 2,om 20 0,oo 21 (.conv .u8 (.t 20)),oo 22 (.idxStr (.c (.d (.str ⟨⟨[0,1,2,2,3,3,3,3,4,4,4,4,4,4,4,4,5,5,5,5,5,5,5,5,5,5,5,5,5,5,5,5,6,6,6,6,6,6,6,6,6,6,6,6,6,6,6,6,6,6,6,6,6,6,6,6,6,6,6,6,6,6,6,6,7,7,7,7,7,7,7,7,7,7,7,7,7,7,7,7,7,7,7,7,7,7,7,7,7,7,7,7,7,7,7,7,7,7,7,7,7,7,7,7,7,7,7,7,7,7,7,7,7,7,7,7,7,7,7,7,7,7,7,7,7,7,7,7,8,8,8,8,8,8,8,8,8,8,8,8,8,8,8,8,8,8,8,8,8,8,8,8,8,8,8,8,8,8,8,8,8,8,8,8,8,8,8,8,8,8,8,8,8,8,8,8,8,8,8,8,8,8,8,8,8,8,8,8,8,8,8,8,8,8,8,8,8,8,8,8,8,8,8,8,8,8,8,8,8,8,8,8,8,8,8,8,8,8,8,8,8,8,8,8,8,8,8,8,8,8,8,8,8,8,8,8,8,8,8,8,8,8,8,8,8,8,8,8,8,8,8,8,8,8,8,8]⟩⟩))) (.t 21)),oo 23 (.conv .i64 (.t 22)),oo 24 (.bin .add (.t 19) (.t 23)),om 2 24]
abbrev QV:AFunc:=⟨25,[(.tmp 2)],(.seq (.ops OM) (.seq (.seq (.ops Ra) (.cond (.t 4) (.seq (.ops Mv) (.ops S7)) .skip)) (.seq (.seq (.ops Nu) (.cond (.t 8) (.seq (.ops Qn) (.ops Np)) .skip)) (.seq (.seq (.ops Rp) (.cond (.t 14) (.seq (.ops Qa) (.ops U4)) .skip)) (.seq (.ops SZ) .ret)))))⟩
theorem SN:EU Try.prog 60=some QV:=by kernel_rfl
abbrev P4:FuncId:=66
abbrev Sq:List AO:=[oo 2 (.mov (cB .false))]
abbrev Qk:List AO:=[om 3 0,om 4 0,oo 5 (.bin .neq (.t 3) (.t 4)),om 2 5]
abbrev Ow:AFunc:=⟨6,[(.tmp 2)],(.seq (.ops Sq) (.seq (.ops Qk) .ret))⟩
theorem Qz:EU Try.prog 66=some Ow:=by kernel_rfl
end Go.Proofs.Ytndepejgafppmaa.Abs
