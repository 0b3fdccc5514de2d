/- The code of the machine and the contracts of one law (joined by kmerge.py). No claim stands here. -/
import Derived.KernelRfl
import Derived.Test.YtnldlmlnedamlaaProg
import Derived.Test.YtnldlmlnedamlaaMbb
set_option maxRecDepth 100000
set_option linter.unusedSimpArgs false
set_option linter.unusedVariables false
namespace Go.Proofs.Ytnldlmlnedamlaa.Abs
open Go Go.RowKit Go.Proofs
abbrev f_poundagelaw19_LookupRise : FuncId := 5
abbrev c_poundagelaw19_LookupRise_r0 : List AO := [⟨(.some 5), .none, (.box 26 (.t 0))⟩,
  ⟨(.some 10), .none, (.mov (.c (.d (.bool .false))))⟩]
abbrev c_poundagelaw19_LookupRise_r1 : List AO := [⟨(.some 19), .none, (.call 7 [])⟩,
  ⟨(.some 20), .none, (.un .not (.t 19))⟩]
abbrev c_poundagelaw19_LookupRise_r2 : List AO := [⟨(.some 10), .none, (.mov (.c (.d (.bool .false))))⟩]
abbrev c_poundagelaw19_LookupRise_r3 : List AO := [⟨(.some 21), .none, (.load (.some 6) (.t 5))⟩,
  ⟨(.some 22), .none, (.call 8 [(.t 21)])⟩,
  ⟨(.some 23), .none, (.un .not (.t 22))⟩,
  ⟨(.some 24), .none, (.mov (.t 23))⟩,
  ⟨(.some 25), (.some ⟨24, .false⟩), (.mov (.t 2))⟩,
  ⟨(.some 26), (.some ⟨24, .false⟩), (.len (.t 25))⟩,
  ⟨(.some 27), (.some ⟨24, .false⟩), (.bin .gtr (.t 26) (.c (.d (.int .i64 100))))⟩,
  ⟨(.some 28), .none, (.pick (.t 24) (.c (.d (.bool .true))) (.t 27))⟩,
  ⟨(.some 29), .none, (.mov (.t 28))⟩,
  ⟨(.some 30), (.some ⟨29, .false⟩), (.mov (.t 3))⟩,
  ⟨(.some 31), (.some ⟨29, .false⟩), (.bin .lss (.t 30) (.c (.d (.int .i64 0))))⟩,
  ⟨(.some 32), .none, (.pick (.t 29) (.c (.d (.bool .true))) (.t 31))⟩,
  ⟨(.some 33), .none, (.mov (.t 32))⟩,
  ⟨(.some 34), (.some ⟨33, .false⟩), (.mov (.t 3))⟩,
  ⟨(.some 35), (.some ⟨33, .false⟩), (.mov (.t 2))⟩,
  ⟨(.some 36), (.some ⟨33, .false⟩), (.len (.t 35))⟩,
  ⟨(.some 37), (.some ⟨33, .false⟩), (.bin .geq (.t 34) (.t 36))⟩,
  ⟨(.some 38), .none, (.pick (.t 33) (.c (.d (.bool .true))) (.t 37))⟩,
  ⟨(.some 39), .none, (.mov (.t 38))⟩,
  ⟨(.some 40), (.some ⟨39, .false⟩), (.mov (.t 4))⟩,
  ⟨(.some 41), (.some ⟨39, .false⟩), (.bin .lss (.t 40) (.c (.d (.int .i64 0))))⟩,
  ⟨(.some 42), .none, (.pick (.t 39) (.c (.d (.bool .true))) (.t 41))⟩,
  ⟨(.some 43), .none, (.mov (.t 42))⟩,
  ⟨(.some 44), (.some ⟨43, .false⟩), (.mov (.t 4))⟩,
  ⟨(.some 45), (.some ⟨43, .false⟩), (.bin .gtr (.t 44) (.c (.d (.int .i64 2000))))⟩,
  ⟨(.some 46), .none, (.pick (.t 43) (.c (.d (.bool .true))) (.t 45))⟩]
abbrev c_poundagelaw19_LookupRise_r4 : List AO := [⟨(.some 10), .none, (.mov (.c (.d (.bool .true))))⟩]
abbrev c_poundagelaw19_LookupRise_r5 : List AO := [⟨(.some 47), .none, (.fieldAddr 5 (.t 5))⟩,
  ⟨(.some 48), .none, (.load .none (.t 47))⟩,
  ⟨(.some 49), .none, (.len (.t 48))⟩,
  ⟨(.some 50), .none, (.mov (.c (.d (.int .i64 0))))⟩]
abbrev c_poundagelaw19_LookupRise_r6 : List AO := [⟨(.some 51), .none, (.bin .lss (.t 50) (.t 49))⟩]
abbrev c_poundagelaw19_LookupRise_r7 : List AO := [⟨(.some 52), .none, (.elemAddr 9 (.t 48) (.t 50))⟩,
  ⟨(.some 53), .none, (.load (.some 9) (.t 52))⟩,
  ⟨(.some 12), .none, (.alloc 51 [(.d (.int .i64 0)), (.d (.int .i64 0)), (.d (.int .i64 0)), (.d (.int .i64 0)), (.d (.int .i64 0)), (.d (.int .i64 0)), (.nilsl 2), (.d (.int .i64 0)), (.nilsl 3)])⟩,
  ⟨.none, .none, (.store 9 (.t 12) (.t 53))⟩]
abbrev c_poundagelaw19_LookupRise_r8 : List AO := [⟨(.some 54), .none, (.fieldAddr 5 (.t 12))⟩,
  ⟨(.some 55), .none, (.load .none (.t 54))⟩,
  ⟨(.some 56), .none, (.bin .neq (.t 55) (.c (.d (.int .i64 1))))⟩]
abbrev c_poundagelaw19_LookupRise_r9 : List AO := [⟨(.some 10), .none, (.mov (.c (.d (.bool .true))))⟩]
abbrev c_poundagelaw19_LookupRise_r10 : List AO := [⟨(.some 57), .none, (.bin .add (.t 50) (.c (.d (.int .i64 1))))⟩,
  ⟨(.some 50), .none, (.mov (.t 57))⟩]
abbrev c_poundagelaw19_LookupRise_l0 : ACode := (.seq (.ops c_poundagelaw19_LookupRise_r6) (.seq (.cond (.t 51) .skip (.exit 0)) (.seq (.block 1 (.seq (.ops c_poundagelaw19_LookupRise_r7) (.seq (.ops c_poundagelaw19_LookupRise_r8) (.cond (.t 56) (.seq (.ops c_poundagelaw19_LookupRise_r9) .ret) .skip)))) (.ops c_poundagelaw19_LookupRise_r10))))
abbrev c_poundagelaw19_LookupRise_r11 : List AO := [⟨(.some 58), .none, (.load (.some 6) (.t 5))⟩,
  ⟨(.some 59), .none, (.call 9 [(.t 58)])⟩,
  ⟨(.some 13), .none, (.alloc 32 [(.d (.str ⟨⟨[]⟩⟩)), (.d (.int .i64 0)), (.d (.int .i64 0)), (.nilsl 5), (.nilsl 4)])⟩,
  ⟨.none, .none, (.store 5 (.t 13) (.t 59))⟩]
abbrev c_poundagelaw19_LookupRise_r12 : List AO := [⟨(.some 61), .none, (.load (.some 5) (.t 13))⟩,
  ⟨(.some 62), .none, (.mov (.t 1))⟩,
  ⟨(.some 63), .none, (.mov (.t 2))⟩,
  ⟨(.some 64), .none, (.call 10 [(.t 61), (.t 62), (.t 63)])⟩,
  ⟨(.some 60), .none, (.mov (.t 64))⟩,
  ⟨(.some 65), .none, (.extract (.t 60) 0)⟩,
  ⟨(.some 66), .none, (.extract (.t 60) 1)⟩,
  ⟨(.some 14), .none, (.mov (.t 65))⟩,
  ⟨(.some 15), .none, (.mov (.t 66))⟩]
abbrev c_poundagelaw19_LookupRise_r13 : List AO := [⟨(.some 67), .none, (.buildSlice 3 1 0 [(.d (.int .i64 0))] [])⟩,
  ⟨(.some 68), .none, (.mov (.t 2))⟩,
  ⟨(.some 69), .none, (.append 3 1 8 [(.d (.int .i64 0))] (.t 67) (.t 68))⟩,
  ⟨(.some 16), .none, (.mov (.t 69))⟩]
abbrev c_poundagelaw19_LookupRise_r14 : List AO := [⟨(.some 70), .none, (.mov (.t 16))⟩,
  ⟨(.some 71), .none, (.mov (.t 3))⟩,
  ⟨(.some 72), .none, (.mov (.t 16))⟩,
  ⟨(.some 73), .none, (.mov (.t 3))⟩,
  ⟨(.some 74), .none, (.elemAddr 1 (.t 72) (.t 73))⟩,
  ⟨(.some 75), .none, (.load .none (.t 74))⟩,
  ⟨(.some 76), .none, (.mov (.t 4))⟩,
  ⟨(.some 77), .none, (.bin .add (.t 75) (.t 76))⟩,
  ⟨(.some 78), .none, (.elemAddr 1 (.t 70) (.t 71))⟩,
  ⟨.none, .none, (.store 1 (.t 78) (.t 77))⟩]
abbrev c_poundagelaw19_LookupRise_r15 : List AO := [⟨(.some 80), .none, (.load (.some 5) (.t 13))⟩,
  ⟨(.some 81), .none, (.mov (.t 1))⟩,
  ⟨(.some 82), .none, (.mov (.t 16))⟩,
  ⟨(.some 83), .none, (.call 10 [(.t 80), (.t 81), (.t 82)])⟩,
  ⟨(.some 79), .none, (.mov (.t 83))⟩,
  ⟨(.some 84), .none, (.extract (.t 79) 0)⟩,
  ⟨(.some 85), .none, (.extract (.t 79) 1)⟩,
  ⟨(.some 17), .none, (.mov (.t 84))⟩,
  ⟨(.some 18), .none, (.mov (.t 85))⟩]
abbrev c_poundagelaw19_LookupRise_r16 : List AO := [⟨(.some 86), .none, (.mov (.t 15))⟩,
  ⟨(.some 87), .none, (.bin .neq (.t 86) (.c (.d (.int .i64 0))))⟩,
  ⟨(.some 88), .none, (.mov (.t 87))⟩,
  ⟨(.some 89), (.some ⟨88, .false⟩), (.mov (.t 18))⟩,
  ⟨(.some 90), (.some ⟨88, .false⟩), (.bin .neq (.t 89) (.c (.d (.int .i64 0))))⟩,
  ⟨(.some 91), .none, (.pick (.t 88) (.c (.d (.bool .true))) (.t 90))⟩,
  ⟨(.some 92), .none, (.mov (.t 91))⟩,
  ⟨(.some 93), (.some ⟨92, .false⟩), (.mov (.t 14))⟩,
  ⟨(.some 94), (.some ⟨92, .false⟩), (.mov (.t 17))⟩,
  ⟨(.some 95), (.some ⟨92, .false⟩), (.bin .leq (.t 93) (.t 94))⟩,
  ⟨(.some 96), .none, (.pick (.t 92) (.c (.d (.bool .true))) (.t 95))⟩,
  ⟨(.some 10), .none, (.mov (.t 96))⟩]
abbrev c_poundagelaw19_LookupRise : AFunc := ⟨97, [(.tmp 10)], (.seq (.ops c_poundagelaw19_LookupRise_r0) (.seq (.seq (.ops c_poundagelaw19_LookupRise_r1) (.cond (.t 20) (.seq (.ops c_poundagelaw19_LookupRise_r2) .ret) .skip)) (.seq (.seq (.ops c_poundagelaw19_LookupRise_r3) (.cond (.t 46) (.seq (.ops c_poundagelaw19_LookupRise_r4) .ret) .skip)) (.seq (.seq (.ops c_poundagelaw19_LookupRise_r5) (.block 0 (.loop c_poundagelaw19_LookupRise_l0))) (.seq (.ops c_poundagelaw19_LookupRise_r11) (.seq (.ops c_poundagelaw19_LookupRise_r12) (.seq (.ops c_poundagelaw19_LookupRise_r13) (.seq (.ops c_poundagelaw19_LookupRise_r14) (.seq (.ops c_poundagelaw19_LookupRise_r15) (.seq (.ops c_poundagelaw19_LookupRise_r16) .ret))))))))))⟩
theorem comp_poundagelaw19_LookupRise : funcC Try.prog 5 = some c_poundagelaw19_LookupRise := by kernel_rfl
abbrev f_poundagelaw19_alive : FuncId := 7
abbrev c_poundagelaw19_alive_r0 : List AO := [⟨(.some 0), .none, (.mov (.c (.d (.bool .false))))⟩]
abbrev c_poundagelaw19_alive_r1 : List AO := [⟨(.some 6), .none, (.build [(.d (.str ⟨⟨[]⟩⟩)), (.d (.str ⟨⟨[]⟩⟩)), (.d (.int .i64 0)), (.d (.int .i64 0)), (.d (.int .i64 0))] [⟨0, ⟨1, (.c (.d (.str ⟨⟨[109]⟩⟩)))⟩⟩, ⟨2, ⟨1, (.c (.d (.int .i64 3)))⟩⟩])⟩,
  ⟨(.some 7), .none, (.buildSlice 54 5 1 [(.d (.str ⟨⟨[]⟩⟩)), (.d (.str ⟨⟨[]⟩⟩)), (.d (.int .i64 0)), (.d (.int .i64 0)), (.d (.int .i64 0))] [⟨0, (.t 6)⟩])⟩,
  ⟨(.some 8), .none, (.build [(.d (.int .i64 0)), (.d (.int .i64 0)), (.d (.int .i64 0)), (.d (.int .i64 0)), (.d (.int .i64 0))] [⟨2, ⟨1, (.c (.d (.int .i64 1)))⟩⟩, ⟨3, ⟨1, (.c (.d (.int .i64 2)))⟩⟩, ⟨4, ⟨1, (.c (.d (.int .i64 4)))⟩⟩])⟩,
  ⟨(.some 9), .none, (.buildSlice 56 5 1 [(.d (.int .i64 0)), (.d (.int .i64 0)), (.d (.int .i64 0)), (.d (.int .i64 0)), (.d (.int .i64 0))] [⟨0, (.t 8)⟩])⟩,
  ⟨(.some 10), .none, (.build [(.d (.int .i64 0)), (.nilsl 5)] [⟨0, ⟨1, (.c (.d (.int .i64 3)))⟩⟩, ⟨1, ⟨1, (.t 9)⟩⟩])⟩,
  ⟨(.some 11), .none, (.buildSlice 59 2 1 [(.d (.int .i64 0)), (.nilsl 5)] [⟨0, (.t 10)⟩])⟩,
  ⟨(.some 12), .none, (.build [(.d (.int .i64 0)), (.d (.int .i64 0)), (.d (.int .i64 0)), (.nilsl 2)] [⟨1, ⟨1, (.c (.d (.int .i64 9)))⟩⟩, ⟨2, ⟨1, (.c (.d (.int .i64 5)))⟩⟩, ⟨3, ⟨1, (.t 11)⟩⟩])⟩,
  ⟨(.some 13), .none, (.buildSlice 41 4 1 [(.d (.int .i64 0)), (.d (.int .i64 0)), (.d (.int .i64 0)), (.nilsl 2)] [⟨0, (.t 12)⟩])⟩,
  ⟨(.some 14), .none, (.build [(.d (.str ⟨⟨[]⟩⟩)), (.d (.int .i64 0)), (.d (.int .i64 0)), (.nilsl 5), (.nilsl 4)] [⟨2, ⟨1, (.c (.d (.int .i64 9)))⟩⟩, ⟨3, ⟨1, (.t 7)⟩⟩, ⟨4, ⟨1, (.t 13)⟩⟩])⟩,
  ⟨(.some 1), .none, (.alloc 32 [(.d (.str ⟨⟨[]⟩⟩)), (.d (.int .i64 0)), (.d (.int .i64 0)), (.nilsl 5), (.nilsl 4)])⟩,
  ⟨.none, .none, (.store 5 (.t 1) (.t 14))⟩]
abbrev c_poundagelaw19_alive_r2 : List AO := [⟨(.some 16), .none, (.load (.some 5) (.t 1))⟩,
  ⟨(.some 17), .none, (.buildSlice 3 1 1 [(.d (.int .i64 0))] [⟨0, (.c (.d (.int .i64 3)))⟩])⟩,
  ⟨(.some 18), .none, (.call 10 [(.t 16), (.c (.d (.int .i64 4))), (.t 17)])⟩,
  ⟨(.some 15), .none, (.mov (.t 18))⟩,
  ⟨(.some 19), .none, (.extract (.t 15) 0)⟩,
  ⟨(.some 20), .none, (.extract (.t 15) 1)⟩,
  ⟨(.some 2), .none, (.mov (.t 19))⟩,
  ⟨(.some 3), .none, (.mov (.t 20))⟩]
abbrev c_poundagelaw19_alive_r3 : List AO := [⟨(.some 22), .none, (.load (.some 5) (.t 1))⟩,
  ⟨(.some 23), .none, (.buildSlice 3 1 1 [(.d (.int .i64 0))] [⟨0, (.c (.d (.int .i64 3)))⟩])⟩,
  ⟨(.some 24), .none, (.call 10 [(.t 22), (.c (.d (.int .i64 10))), (.t 23)])⟩,
  ⟨(.some 21), .none, (.mov (.t 24))⟩,
  ⟨(.some 25), .none, (.extract (.t 21) 0)⟩,
  ⟨(.some 26), .none, (.extract (.t 21) 1)⟩,
  ⟨(.some 4), .none, (.mov (.t 25))⟩,
  ⟨(.some 5), .none, (.mov (.t 26))⟩]
abbrev c_poundagelaw19_alive_r4 : List AO := [⟨(.some 27), .none, (.mov (.t 2))⟩,
  ⟨(.some 28), .none, (.bin .eql (.t 27) (.c (.d (.int .i64 11))))⟩,
  ⟨(.some 29), .none, (.mov (.t 28))⟩,
  ⟨(.some 30), (.some ⟨29, .true⟩), (.mov (.t 3))⟩,
  ⟨(.some 31), (.some ⟨29, .true⟩), (.bin .eql (.t 30) (.c (.d (.int .i64 0))))⟩,
  ⟨(.some 32), .none, (.pick (.t 29) (.t 31) (.c (.d (.bool .false))))⟩,
  ⟨(.some 33), .none, (.mov (.t 32))⟩,
  ⟨(.some 34), (.some ⟨33, .true⟩), (.mov (.t 5))⟩,
  ⟨(.some 35), (.some ⟨33, .true⟩), (.bin .eql (.t 34) (.c (.d (.int .i64 8))))⟩,
  ⟨(.some 36), .none, (.pick (.t 33) (.t 35) (.c (.d (.bool .false))))⟩,
  ⟨(.some 0), .none, (.mov (.t 36))⟩]
abbrev c_poundagelaw19_alive : AFunc := ⟨37, [(.tmp 0)], (.seq (.ops c_poundagelaw19_alive_r0) (.seq (.ops c_poundagelaw19_alive_r1) (.seq (.ops c_poundagelaw19_alive_r2) (.seq (.ops c_poundagelaw19_alive_r3) (.seq (.ops c_poundagelaw19_alive_r4) .ret)))))⟩
theorem comp_poundagelaw19_alive : funcC Try.prog 7 = some c_poundagelaw19_alive := by kernel_rfl
abbrev f_poundageref18_Fits : FuncId := 8
abbrev c_poundageref18_Fits_r0 : List AO := [⟨(.some 1), .none, (.box 26 (.t 0))⟩,
  ⟨(.some 2), .none, (.mov (.c (.d (.bool .false))))⟩]
abbrev c_poundageref18_Fits_r1 : List AO := [⟨(.some 5), .none, (.load (.some 6) (.t 1))⟩,
  ⟨(.some 6), .none, (.call 15 [(.t 5)])⟩,
  ⟨(.some 7), .none, (.mov (.t 6))⟩,
  ⟨(.some 8), (.some ⟨7, .false⟩), (.load (.some 6) (.t 1))⟩,
  ⟨(.some 9), (.some ⟨7, .false⟩), (.call 16 [(.t 8)])⟩,
  ⟨(.some 10), (.some ⟨7, .false⟩), (.un .not (.t 9))⟩,
  ⟨(.some 11), .none, (.pick (.t 7) (.c (.d (.bool .true))) (.t 10))⟩]
abbrev c_poundageref18_Fits_r2 : List AO := [⟨(.some 2), .none, (.mov (.c (.d (.bool .false))))⟩]
abbrev c_poundageref18_Fits_r3 : List AO := [⟨(.some 13), .none, (.load (.some 6) (.t 1))⟩,
  ⟨(.some 14), .none, (.call 17 [(.t 13)])⟩,
  ⟨(.some 12), .none, (.mov (.t 14))⟩,
  ⟨(.some 15), .none, (.extract (.t 12) 0)⟩,
  ⟨(.some 16), .none, (.extract (.t 12) 1)⟩,
  ⟨(.some 3), .none, (.mov (.t 15))⟩,
  ⟨(.some 4), .none, (.mov (.t 16))⟩]
abbrev c_poundageref18_Fits_r4 : List AO := [⟨(.some 17), .none, (.mov (.t 4))⟩,
  ⟨(.some 2), .none, (.mov (.t 17))⟩]
abbrev c_poundageref18_Fits : AFunc := ⟨18, [(.tmp 2)], (.seq (.ops c_poundageref18_Fits_r0) (.seq (.seq (.ops c_poundageref18_Fits_r1) (.cond (.t 11) (.seq (.ops c_poundageref18_Fits_r2) .ret) .skip)) (.seq (.ops c_poundageref18_Fits_r3) (.seq (.ops c_poundageref18_Fits_r4) .ret))))⟩
theorem comp_poundageref18_Fits : funcC Try.prog 8 = some c_poundageref18_Fits := by kernel_rfl
abbrev f_poundageref18_Make : FuncId := 9
abbrev c_poundageref18_Make_r0 : List AO := [⟨(.some 1), .none, (.box 26 (.t 0))⟩,
  ⟨(.some 2), .none, (.alloc 32 [(.d (.str ⟨⟨[]⟩⟩)), (.d (.int .i64 0)), (.d (.int .i64 0)), (.nilsl 5), (.nilsl 4)])⟩]
abbrev c_poundageref18_Make_r1 : List AO := [⟨(.some 8), .none, (.fieldAddr 0 (.t 1))⟩,
  ⟨(.some 10), .none, (.fieldAddr 1 (.t 1))⟩,
  ⟨(.some 12), .none, (.fieldAddr 2 (.t 1))⟩,
  ⟨(.some 15), .none, (.fieldAddr 3 (.t 1))⟩,
  ⟨(.some 9), .none, (.loadP .none 8)⟩,
  ⟨(.some 11), .none, (.loadP .none 10)⟩,
  ⟨(.some 13), .none, (.loadP .none 12)⟩,
  ⟨(.some 16), .none, (.loadP .none 15)⟩,
  ⟨(.some 14), .none, (.buildSliceD 54 5 0 [(.d (.str ⟨⟨[]⟩⟩)), (.d (.str ⟨⟨[]⟩⟩)), (.d (.int .i64 0)), (.d (.int .i64 0)), (.d (.int .i64 0))] [])⟩,
  ⟨(.some 17), .none, (.append 54 5 56 [(.d (.str ⟨⟨[]⟩⟩)), (.d (.str ⟨⟨[]⟩⟩)), (.d (.int .i64 0)), (.d (.int .i64 0)), (.d (.int .i64 0))] (.t 14) (.t 16))⟩,
  ⟨(.some 18), .none, (.build [(.d (.str ⟨⟨[]⟩⟩)), (.d (.int .i64 0)), (.d (.int .i64 0)), (.nilsl 5), (.nilsl 4)] [⟨0, ⟨1, (.t 9)⟩⟩, ⟨1, ⟨1, (.t 11)⟩⟩, ⟨2, ⟨1, (.t 13)⟩⟩, ⟨3, ⟨1, (.t 17)⟩⟩])⟩,
  ⟨(.some 3), .none, (.alloc 32 [(.d (.str ⟨⟨[]⟩⟩)), (.d (.int .i64 0)), (.d (.int .i64 0)), (.nilsl 5), (.nilsl 4)])⟩,
  ⟨.none, .none, (.storeS 5 3 (.t 18))⟩]
abbrev c_poundageref18_Make_r2 : List AO := [⟨(.some 19), .none, (.fieldAddr 1 (.t 1))⟩,
  ⟨(.some 26), .none, (.mov (.c (.d (.int .i64 0))))⟩,
  ⟨(.some 20), .none, (.load .none (.t 19))⟩,
  ⟨(.some 22), .none, (.load (.some 6) (.t 1))⟩,
  ⟨(.some 23), .none, (.pcall 18 [(.t 22)])⟩,
  ⟨(.some 21), .none, (.buildSliceD 3 1 1 [(.d (.int .i64 0))] [⟨0, (.t 20)⟩])⟩,
  ⟨(.some 24), .none, (.append 3 1 8 [(.d (.int .i64 0))] (.t 21) (.t 23))⟩,
  ⟨(.some 25), .none, (.len (.t 24))⟩]
abbrev c_poundageref18_Make_r3 : List AO := [⟨(.some 27), .none, (.bin .lss (.t 26) (.t 25))⟩]
abbrev c_poundageref18_Make_r4 : List AO := [⟨(.some 28), .none, (.elemAddr 1 (.t 24) (.t 26))⟩,
  ⟨(.some 29), .none, (.load .none (.t 28))⟩,
  ⟨(.some 5), .none, (.mov (.t 29))⟩]
abbrev c_poundageref18_Make_r5 : List AO := [⟨(.some 30), .none, (.load (.some 6) (.t 1))⟩,
  ⟨(.some 31), .none, (.mov (.t 5))⟩,
  ⟨(.some 32), .none, (.call 19 [(.t 30), (.t 31)])⟩,
  ⟨(.some 6), .none, (.alloc 41 [(.d (.int .i64 0)), (.d (.int .i64 0)), (.d (.int .i64 0)), (.nilsl 2)])⟩,
  ⟨.none, .none, (.store 4 (.t 6) (.t 32))⟩]
abbrev c_poundageref18_Make_r6 : List AO := [⟨(.some 33), .none, (.fieldAddr 4 (.t 3))⟩,
  ⟨(.some 34), .none, (.load .none (.t 33))⟩,
  ⟨(.some 35), .none, (.len (.t 34))⟩,
  ⟨(.some 7), .none, (.mov (.t 35))⟩]
abbrev c_poundageref18_Make_r7 : List AO := [⟨(.some 36), .none, (.mov (.t 7))⟩,
  ⟨(.some 37), .none, (.bin .gtr (.t 36) (.c (.d (.int .i64 0))))⟩]
abbrev c_poundageref18_Make_r8 : List AO := [⟨(.some 38), .none, (.fieldAddr 4 (.t 3))⟩,
  ⟨(.some 39), .none, (.load .none (.t 38))⟩,
  ⟨(.some 40), .none, (.mov (.t 7))⟩,
  ⟨(.some 41), .none, (.bin .sub (.t 40) (.c (.d (.int .i64 1))))⟩,
  ⟨(.some 42), .none, (.mov (.t 5))⟩,
  ⟨(.some 43), .none, (.bin .sub (.t 42) (.c (.d (.int .i64 1))))⟩,
  ⟨(.some 44), .none, (.elemAddr 4 (.t 39) (.t 41))⟩,
  ⟨(.some 45), .none, (.fieldAddr 1 (.t 44))⟩,
  ⟨.none, .none, (.store 1 (.t 45) (.t 43))⟩]
abbrev c_poundageref18_Make_r9 : List AO := [⟨(.some 46), .none, (.mov (.t 7))⟩,
  ⟨(.some 47), .none, (.bin .eql (.t 46) (.c (.d (.int .i64 0))))⟩,
  ⟨(.some 48), .none, (.mov (.t 47))⟩,
  ⟨(.some 49), (.some ⟨48, .false⟩), (.fieldAddr 4 (.t 3))⟩,
  ⟨(.some 51), (.some ⟨48, .false⟩), (.mov (.t 7))⟩,
  ⟨(.some 52), (.some ⟨48, .false⟩), (.bin .sub (.t 51) (.c (.d (.int .i64 1))))⟩,
  ⟨(.some 50), (.some ⟨48, .false⟩), (.load .none (.t 49))⟩,
  ⟨(.some 53), (.some ⟨48, .false⟩), (.elemAddr 4 (.t 50) (.t 52))⟩,
  ⟨(.some 54), (.some ⟨48, .false⟩), (.load (.some 4) (.t 53))⟩,
  ⟨(.some 55), (.some ⟨48, .false⟩), (.load (.some 4) (.t 6))⟩,
  ⟨(.some 56), (.some ⟨48, .false⟩), (.call 14 [(.t 54), (.t 55)])⟩,
  ⟨(.some 57), (.some ⟨48, .false⟩), (.un .not (.t 56))⟩,
  ⟨(.some 58), .none, (.pick (.t 48) (.c (.d (.bool .true))) (.t 57))⟩]
abbrev c_poundageref18_Make_r10 : List AO := [⟨(.some 59), .none, (.fieldAddr 4 (.t 3))⟩,
  ⟨(.some 60), .none, (.load .none (.t 59))⟩,
  ⟨(.some 61), .none, (.load (.some 4) (.t 6))⟩,
  ⟨(.some 62), .none, (.buildSlice 41 4 1 [(.d (.int .i64 0)), (.d (.int .i64 0)), (.d (.int .i64 0)), (.nilsl 2)] [⟨0, (.t 61)⟩])⟩,
  ⟨(.some 63), .none, (.append 41 4 48 [(.d (.int .i64 0)), (.d (.int .i64 0)), (.d (.int .i64 0)), (.nilsl 2)] (.t 60) (.t 62))⟩,
  ⟨(.some 64), .none, (.fieldAddr 4 (.t 3))⟩,
  ⟨.none, .none, (.store 1 (.t 64) (.t 63))⟩]
abbrev c_poundageref18_Make_r11 : List AO := [⟨(.some 65), .none, (.bin .add (.t 26) (.c (.d (.int .i64 1))))⟩,
  ⟨(.some 26), .none, (.mov (.t 65))⟩]
abbrev c_poundageref18_Make_l0 : ACode := (.seq (.ops c_poundageref18_Make_r3) (.seq (.cond (.t 27) .skip (.exit 0)) (.seq (.block 1 (.seq (.ops c_poundageref18_Make_r4) (.seq (.ops c_poundageref18_Make_r5) (.seq (.ops c_poundageref18_Make_r6) (.seq (.seq (.ops c_poundageref18_Make_r7) (.cond (.t 37) (.ops c_poundageref18_Make_r8) .skip)) (.seq (.dops c_poundageref18_Make_r9) (.cond (.t 58) (.ops c_poundageref18_Make_r10) .skip))))))) (.ops c_poundageref18_Make_r11))))
abbrev c_poundageref18_Make_r12 : List AO := [⟨(.some 66), .none, (.fieldAddr 4 (.t 3))⟩,
  ⟨(.some 67), .none, (.load .none (.t 66))⟩,
  ⟨(.some 68), .none, (.len (.t 67))⟩,
  ⟨(.some 69), .none, (.bin .gtr (.t 68) (.c (.d (.int .i64 0))))⟩]
abbrev c_poundageref18_Make_r13 : List AO := [⟨(.some 70), .none, (.fieldAddr 4 (.t 3))⟩,
  ⟨(.some 71), .none, (.load .none (.t 70))⟩,
  ⟨(.some 72), .none, (.fieldAddr 4 (.t 3))⟩,
  ⟨(.some 73), .none, (.load .none (.t 72))⟩,
  ⟨(.some 74), .none, (.len (.t 73))⟩,
  ⟨(.some 75), .none, (.bin .sub (.t 74) (.c (.d (.int .i64 1))))⟩,
  ⟨(.some 76), .none, (.fieldAddr 2 (.t 1))⟩,
  ⟨(.some 77), .none, (.load .none (.t 76))⟩,
  ⟨(.some 78), .none, (.elemAddr 4 (.t 71) (.t 75))⟩,
  ⟨(.some 79), .none, (.fieldAddr 1 (.t 78))⟩,
  ⟨.none, .none, (.store 1 (.t 79) (.t 77))⟩]
abbrev c_poundageref18_Make_r14 : List AO := [⟨(.some 80), .none, (.load (.some 5) (.t 3))⟩,
  ⟨.none, .none, (.store 5 (.t 2) (.t 80))⟩]
abbrev c_poundageref18_Make : AFunc := ⟨81, [(.cell 2 (.some 5))], (.seq (.ops c_poundageref18_Make_r0) (.seq (.dops c_poundageref18_Make_r1) (.seq (.seq (.dops c_poundageref18_Make_r2) (.block 0 (.loop c_poundageref18_Make_l0))) (.seq (.seq (.ops c_poundageref18_Make_r12) (.cond (.t 69) (.ops c_poundageref18_Make_r13) .skip)) (.seq (.ops c_poundageref18_Make_r14) .ret)))))⟩
theorem comp_poundageref18_Make : funcC Try.prog 9 = some c_poundageref18_Make := by kernel_rfl
abbrev f_lookup_Price : FuncId := 10
abbrev c_lookup_Price_r0 : List AO := [⟨(.some 3), .none, (.box 32 (.t 0))⟩,
  ⟨(.some 6), .none, (.mov (.c (.d (.int .i64 0))))⟩,
  ⟨(.some 7), .none, (.mov (.c (.d (.int .i64 0))))⟩]
abbrev c_lookup_Price_r1 : List AO := [⟨(.some 16), .none, (.load (.some 5) (.t 3))⟩,
  ⟨(.some 17), .none, (.mov (.t 1))⟩,
  ⟨(.some 18), .none, (.call 12 [(.t 16), (.t 17)])⟩,
  ⟨(.some 15), .none, (.mov (.t 18))⟩,
  ⟨(.some 19), .none, (.extract (.t 15) 0)⟩,
  ⟨(.some 20), .none, (.extract (.t 15) 1)⟩,
  ⟨(.some 8), .none, (.alloc 41 [(.d (.int .i64 0)), (.d (.int .i64 0)), (.d (.int .i64 0)), (.nilsl 2)])⟩,
  ⟨.none, .none, (.store 4 (.t 8) (.t 19))⟩,
  ⟨(.some 9), .none, (.mov (.t 20))⟩]
abbrev c_lookup_Price_r2 : List AO := [⟨(.some 21), .none, (.mov (.t 9))⟩,
  ⟨(.some 22), .none, (.un .not (.t 21))⟩,
  ⟨(.some 23), .none, (.mov (.t 22))⟩,
  ⟨(.some 24), (.some ⟨23, .false⟩), (.mov (.t 2))⟩,
  ⟨(.some 25), (.some ⟨23, .false⟩), (.len (.t 24))⟩,
  ⟨(.some 26), (.some ⟨23, .false⟩), (.fieldAddr 3 (.t 8))⟩,
  ⟨(.some 27), (.some ⟨23, .false⟩), (.load .none (.t 26))⟩,
  ⟨(.some 28), (.some ⟨23, .false⟩), (.len (.t 27))⟩,
  ⟨(.some 29), (.some ⟨23, .false⟩), (.bin .neq (.t 25) (.t 28))⟩,
  ⟨(.some 30), .none, (.pick (.t 23) (.c (.d (.bool .true))) (.t 29))⟩]
abbrev c_lookup_Price_r3 : List AO := [⟨(.some 6), .none, (.mov (.c (.d (.int .i64 0))))⟩,
  ⟨(.some 7), .none, (.mov (.c (.d (.int .i64 8))))⟩]
abbrev c_lookup_Price_r4 : List AO := [⟨(.some 31), .none, (.fieldAddr 2 (.t 8))⟩,
  ⟨(.some 32), .none, (.load .none (.t 31))⟩,
  ⟨(.some 10), .none, (.mov (.t 32))⟩]
abbrev c_lookup_Price_r5 : List AO := [⟨(.some 33), .none, (.mov (.t 2))⟩,
  ⟨(.some 34), .none, (.len (.t 33))⟩,
  ⟨(.some 35), .none, (.mov (.c (.d (.int .i64 0))))⟩]
abbrev c_lookup_Price_r6 : List AO := [⟨(.some 36), .none, (.bin .lss (.t 35) (.t 34))⟩]
abbrev c_lookup_Price_r7 : List AO := [⟨(.some 37), .none, (.mov (.t 35))⟩,
  ⟨(.some 38), .none, (.elemAddr 1 (.t 33) (.t 35))⟩,
  ⟨(.some 39), .none, (.load .none (.t 38))⟩,
  ⟨(.some 11), .none, (.mov (.t 37))⟩,
  ⟨(.some 12), .none, (.mov (.t 39))⟩]
abbrev c_lookup_Price_r8 : List AO := [⟨(.some 41), .none, (.fieldAddr 3 (.t 8))⟩,
  ⟨(.some 42), .none, (.load .none (.t 41))⟩,
  ⟨(.some 43), .none, (.mov (.t 11))⟩,
  ⟨(.some 44), .none, (.elemAddr 2 (.t 42) (.t 43))⟩,
  ⟨(.some 45), .none, (.load (.some 2) (.t 44))⟩,
  ⟨(.some 46), .none, (.mov (.t 12))⟩,
  ⟨(.some 47), .none, (.call 20 [(.t 45), (.t 46)])⟩,
  ⟨(.some 40), .none, (.mov (.t 47))⟩,
  ⟨(.some 48), .none, (.extract (.t 40) 0)⟩,
  ⟨(.some 49), .none, (.extract (.t 40) 1)⟩,
  ⟨(.some 13), .none, (.mov (.t 48))⟩,
  ⟨(.some 14), .none, (.mov (.t 49))⟩]
abbrev c_lookup_Price_r9 : List AO := [⟨(.some 50), .none, (.mov (.t 14))⟩,
  ⟨(.some 51), .none, (.un .not (.t 50))⟩]
abbrev c_lookup_Price_r10 : List AO := [⟨(.some 6), .none, (.mov (.c (.d (.int .i64 0))))⟩,
  ⟨(.some 7), .none, (.mov (.c (.d (.int .i64 8))))⟩]
abbrev c_lookup_Price_r11 : List AO := [⟨(.some 52), .none, (.mov (.t 10))⟩,
  ⟨(.some 53), .none, (.mov (.t 13))⟩,
  ⟨(.some 54), .none, (.bin .add (.t 52) (.t 53))⟩,
  ⟨(.some 10), .none, (.mov (.t 54))⟩]
abbrev c_lookup_Price_r12 : List AO := [⟨(.some 55), .none, (.bin .add (.t 35) (.c (.d (.int .i64 1))))⟩,
  ⟨(.some 35), .none, (.mov (.t 55))⟩]
abbrev c_lookup_Price_l0 : ACode := (.seq (.ops c_lookup_Price_r6) (.seq (.cond (.t 36) .skip (.exit 0)) (.seq (.block 1 (.seq (.ops c_lookup_Price_r7) (.seq (.ops c_lookup_Price_r8) (.seq (.seq (.ops c_lookup_Price_r9) (.cond (.t 51) (.seq (.ops c_lookup_Price_r10) .ret) .skip)) (.ops c_lookup_Price_r11))))) (.ops c_lookup_Price_r12))))
abbrev c_lookup_Price_r13 : List AO := [⟨(.some 56), .none, (.mov (.t 10))⟩,
  ⟨(.some 6), .none, (.mov (.t 56))⟩,
  ⟨(.some 7), .none, (.mov (.c (.d (.int .i64 0))))⟩]
abbrev c_lookup_Price : AFunc := ⟨57, [(.tmp 6), (.tmp 7)], (.seq (.ops c_lookup_Price_r0) (.seq (.ops c_lookup_Price_r1) (.seq (.seq (.ops c_lookup_Price_r2) (.cond (.t 30) (.seq (.ops c_lookup_Price_r3) .ret) .skip)) (.seq (.ops c_lookup_Price_r4) (.seq (.seq (.ops c_lookup_Price_r5) (.block 0 (.loop c_lookup_Price_l0))) (.seq (.ops c_lookup_Price_r13) .ret))))))⟩
theorem comp_lookup_Price : funcC Try.prog 10 = some c_lookup_Price := by kernel_rfl
abbrev f_lookup_On : FuncId := 12
abbrev c_lookup_On_r0 : List AO := [⟨(.some 2), .none, (.box 32 (.t 0))⟩,
  ⟨(.some 4), .none, (.alloc 41 [(.d (.int .i64 0)), (.d (.int .i64 0)), (.d (.int .i64 0)), (.nilsl 2)])⟩,
  ⟨(.some 5), .none, (.mov (.c (.d (.bool .false))))⟩]
abbrev c_lookup_On_r1 : List AO := [⟨(.some 9), .none, (.fieldAddr 4 (.t 2))⟩,
  ⟨(.some 10), .none, (.load .none (.t 9))⟩,
  ⟨(.some 11), .none, (.mov (.t 1))⟩,
  ⟨(.some 12), .none, (.call 22 [(.t 10), (.t 11), (.c (.fn 23 []))])⟩,
  ⟨(.some 8), .none, (.mov (.t 12))⟩,
  ⟨(.some 13), .none, (.extract (.t 8) 0)⟩,
  ⟨(.some 14), .none, (.extract (.t 8) 1)⟩,
  ⟨(.some 6), .none, (.mov (.t 13))⟩,
  ⟨(.some 7), .none, (.mov (.t 14))⟩]
abbrev c_lookup_On_r2 : List AO := [⟨(.some 15), .none, (.mov (.t 6))⟩,
  ⟨(.some 16), .none, (.fieldAddr 4 (.t 2))⟩,
  ⟨(.some 17), .none, (.load .none (.t 16))⟩,
  ⟨(.some 18), .none, (.len (.t 17))⟩,
  ⟨(.some 19), .none, (.bin .lss (.t 15) (.t 18))⟩,
  ⟨(.some 20), .none, (.mov (.t 19))⟩,
  ⟨(.some 21), (.some ⟨20, .true⟩), (.fieldAddr 4 (.t 2))⟩,
  ⟨(.some 22), (.some ⟨20, .true⟩), (.load .none (.t 21))⟩,
  ⟨(.some 23), (.some ⟨20, .true⟩), (.mov (.t 6))⟩,
  ⟨(.some 24), (.some ⟨20, .true⟩), (.elemAddr 4 (.t 22) (.t 23))⟩,
  ⟨(.some 25), (.some ⟨20, .true⟩), (.fieldAddr 0 (.t 24))⟩,
  ⟨(.some 26), (.some ⟨20, .true⟩), (.load .none (.t 25))⟩,
  ⟨(.some 27), (.some ⟨20, .true⟩), (.mov (.t 1))⟩,
  ⟨(.some 28), (.some ⟨20, .true⟩), (.bin .leq (.t 26) (.t 27))⟩,
  ⟨(.some 29), .none, (.pick (.t 20) (.t 28) (.c (.d (.bool .false))))⟩]
abbrev c_lookup_On_r3 : List AO := [⟨(.some 30), .none, (.fieldAddr 4 (.t 2))⟩,
  ⟨(.some 31), .none, (.load .none (.t 30))⟩,
  ⟨(.some 32), .none, (.mov (.t 6))⟩,
  ⟨(.some 33), .none, (.elemAddr 4 (.t 31) (.t 32))⟩,
  ⟨(.some 34), .none, (.load (.some 4) (.t 33))⟩,
  ⟨.none, .none, (.store 4 (.t 4) (.t 34))⟩,
  ⟨(.some 5), .none, (.mov (.c (.d (.bool .true))))⟩]
abbrev c_lookup_On_r4 : List AO := [⟨(.some 35), .none, (.build [(.d (.int .i64 0)), (.d (.int .i64 0)), (.d (.int .i64 0)), (.nilsl 2)] [])⟩,
  ⟨.none, .none, (.store 4 (.t 4) (.t 35))⟩,
  ⟨(.some 5), .none, (.mov (.c (.d (.bool .false))))⟩]
abbrev c_lookup_On : AFunc := ⟨36, [(.cell 4 (.some 4)), (.tmp 5)], (.seq (.ops c_lookup_On_r0) (.seq (.ops c_lookup_On_r1) (.seq (.seq (.ops c_lookup_On_r2) (.cond (.t 29) (.seq (.ops c_lookup_On_r3) .ret) .skip)) (.seq (.ops c_lookup_On_r4) .ret))))⟩
theorem comp_lookup_On : funcC Try.prog 12 = some c_lookup_On := by kernel_rfl
abbrev f_poundageref18_Alike : FuncId := 14
abbrev c_poundageref18_Alike_r0 : List AO := [⟨(.some 2), .none, (.box 41 (.t 0))⟩,
  ⟨(.some 3), .none, (.box 41 (.t 1))⟩,
  ⟨(.some 4), .none, (.mov (.c (.d (.bool .false))))⟩]
abbrev c_poundageref18_Alike_r1 : List AO := [⟨(.some 6), .none, (.fieldAddr 2 (.t 2))⟩,
  ⟨(.some 7), .none, (.load .none (.t 6))⟩,
  ⟨(.some 8), .none, (.fieldAddr 2 (.t 3))⟩,
  ⟨(.some 9), .none, (.load .none (.t 8))⟩,
  ⟨(.some 10), .none, (.bin .neq (.t 7) (.t 9))⟩,
  ⟨(.some 11), .none, (.mov (.t 10))⟩,
  ⟨(.some 12), (.some ⟨11, .false⟩), (.fieldAddr 3 (.t 2))⟩,
  ⟨(.some 13), (.some ⟨11, .false⟩), (.load .none (.t 12))⟩,
  ⟨(.some 14), (.some ⟨11, .false⟩), (.len (.t 13))⟩,
  ⟨(.some 15), (.some ⟨11, .false⟩), (.fieldAddr 3 (.t 3))⟩,
  ⟨(.some 16), (.some ⟨11, .false⟩), (.load .none (.t 15))⟩,
  ⟨(.some 17), (.some ⟨11, .false⟩), (.len (.t 16))⟩,
  ⟨(.some 18), (.some ⟨11, .false⟩), (.bin .neq (.t 14) (.t 17))⟩,
  ⟨(.some 19), .none, (.pick (.t 11) (.c (.d (.bool .true))) (.t 18))⟩]
abbrev c_poundageref18_Alike_r2 : List AO := [⟨(.some 4), .none, (.mov (.c (.d (.bool .false))))⟩]
abbrev c_poundageref18_Alike_r3 : List AO := [⟨(.some 20), .none, (.fieldAddr 3 (.t 2))⟩,
  ⟨(.some 21), .none, (.load .none (.t 20))⟩,
  ⟨(.some 22), .none, (.len (.t 21))⟩,
  ⟨(.some 23), .none, (.mov (.c (.d (.int .i64 0))))⟩]
abbrev c_poundageref18_Alike_r4 : List AO := [⟨(.some 24), .none, (.bin .lss (.t 23) (.t 22))⟩]
abbrev c_poundageref18_Alike_r5 : List AO := [⟨(.some 25), .none, (.mov (.t 23))⟩,
  ⟨(.some 5), .none, (.mov (.t 25))⟩]
abbrev c_poundageref18_Alike_r6 : List AO := [⟨(.some 26), .none, (.fieldAddr 3 (.t 2))⟩,
  ⟨(.some 28), .none, (.mov (.t 5))⟩,
  ⟨(.some 31), .none, (.fieldAddr 3 (.t 3))⟩,
  ⟨(.some 33), .none, (.mov (.t 5))⟩,
  ⟨(.some 27), .none, (.load .none (.t 26))⟩,
  ⟨(.some 29), .none, (.elemAddr 2 (.t 27) (.t 28))⟩,
  ⟨(.some 30), .none, (.load (.some 2) (.t 29))⟩,
  ⟨(.some 32), .none, (.load .none (.t 31))⟩,
  ⟨(.some 34), .none, (.elemAddr 2 (.t 32) (.t 33))⟩,
  ⟨(.some 35), .none, (.load (.some 2) (.t 34))⟩,
  ⟨(.some 36), .none, (.call 25 [(.t 30), (.t 35)])⟩,
  ⟨(.some 37), .none, (.un .not (.t 36))⟩]
abbrev c_poundageref18_Alike_r7 : List AO := [⟨(.some 4), .none, (.mov (.c (.d (.bool .false))))⟩]
abbrev c_poundageref18_Alike_r8 : List AO := [⟨(.some 38), .none, (.bin .add (.t 23) (.c (.d (.int .i64 1))))⟩,
  ⟨(.some 23), .none, (.mov (.t 38))⟩]
abbrev c_poundageref18_Alike_l0 : ACode := (.seq (.ops c_poundageref18_Alike_r4) (.seq (.cond (.t 24) .skip (.exit 0)) (.seq (.block 1 (.seq (.ops c_poundageref18_Alike_r5) (.seq (.dops c_poundageref18_Alike_r6) (.cond (.t 37) (.seq (.ops c_poundageref18_Alike_r7) .ret) .skip)))) (.ops c_poundageref18_Alike_r8))))
abbrev c_poundageref18_Alike_r9 : List AO := [⟨(.some 4), .none, (.mov (.c (.d (.bool .true))))⟩]
abbrev c_poundageref18_Alike : AFunc := ⟨39, [(.tmp 4)], (.seq (.ops c_poundageref18_Alike_r0) (.seq (.seq (.ops c_poundageref18_Alike_r1) (.cond (.t 19) (.seq (.ops c_poundageref18_Alike_r2) .ret) .skip)) (.seq (.seq (.ops c_poundageref18_Alike_r3) (.block 0 (.loop c_poundageref18_Alike_l0))) (.seq (.ops c_poundageref18_Alike_r9) .ret))))⟩
theorem comp_poundageref18_Alike : funcC Try.prog 14 = some c_poundageref18_Alike := by kernel_rfl
abbrev f_poundageref10_Great : FuncId := 15
abbrev c_poundageref10_Great_r0 : List AO := [⟨(.some 1), .none, (.box 26 (.t 0))⟩,
  ⟨(.some 2), .none, (.mov (.c (.d (.bool .false))))⟩]
abbrev c_poundageref10_Great_r1 : List AO := [⟨(.some 7), .none, (.fieldAddr 3 (.t 1))⟩,
  ⟨(.some 8), .none, (.load .none (.t 7))⟩,
  ⟨(.some 9), .none, (.len (.t 8))⟩,
  ⟨(.some 10), .none, (.bin .gtr (.t 9) (.c (.d (.int .i64 20))))⟩,
  ⟨(.some 11), .none, (.mov (.t 10))⟩,
  ⟨(.some 12), (.some ⟨11, .false⟩), (.fieldAddr 4 (.t 1))⟩,
  ⟨(.some 13), (.some ⟨11, .false⟩), (.load .none (.t 12))⟩,
  ⟨(.some 14), (.some ⟨11, .false⟩), (.len (.t 13))⟩,
  ⟨(.some 15), (.some ⟨11, .false⟩), (.bin .gtr (.t 14) (.c (.d (.int .i64 40))))⟩,
  ⟨(.some 16), .none, (.pick (.t 11) (.c (.d (.bool .true))) (.t 15))⟩,
  ⟨(.some 17), .none, (.mov (.t 16))⟩,
  ⟨(.some 18), (.some ⟨17, .false⟩), (.fieldAddr 5 (.t 1))⟩,
  ⟨(.some 19), (.some ⟨17, .false⟩), (.load .none (.t 18))⟩,
  ⟨(.some 20), (.some ⟨17, .false⟩), (.len (.t 19))⟩,
  ⟨(.some 21), (.some ⟨17, .false⟩), (.bin .gtr (.t 20) (.c (.d (.int .i64 40))))⟩,
  ⟨(.some 22), .none, (.pick (.t 17) (.c (.d (.bool .true))) (.t 21))⟩,
  ⟨(.some 23), .none, (.mov (.t 22))⟩,
  ⟨(.some 24), (.some ⟨23, .false⟩), (.fieldAddr 0 (.t 1))⟩,
  ⟨(.some 25), (.some ⟨23, .false⟩), (.load .none (.t 24))⟩,
  ⟨(.some 26), (.some ⟨23, .false⟩), (.slen (.t 25))⟩,
  ⟨(.some 27), (.some ⟨23, .false⟩), (.bin .gtr (.t 26) (.c (.d (.int .i64 200))))⟩,
  ⟨(.some 28), .none, (.pick (.t 23) (.c (.d (.bool .true))) (.t 27))⟩]
abbrev c_poundageref10_Great_r2 : List AO := [⟨(.some 2), .none, (.mov (.c (.d (.bool .true))))⟩]
abbrev c_poundageref10_Great_r3 : List AO := [⟨(.some 29), .none, (.fieldAddr 3 (.t 1))⟩,
  ⟨(.some 30), .none, (.load .none (.t 29))⟩,
  ⟨(.some 31), .none, (.len (.t 30))⟩,
  ⟨(.some 32), .none, (.mov (.c (.d (.int .i64 0))))⟩]
abbrev c_poundageref10_Great_r4 : List AO := [⟨(.some 33), .none, (.bin .lss (.t 32) (.t 31))⟩]
abbrev c_poundageref10_Great_r5 : List AO := [⟨(.some 34), .none, (.elemAddr 5 (.t 30) (.t 32))⟩,
  ⟨(.some 35), .none, (.load (.some 5) (.t 34))⟩,
  ⟨(.some 4), .none, (.alloc 54 [(.d (.str ⟨⟨[]⟩⟩)), (.d (.str ⟨⟨[]⟩⟩)), (.d (.int .i64 0)), (.d (.int .i64 0)), (.d (.int .i64 0))])⟩,
  ⟨.none, .none, (.store 5 (.t 4) (.t 35))⟩]
abbrev c_poundageref10_Great_r6 : List AO := [⟨(.some 36), .none, (.fieldAddr 0 (.t 4))⟩,
  ⟨(.some 37), .none, (.load .none (.t 36))⟩,
  ⟨(.some 38), .none, (.slen (.t 37))⟩,
  ⟨(.some 39), .none, (.bin .gtr (.t 38) (.c (.d (.int .i64 200))))⟩,
  ⟨(.some 40), .none, (.mov (.t 39))⟩,
  ⟨(.some 41), (.some ⟨40, .false⟩), (.fieldAddr 1 (.t 4))⟩,
  ⟨(.some 42), (.some ⟨40, .false⟩), (.load .none (.t 41))⟩,
  ⟨(.some 43), (.some ⟨40, .false⟩), (.slen (.t 42))⟩,
  ⟨(.some 44), (.some ⟨40, .false⟩), (.bin .gtr (.t 43) (.c (.d (.int .i64 200))))⟩,
  ⟨(.some 45), .none, (.pick (.t 40) (.c (.d (.bool .true))) (.t 44))⟩]
abbrev c_poundageref10_Great_r7 : List AO := [⟨(.some 2), .none, (.mov (.c (.d (.bool .true))))⟩]
abbrev c_poundageref10_Great_r8 : List AO := [⟨(.some 46), .none, (.bin .add (.t 32) (.c (.d (.int .i64 1))))⟩,
  ⟨(.some 32), .none, (.mov (.t 46))⟩]
abbrev c_poundageref10_Great_l0 : ACode := (.seq (.ops c_poundageref10_Great_r4) (.seq (.cond (.t 33) .skip (.exit 0)) (.seq (.block 1 (.seq (.ops c_poundageref10_Great_r5) (.seq (.ops c_poundageref10_Great_r6) (.cond (.t 45) (.seq (.ops c_poundageref10_Great_r7) .ret) .skip)))) (.ops c_poundageref10_Great_r8))))
abbrev c_poundageref10_Great_r9 : List AO := [⟨(.some 47), .none, (.fieldAddr 5 (.t 1))⟩,
  ⟨(.some 48), .none, (.load .none (.t 47))⟩,
  ⟨(.some 49), .none, (.len (.t 48))⟩,
  ⟨(.some 50), .none, (.mov (.c (.d (.int .i64 0))))⟩]
abbrev c_poundageref10_Great_r10 : List AO := [⟨(.some 51), .none, (.bin .lss (.t 50) (.t 49))⟩]
abbrev c_poundageref10_Great_r11 : List AO := [⟨(.some 52), .none, (.elemAddr 9 (.t 48) (.t 50))⟩,
  ⟨(.some 53), .none, (.load (.some 9) (.t 52))⟩,
  ⟨(.some 6), .none, (.alloc 51 [(.d (.int .i64 0)), (.d (.int .i64 0)), (.d (.int .i64 0)), (.d (.int .i64 0)), (.d (.int .i64 0)), (.d (.int .i64 0)), (.nilsl 2), (.d (.int .i64 0)), (.nilsl 3)])⟩,
  ⟨.none, .none, (.store 9 (.t 6) (.t 53))⟩]
abbrev c_poundageref10_Great_r12 : List AO := [⟨(.some 54), .none, (.fieldAddr 6 (.t 6))⟩,
  ⟨(.some 55), .none, (.load .none (.t 54))⟩,
  ⟨(.some 56), .none, (.len (.t 55))⟩,
  ⟨(.some 57), .none, (.bin .gtr (.t 56) (.c (.d (.int .i64 40))))⟩,
  ⟨(.some 58), .none, (.mov (.t 57))⟩,
  ⟨(.some 59), (.some ⟨58, .false⟩), (.fieldAddr 8 (.t 6))⟩,
  ⟨(.some 60), (.some ⟨58, .false⟩), (.load .none (.t 59))⟩,
  ⟨(.some 61), (.some ⟨58, .false⟩), (.len (.t 60))⟩,
  ⟨(.some 62), (.some ⟨58, .false⟩), (.bin .gtr (.t 61) (.c (.d (.int .i64 40))))⟩,
  ⟨(.some 63), .none, (.pick (.t 58) (.c (.d (.bool .true))) (.t 62))⟩]
abbrev c_poundageref10_Great_r13 : List AO := [⟨(.some 2), .none, (.mov (.c (.d (.bool .true))))⟩]
abbrev c_poundageref10_Great_r14 : List AO := [⟨(.some 64), .none, (.bin .add (.t 50) (.c (.d (.int .i64 1))))⟩,
  ⟨(.some 50), .none, (.mov (.t 64))⟩]
abbrev c_poundageref10_Great_l1 : ACode := (.seq (.ops c_poundageref10_Great_r10) (.seq (.cond (.t 51) .skip (.exit 2)) (.seq (.block 3 (.seq (.ops c_poundageref10_Great_r11) (.seq (.ops c_poundageref10_Great_r12) (.cond (.t 63) (.seq (.ops c_poundageref10_Great_r13) .ret) .skip)))) (.ops c_poundageref10_Great_r14))))
abbrev c_poundageref10_Great_r15 : List AO := [⟨(.some 2), .none, (.mov (.c (.d (.bool .false))))⟩]
abbrev c_poundageref10_Great : AFunc := ⟨65, [(.tmp 2)], (.seq (.ops c_poundageref10_Great_r0) (.seq (.seq (.ops c_poundageref10_Great_r1) (.cond (.t 28) (.seq (.ops c_poundageref10_Great_r2) .ret) .skip)) (.seq (.seq (.ops c_poundageref10_Great_r3) (.block 0 (.loop c_poundageref10_Great_l0))) (.seq (.seq (.ops c_poundageref10_Great_r9) (.block 2 (.loop c_poundageref10_Great_l1))) (.seq (.ops c_poundageref10_Great_r15) .ret)))))⟩
theorem comp_poundageref10_Great : funcC Try.prog 15 = some c_poundageref10_Great := by kernel_rfl
abbrev f_poundageref10_Good : FuncId := 16
abbrev c_poundageref10_Good_r0 : List AO := [⟨(.some 1), .none, (.box 26 (.t 0))⟩,
  ⟨(.some 2), .none, (.mov (.c (.d (.bool .false))))⟩]
abbrev c_poundageref10_Good_r1 : List AO := [⟨(.some 9), .none, (.fieldAddr 1 (.t 1))⟩,
  ⟨(.some 10), .none, (.load .none (.t 9))⟩,
  ⟨(.some 11), .none, (.call 26 [(.t 10), (.c (.d (.int .i64 0))), (.c (.d (.int .i64 3652058)))])⟩,
  ⟨(.some 12), .none, (.un .not (.t 11))⟩,
  ⟨(.some 13), .none, (.mov (.t 12))⟩,
  ⟨(.some 14), (.some ⟨13, .false⟩), (.fieldAddr 2 (.t 1))⟩,
  ⟨(.some 15), (.some ⟨13, .false⟩), (.load .none (.t 14))⟩,
  ⟨(.some 16), (.some ⟨13, .false⟩), (.fieldAddr 1 (.t 1))⟩,
  ⟨(.some 17), (.some ⟨13, .false⟩), (.load .none (.t 16))⟩,
  ⟨(.some 18), (.some ⟨13, .false⟩), (.call 26 [(.t 15), (.t 17), (.c (.d (.int .i64 3652058)))])⟩,
  ⟨(.some 19), (.some ⟨13, .false⟩), (.un .not (.t 18))⟩,
  ⟨(.some 20), .none, (.pick (.t 13) (.c (.d (.bool .true))) (.t 19))⟩,
  ⟨(.some 21), .none, (.mov (.t 20))⟩,
  ⟨(.some 22), (.some ⟨21, .false⟩), (.fieldAddr 2 (.t 1))⟩,
  ⟨(.some 23), (.some ⟨21, .false⟩), (.load .none (.t 22))⟩,
  ⟨(.some 24), (.some ⟨21, .false⟩), (.fieldAddr 1 (.t 1))⟩,
  ⟨(.some 25), (.some ⟨21, .false⟩), (.load .none (.t 24))⟩,
  ⟨(.some 26), (.some ⟨21, .false⟩), (.bin .sub (.t 23) (.t 25))⟩,
  ⟨(.some 27), (.some ⟨21, .false⟩), (.bin .gtr (.t 26) (.c (.d (.int .i64 3999))))⟩,
  ⟨(.some 28), .none, (.pick (.t 21) (.c (.d (.bool .true))) (.t 27))⟩,
  ⟨(.some 29), .none, (.mov (.t 28))⟩,
  ⟨(.some 30), (.some ⟨29, .false⟩), (.fieldAddr 3 (.t 1))⟩,
  ⟨(.some 31), (.some ⟨29, .false⟩), (.load .none (.t 30))⟩,
  ⟨(.some 32), (.some ⟨29, .false⟩), (.len (.t 31))⟩,
  ⟨(.some 33), (.some ⟨29, .false⟩), (.bin .gtr (.t 32) (.c (.d (.int .i64 4))))⟩,
  ⟨(.some 34), .none, (.pick (.t 29) (.c (.d (.bool .true))) (.t 33))⟩,
  ⟨(.some 35), .none, (.mov (.t 34))⟩,
  ⟨(.some 36), (.some ⟨35, .false⟩), (.fieldAddr 4 (.t 1))⟩,
  ⟨(.some 37), (.some ⟨35, .false⟩), (.load .none (.t 36))⟩,
  ⟨(.some 38), (.some ⟨35, .false⟩), (.len (.t 37))⟩,
  ⟨(.some 39), (.some ⟨35, .false⟩), (.bin .gtr (.t 38) (.c (.d (.int .i64 8))))⟩,
  ⟨(.some 40), .none, (.pick (.t 35) (.c (.d (.bool .true))) (.t 39))⟩,
  ⟨(.some 41), .none, (.mov (.t 40))⟩,
  ⟨(.some 42), (.some ⟨41, .false⟩), (.fieldAddr 5 (.t 1))⟩,
  ⟨(.some 43), (.some ⟨41, .false⟩), (.load .none (.t 42))⟩,
  ⟨(.some 44), (.some ⟨41, .false⟩), (.len (.t 43))⟩,
  ⟨(.some 45), (.some ⟨41, .false⟩), (.bin .gtr (.t 44) (.c (.d (.int .i64 8))))⟩,
  ⟨(.some 46), .none, (.pick (.t 41) (.c (.d (.bool .true))) (.t 45))⟩]
abbrev c_poundageref10_Good_r2 : List AO := [⟨(.some 2), .none, (.mov (.c (.d (.bool .false))))⟩]
abbrev c_poundageref10_Good_r3 : List AO := [⟨(.some 47), .none, (.fieldAddr 3 (.t 1))⟩,
  ⟨(.some 48), .none, (.load .none (.t 47))⟩,
  ⟨(.some 49), .none, (.len (.t 48))⟩,
  ⟨(.some 50), .none, (.mov (.c (.d (.int .i64 0))))⟩]
abbrev c_poundageref10_Good_r4 : List AO := [⟨(.some 51), .none, (.bin .lss (.t 50) (.t 49))⟩]
abbrev c_poundageref10_Good_r5 : List AO := [⟨(.some 52), .none, (.mov (.t 50))⟩,
  ⟨(.some 53), .none, (.elemAddr 5 (.t 48) (.t 50))⟩,
  ⟨(.some 54), .none, (.load (.some 5) (.t 53))⟩,
  ⟨(.some 4), .none, (.alloc 54 [(.d (.str ⟨⟨[]⟩⟩)), (.d (.str ⟨⟨[]⟩⟩)), (.d (.int .i64 0)), (.d (.int .i64 0)), (.d (.int .i64 0))])⟩,
  ⟨(.some 3), .none, (.mov (.t 52))⟩,
  ⟨.none, .none, (.store 5 (.t 4) (.t 54))⟩]
abbrev c_poundageref10_Good_r6 : List AO := [⟨(.some 55), .none, (.fieldAddr 2 (.t 4))⟩,
  ⟨(.some 56), .none, (.load .none (.t 55))⟩,
  ⟨(.some 57), .none, (.call 26 [(.t 56), (.c (.d (.int .i64 0))), (.c (.d (.int .i64 2000)))])⟩,
  ⟨(.some 58), .none, (.un .not (.t 57))⟩,
  ⟨(.some 59), .none, (.mov (.t 58))⟩,
  ⟨(.some 60), (.some ⟨59, .false⟩), (.fieldAddr 3 (.t 4))⟩,
  ⟨(.some 61), (.some ⟨59, .false⟩), (.load .none (.t 60))⟩,
  ⟨(.some 62), (.some ⟨59, .false⟩), (.bin .neq (.t 61) (.c (.d (.int .i64 0))))⟩,
  ⟨(.some 63), .none, (.pick (.t 59) (.c (.d (.bool .true))) (.t 62))⟩,
  ⟨(.some 64), .none, (.mov (.t 63))⟩,
  ⟨(.some 65), (.some ⟨64, .false⟩), (.fieldAddr 4 (.t 4))⟩,
  ⟨(.some 66), (.some ⟨64, .false⟩), (.load .none (.t 65))⟩,
  ⟨(.some 67), (.some ⟨64, .false⟩), (.bin .neq (.t 66) (.c (.d (.int .i64 0))))⟩,
  ⟨(.some 68), .none, (.pick (.t 64) (.c (.d (.bool .true))) (.t 67))⟩,
  ⟨(.some 69), .none, (.mov (.t 68))⟩,
  ⟨(.some 70), (.some ⟨69, .false⟩), (.mov (.t 3))⟩,
  ⟨(.some 71), (.some ⟨69, .false⟩), (.bin .gtr (.t 70) (.c (.d (.int .i64 0))))⟩,
  ⟨(.some 72), (.some ⟨69, .false⟩), (.mov (.t 71))⟩,
  ⟨(.some 73), (.some ⟨72, .true⟩), (.fieldAddr 3 (.t 1))⟩,
  ⟨(.some 75), (.some ⟨72, .true⟩), (.mov (.t 3))⟩,
  ⟨(.some 76), (.some ⟨72, .true⟩), (.bin .sub (.t 75) (.c (.d (.int .i64 1))))⟩,
  ⟨(.some 80), (.some ⟨72, .true⟩), (.fieldAddr 0 (.t 4))⟩,
  ⟨(.some 74), (.some ⟨72, .true⟩), (.load .none (.t 73))⟩,
  ⟨(.some 77), (.some ⟨72, .true⟩), (.elemAddr 5 (.t 74) (.t 76))⟩,
  ⟨(.some 78), (.some ⟨72, .true⟩), (.fieldAddr 0 (.t 77))⟩,
  ⟨(.some 79), (.some ⟨72, .true⟩), (.load .none (.t 78))⟩,
  ⟨(.some 81), (.some ⟨72, .true⟩), (.load .none (.t 80))⟩,
  ⟨(.some 82), (.some ⟨72, .true⟩), (.bin .lss (.t 79) (.t 81))⟩,
  ⟨(.some 83), (.some ⟨72, .true⟩), (.un .not (.t 82))⟩,
  ⟨(.some 84), (.some ⟨69, .false⟩), (.pick (.t 72) (.t 83) (.c (.d (.bool .false))))⟩,
  ⟨(.some 85), .none, (.pick (.t 69) (.c (.d (.bool .true))) (.t 84))⟩]
abbrev c_poundageref10_Good_r7 : List AO := [⟨(.some 2), .none, (.mov (.c (.d (.bool .false))))⟩]
abbrev c_poundageref10_Good_r8 : List AO := [⟨(.some 86), .none, (.bin .add (.t 50) (.c (.d (.int .i64 1))))⟩,
  ⟨(.some 50), .none, (.mov (.t 86))⟩]
abbrev c_poundageref10_Good_l0 : ACode := (.seq (.ops c_poundageref10_Good_r4) (.seq (.cond (.t 51) .skip (.exit 0)) (.seq (.block 1 (.seq (.ops c_poundageref10_Good_r5) (.seq (.dops c_poundageref10_Good_r6) (.cond (.t 85) (.seq (.ops c_poundageref10_Good_r7) .ret) .skip)))) (.ops c_poundageref10_Good_r8))))
abbrev c_poundageref10_Good_r9 : List AO := [⟨(.some 87), .none, (.fieldAddr 4 (.t 1))⟩,
  ⟨(.some 88), .none, (.load .none (.t 87))⟩,
  ⟨(.some 89), .none, (.len (.t 88))⟩,
  ⟨(.some 90), .none, (.mov (.c (.d (.int .i64 0))))⟩]
abbrev c_poundageref10_Good_r10 : List AO := [⟨(.some 91), .none, (.bin .lss (.t 90) (.t 89))⟩]
abbrev c_poundageref10_Good_r11 : List AO := [⟨(.some 92), .none, (.elemAddr 3 (.t 88) (.t 90))⟩,
  ⟨(.some 93), .none, (.load (.some 3) (.t 92))⟩,
  ⟨(.some 6), .none, (.alloc 71 [(.d (.int .i64 0)), (.d (.int .i64 0)), (.d (.int .i64 0))])⟩,
  ⟨.none, .none, (.store 3 (.t 6) (.t 93))⟩]
abbrev c_poundageref10_Good_r12 : List AO := [⟨(.some 94), .none, (.fieldAddr 0 (.t 6))⟩,
  ⟨(.some 95), .none, (.load .none (.t 94))⟩,
  ⟨(.some 96), .none, (.call 26 [(.t 95), (.c (.d (.int .i64 0))), (.c (.d (.int .i64 1000000000000)))])⟩,
  ⟨(.some 97), .none, (.un .not (.t 96))⟩,
  ⟨(.some 98), .none, (.mov (.t 97))⟩,
  ⟨(.some 99), (.some ⟨98, .false⟩), (.load (.some 6) (.t 1))⟩,
  ⟨(.some 100), (.some ⟨98, .false⟩), (.fieldAddr 1 (.t 6))⟩,
  ⟨(.some 101), (.some ⟨98, .false⟩), (.load .none (.t 100))⟩,
  ⟨(.some 102), (.some ⟨98, .false⟩), (.fieldAddr 2 (.t 6))⟩,
  ⟨(.some 103), (.some ⟨98, .false⟩), (.load .none (.t 102))⟩,
  ⟨(.some 104), (.some ⟨98, .false⟩), (.call 27 [(.t 99), (.t 101), (.t 103)])⟩,
  ⟨(.some 105), (.some ⟨98, .false⟩), (.un .not (.t 104))⟩,
  ⟨(.some 106), .none, (.pick (.t 98) (.c (.d (.bool .true))) (.t 105))⟩]
abbrev c_poundageref10_Good_r13 : List AO := [⟨(.some 2), .none, (.mov (.c (.d (.bool .false))))⟩]
abbrev c_poundageref10_Good_r14 : List AO := [⟨(.some 107), .none, (.bin .add (.t 90) (.c (.d (.int .i64 1))))⟩,
  ⟨(.some 90), .none, (.mov (.t 107))⟩]
abbrev c_poundageref10_Good_l1 : ACode := (.seq (.ops c_poundageref10_Good_r10) (.seq (.cond (.t 91) .skip (.exit 2)) (.seq (.block 3 (.seq (.ops c_poundageref10_Good_r11) (.seq (.ops c_poundageref10_Good_r12) (.cond (.t 106) (.seq (.ops c_poundageref10_Good_r13) .ret) .skip)))) (.ops c_poundageref10_Good_r14))))
abbrev c_poundageref10_Good_r15 : List AO := [⟨(.some 108), .none, (.fieldAddr 5 (.t 1))⟩,
  ⟨(.some 109), .none, (.load .none (.t 108))⟩,
  ⟨(.some 110), .none, (.len (.t 109))⟩,
  ⟨(.some 111), .none, (.mov (.c (.d (.int .i64 0))))⟩]
abbrev c_poundageref10_Good_r16 : List AO := [⟨(.some 112), .none, (.bin .lss (.t 111) (.t 110))⟩]
abbrev c_poundageref10_Good_r17 : List AO := [⟨(.some 113), .none, (.elemAddr 9 (.t 109) (.t 111))⟩,
  ⟨(.some 114), .none, (.load (.some 9) (.t 113))⟩,
  ⟨(.some 8), .none, (.alloc 51 [(.d (.int .i64 0)), (.d (.int .i64 0)), (.d (.int .i64 0)), (.d (.int .i64 0)), (.d (.int .i64 0)), (.d (.int .i64 0)), (.nilsl 2), (.d (.int .i64 0)), (.nilsl 3)])⟩,
  ⟨.none, .none, (.store 9 (.t 8) (.t 114))⟩]
abbrev c_poundageref10_Good_r18 : List AO := [⟨(.some 115), .none, (.load (.some 6) (.t 1))⟩,
  ⟨(.some 116), .none, (.load (.some 9) (.t 8))⟩,
  ⟨(.some 117), .none, (.call 28 [(.t 115), (.t 116)])⟩,
  ⟨(.some 118), .none, (.un .not (.t 117))⟩]
abbrev c_poundageref10_Good_r19 : List AO := [⟨(.some 2), .none, (.mov (.c (.d (.bool .false))))⟩]
abbrev c_poundageref10_Good_r20 : List AO := [⟨(.some 119), .none, (.bin .add (.t 111) (.c (.d (.int .i64 1))))⟩,
  ⟨(.some 111), .none, (.mov (.t 119))⟩]
abbrev c_poundageref10_Good_l2 : ACode := (.seq (.ops c_poundageref10_Good_r16) (.seq (.cond (.t 112) .skip (.exit 4)) (.seq (.block 5 (.seq (.ops c_poundageref10_Good_r17) (.seq (.ops c_poundageref10_Good_r18) (.cond (.t 118) (.seq (.ops c_poundageref10_Good_r19) .ret) .skip)))) (.ops c_poundageref10_Good_r20))))
abbrev c_poundageref10_Good_r21 : List AO := [⟨(.some 2), .none, (.mov (.c (.d (.bool .true))))⟩]
abbrev c_poundageref10_Good : AFunc := ⟨120, [(.tmp 2)], (.seq (.ops c_poundageref10_Good_r0) (.seq (.seq (.ops c_poundageref10_Good_r1) (.cond (.t 46) (.seq (.ops c_poundageref10_Good_r2) .ret) .skip)) (.seq (.seq (.ops c_poundageref10_Good_r3) (.block 0 (.loop c_poundageref10_Good_l0))) (.seq (.seq (.ops c_poundageref10_Good_r9) (.block 2 (.loop c_poundageref10_Good_l1))) (.seq (.seq (.ops c_poundageref10_Good_r15) (.block 4 (.loop c_poundageref10_Good_l2))) (.seq (.ops c_poundageref10_Good_r21) .ret))))))⟩
theorem comp_poundageref10_Good : funcC Try.prog 16 = some c_poundageref10_Good := by kernel_rfl
abbrev f_poundageref18_Most : FuncId := 17
abbrev c_poundageref18_Most_r0 : List AO := [⟨(.some 1), .none, (.box 26 (.t 0))⟩,
  ⟨(.some 2), .none, (.mov (.c (.d (.int .i64 0))))⟩,
  ⟨(.some 3), .none, (.mov (.c (.d (.bool .false))))⟩]
abbrev c_poundageref18_Most_r1 : List AO := [⟨(.some 4), .none, (.mov (.c (.d (.int .i64 0))))⟩]
abbrev c_poundageref18_Most_r2 : List AO := [⟨(.some 13), .none, (.fieldAddr 4 (.t 1))⟩,
  ⟨(.some 14), .none, (.load .none (.t 13))⟩,
  ⟨(.some 15), .none, (.len (.t 14))⟩,
  ⟨(.some 16), .none, (.mov (.c (.d (.int .i64 0))))⟩]
abbrev c_poundageref18_Most_r3 : List AO := [⟨(.some 17), .none, (.bin .lss (.t 16) (.t 15))⟩]
abbrev c_poundageref18_Most_r4 : List AO := [⟨(.some 18), .none, (.elemAddr 3 (.t 14) (.t 16))⟩,
  ⟨(.some 19), .none, (.load (.some 3) (.t 18))⟩,
  ⟨(.some 6), .none, (.alloc 71 [(.d (.int .i64 0)), (.d (.int .i64 0)), (.d (.int .i64 0))])⟩,
  ⟨.none, .none, (.store 3 (.t 6) (.t 19))⟩]
abbrev c_poundageref18_Most_r5 : List AO := [⟨(.some 20), .none, (.mov (.t 4))⟩,
  ⟨(.some 21), .none, (.fieldAddr 0 (.t 6))⟩,
  ⟨(.some 22), .none, (.load .none (.t 21))⟩,
  ⟨(.some 23), .none, (.bin .add (.t 20) (.t 22))⟩,
  ⟨(.some 4), .none, (.mov (.t 23))⟩]
abbrev c_poundageref18_Most_r6 : List AO := [⟨(.some 24), .none, (.bin .add (.t 16) (.c (.d (.int .i64 1))))⟩,
  ⟨(.some 16), .none, (.mov (.t 24))⟩]
abbrev c_poundageref18_Most_l0 : ACode := (.seq (.ops c_poundageref18_Most_r3) (.seq (.cond (.t 17) .skip (.exit 0)) (.seq (.block 1 (.seq (.ops c_poundageref18_Most_r4) (.ops c_poundageref18_Most_r5))) (.ops c_poundageref18_Most_r6))))
abbrev c_poundageref18_Most_r7 : List AO := [⟨(.some 25), .none, (.fieldAddr 5 (.t 1))⟩,
  ⟨(.some 26), .none, (.load .none (.t 25))⟩,
  ⟨(.some 27), .none, (.len (.t 26))⟩,
  ⟨(.some 28), .none, (.mov (.c (.d (.int .i64 0))))⟩]
abbrev c_poundageref18_Most_r8 : List AO := [⟨(.some 29), .none, (.bin .lss (.t 28) (.t 27))⟩]
abbrev c_poundageref18_Most_r9 : List AO := [⟨(.some 30), .none, (.elemAddr 9 (.t 26) (.t 28))⟩,
  ⟨(.some 31), .none, (.load (.some 9) (.t 30))⟩,
  ⟨(.some 8), .none, (.alloc 51 [(.d (.int .i64 0)), (.d (.int .i64 0)), (.d (.int .i64 0)), (.d (.int .i64 0)), (.d (.int .i64 0)), (.d (.int .i64 0)), (.nilsl 2), (.d (.int .i64 0)), (.nilsl 3)])⟩,
  ⟨.none, .none, (.store 9 (.t 8) (.t 31))⟩]
abbrev c_poundageref18_Most_r10 : List AO := [⟨(.some 9), .none, (.mov (.c (.d (.int .i64 0))))⟩]
abbrev c_poundageref18_Most_r11 : List AO := [⟨(.some 10), .none, (.mov (.c (.d (.int .i64 0))))⟩]
abbrev c_poundageref18_Most_r12 : List AO := [⟨(.some 32), .none, (.mov (.t 10))⟩,
  ⟨(.some 33), .none, (.fieldAddr 3 (.t 1))⟩,
  ⟨(.some 34), .none, (.load .none (.t 33))⟩,
  ⟨(.some 35), .none, (.fieldAddr 0 (.t 8))⟩,
  ⟨(.some 36), .none, (.load .none (.t 35))⟩,
  ⟨(.some 37), .none, (.elemAddr 5 (.t 34) (.t 36))⟩,
  ⟨(.some 38), .none, (.fieldAddr 2 (.t 37))⟩,
  ⟨(.some 39), .none, (.load .none (.t 38))⟩,
  ⟨(.some 40), .none, (.bin .leq (.t 32) (.t 39))⟩]
abbrev c_poundageref18_Most_r13 : List AO := [⟨(.some 44), .none, (.load (.some 9) (.t 8))⟩,
  ⟨(.some 45), .none, (.mov (.t 10))⟩,
  ⟨(.some 46), .none, (.call 29 [(.t 44), (.t 45)])⟩,
  ⟨(.some 43), .none, (.mov (.t 46))⟩,
  ⟨(.some 47), .none, (.extract (.t 43) 0)⟩,
  ⟨(.some 48), .none, (.extract (.t 43) 1)⟩,
  ⟨(.some 11), .none, (.mov (.t 47))⟩,
  ⟨(.some 12), .none, (.mov (.t 48))⟩]
abbrev c_poundageref18_Most_r14 : List AO := [⟨(.some 49), .none, (.mov (.t 12))⟩,
  ⟨(.some 50), .none, (.un .not (.t 49))⟩,
  ⟨(.some 51), .none, (.mov (.t 50))⟩,
  ⟨(.some 52), (.some ⟨51, .false⟩), (.mov (.t 11))⟩,
  ⟨(.some 53), (.some ⟨51, .false⟩), (.bin .gtr (.t 52) (.c (.d (.int .i64 1152921504606846976))))⟩,
  ⟨(.some 54), .none, (.pick (.t 51) (.c (.d (.bool .true))) (.t 53))⟩,
  ⟨(.some 55), .none, (.mov (.t 54))⟩,
  ⟨(.some 56), (.some ⟨55, .false⟩), (.mov (.t 11))⟩,
  ⟨(.some 57), (.some ⟨55, .false⟩), (.bin .lss (.t 56) (.c (.d (.int .i64 0))))⟩,
  ⟨(.some 58), .none, (.pick (.t 55) (.c (.d (.bool .true))) (.t 57))⟩]
abbrev c_poundageref18_Most_r15 : List AO := [⟨(.some 2), .none, (.mov (.c (.d (.int .i64 0))))⟩,
  ⟨(.some 3), .none, (.mov (.c (.d (.bool .false))))⟩]
abbrev c_poundageref18_Most_r16 : List AO := [⟨(.some 59), .none, (.mov (.t 9))⟩,
  ⟨(.some 60), .none, (.mov (.t 11))⟩,
  ⟨(.some 61), .none, (.minmax .true (.t 59) [(.t 60)])⟩,
  ⟨(.some 9), .none, (.mov (.t 61))⟩]
abbrev c_poundageref18_Most_r17 : List AO := [⟨(.some 41), .none, (.mov (.t 10))⟩,
  ⟨(.some 42), .none, (.bin .add (.t 41) (.c (.d (.int .i64 1))))⟩,
  ⟨(.some 10), .none, (.mov (.t 42))⟩]
abbrev c_poundageref18_Most_l1 : ACode := (.seq (.seq (.ops c_poundageref18_Most_r12) (.cond (.t 40) .skip (.exit 4))) (.seq (.block 5 (.seq (.ops c_poundageref18_Most_r13) (.seq (.seq (.ops c_poundageref18_Most_r14) (.cond (.t 58) (.seq (.ops c_poundageref18_Most_r15) .ret) .skip)) (.ops c_poundageref18_Most_r16)))) (.ops c_poundageref18_Most_r17)))
abbrev c_poundageref18_Most_r18 : List AO := [⟨(.some 62), .none, (.mov (.t 4))⟩,
  ⟨(.some 63), .none, (.mov (.t 9))⟩,
  ⟨(.some 64), .none, (.bin .add (.t 62) (.t 63))⟩,
  ⟨(.some 4), .none, (.mov (.t 64))⟩]
abbrev c_poundageref18_Most_r19 : List AO := [⟨(.some 65), .none, (.mov (.t 4))⟩,
  ⟨(.some 66), .none, (.bin .gtr (.t 65) (.c (.d (.int .i64 1152921504606846976))))⟩]
abbrev c_poundageref18_Most_r20 : List AO := [⟨(.some 2), .none, (.mov (.c (.d (.int .i64 0))))⟩,
  ⟨(.some 3), .none, (.mov (.c (.d (.bool .false))))⟩]
abbrev c_poundageref18_Most_r21 : List AO := [⟨(.some 67), .none, (.bin .add (.t 28) (.c (.d (.int .i64 1))))⟩,
  ⟨(.some 28), .none, (.mov (.t 67))⟩]
abbrev c_poundageref18_Most_l2 : ACode := (.seq (.ops c_poundageref18_Most_r8) (.seq (.cond (.t 29) .skip (.exit 2)) (.seq (.block 3 (.seq (.ops c_poundageref18_Most_r9) (.seq (.ops c_poundageref18_Most_r10) (.seq (.seq (.ops c_poundageref18_Most_r11) (.block 4 (.loop c_poundageref18_Most_l1))) (.seq (.ops c_poundageref18_Most_r18) (.seq (.ops c_poundageref18_Most_r19) (.cond (.t 66) (.seq (.ops c_poundageref18_Most_r20) .ret) .skip))))))) (.ops c_poundageref18_Most_r21))))
abbrev c_poundageref18_Most_r22 : List AO := [⟨(.some 68), .none, (.mov (.t 4))⟩,
  ⟨(.some 69), .none, (.mov (.t 4))⟩,
  ⟨(.some 70), .none, (.bin .leq (.t 69) (.c (.d (.int .i64 1152921504606846976))))⟩,
  ⟨(.some 2), .none, (.mov (.t 68))⟩,
  ⟨(.some 3), .none, (.mov (.t 70))⟩]
abbrev c_poundageref18_Most : AFunc := ⟨71, [(.tmp 2), (.tmp 3)], (.seq (.ops c_poundageref18_Most_r0) (.seq (.ops c_poundageref18_Most_r1) (.seq (.seq (.ops c_poundageref18_Most_r2) (.block 0 (.loop c_poundageref18_Most_l0))) (.seq (.seq (.ops c_poundageref18_Most_r7) (.block 2 (.loop c_poundageref18_Most_l2))) (.seq (.ops c_poundageref18_Most_r22) .ret)))))⟩
theorem comp_poundageref18_Most : funcC Try.prog 17 = some c_poundageref18_Most := by kernel_rfl
abbrev f_poundageref17_Breaks : FuncId := 18
abbrev c_poundageref17_Breaks_r0 : List AO := [⟨(.some 1), .none, (.box 26 (.t 0))⟩,
  ⟨(.some 2), .none, (.mov (.c (.nilsl 0)))⟩]
abbrev c_poundageref17_Breaks_r1 : List AO := [⟨(.some 3), .none, (.mov (.c (.nilsl 0)))⟩]
abbrev c_poundageref17_Breaks_r2 : List AO := [⟨(.some 5), .none, (.fieldAddr 1 (.t 1))⟩,
  ⟨(.some 6), .none, (.load .none (.t 5))⟩,
  ⟨(.some 7), .none, (.bin .add (.t 6) (.c (.d (.int .i64 1))))⟩,
  ⟨(.some 4), .none, (.mov (.t 7))⟩]
abbrev c_poundageref17_Breaks_r3 : List AO := [⟨(.some 8), .none, (.mov (.t 4))⟩,
  ⟨(.some 9), .none, (.fieldAddr 2 (.t 1))⟩,
  ⟨(.some 10), .none, (.load .none (.t 9))⟩,
  ⟨(.some 11), .none, (.bin .leq (.t 8) (.t 10))⟩]
abbrev c_poundageref17_Breaks_r4 : List AO := [⟨(.some 15), .none, (.mov (.t 4))⟩,
  ⟨(.some 18), .none, (.mov (.t 4))⟩,
  ⟨(.some 19), .none, (.bin .sub (.t 18) (.c (.d (.int .i64 1))))⟩,
  ⟨(.some 14), .none, (.load (.some 6) (.t 1))⟩,
  ⟨(.some 16), .none, (.pcall 30 [(.t 14), (.t 15)])⟩,
  ⟨(.some 17), .none, (.load (.some 6) (.t 1))⟩,
  ⟨(.some 20), .none, (.call 30 [(.t 17), (.t 19)])⟩,
  ⟨(.some 21), .none, (.bin .neq (.t 16) (.t 20))⟩]
abbrev c_poundageref17_Breaks_r5 : List AO := [⟨(.some 22), .none, (.mov (.t 3))⟩,
  ⟨(.some 23), .none, (.mov (.t 4))⟩,
  ⟨(.some 24), .none, (.buildSlice 3 1 1 [(.d (.int .i64 0))] [⟨0, (.t 23)⟩])⟩,
  ⟨(.some 25), .none, (.append 3 1 8 [(.d (.int .i64 0))] (.t 22) (.t 24))⟩,
  ⟨(.some 3), .none, (.mov (.t 25))⟩]
abbrev c_poundageref17_Breaks_r6 : List AO := [⟨(.some 12), .none, (.mov (.t 4))⟩,
  ⟨(.some 13), .none, (.bin .add (.t 12) (.c (.d (.int .i64 1))))⟩,
  ⟨(.some 4), .none, (.mov (.t 13))⟩]
abbrev c_poundageref17_Breaks_l0 : ACode := (.seq (.seq (.ops c_poundageref17_Breaks_r3) (.cond (.t 11) .skip (.exit 0))) (.seq (.block 1 (.seq (.dops c_poundageref17_Breaks_r4) (.cond (.t 21) (.ops c_poundageref17_Breaks_r5) .skip))) (.ops c_poundageref17_Breaks_r6)))
abbrev c_poundageref17_Breaks_r7 : List AO := [⟨(.some 26), .none, (.mov (.t 3))⟩,
  ⟨(.some 2), .none, (.mov (.t 26))⟩]
abbrev c_poundageref17_Breaks : AFunc := ⟨27, [(.tmp 2)], (.seq (.ops c_poundageref17_Breaks_r0) (.seq (.ops c_poundageref17_Breaks_r1) (.seq (.seq (.ops c_poundageref17_Breaks_r2) (.block 0 (.loop c_poundageref17_Breaks_l0))) (.seq (.ops c_poundageref17_Breaks_r7) .ret))))⟩
theorem comp_poundageref17_Breaks : funcC Try.prog 18 = some c_poundageref17_Breaks := by kernel_rfl
abbrev f_poundageref18_Day : FuncId := 19
abbrev c_poundageref18_Day_r0 : List AO := [⟨(.some 2), .none, (.box 26 (.t 0))⟩,
  ⟨(.some 4), .none, (.alloc 41 [(.d (.int .i64 0)), (.d (.int .i64 0)), (.d (.int .i64 0)), (.nilsl 2)])⟩]
abbrev c_poundageref18_Day_r1 : List AO := [⟨(.some 20), .none, (.mov (.t 1))⟩,
  ⟨(.some 21), .none, (.mov (.t 1))⟩,
  ⟨(.some 22), .none, (.build [(.d (.int .i64 0)), (.d (.int .i64 0)), (.d (.int .i64 0)), (.nilsl 2)] [⟨0, ⟨1, (.t 20)⟩⟩, ⟨1, ⟨1, (.t 21)⟩⟩])⟩,
  ⟨(.some 5), .none, (.alloc 41 [(.d (.int .i64 0)), (.d (.int .i64 0)), (.d (.int .i64 0)), (.nilsl 2)])⟩,
  ⟨.none, .none, (.store 4 (.t 5) (.t 22))⟩]
abbrev c_poundageref18_Day_r2 : List AO := [⟨(.some 23), .none, (.fieldAddr 4 (.t 2))⟩,
  ⟨(.some 24), .none, (.load .none (.t 23))⟩,
  ⟨(.some 25), .none, (.len (.t 24))⟩,
  ⟨(.some 26), .none, (.mov (.c (.d (.int .i64 0))))⟩]
abbrev c_poundageref18_Day_r3 : List AO := [⟨(.some 27), .none, (.bin .lss (.t 26) (.t 25))⟩]
abbrev c_poundageref18_Day_r4 : List AO := [⟨(.some 28), .none, (.elemAddr 3 (.t 24) (.t 26))⟩,
  ⟨(.some 29), .none, (.load (.some 3) (.t 28))⟩,
  ⟨(.some 7), .none, (.alloc 71 [(.d (.int .i64 0)), (.d (.int .i64 0)), (.d (.int .i64 0))])⟩,
  ⟨.none, .none, (.store 3 (.t 7) (.t 29))⟩]
abbrev c_poundageref18_Day_r5 : List AO := [⟨(.some 30), .none, (.fieldAddr 1 (.t 7))⟩,
  ⟨(.some 31), .none, (.load .none (.t 30))⟩,
  ⟨(.some 32), .none, (.mov (.t 1))⟩,
  ⟨(.some 33), .none, (.bin .leq (.t 31) (.t 32))⟩,
  ⟨(.some 34), .none, (.mov (.t 33))⟩,
  ⟨(.some 35), (.some ⟨34, .true⟩), (.mov (.t 1))⟩,
  ⟨(.some 36), (.some ⟨34, .true⟩), (.fieldAddr 2 (.t 7))⟩,
  ⟨(.some 37), (.some ⟨34, .true⟩), (.load .none (.t 36))⟩,
  ⟨(.some 38), (.some ⟨34, .true⟩), (.bin .leq (.t 35) (.t 37))⟩,
  ⟨(.some 39), .none, (.pick (.t 34) (.t 38) (.c (.d (.bool .false))))⟩]
abbrev c_poundageref18_Day_r6 : List AO := [⟨(.some 40), .none, (.fieldAddr 2 (.t 5))⟩,
  ⟨(.some 41), .none, (.load .none (.t 40))⟩,
  ⟨(.some 42), .none, (.fieldAddr 0 (.t 7))⟩,
  ⟨(.some 43), .none, (.load .none (.t 42))⟩,
  ⟨(.some 44), .none, (.bin .add (.t 41) (.t 43))⟩,
  ⟨(.some 45), .none, (.fieldAddr 2 (.t 5))⟩,
  ⟨.none, .none, (.store 1 (.t 45) (.t 44))⟩]
abbrev c_poundageref18_Day_r7 : List AO := [⟨(.some 46), .none, (.bin .add (.t 26) (.c (.d (.int .i64 1))))⟩,
  ⟨(.some 26), .none, (.mov (.t 46))⟩]
abbrev c_poundageref18_Day_l0 : ACode := (.seq (.ops c_poundageref18_Day_r3) (.seq (.cond (.t 27) .skip (.exit 0)) (.seq (.block 1 (.seq (.ops c_poundageref18_Day_r4) (.seq (.ops c_poundageref18_Day_r5) (.cond (.t 39) (.ops c_poundageref18_Day_r6) .skip)))) (.ops c_poundageref18_Day_r7))))
abbrev c_poundageref18_Day_r8 : List AO := [⟨(.some 47), .none, (.fieldAddr 3 (.t 2))⟩,
  ⟨(.some 48), .none, (.load .none (.t 47))⟩,
  ⟨(.some 49), .none, (.len (.t 48))⟩,
  ⟨(.some 50), .none, (.mov (.c (.d (.int .i64 0))))⟩]
abbrev c_poundageref18_Day_r9 : List AO := [⟨(.some 51), .none, (.bin .lss (.t 50) (.t 49))⟩]
abbrev c_poundageref18_Day_r10 : List AO := [⟨(.some 52), .none, (.mov (.t 50))⟩,
  ⟨(.some 53), .none, (.elemAddr 5 (.t 48) (.t 50))⟩,
  ⟨(.some 54), .none, (.load (.some 5) (.t 53))⟩,
  ⟨(.some 9), .none, (.alloc 54 [(.d (.str ⟨⟨[]⟩⟩)), (.d (.str ⟨⟨[]⟩⟩)), (.d (.int .i64 0)), (.d (.int .i64 0)), (.d (.int .i64 0))])⟩,
  ⟨(.some 8), .none, (.mov (.t 52))⟩,
  ⟨.none, .none, (.store 5 (.t 9) (.t 54))⟩]
abbrev c_poundageref18_Day_r11 : List AO := [⟨(.some 55), .none, (.fieldAddr 2 (.t 9))⟩,
  ⟨(.some 56), .none, (.load .none (.t 55))⟩,
  ⟨(.some 57), .none, (.bin .add (.t 56) (.c (.d (.int .i64 1))))⟩,
  ⟨(.some 58), .none, (.make 3 1 8 [(.d (.int .i64 0))] (.t 57))⟩,
  ⟨(.some 10), .none, (.mov (.t 58))⟩]
abbrev c_poundageref18_Day_r12 : List AO := [⟨(.some 59), .none, (.fieldAddr 5 (.t 2))⟩,
  ⟨(.some 60), .none, (.load .none (.t 59))⟩,
  ⟨(.some 61), .none, (.len (.t 60))⟩,
  ⟨(.some 62), .none, (.mov (.c (.d (.int .i64 0))))⟩]
abbrev c_poundageref18_Day_r13 : List AO := [⟨(.some 63), .none, (.bin .lss (.t 62) (.t 61))⟩]
abbrev c_poundageref18_Day_r14 : List AO := [⟨(.some 64), .none, (.elemAddr 9 (.t 60) (.t 62))⟩,
  ⟨(.some 65), .none, (.load (.some 9) (.t 64))⟩,
  ⟨(.some 12), .none, (.alloc 51 [(.d (.int .i64 0)), (.d (.int .i64 0)), (.d (.int .i64 0)), (.d (.int .i64 0)), (.d (.int .i64 0)), (.d (.int .i64 0)), (.nilsl 2), (.d (.int .i64 0)), (.nilsl 3)])⟩,
  ⟨.none, .none, (.store 9 (.t 12) (.t 65))⟩]
abbrev c_poundageref18_Day_r15 : List AO := [⟨(.some 66), .none, (.fieldAddr 0 (.t 12))⟩,
  ⟨(.some 67), .none, (.load .none (.t 66))⟩,
  ⟨(.some 68), .none, (.mov (.t 8))⟩,
  ⟨(.some 69), .none, (.bin .neq (.t 67) (.t 68))⟩,
  ⟨(.some 70), .none, (.mov (.t 69))⟩,
  ⟨(.some 71), (.some ⟨70, .false⟩), (.mov (.t 1))⟩,
  ⟨(.some 72), (.some ⟨70, .false⟩), (.fieldAddr 1 (.t 12))⟩,
  ⟨(.some 73), (.some ⟨70, .false⟩), (.load .none (.t 72))⟩,
  ⟨(.some 74), (.some ⟨70, .false⟩), (.bin .lss (.t 71) (.t 73))⟩,
  ⟨(.some 75), .none, (.pick (.t 70) (.c (.d (.bool .true))) (.t 74))⟩,
  ⟨(.some 76), .none, (.mov (.t 75))⟩,
  ⟨(.some 77), (.some ⟨76, .false⟩), (.mov (.t 1))⟩,
  ⟨(.some 78), (.some ⟨76, .false⟩), (.fieldAddr 2 (.t 12))⟩,
  ⟨(.some 79), (.some ⟨76, .false⟩), (.load .none (.t 78))⟩,
  ⟨(.some 80), (.some ⟨76, .false⟩), (.bin .gtr (.t 77) (.t 79))⟩,
  ⟨(.some 81), .none, (.pick (.t 76) (.c (.d (.bool .true))) (.t 80))⟩]
abbrev c_poundageref18_Day_r16 : List AO := [⟨(.some 83), .none, (.load (.some 9) (.t 12))⟩,
  ⟨(.some 84), .none, (.call 29 [(.t 83), (.c (.d (.int .i64 0)))])⟩,
  ⟨(.some 82), .none, (.mov (.t 84))⟩,
  ⟨(.some 85), .none, (.extract (.t 82) 0)⟩,
  ⟨(.some 86), .none, (.extract (.t 82) 1)⟩,
  ⟨(.some 13), .none, (.mov (.t 85))⟩,
  ⟨(.some 14), .none, (.mov (.t 86))⟩]
abbrev c_poundageref18_Day_r17 : List AO := [⟨(.some 87), .none, (.fieldAddr 2 (.t 5))⟩,
  ⟨(.some 88), .none, (.load .none (.t 87))⟩,
  ⟨(.some 89), .none, (.mov (.t 13))⟩,
  ⟨(.some 90), .none, (.bin .add (.t 88) (.t 89))⟩,
  ⟨(.some 91), .none, (.fieldAddr 2 (.t 5))⟩,
  ⟨.none, .none, (.store 1 (.t 91) (.t 90))⟩]
abbrev c_poundageref18_Day_r18 : List AO := [⟨(.some 92), .none, (.mov (.t 10))⟩,
  ⟨(.some 93), .none, (.len (.t 92))⟩,
  ⟨(.some 94), .none, (.mov (.c (.d (.int .i64 0))))⟩]
abbrev c_poundageref18_Day_r19 : List AO := [⟨(.some 95), .none, (.bin .lss (.t 94) (.t 93))⟩]
abbrev c_poundageref18_Day_r20 : List AO := [⟨(.some 96), .none, (.mov (.t 94))⟩,
  ⟨(.some 15), .none, (.mov (.t 96))⟩]
abbrev c_poundageref18_Day_r21 : List AO := [⟨(.some 98), .none, (.load (.some 9) (.t 12))⟩,
  ⟨(.some 99), .none, (.mov (.t 15))⟩,
  ⟨(.some 100), .none, (.call 29 [(.t 98), (.t 99)])⟩,
  ⟨(.some 97), .none, (.mov (.t 100))⟩,
  ⟨(.some 101), .none, (.extract (.t 97) 0)⟩,
  ⟨(.some 102), .none, (.extract (.t 97) 1)⟩,
  ⟨(.some 16), .none, (.mov (.t 101))⟩,
  ⟨(.some 17), .none, (.mov (.t 102))⟩]
abbrev c_poundageref18_Day_r22 : List AO := [⟨(.some 103), .none, (.mov (.t 10))⟩,
  ⟨(.some 104), .none, (.mov (.t 15))⟩,
  ⟨(.some 105), .none, (.mov (.t 10))⟩,
  ⟨(.some 106), .none, (.mov (.t 15))⟩,
  ⟨(.some 107), .none, (.elemAddr 1 (.t 105) (.t 106))⟩,
  ⟨(.some 108), .none, (.load .none (.t 107))⟩,
  ⟨(.some 109), .none, (.mov (.t 16))⟩,
  ⟨(.some 110), .none, (.bin .add (.t 108) (.t 109))⟩,
  ⟨(.some 111), .none, (.mov (.t 13))⟩,
  ⟨(.some 112), .none, (.bin .sub (.t 110) (.t 111))⟩,
  ⟨(.some 113), .none, (.elemAddr 1 (.t 103) (.t 104))⟩,
  ⟨.none, .none, (.store 1 (.t 113) (.t 112))⟩]
abbrev c_poundageref18_Day_r23 : List AO := [⟨(.some 114), .none, (.bin .add (.t 94) (.c (.d (.int .i64 1))))⟩,
  ⟨(.some 94), .none, (.mov (.t 114))⟩]
abbrev c_poundageref18_Day_l1 : ACode := (.seq (.ops c_poundageref18_Day_r19) (.seq (.cond (.t 95) .skip (.exit 6)) (.seq (.block 7 (.seq (.ops c_poundageref18_Day_r20) (.seq (.ops c_poundageref18_Day_r21) (.ops c_poundageref18_Day_r22)))) (.ops c_poundageref18_Day_r23))))
abbrev c_poundageref18_Day_r24 : List AO := [⟨(.some 115), .none, (.bin .add (.t 62) (.c (.d (.int .i64 1))))⟩,
  ⟨(.some 62), .none, (.mov (.t 115))⟩]
abbrev c_poundageref18_Day_l2 : ACode := (.seq (.ops c_poundageref18_Day_r13) (.seq (.cond (.t 63) .skip (.exit 4)) (.seq (.block 5 (.seq (.ops c_poundageref18_Day_r14) (.seq (.seq (.ops c_poundageref18_Day_r15) (.cond (.t 81) (.exit 5) .skip)) (.seq (.ops c_poundageref18_Day_r16) (.seq (.ops c_poundageref18_Day_r17) (.seq (.ops c_poundageref18_Day_r18) (.block 6 (.loop c_poundageref18_Day_l1)))))))) (.ops c_poundageref18_Day_r24))))
abbrev c_poundageref18_Day_r25 : List AO := [⟨(.some 117), .none, (.mov (.t 10))⟩,
  ⟨(.some 118), .none, (.call 31 [(.t 117)])⟩,
  ⟨(.some 116), .none, (.mov (.t 118))⟩,
  ⟨(.some 119), .none, (.extract (.t 116) 0)⟩,
  ⟨(.some 120), .none, (.extract (.t 116) 1)⟩,
  ⟨(.some 18), .none, (.alloc 59 [(.d (.int .i64 0)), (.nilsl 5)])⟩,
  ⟨.none, .none, (.store 2 (.t 18) (.t 119))⟩,
  ⟨(.some 19), .none, (.mov (.t 120))⟩]
abbrev c_poundageref18_Day_r26 : List AO := [⟨(.some 121), .none, (.fieldAddr 3 (.t 5))⟩,
  ⟨(.some 122), .none, (.load .none (.t 121))⟩,
  ⟨(.some 123), .none, (.load (.some 2) (.t 18))⟩,
  ⟨(.some 124), .none, (.buildSlice 59 2 1 [(.d (.int .i64 0)), (.nilsl 5)] [⟨0, (.t 123)⟩])⟩,
  ⟨(.some 125), .none, (.append 59 2 32 [(.d (.int .i64 0)), (.nilsl 5)] (.t 122) (.t 124))⟩,
  ⟨(.some 126), .none, (.fieldAddr 3 (.t 5))⟩,
  ⟨.none, .none, (.store 1 (.t 126) (.t 125))⟩]
abbrev c_poundageref18_Day_r27 : List AO := [⟨(.some 127), .none, (.bin .add (.t 50) (.c (.d (.int .i64 1))))⟩,
  ⟨(.some 50), .none, (.mov (.t 127))⟩]
abbrev c_poundageref18_Day_l3 : ACode := (.seq (.ops c_poundageref18_Day_r9) (.seq (.cond (.t 51) .skip (.exit 2)) (.seq (.block 3 (.seq (.ops c_poundageref18_Day_r10) (.seq (.ops c_poundageref18_Day_r11) (.seq (.seq (.ops c_poundageref18_Day_r12) (.block 4 (.loop c_poundageref18_Day_l2))) (.seq (.ops c_poundageref18_Day_r25) (.ops c_poundageref18_Day_r26)))))) (.ops c_poundageref18_Day_r27))))
abbrev c_poundageref18_Day_r28 : List AO := [⟨(.some 128), .none, (.load (.some 4) (.t 5))⟩,
  ⟨.none, .none, (.store 4 (.t 4) (.t 128))⟩]
abbrev c_poundageref18_Day : AFunc := ⟨129, [(.cell 4 (.some 4))], (.seq (.ops c_poundageref18_Day_r0) (.seq (.ops c_poundageref18_Day_r1) (.seq (.seq (.ops c_poundageref18_Day_r2) (.block 0 (.loop c_poundageref18_Day_l0))) (.seq (.seq (.ops c_poundageref18_Day_r8) (.block 2 (.loop c_poundageref18_Day_l3))) (.seq (.ops c_poundageref18_Day_r28) .ret)))))⟩
theorem comp_poundageref18_Day : funcC Try.prog 19 = some c_poundageref18_Day := by kernel_rfl
abbrev f_curve_At : FuncId := 20
abbrev c_curve_At_r0 : List AO := [⟨(.some 2), .none, (.box 59 (.t 0))⟩,
  ⟨(.some 4), .none, (.mov (.c (.d (.int .i64 0))))⟩,
  ⟨(.some 5), .none, (.mov (.c (.d (.bool .false))))⟩]
abbrev c_curve_At_r1 : List AO := [⟨(.some 8), .none, (.mov (.t 1))⟩,
  ⟨(.some 9), .none, (.bin .lss (.t 8) (.c (.d (.int .i64 0))))⟩,
  ⟨(.some 10), .none, (.mov (.t 9))⟩,
  ⟨(.some 11), (.some ⟨10, .false⟩), (.mov (.t 1))⟩,
  ⟨(.some 12), (.some ⟨10, .false⟩), (.fieldAddr 0 (.t 2))⟩,
  ⟨(.some 13), (.some ⟨10, .false⟩), (.load .none (.t 12))⟩,
  ⟨(.some 14), (.some ⟨10, .false⟩), (.bin .gtr (.t 11) (.t 13))⟩,
  ⟨(.some 15), .none, (.pick (.t 10) (.c (.d (.bool .true))) (.t 14))⟩]
abbrev c_curve_At_r2 : List AO := [⟨(.some 4), .none, (.mov (.c (.d (.int .i64 0))))⟩,
  ⟨(.some 5), .none, (.mov (.c (.d (.bool .false))))⟩]
abbrev c_curve_At_r3 : List AO := [⟨(.some 16), .none, (.fieldAddr 1 (.t 2))⟩,
  ⟨(.some 17), .none, (.load .none (.t 16))⟩,
  ⟨(.some 18), .none, (.len (.t 17))⟩,
  ⟨(.some 19), .none, (.bin .sub (.t 18) (.c (.d (.int .i64 1))))⟩,
  ⟨(.some 6), .none, (.mov (.t 19))⟩]
abbrev c_curve_At_r4 : List AO := [⟨(.some 20), .none, (.mov (.t 6))⟩,
  ⟨(.some 21), .none, (.bin .geq (.t 20) (.c (.d (.int .i64 0))))⟩,
  ⟨(.some 22), .none, (.mov (.t 21))⟩,
  ⟨(.some 23), (.some ⟨22, .true⟩), (.fieldAddr 1 (.t 2))⟩,
  ⟨(.some 24), (.some ⟨22, .true⟩), (.load .none (.t 23))⟩,
  ⟨(.some 25), (.some ⟨22, .true⟩), (.mov (.t 6))⟩,
  ⟨(.some 26), (.some ⟨22, .true⟩), (.elemAddr 5 (.t 24) (.t 25))⟩,
  ⟨(.some 27), (.some ⟨22, .true⟩), (.fieldAddr 0 (.t 26))⟩,
  ⟨(.some 28), (.some ⟨22, .true⟩), (.load .none (.t 27))⟩,
  ⟨(.some 29), (.some ⟨22, .true⟩), (.mov (.t 1))⟩,
  ⟨(.some 30), (.some ⟨22, .true⟩), (.bin .gtr (.t 28) (.t 29))⟩,
  ⟨(.some 31), .none, (.pick (.t 22) (.t 30) (.c (.d (.bool .false))))⟩]
abbrev c_curve_At_r5 : List AO := [⟨(.some 32), .none, (.mov (.t 6))⟩,
  ⟨(.some 33), .none, (.bin .sub (.t 32) (.c (.d (.int .i64 1))))⟩,
  ⟨(.some 6), .none, (.mov (.t 33))⟩]
abbrev c_curve_At_l0 : ACode := (.seq (.seq (.ops c_curve_At_r4) (.cond (.t 31) .skip (.exit 0))) (.block 1 (.ops c_curve_At_r5)))
abbrev c_curve_At_r6 : List AO := [⟨(.some 34), .none, (.mov (.t 6))⟩,
  ⟨(.some 35), .none, (.bin .lss (.t 34) (.c (.d (.int .i64 0))))⟩]
abbrev c_curve_At_r7 : List AO := [⟨(.some 4), .none, (.mov (.c (.d (.int .i64 0))))⟩,
  ⟨(.some 5), .none, (.mov (.c (.d (.bool .false))))⟩]
abbrev c_curve_At_r8 : List AO := [⟨(.some 36), .none, (.fieldAddr 1 (.t 2))⟩,
  ⟨(.some 37), .none, (.load .none (.t 36))⟩,
  ⟨(.some 38), .none, (.mov (.t 6))⟩,
  ⟨(.some 39), .none, (.elemAddr 5 (.t 37) (.t 38))⟩,
  ⟨(.some 40), .none, (.load (.some 5) (.t 39))⟩,
  ⟨(.some 7), .none, (.alloc 56 [(.d (.int .i64 0)), (.d (.int .i64 0)), (.d (.int .i64 0)), (.d (.int .i64 0)), (.d (.int .i64 0))])⟩,
  ⟨.none, .none, (.store 5 (.t 7) (.t 40))⟩]
abbrev c_curve_At_r9 : List AO := [⟨(.some 41), .none, (.fieldAddr 2 (.t 7))⟩,
  ⟨(.some 42), .none, (.load .none (.t 41))⟩,
  ⟨(.some 43), .none, (.bin .lss (.t 42) (.c (.d (.int .i64 1))))⟩]
abbrev c_curve_At_r10 : List AO := [⟨(.some 44), .none, (.fieldAddr 1 (.t 7))⟩,
  ⟨(.some 45), .none, (.load .none (.t 44))⟩,
  ⟨(.some 4), .none, (.mov (.t 45))⟩,
  ⟨(.some 5), .none, (.mov (.c (.d (.bool .true))))⟩]
abbrev c_curve_At_r11 : List AO := [⟨(.some 46), .none, (.fieldAddr 1 (.t 7))⟩,
  ⟨(.some 48), .none, (.mov (.t 1))⟩,
  ⟨(.some 49), .none, (.fieldAddr 0 (.t 7))⟩,
  ⟨(.some 52), .none, (.fieldAddr 2 (.t 7))⟩,
  ⟨(.some 55), .none, (.fieldAddr 4 (.t 7))⟩,
  ⟨(.some 59), .none, (.fieldAddr 3 (.t 7))⟩,
  ⟨(.some 47), .none, (.load .none (.t 46))⟩,
  ⟨(.some 50), .none, (.load .none (.t 49))⟩,
  ⟨(.some 51), .none, (.bin .sub (.t 48) (.t 50))⟩,
  ⟨(.some 53), .none, (.load .none (.t 52))⟩,
  ⟨(.some 54), .none, (.bin .quo (.t 51) (.t 53))⟩,
  ⟨(.some 56), .none, (.load .none (.t 55))⟩,
  ⟨(.some 57), .none, (.bin .sub (.t 56) (.c (.d (.int .i64 1))))⟩,
  ⟨(.some 58), .none, (.minmax .false (.t 54) [(.t 57)])⟩,
  ⟨(.some 60), .none, (.load .none (.t 59))⟩,
  ⟨(.some 61), .none, (.bin .mul (.t 58) (.t 60))⟩,
  ⟨(.some 62), .none, (.bin .add (.t 47) (.t 61))⟩,
  ⟨(.some 4), .none, (.mov (.t 62))⟩,
  ⟨(.some 5), .none, (.mov (.c (.d (.bool .true))))⟩]
abbrev c_curve_At : AFunc := ⟨63, [(.tmp 4), (.tmp 5)], (.seq (.ops c_curve_At_r0) (.seq (.seq (.ops c_curve_At_r1) (.cond (.t 15) (.seq (.ops c_curve_At_r2) .ret) .skip)) (.seq (.ops c_curve_At_r3) (.seq (.block 0 (.loop c_curve_At_l0)) (.seq (.seq (.ops c_curve_At_r6) (.cond (.t 35) (.seq (.ops c_curve_At_r7) .ret) .skip)) (.seq (.ops c_curve_At_r8) (.seq (.seq (.ops c_curve_At_r9) (.cond (.t 43) (.seq (.ops c_curve_At_r10) .ret) .skip)) (.seq (.dops c_curve_At_r11) .ret))))))))⟩
theorem comp_curve_At : funcC Try.prog 20 = some c_curve_At := by kernel_rfl
abbrev f_slices_BinarySearchFunc_api_Span_int : FuncId := 22
abbrev c_slices_BinarySearchFunc_api_Span_int_r0 : List AO := [⟨(.some 6), .none, (.mov (.c (.d (.int .i64 0))))⟩,
  ⟨(.some 7), .none, (.mov (.c (.d (.bool .false))))⟩]
abbrev c_slices_BinarySearchFunc_api_Span_int_r1 : List AO := [⟨(.some 12), .none, (.mov (.t 0))⟩,
  ⟨(.some 13), .none, (.len (.t 12))⟩,
  ⟨(.some 8), .none, (.mov (.t 13))⟩]
abbrev c_slices_BinarySearchFunc_api_Span_int_r2 : List AO := [⟨(.some 14), .none, (.mov (.t 8))⟩,
  ⟨(.some 9), .none, (.mov (.c (.d (.int .i64 0))))⟩,
  ⟨(.some 10), .none, (.mov (.t 14))⟩]
abbrev c_slices_BinarySearchFunc_api_Span_int_r3 : List AO := [⟨(.some 15), .none, (.mov (.t 9))⟩,
  ⟨(.some 16), .none, (.mov (.t 10))⟩,
  ⟨(.some 17), .none, (.bin .lss (.t 15) (.t 16))⟩]
abbrev c_slices_BinarySearchFunc_api_Span_int_r4 : List AO := [⟨(.some 18), .none, (.mov (.t 9))⟩,
  ⟨(.some 19), .none, (.mov (.t 10))⟩,
  ⟨(.some 20), .none, (.bin .add (.t 18) (.t 19))⟩,
  ⟨(.some 21), .none, (.conv .u64 (.t 20))⟩,
  ⟨(.some 22), .none, (.bin .shr (.t 21) (.c (.d (.int .u64 1))))⟩,
  ⟨(.some 23), .none, (.conv .i64 (.t 22))⟩,
  ⟨(.some 11), .none, (.mov (.t 23))⟩]
abbrev c_slices_BinarySearchFunc_api_Span_int_r5 : List AO := [⟨(.some 24), .none, (.mov (.t 2))⟩,
  ⟨(.some 25), .none, (.mov (.t 0))⟩,
  ⟨(.some 26), .none, (.mov (.t 11))⟩,
  ⟨(.some 27), .none, (.elemAddr 4 (.t 25) (.t 26))⟩,
  ⟨(.some 28), .none, (.load (.some 4) (.t 27))⟩,
  ⟨(.some 29), .none, (.mov (.t 1))⟩,
  ⟨(.some 30), .none, (.callv (.t 24) [(.t 28), (.t 29)])⟩,
  ⟨(.some 31), .none, (.bin .lss (.t 30) (.c (.d (.int .i64 0))))⟩]
abbrev c_slices_BinarySearchFunc_api_Span_int_r6 : List AO := [⟨(.some 32), .none, (.mov (.t 11))⟩,
  ⟨(.some 33), .none, (.bin .add (.t 32) (.c (.d (.int .i64 1))))⟩,
  ⟨(.some 9), .none, (.mov (.t 33))⟩]
abbrev c_slices_BinarySearchFunc_api_Span_int_r7 : List AO := [⟨(.some 34), .none, (.mov (.t 11))⟩,
  ⟨(.some 10), .none, (.mov (.t 34))⟩]
abbrev c_slices_BinarySearchFunc_api_Span_int_l0 : ACode := (.seq (.seq (.ops c_slices_BinarySearchFunc_api_Span_int_r3) (.cond (.t 17) .skip (.exit 0))) (.block 1 (.seq (.ops c_slices_BinarySearchFunc_api_Span_int_r4) (.seq (.ops c_slices_BinarySearchFunc_api_Span_int_r5) (.cond (.t 31) (.ops c_slices_BinarySearchFunc_api_Span_int_r6) (.ops c_slices_BinarySearchFunc_api_Span_int_r7))))))
abbrev c_slices_BinarySearchFunc_api_Span_int_r8 : List AO := [⟨(.some 35), .none, (.mov (.t 9))⟩,
  ⟨(.some 36), .none, (.mov (.t 9))⟩,
  ⟨(.some 37), .none, (.mov (.t 8))⟩,
  ⟨(.some 38), .none, (.bin .lss (.t 36) (.t 37))⟩,
  ⟨(.some 39), .none, (.mov (.t 38))⟩,
  ⟨(.some 40), (.some ⟨39, .true⟩), (.mov (.t 2))⟩,
  ⟨(.some 41), (.some ⟨39, .true⟩), (.mov (.t 0))⟩,
  ⟨(.some 42), (.some ⟨39, .true⟩), (.mov (.t 9))⟩,
  ⟨(.some 43), (.some ⟨39, .true⟩), (.elemAddr 4 (.t 41) (.t 42))⟩,
  ⟨(.some 44), (.some ⟨39, .true⟩), (.load (.some 4) (.t 43))⟩,
  ⟨(.some 45), (.some ⟨39, .true⟩), (.mov (.t 1))⟩,
  ⟨(.some 46), (.some ⟨39, .true⟩), (.callv (.t 40) [(.t 44), (.t 45)])⟩,
  ⟨(.some 47), (.some ⟨39, .true⟩), (.bin .eql (.t 46) (.c (.d (.int .i64 0))))⟩,
  ⟨(.some 48), .none, (.pick (.t 39) (.t 47) (.c (.d (.bool .false))))⟩,
  ⟨(.some 6), .none, (.mov (.t 35))⟩,
  ⟨(.some 7), .none, (.mov (.t 48))⟩]
abbrev c_slices_BinarySearchFunc_api_Span_int : AFunc := ⟨49, [(.tmp 6), (.tmp 7)], (.seq (.ops c_slices_BinarySearchFunc_api_Span_int_r0) (.seq (.ops c_slices_BinarySearchFunc_api_Span_int_r1) (.seq (.ops c_slices_BinarySearchFunc_api_Span_int_r2) (.seq (.block 0 (.loop c_slices_BinarySearchFunc_api_Span_int_l0)) (.seq (.ops c_slices_BinarySearchFunc_api_Span_int_r8) .ret)))))⟩
theorem comp_slices_BinarySearchFunc_api_Span_int : funcC Try.prog 22 = some c_slices_BinarySearchFunc_api_Span_int := by kernel_rfl
abbrev f_lookup_On_1 : FuncId := 23
abbrev c_lookup_On_1_r0 : List AO := [⟨(.some 2), .none, (.box 41 (.t 0))⟩,
  ⟨(.some 4), .none, (.mov (.c (.d (.int .i64 0))))⟩]
abbrev c_lookup_On_1_r1 : List AO := [⟨(.some 5), .none, (.fieldAddr 1 (.t 2))⟩,
  ⟨(.some 6), .none, (.load .none (.t 5))⟩,
  ⟨(.some 7), .none, (.mov (.t 1))⟩,
  ⟨(.some 8), .none, (.call 24 [(.t 6), (.t 7)])⟩,
  ⟨(.some 4), .none, (.mov (.t 8))⟩]
abbrev c_lookup_On_1 : AFunc := ⟨9, [(.tmp 4)], (.seq (.ops c_lookup_On_1_r0) (.seq (.ops c_lookup_On_1_r1) .ret))⟩
theorem comp_lookup_On_1 : funcC Try.prog 23 = some c_lookup_On_1 := by kernel_rfl
abbrev f_cmp_Compare_int : FuncId := 24
abbrev c_cmp_Compare_int_r0 : List AO := [⟨(.some 4), .none, (.mov (.c (.d (.int .i64 0))))⟩]
abbrev c_cmp_Compare_int_r1 : List AO := [⟨(.some 7), .none, (.mov (.t 0))⟩,
  ⟨(.some 8), .none, (.call 32 [(.t 7)])⟩,
  ⟨(.some 5), .none, (.mov (.t 8))⟩]
abbrev c_cmp_Compare_int_r2 : List AO := [⟨(.some 9), .none, (.mov (.t 1))⟩,
  ⟨(.some 10), .none, (.call 32 [(.t 9)])⟩,
  ⟨(.some 6), .none, (.mov (.t 10))⟩]
abbrev c_cmp_Compare_int_r3 : List AO := [⟨(.some 11), .none, (.mov (.t 5))⟩]
abbrev c_cmp_Compare_int_r4 : List AO := [⟨(.some 12), .none, (.mov (.t 6))⟩]
abbrev c_cmp_Compare_int_r5 : List AO := [⟨(.some 4), .none, (.mov (.c (.d (.int .i64 0))))⟩]
abbrev c_cmp_Compare_int_r6 : List AO := [⟨(.some 4), .none, (.mov (.c (.d (.int .i64 (-1)))))⟩]
abbrev c_cmp_Compare_int_r7 : List AO := [⟨(.some 13), .none, (.mov (.t 6))⟩]
abbrev c_cmp_Compare_int_r8 : List AO := [⟨(.some 4), .none, (.mov (.c (.d (.int .i64 1))))⟩]
abbrev c_cmp_Compare_int_r9 : List AO := [⟨(.some 14), .none, (.mov (.t 0))⟩,
  ⟨(.some 15), .none, (.mov (.t 1))⟩,
  ⟨(.some 16), .none, (.bin .lss (.t 14) (.t 15))⟩]
abbrev c_cmp_Compare_int_r10 : List AO := [⟨(.some 4), .none, (.mov (.c (.d (.int .i64 (-1)))))⟩]
abbrev c_cmp_Compare_int_r11 : List AO := [⟨(.some 17), .none, (.mov (.t 0))⟩,
  ⟨(.some 18), .none, (.mov (.t 1))⟩,
  ⟨(.some 19), .none, (.bin .gtr (.t 17) (.t 18))⟩]
abbrev c_cmp_Compare_int_r12 : List AO := [⟨(.some 4), .none, (.mov (.c (.d (.int .i64 1))))⟩]
abbrev c_cmp_Compare_int_r13 : List AO := [⟨(.some 4), .none, (.mov (.c (.d (.int .i64 0))))⟩]
abbrev c_cmp_Compare_int : AFunc := ⟨20, [(.tmp 4)], (.seq (.ops c_cmp_Compare_int_r0) (.seq (.ops c_cmp_Compare_int_r1) (.seq (.ops c_cmp_Compare_int_r2) (.seq (.seq (.ops c_cmp_Compare_int_r3) (.cond (.t 11) (.seq (.seq (.ops c_cmp_Compare_int_r4) (.cond (.t 12) (.seq (.ops c_cmp_Compare_int_r5) .ret) .skip)) (.seq (.ops c_cmp_Compare_int_r6) .ret)) .skip)) (.seq (.seq (.ops c_cmp_Compare_int_r7) (.cond (.t 13) (.seq (.ops c_cmp_Compare_int_r8) .ret) .skip)) (.seq (.seq (.ops c_cmp_Compare_int_r9) (.cond (.t 16) (.seq (.ops c_cmp_Compare_int_r10) .ret) .skip)) (.seq (.seq (.ops c_cmp_Compare_int_r11) (.cond (.t 19) (.seq (.ops c_cmp_Compare_int_r12) .ret) .skip)) (.seq (.ops c_cmp_Compare_int_r13) .ret))))))))⟩
theorem comp_cmp_Compare_int : funcC Try.prog 24 = some c_cmp_Compare_int := by kernel_rfl
abbrev f_poundageref15_Same : FuncId := 25
abbrev c_poundageref15_Same_r0 : List AO := [⟨(.some 2), .none, (.box 59 (.t 0))⟩,
  ⟨(.some 3), .none, (.box 59 (.t 1))⟩,
  ⟨(.some 4), .none, (.mov (.c (.d (.bool .false))))⟩]
abbrev c_poundageref15_Same_r1 : List AO := [⟨(.some 6), .none, (.fieldAddr 0 (.t 2))⟩,
  ⟨(.some 7), .none, (.load .none (.t 6))⟩,
  ⟨(.some 8), .none, (.fieldAddr 0 (.t 3))⟩,
  ⟨(.some 9), .none, (.load .none (.t 8))⟩,
  ⟨(.some 10), .none, (.bin .neq (.t 7) (.t 9))⟩,
  ⟨(.some 11), .none, (.mov (.t 10))⟩,
  ⟨(.some 12), (.some ⟨11, .false⟩), (.fieldAddr 1 (.t 2))⟩,
  ⟨(.some 13), (.some ⟨11, .false⟩), (.load .none (.t 12))⟩,
  ⟨(.some 14), (.some ⟨11, .false⟩), (.len (.t 13))⟩,
  ⟨(.some 15), (.some ⟨11, .false⟩), (.fieldAddr 1 (.t 3))⟩,
  ⟨(.some 16), (.some ⟨11, .false⟩), (.load .none (.t 15))⟩,
  ⟨(.some 17), (.some ⟨11, .false⟩), (.len (.t 16))⟩,
  ⟨(.some 18), (.some ⟨11, .false⟩), (.bin .neq (.t 14) (.t 17))⟩,
  ⟨(.some 19), .none, (.pick (.t 11) (.c (.d (.bool .true))) (.t 18))⟩]
abbrev c_poundageref15_Same_r2 : List AO := [⟨(.some 4), .none, (.mov (.c (.d (.bool .false))))⟩]
abbrev c_poundageref15_Same_r3 : List AO := [⟨(.some 20), .none, (.fieldAddr 1 (.t 2))⟩,
  ⟨(.some 21), .none, (.load .none (.t 20))⟩,
  ⟨(.some 22), .none, (.len (.t 21))⟩,
  ⟨(.some 23), .none, (.mov (.c (.d (.int .i64 0))))⟩]
abbrev c_poundageref15_Same_r4 : List AO := [⟨(.some 24), .none, (.bin .lss (.t 23) (.t 22))⟩]
abbrev c_poundageref15_Same_r5 : List AO := [⟨(.some 25), .none, (.mov (.t 23))⟩,
  ⟨(.some 5), .none, (.mov (.t 25))⟩]
abbrev c_poundageref15_Same_r6 : List AO := [⟨(.some 26), .none, (.fieldAddr 1 (.t 2))⟩,
  ⟨(.some 28), .none, (.mov (.t 5))⟩,
  ⟨(.some 31), .none, (.fieldAddr 1 (.t 3))⟩,
  ⟨(.some 33), .none, (.mov (.t 5))⟩,
  ⟨(.some 27), .none, (.load .none (.t 26))⟩,
  ⟨(.some 29), .none, (.elemAddr 5 (.t 27) (.t 28))⟩,
  ⟨(.some 30), .none, (.load (.some 5) (.t 29))⟩,
  ⟨(.some 32), .none, (.load .none (.t 31))⟩,
  ⟨(.some 34), .none, (.elemAddr 5 (.t 32) (.t 33))⟩,
  ⟨(.some 35), .none, (.load (.some 5) (.t 34))⟩,
  ⟨(.some 36), .none, (.eqAgg .true [0, 0, 0, 0, 0] (.t 30) (.t 35))⟩]
abbrev c_poundageref15_Same_r7 : List AO := [⟨(.some 4), .none, (.mov (.c (.d (.bool .false))))⟩]
abbrev c_poundageref15_Same_r8 : List AO := [⟨(.some 37), .none, (.bin .add (.t 23) (.c (.d (.int .i64 1))))⟩,
  ⟨(.some 23), .none, (.mov (.t 37))⟩]
abbrev c_poundageref15_Same_l0 : ACode := (.seq (.ops c_poundageref15_Same_r4) (.seq (.cond (.t 24) .skip (.exit 0)) (.seq (.block 1 (.seq (.ops c_poundageref15_Same_r5) (.seq (.dops c_poundageref15_Same_r6) (.cond (.t 36) (.seq (.ops c_poundageref15_Same_r7) .ret) .skip)))) (.ops c_poundageref15_Same_r8))))
abbrev c_poundageref15_Same_r9 : List AO := [⟨(.some 4), .none, (.mov (.c (.d (.bool .true))))⟩]
abbrev c_poundageref15_Same : AFunc := ⟨38, [(.tmp 4)], (.seq (.ops c_poundageref15_Same_r0) (.seq (.seq (.ops c_poundageref15_Same_r1) (.cond (.t 19) (.seq (.ops c_poundageref15_Same_r2) .ret) .skip)) (.seq (.seq (.ops c_poundageref15_Same_r3) (.block 0 (.loop c_poundageref15_Same_l0))) (.seq (.ops c_poundageref15_Same_r9) .ret))))⟩
theorem comp_poundageref15_Same : funcC Try.prog 25 = some c_poundageref15_Same := by kernel_rfl
abbrev f_poundageref10_in : FuncId := 26
abbrev c_poundageref10_in_r0 : List AO := [⟨(.some 6), .none, (.mov (.c (.d (.bool .false))))⟩]
abbrev c_poundageref10_in_r1 : List AO := [⟨(.some 7), .none, (.mov (.t 1))⟩,
  ⟨(.some 8), .none, (.mov (.t 0))⟩,
  ⟨(.some 9), .none, (.bin .leq (.t 7) (.t 8))⟩,
  ⟨(.some 10), .none, (.mov (.t 9))⟩,
  ⟨(.some 11), (.some ⟨10, .true⟩), (.mov (.t 0))⟩,
  ⟨(.some 12), (.some ⟨10, .true⟩), (.mov (.t 2))⟩,
  ⟨(.some 13), (.some ⟨10, .true⟩), (.bin .leq (.t 11) (.t 12))⟩,
  ⟨(.some 14), .none, (.pick (.t 10) (.t 13) (.c (.d (.bool .false))))⟩,
  ⟨(.some 6), .none, (.mov (.t 14))⟩]
abbrev c_poundageref10_in : AFunc := ⟨15, [(.tmp 6)], (.seq (.ops c_poundageref10_in_r0) (.seq (.ops c_poundageref10_in_r1) .ret))⟩
theorem comp_poundageref10_in : funcC Try.prog 26 = some c_poundageref10_in := by kernel_rfl
abbrev f_poundageref10_span : FuncId := 27
abbrev c_poundageref10_span_r0 : List AO := [⟨(.some 3), .none, (.box 26 (.t 0))⟩,
  ⟨(.some 6), .none, (.mov (.c (.d (.bool .false))))⟩]
abbrev c_poundageref10_span_r1 : List AO := [⟨(.some 7), .none, (.fieldAddr 1 (.t 3))⟩,
  ⟨(.some 8), .none, (.load .none (.t 7))⟩,
  ⟨(.some 9), .none, (.mov (.t 1))⟩,
  ⟨(.some 10), .none, (.bin .leq (.t 8) (.t 9))⟩,
  ⟨(.some 11), .none, (.mov (.t 10))⟩,
  ⟨(.some 12), (.some ⟨11, .true⟩), (.mov (.t 1))⟩,
  ⟨(.some 13), (.some ⟨11, .true⟩), (.mov (.t 2))⟩,
  ⟨(.some 14), (.some ⟨11, .true⟩), (.bin .leq (.t 12) (.t 13))⟩,
  ⟨(.some 15), .none, (.pick (.t 11) (.t 14) (.c (.d (.bool .false))))⟩,
  ⟨(.some 16), .none, (.mov (.t 15))⟩,
  ⟨(.some 17), (.some ⟨16, .true⟩), (.mov (.t 2))⟩,
  ⟨(.some 18), (.some ⟨16, .true⟩), (.fieldAddr 2 (.t 3))⟩,
  ⟨(.some 19), (.some ⟨16, .true⟩), (.load .none (.t 18))⟩,
  ⟨(.some 20), (.some ⟨16, .true⟩), (.bin .leq (.t 17) (.t 19))⟩,
  ⟨(.some 21), .none, (.pick (.t 16) (.t 20) (.c (.d (.bool .false))))⟩,
  ⟨(.some 6), .none, (.mov (.t 21))⟩]
abbrev c_poundageref10_span : AFunc := ⟨22, [(.tmp 6)], (.seq (.ops c_poundageref10_span_r0) (.seq (.ops c_poundageref10_span_r1) .ret))⟩
theorem comp_poundageref10_span : funcC Try.prog 27 = some c_poundageref10_span := by kernel_rfl
abbrev f_poundageref10_Part : FuncId := 28
abbrev c_poundageref10_Part_r0 : List AO := [⟨(.some 2), .none, (.box 26 (.t 0))⟩,
  ⟨(.some 3), .none, (.box 51 (.t 1))⟩,
  ⟨(.some 4), .none, (.mov (.c (.d (.bool .false))))⟩]
abbrev c_poundageref10_Part_r1 : List AO := [⟨(.some 11), .none, (.fieldAddr 0 (.t 3))⟩,
  ⟨(.some 12), .none, (.load .none (.t 11))⟩,
  ⟨(.some 13), .none, (.bin .lss (.t 12) (.c (.d (.int .i64 0))))⟩,
  ⟨(.some 14), .none, (.mov (.t 13))⟩,
  ⟨(.some 15), (.some ⟨14, .false⟩), (.fieldAddr 0 (.t 3))⟩,
  ⟨(.some 16), (.some ⟨14, .false⟩), (.load .none (.t 15))⟩,
  ⟨(.some 17), (.some ⟨14, .false⟩), (.fieldAddr 3 (.t 2))⟩,
  ⟨(.some 18), (.some ⟨14, .false⟩), (.load .none (.t 17))⟩,
  ⟨(.some 19), (.some ⟨14, .false⟩), (.len (.t 18))⟩,
  ⟨(.some 20), (.some ⟨14, .false⟩), (.bin .geq (.t 16) (.t 19))⟩,
  ⟨(.some 21), .none, (.pick (.t 14) (.c (.d (.bool .true))) (.t 20))⟩,
  ⟨(.some 22), .none, (.mov (.t 21))⟩,
  ⟨(.some 23), (.some ⟨22, .false⟩), (.load (.some 6) (.t 2))⟩,
  ⟨(.some 24), (.some ⟨22, .false⟩), (.fieldAddr 1 (.t 3))⟩,
  ⟨(.some 25), (.some ⟨22, .false⟩), (.load .none (.t 24))⟩,
  ⟨(.some 26), (.some ⟨22, .false⟩), (.fieldAddr 2 (.t 3))⟩,
  ⟨(.some 27), (.some ⟨22, .false⟩), (.load .none (.t 26))⟩,
  ⟨(.some 28), (.some ⟨22, .false⟩), (.call 27 [(.t 23), (.t 25), (.t 27)])⟩,
  ⟨(.some 29), (.some ⟨22, .false⟩), (.un .not (.t 28))⟩,
  ⟨(.some 30), .none, (.pick (.t 22) (.c (.d (.bool .true))) (.t 29))⟩,
  ⟨(.some 31), .none, (.mov (.t 30))⟩,
  ⟨(.some 32), (.some ⟨31, .false⟩), (.fieldAddr 3 (.t 3))⟩,
  ⟨(.some 33), (.some ⟨31, .false⟩), (.load .none (.t 32))⟩,
  ⟨(.some 34), (.some ⟨31, .false⟩), (.call 26 [(.t 33), (.c (.d (.int .i64 0))), (.c (.d (.int .i64 1000000)))])⟩,
  ⟨(.some 35), (.some ⟨31, .false⟩), (.un .not (.t 34))⟩,
  ⟨(.some 36), .none, (.pick (.t 31) (.c (.d (.bool .true))) (.t 35))⟩,
  ⟨(.some 37), .none, (.mov (.t 36))⟩,
  ⟨(.some 38), (.some ⟨37, .false⟩), (.fieldAddr 4 (.t 3))⟩,
  ⟨(.some 39), (.some ⟨37, .false⟩), (.load .none (.t 38))⟩,
  ⟨(.some 40), (.some ⟨37, .false⟩), (.call 26 [(.t 39), (.c (.d (.int .i64 1))), (.c (.d (.int .i64 1000000)))])⟩,
  ⟨(.some 41), (.some ⟨37, .false⟩), (.un .not (.t 40))⟩,
  ⟨(.some 42), .none, (.pick (.t 37) (.c (.d (.bool .true))) (.t 41))⟩,
  ⟨(.some 43), .none, (.mov (.t 42))⟩,
  ⟨(.some 44), (.some ⟨43, .false⟩), (.fieldAddr 5 (.t 3))⟩,
  ⟨(.some 45), (.some ⟨43, .false⟩), (.load .none (.t 44))⟩,
  ⟨(.some 46), (.some ⟨43, .false⟩), (.bin .neq (.t 45) (.c (.d (.int .i64 1))))⟩,
  ⟨(.some 47), (.some ⟨43, .false⟩), (.mov (.t 46))⟩,
  ⟨(.some 48), (.some ⟨47, .true⟩), (.fieldAddr 5 (.t 3))⟩,
  ⟨(.some 49), (.some ⟨47, .true⟩), (.load .none (.t 48))⟩,
  ⟨(.some 50), (.some ⟨47, .true⟩), (.bin .neq (.t 49) (.c (.d (.int .i64 2))))⟩,
  ⟨(.some 51), (.some ⟨43, .false⟩), (.pick (.t 47) (.t 50) (.c (.d (.bool .false))))⟩,
  ⟨(.some 52), .none, (.pick (.t 43) (.c (.d (.bool .true))) (.t 51))⟩,
  ⟨(.some 53), .none, (.mov (.t 52))⟩,
  ⟨(.some 54), (.some ⟨53, .false⟩), (.fieldAddr 7 (.t 3))⟩,
  ⟨(.some 55), (.some ⟨53, .false⟩), (.load .none (.t 54))⟩,
  ⟨(.some 56), (.some ⟨53, .false⟩), (.call 26 [(.t 55), (.c (.d (.int .i64 0))), (.c (.d (.int .i64 3)))])⟩,
  ⟨(.some 57), (.some ⟨53, .false⟩), (.un .not (.t 56))⟩,
  ⟨(.some 58), .none, (.pick (.t 53) (.c (.d (.bool .true))) (.t 57))⟩,
  ⟨(.some 59), .none, (.mov (.t 58))⟩,
  ⟨(.some 60), (.some ⟨59, .false⟩), (.fieldAddr 6 (.t 3))⟩,
  ⟨(.some 61), (.some ⟨59, .false⟩), (.load .none (.t 60))⟩,
  ⟨(.some 62), (.some ⟨59, .false⟩), (.len (.t 61))⟩,
  ⟨(.some 63), (.some ⟨59, .false⟩), (.bin .lss (.t 62) (.c (.d (.int .i64 1))))⟩,
  ⟨(.some 64), .none, (.pick (.t 59) (.c (.d (.bool .true))) (.t 63))⟩,
  ⟨(.some 65), .none, (.mov (.t 64))⟩,
  ⟨(.some 66), (.some ⟨65, .false⟩), (.fieldAddr 6 (.t 3))⟩,
  ⟨(.some 67), (.some ⟨65, .false⟩), (.load .none (.t 66))⟩,
  ⟨(.some 68), (.some ⟨65, .false⟩), (.len (.t 67))⟩,
  ⟨(.some 69), (.some ⟨65, .false⟩), (.bin .gtr (.t 68) (.c (.d (.int .i64 8))))⟩,
  ⟨(.some 70), .none, (.pick (.t 65) (.c (.d (.bool .true))) (.t 69))⟩,
  ⟨(.some 71), .none, (.mov (.t 70))⟩,
  ⟨(.some 72), (.some ⟨71, .false⟩), (.fieldAddr 8 (.t 3))⟩,
  ⟨(.some 73), (.some ⟨71, .false⟩), (.load .none (.t 72))⟩,
  ⟨(.some 74), (.some ⟨71, .false⟩), (.len (.t 73))⟩,
  ⟨(.some 75), (.some ⟨71, .false⟩), (.bin .gtr (.t 74) (.c (.d (.int .i64 6))))⟩,
  ⟨(.some 76), .none, (.pick (.t 71) (.c (.d (.bool .true))) (.t 75))⟩]
abbrev c_poundageref10_Part_r2 : List AO := [⟨(.some 4), .none, (.mov (.c (.d (.bool .false))))⟩]
abbrev c_poundageref10_Part_r3 : List AO := [⟨(.some 77), .none, (.fieldAddr 6 (.t 3))⟩,
  ⟨(.some 78), .none, (.load .none (.t 77))⟩,
  ⟨(.some 79), .none, (.len (.t 78))⟩,
  ⟨(.some 80), .none, (.mov (.c (.d (.int .i64 0))))⟩]
abbrev c_poundageref10_Part_r4 : List AO := [⟨(.some 81), .none, (.bin .lss (.t 80) (.t 79))⟩]
abbrev c_poundageref10_Part_r5 : List AO := [⟨(.some 82), .none, (.mov (.t 80))⟩,
  ⟨(.some 83), .none, (.elemAddr 2 (.t 78) (.t 80))⟩,
  ⟨(.some 84), .none, (.load (.some 2) (.t 83))⟩,
  ⟨(.some 6), .none, (.alloc 82 [(.d (.int .i64 0)), (.d (.int .i64 0))])⟩,
  ⟨(.some 5), .none, (.mov (.t 82))⟩,
  ⟨.none, .none, (.store 2 (.t 6) (.t 84))⟩]
abbrev c_poundageref10_Part_r6 : List AO := [⟨(.some 7), .none, (.mov (.c (.d (.int .i64 1))))⟩,
  ⟨(.some 8), .none, (.mov (.c (.d (.int .i64 1000000))))⟩]
abbrev c_poundageref10_Part_r7 : List AO := [⟨(.some 85), .none, (.mov (.t 5))⟩,
  ⟨(.some 86), .none, (.bin .gtr (.t 85) (.c (.d (.int .i64 0))))⟩,
  ⟨(.some 87), .none, (.mov (.t 86))⟩,
  ⟨(.some 88), (.some ⟨87, .true⟩), (.fieldAddr 6 (.t 3))⟩,
  ⟨(.some 89), (.some ⟨87, .true⟩), (.load .none (.t 88))⟩,
  ⟨(.some 90), (.some ⟨87, .true⟩), (.mov (.t 5))⟩,
  ⟨(.some 91), (.some ⟨87, .true⟩), (.bin .sub (.t 90) (.c (.d (.int .i64 1))))⟩,
  ⟨(.some 92), (.some ⟨87, .true⟩), (.elemAddr 2 (.t 89) (.t 91))⟩,
  ⟨(.some 93), (.some ⟨87, .true⟩), (.fieldAddr 0 (.t 92))⟩,
  ⟨(.some 94), (.some ⟨87, .true⟩), (.load .none (.t 93))⟩,
  ⟨(.some 95), (.some ⟨87, .true⟩), (.bin .geq (.t 94) (.c (.d (.int .i64 1))))⟩,
  ⟨(.some 96), .none, (.pick (.t 87) (.t 95) (.c (.d (.bool .false))))⟩]
abbrev c_poundageref10_Part_r8 : List AO := [⟨(.some 97), .none, (.fieldAddr 6 (.t 3))⟩,
  ⟨(.some 98), .none, (.load .none (.t 97))⟩,
  ⟨(.some 99), .none, (.mov (.t 5))⟩,
  ⟨(.some 100), .none, (.bin .sub (.t 99) (.c (.d (.int .i64 1))))⟩,
  ⟨(.some 101), .none, (.elemAddr 2 (.t 98) (.t 100))⟩,
  ⟨(.some 102), .none, (.fieldAddr 0 (.t 101))⟩,
  ⟨(.some 103), .none, (.load .none (.t 102))⟩,
  ⟨(.some 104), .none, (.minmax .false (.t 103) [(.c (.d (.int .i64 1000000)))])⟩,
  ⟨(.some 105), .none, (.bin .add (.t 104) (.c (.d (.int .i64 1))))⟩,
  ⟨(.some 7), .none, (.mov (.t 105))⟩]
abbrev c_poundageref10_Part_r9 : List AO := [⟨(.some 106), .none, (.mov (.t 5))⟩,
  ⟨(.some 107), .none, (.fieldAddr 6 (.t 3))⟩,
  ⟨(.some 108), .none, (.load .none (.t 107))⟩,
  ⟨(.some 109), .none, (.len (.t 108))⟩,
  ⟨(.some 110), .none, (.bin .sub (.t 109) (.c (.d (.int .i64 1))))⟩,
  ⟨(.some 111), .none, (.bin .eql (.t 106) (.t 110))⟩]
abbrev c_poundageref10_Part_r10 : List AO := [⟨(.some 7), .none, (.mov (.c (.d (.int .i64 0))))⟩,
  ⟨(.some 8), .none, (.mov (.c (.d (.int .i64 0))))⟩]
abbrev c_poundageref10_Part_r11 : List AO := [⟨(.some 112), .none, (.fieldAddr 1 (.t 6))⟩,
  ⟨(.some 113), .none, (.load .none (.t 112))⟩,
  ⟨(.some 114), .none, (.call 26 [(.t 113), (.c (.d (.int .i64 0))), (.c (.d (.int .i64 1000000000000)))])⟩,
  ⟨(.some 115), .none, (.un .not (.t 114))⟩,
  ⟨(.some 116), .none, (.mov (.t 115))⟩,
  ⟨(.some 117), (.some ⟨116, .false⟩), (.fieldAddr 0 (.t 6))⟩,
  ⟨(.some 118), (.some ⟨116, .false⟩), (.load .none (.t 117))⟩,
  ⟨(.some 119), (.some ⟨116, .false⟩), (.mov (.t 7))⟩,
  ⟨(.some 120), (.some ⟨116, .false⟩), (.mov (.t 8))⟩,
  ⟨(.some 121), (.some ⟨116, .false⟩), (.call 26 [(.t 118), (.t 119), (.t 120)])⟩,
  ⟨(.some 122), (.some ⟨116, .false⟩), (.un .not (.t 121))⟩,
  ⟨(.some 123), .none, (.pick (.t 116) (.c (.d (.bool .true))) (.t 122))⟩]
abbrev c_poundageref10_Part_r12 : List AO := [⟨(.some 4), .none, (.mov (.c (.d (.bool .false))))⟩]
abbrev c_poundageref10_Part_r13 : List AO := [⟨(.some 124), .none, (.bin .add (.t 80) (.c (.d (.int .i64 1))))⟩,
  ⟨(.some 80), .none, (.mov (.t 124))⟩]
abbrev c_poundageref10_Part_l0 : ACode := (.seq (.ops c_poundageref10_Part_r4) (.seq (.cond (.t 81) .skip (.exit 0)) (.seq (.block 1 (.seq (.ops c_poundageref10_Part_r5) (.seq (.ops c_poundageref10_Part_r6) (.seq (.seq (.ops c_poundageref10_Part_r7) (.cond (.t 96) (.ops c_poundageref10_Part_r8) .skip)) (.seq (.seq (.ops c_poundageref10_Part_r9) (.cond (.t 111) (.ops c_poundageref10_Part_r10) .skip)) (.seq (.ops c_poundageref10_Part_r11) (.cond (.t 123) (.seq (.ops c_poundageref10_Part_r12) .ret) .skip))))))) (.ops c_poundageref10_Part_r13))))
abbrev c_poundageref10_Part_r14 : List AO := [⟨(.some 125), .none, (.fieldAddr 8 (.t 3))⟩,
  ⟨(.some 126), .none, (.load .none (.t 125))⟩,
  ⟨(.some 127), .none, (.len (.t 126))⟩,
  ⟨(.some 128), .none, (.mov (.c (.d (.int .i64 0))))⟩]
abbrev c_poundageref10_Part_r15 : List AO := [⟨(.some 129), .none, (.bin .lss (.t 128) (.t 127))⟩]
abbrev c_poundageref10_Part_r16 : List AO := [⟨(.some 130), .none, (.elemAddr 3 (.t 126) (.t 128))⟩,
  ⟨(.some 131), .none, (.load (.some 3) (.t 130))⟩,
  ⟨(.some 10), .none, (.alloc 84 [(.d (.int .i64 0)), (.d (.int .i64 0)), (.d (.int .i64 0))])⟩,
  ⟨.none, .none, (.store 3 (.t 10) (.t 131))⟩]
abbrev c_poundageref10_Part_r17 : List AO := [⟨(.some 132), .none, (.fieldAddr 0 (.t 10))⟩,
  ⟨(.some 133), .none, (.load .none (.t 132))⟩]
abbrev c_poundageref10_Part_r18 : List AO := [⟨(.some 135), .none, (.bin .eql (.t 133) (.c (.d (.int .i64 1))))⟩,
  ⟨(.some 134), .none, (.mov (.t 135))⟩]
abbrev c_poundageref10_Part_r19 : List AO := [⟨(.some 136), .none, (.fieldAddr 1 (.t 10))⟩,
  ⟨(.some 137), .none, (.load .none (.t 136))⟩,
  ⟨(.some 138), .none, (.call 26 [(.t 137), (.c (.d (.int .i64 0))), (.c (.d (.int .i64 100000000)))])⟩,
  ⟨(.some 139), .none, (.un .not (.t 138))⟩,
  ⟨(.some 140), .none, (.mov (.t 139))⟩,
  ⟨(.some 141), (.some ⟨140, .false⟩), (.fieldAddr 2 (.t 10))⟩,
  ⟨(.some 142), (.some ⟨140, .false⟩), (.load .none (.t 141))⟩,
  ⟨(.some 143), (.some ⟨140, .false⟩), (.call 26 [(.t 142), (.c (.d (.int .i64 0))), (.c (.d (.int .i64 3)))])⟩,
  ⟨(.some 144), (.some ⟨140, .false⟩), (.un .not (.t 143))⟩,
  ⟨(.some 145), .none, (.pick (.t 140) (.c (.d (.bool .true))) (.t 144))⟩]
abbrev c_poundageref10_Part_r20 : List AO := [⟨(.some 4), .none, (.mov (.c (.d (.bool .false))))⟩]
abbrev c_poundageref10_Part_r21 : List AO := [⟨(.some 147), .none, (.bin .eql (.t 133) (.c (.d (.int .i64 2))))⟩,
  ⟨(.some 146), .none, (.mov (.t 147))⟩]
abbrev c_poundageref10_Part_r22 : List AO := [⟨(.some 148), .none, (.bin .eql (.t 133) (.c (.d (.int .i64 3))))⟩,
  ⟨(.some 146), .none, (.mov (.t 148))⟩]
abbrev c_poundageref10_Part_r23 : List AO := [⟨(.some 149), .none, (.bin .eql (.t 133) (.c (.d (.int .i64 4))))⟩,
  ⟨(.some 146), .none, (.mov (.t 149))⟩]
abbrev c_poundageref10_Part_r24 : List AO := [⟨(.some 150), .none, (.fieldAddr 1 (.t 10))⟩,
  ⟨(.some 151), .none, (.load .none (.t 150))⟩,
  ⟨(.some 152), .none, (.call 26 [(.t 151), (.c (.d (.int .i64 0))), (.c (.d (.int .i64 1000000000000)))])⟩,
  ⟨(.some 153), .none, (.un .not (.t 152))⟩,
  ⟨(.some 154), .none, (.mov (.t 153))⟩,
  ⟨(.some 155), (.some ⟨154, .false⟩), (.fieldAddr 2 (.t 10))⟩,
  ⟨(.some 156), (.some ⟨154, .false⟩), (.load .none (.t 155))⟩,
  ⟨(.some 157), (.some ⟨154, .false⟩), (.bin .neq (.t 156) (.c (.d (.int .i64 0))))⟩,
  ⟨(.some 158), .none, (.pick (.t 154) (.c (.d (.bool .true))) (.t 157))⟩]
abbrev c_poundageref10_Part_r25 : List AO := [⟨(.some 4), .none, (.mov (.c (.d (.bool .false))))⟩]
abbrev c_poundageref10_Part_r26 : List AO := [⟨(.some 4), .none, (.mov (.c (.d (.bool .false))))⟩]
abbrev c_poundageref10_Part_r27 : List AO := [⟨(.some 159), .none, (.bin .add (.t 128) (.c (.d (.int .i64 1))))⟩,
  ⟨(.some 128), .none, (.mov (.t 159))⟩]
abbrev c_poundageref10_Part_l1 : ACode := (.seq (.ops c_poundageref10_Part_r15) (.seq (.cond (.t 129) .skip (.exit 2)) (.seq (.block 3 (.seq (.ops c_poundageref10_Part_r16) (.seq (.ops c_poundageref10_Part_r17) (.block 4 (.seq (.ops c_poundageref10_Part_r18) (.cond (.t 134) (.seq (.ops c_poundageref10_Part_r19) (.cond (.t 145) (.seq (.ops c_poundageref10_Part_r20) .ret) .skip)) (.seq (.seq (.ops c_poundageref10_Part_r21) (.cond (.t 146) .skip (.seq (.ops c_poundageref10_Part_r22) (.cond (.t 146) .skip (.ops c_poundageref10_Part_r23))))) (.cond (.t 146) (.seq (.ops c_poundageref10_Part_r24) (.cond (.t 158) (.seq (.ops c_poundageref10_Part_r25) .ret) .skip)) (.seq (.ops c_poundageref10_Part_r26) .ret))))))))) (.ops c_poundageref10_Part_r27))))
abbrev c_poundageref10_Part_r28 : List AO := [⟨(.some 4), .none, (.mov (.c (.d (.bool .true))))⟩]
abbrev c_poundageref10_Part : AFunc := ⟨160, [(.tmp 4)], (.seq (.ops c_poundageref10_Part_r0) (.seq (.seq (.ops c_poundageref10_Part_r1) (.cond (.t 76) (.seq (.ops c_poundageref10_Part_r2) .ret) .skip)) (.seq (.seq (.ops c_poundageref10_Part_r3) (.block 0 (.loop c_poundageref10_Part_l0))) (.seq (.seq (.ops c_poundageref10_Part_r14) (.block 2 (.loop c_poundageref10_Part_l1))) (.seq (.ops c_poundageref10_Part_r28) .ret)))))⟩
theorem comp_poundageref10_Part : funcC Try.prog 28 = some c_poundageref10_Part := by kernel_rfl
abbrev f_poundageref13_Part : FuncId := 29
abbrev c_poundageref13_Part_r0 : List AO := [⟨(.some 2), .none, (.box 51 (.t 0))⟩,
  ⟨(.some 4), .none, (.mov (.c (.d (.int .i64 0))))⟩,
  ⟨(.some 5), .none, (.mov (.c (.d (.bool .false))))⟩]
abbrev c_poundageref13_Part_r1 : List AO := [⟨(.some 9), .none, (.load (.some 9) (.t 2))⟩,
  ⟨(.some 10), .none, (.mov (.t 1))⟩,
  ⟨(.some 11), .none, (.call 33 [(.t 9), (.t 10)])⟩,
  ⟨(.some 8), .none, (.mov (.t 11))⟩,
  ⟨(.some 12), .none, (.extract (.t 8) 0)⟩,
  ⟨(.some 13), .none, (.extract (.t 8) 1)⟩,
  ⟨(.some 6), .none, (.mov (.t 12))⟩,
  ⟨(.some 7), .none, (.mov (.t 13))⟩]
abbrev c_poundageref13_Part_r2 : List AO := [⟨(.some 14), .none, (.mov (.t 7))⟩,
  ⟨(.some 15), .none, (.un .not (.t 14))⟩]
abbrev c_poundageref13_Part_r3 : List AO := [⟨(.some 4), .none, (.mov (.c (.d (.int .i64 0))))⟩,
  ⟨(.some 5), .none, (.mov (.c (.d (.bool .false))))⟩]
abbrev c_poundageref13_Part_r4 : List AO := [⟨(.some 16), .none, (.mov (.t 6))⟩,
  ⟨(.some 17), .none, (.fieldAddr 8 (.t 2))⟩,
  ⟨(.some 18), .none, (.load .none (.t 17))⟩,
  ⟨(.some 19), .none, (.call 34 [(.t 16), (.t 18)])⟩,
  ⟨(.some 20), .none, (.extract (.t 19) 0)⟩,
  ⟨(.some 21), .none, (.extract (.t 19) 1)⟩,
  ⟨(.some 4), .none, (.mov (.t 20))⟩,
  ⟨(.some 5), .none, (.mov (.t 21))⟩]
abbrev c_poundageref13_Part : AFunc := ⟨22, [(.tmp 4), (.tmp 5)], (.seq (.ops c_poundageref13_Part_r0) (.seq (.ops c_poundageref13_Part_r1) (.seq (.seq (.ops c_poundageref13_Part_r2) (.cond (.t 15) (.seq (.ops c_poundageref13_Part_r3) .ret) .skip)) (.seq (.ops c_poundageref13_Part_r4) .ret))))⟩
theorem comp_poundageref13_Part : funcC Try.prog 29 = some c_poundageref13_Part := by kernel_rfl
abbrev f_poundageref17_Holds : FuncId := 30
abbrev c_poundageref17_Holds_r0 : List AO := [⟨(.some 2), .none, (.box 26 (.t 0))⟩,
  ⟨(.some 4), .none, (.mov (.c (.d (.int .u64 0))))⟩]
abbrev c_poundageref17_Holds_r1 : List AO := [⟨(.some 5), .none, (.mov (.c (.d (.int .u64 0))))⟩]
abbrev c_poundageref17_Holds_r2 : List AO := [⟨(.some 10), .none, (.fieldAddr 4 (.t 2))⟩,
  ⟨(.some 11), .none, (.load .none (.t 10))⟩,
  ⟨(.some 12), .none, (.len (.t 11))⟩,
  ⟨(.some 13), .none, (.mov (.c (.d (.int .i64 0))))⟩]
abbrev c_poundageref17_Holds_r3 : List AO := [⟨(.some 14), .none, (.bin .lss (.t 13) (.t 12))⟩]
abbrev c_poundageref17_Holds_r4 : List AO := [⟨(.some 15), .none, (.mov (.t 13))⟩,
  ⟨(.some 16), .none, (.elemAddr 3 (.t 11) (.t 13))⟩,
  ⟨(.some 17), .none, (.load (.some 3) (.t 16))⟩,
  ⟨(.some 7), .none, (.alloc 71 [(.d (.int .i64 0)), (.d (.int .i64 0)), (.d (.int .i64 0))])⟩,
  ⟨(.some 6), .none, (.mov (.t 15))⟩,
  ⟨.none, .none, (.store 3 (.t 7) (.t 17))⟩]
abbrev c_poundageref17_Holds_r5 : List AO := [⟨(.some 18), .none, (.fieldAddr 1 (.t 7))⟩,
  ⟨(.some 19), .none, (.load .none (.t 18))⟩,
  ⟨(.some 20), .none, (.mov (.t 1))⟩,
  ⟨(.some 21), .none, (.bin .leq (.t 19) (.t 20))⟩,
  ⟨(.some 22), .none, (.mov (.t 21))⟩,
  ⟨(.some 23), (.some ⟨22, .true⟩), (.mov (.t 1))⟩,
  ⟨(.some 24), (.some ⟨22, .true⟩), (.fieldAddr 2 (.t 7))⟩,
  ⟨(.some 25), (.some ⟨22, .true⟩), (.load .none (.t 24))⟩,
  ⟨(.some 26), (.some ⟨22, .true⟩), (.bin .leq (.t 23) (.t 25))⟩,
  ⟨(.some 27), .none, (.pick (.t 22) (.t 26) (.c (.d (.bool .false))))⟩]
abbrev c_poundageref17_Holds_r6 : List AO := [⟨(.some 28), .none, (.mov (.t 5))⟩,
  ⟨(.some 29), .none, (.mov (.t 6))⟩,
  ⟨(.some 30), .none, (.conv .u64 (.t 29))⟩,
  ⟨(.some 31), .none, (.bin .shl (.c (.d (.int .u64 1))) (.t 30))⟩,
  ⟨(.some 32), .none, (.bin .or (.t 28) (.t 31))⟩,
  ⟨(.some 5), .none, (.mov (.t 32))⟩]
abbrev c_poundageref17_Holds_r7 : List AO := [⟨(.some 33), .none, (.bin .add (.t 13) (.c (.d (.int .i64 1))))⟩,
  ⟨(.some 13), .none, (.mov (.t 33))⟩]
abbrev c_poundageref17_Holds_l0 : ACode := (.seq (.ops c_poundageref17_Holds_r3) (.seq (.cond (.t 14) .skip (.exit 0)) (.seq (.block 1 (.seq (.ops c_poundageref17_Holds_r4) (.seq (.ops c_poundageref17_Holds_r5) (.cond (.t 27) (.ops c_poundageref17_Holds_r6) .skip)))) (.ops c_poundageref17_Holds_r7))))
abbrev c_poundageref17_Holds_r8 : List AO := [⟨(.some 34), .none, (.fieldAddr 5 (.t 2))⟩,
  ⟨(.some 35), .none, (.load .none (.t 34))⟩,
  ⟨(.some 36), .none, (.len (.t 35))⟩,
  ⟨(.some 37), .none, (.mov (.c (.d (.int .i64 0))))⟩]
abbrev c_poundageref17_Holds_r9 : List AO := [⟨(.some 38), .none, (.bin .lss (.t 37) (.t 36))⟩]
abbrev c_poundageref17_Holds_r10 : List AO := [⟨(.some 39), .none, (.mov (.t 37))⟩,
  ⟨(.some 40), .none, (.elemAddr 9 (.t 35) (.t 37))⟩,
  ⟨(.some 41), .none, (.load (.some 9) (.t 40))⟩,
  ⟨(.some 9), .none, (.alloc 51 [(.d (.int .i64 0)), (.d (.int .i64 0)), (.d (.int .i64 0)), (.d (.int .i64 0)), (.d (.int .i64 0)), (.d (.int .i64 0)), (.nilsl 2), (.d (.int .i64 0)), (.nilsl 3)])⟩,
  ⟨(.some 8), .none, (.mov (.t 39))⟩,
  ⟨.none, .none, (.store 9 (.t 9) (.t 41))⟩]
abbrev c_poundageref17_Holds_r11 : List AO := [⟨(.some 42), .none, (.fieldAddr 1 (.t 9))⟩,
  ⟨(.some 43), .none, (.load .none (.t 42))⟩,
  ⟨(.some 44), .none, (.mov (.t 1))⟩,
  ⟨(.some 45), .none, (.bin .leq (.t 43) (.t 44))⟩,
  ⟨(.some 46), .none, (.mov (.t 45))⟩,
  ⟨(.some 47), (.some ⟨46, .true⟩), (.mov (.t 1))⟩,
  ⟨(.some 48), (.some ⟨46, .true⟩), (.fieldAddr 2 (.t 9))⟩,
  ⟨(.some 49), (.some ⟨46, .true⟩), (.load .none (.t 48))⟩,
  ⟨(.some 50), (.some ⟨46, .true⟩), (.bin .leq (.t 47) (.t 49))⟩,
  ⟨(.some 51), .none, (.pick (.t 46) (.t 50) (.c (.d (.bool .false))))⟩]
abbrev c_poundageref17_Holds_r12 : List AO := [⟨(.some 52), .none, (.mov (.t 5))⟩,
  ⟨(.some 53), .none, (.mov (.t 8))⟩,
  ⟨(.some 54), .none, (.conv .u64 (.t 53))⟩,
  ⟨(.some 55), .none, (.bin .shl (.c (.d (.int .u64 256))) (.t 54))⟩,
  ⟨(.some 56), .none, (.bin .or (.t 52) (.t 55))⟩,
  ⟨(.some 5), .none, (.mov (.t 56))⟩]
abbrev c_poundageref17_Holds_r13 : List AO := [⟨(.some 57), .none, (.bin .add (.t 37) (.c (.d (.int .i64 1))))⟩,
  ⟨(.some 37), .none, (.mov (.t 57))⟩]
abbrev c_poundageref17_Holds_l1 : ACode := (.seq (.ops c_poundageref17_Holds_r9) (.seq (.cond (.t 38) .skip (.exit 2)) (.seq (.block 3 (.seq (.ops c_poundageref17_Holds_r10) (.seq (.ops c_poundageref17_Holds_r11) (.cond (.t 51) (.ops c_poundageref17_Holds_r12) .skip)))) (.ops c_poundageref17_Holds_r13))))
abbrev c_poundageref17_Holds_r14 : List AO := [⟨(.some 58), .none, (.mov (.t 5))⟩,
  ⟨(.some 4), .none, (.mov (.t 58))⟩]
abbrev c_poundageref17_Holds : AFunc := ⟨59, [(.tmp 4)], (.seq (.ops c_poundageref17_Holds_r0) (.seq (.ops c_poundageref17_Holds_r1) (.seq (.seq (.ops c_poundageref17_Holds_r2) (.block 0 (.loop c_poundageref17_Holds_l0))) (.seq (.seq (.ops c_poundageref17_Holds_r8) (.block 2 (.loop c_poundageref17_Holds_l1))) (.seq (.ops c_poundageref17_Holds_r14) .ret)))))⟩
theorem comp_poundageref17_Holds : funcC Try.prog 30 = some c_poundageref17_Holds := by kernel_rfl
abbrev f_poundageref15_Of : FuncId := 31
abbrev c_poundageref15_Of_r0 : List AO := [⟨(.some 2), .none, (.alloc 59 [(.d (.int .i64 0)), (.nilsl 5)])⟩,
  ⟨(.some 3), .none, (.mov (.c (.d (.bool .false))))⟩]
abbrev c_poundageref15_Of_r1 : List AO := [⟨(.some 10), .none, (.mov (.t 0))⟩,
  ⟨(.some 11), .none, (.len (.t 10))⟩,
  ⟨(.some 12), .none, (.bin .eql (.t 11) (.c (.d (.int .i64 0))))⟩,
  ⟨(.some 13), .none, (.mov (.t 12))⟩,
  ⟨(.some 14), (.some ⟨13, .false⟩), (.mov (.t 0))⟩,
  ⟨(.some 15), (.some ⟨13, .false⟩), (.len (.t 14))⟩,
  ⟨(.some 16), (.some ⟨13, .false⟩), (.bin .gtr (.t 15) (.c (.d (.int .i64 2001))))⟩,
  ⟨(.some 17), .none, (.pick (.t 13) (.c (.d (.bool .true))) (.t 16))⟩]
abbrev c_poundageref15_Of_r2 : List AO := [⟨(.some 18), .none, (.build [(.d (.int .i64 0)), (.nilsl 5)] [])⟩,
  ⟨.none, .none, (.store 2 (.t 2) (.t 18))⟩,
  ⟨(.some 3), .none, (.mov (.c (.d (.bool .false))))⟩]
abbrev c_poundageref15_Of_r3 : List AO := [⟨(.some 4), .none, (.mov (.c (.nilsl 0)))⟩]
abbrev c_poundageref15_Of_r4 : List AO := [⟨(.some 19), .none, (.mov (.t 0))⟩,
  ⟨(.some 20), .none, (.len (.t 19))⟩,
  ⟨(.some 21), .none, (.mov (.c (.d (.int .i64 0))))⟩]
abbrev c_poundageref15_Of_r5 : List AO := [⟨(.some 22), .none, (.bin .lss (.t 21) (.t 20))⟩]
abbrev c_poundageref15_Of_r6 : List AO := [⟨(.some 23), .none, (.mov (.t 21))⟩,
  ⟨(.some 24), .none, (.elemAddr 1 (.t 19) (.t 21))⟩,
  ⟨(.some 25), .none, (.load .none (.t 24))⟩,
  ⟨(.some 5), .none, (.mov (.t 23))⟩,
  ⟨(.some 6), .none, (.mov (.t 25))⟩]
abbrev c_poundageref15_Of_r7 : List AO := [⟨(.some 26), .none, (.mov (.t 6))⟩,
  ⟨(.some 27), .none, (.bin .gtr (.t 26) (.c (.d (.int .i64 2305843009213693952))))⟩,
  ⟨(.some 28), .none, (.mov (.t 27))⟩,
  ⟨(.some 29), (.some ⟨28, .false⟩), (.mov (.t 6))⟩,
  ⟨(.some 30), (.some ⟨28, .false⟩), (.bin .lss (.t 29) (.c (.d (.int .i64 (-2305843009213693952)))))⟩,
  ⟨(.some 31), .none, (.pick (.t 28) (.c (.d (.bool .true))) (.t 30))⟩]
abbrev c_poundageref15_Of_r8 : List AO := [⟨(.some 32), .none, (.build [(.d (.int .i64 0)), (.nilsl 5)] [])⟩,
  ⟨.none, .none, (.store 2 (.t 2) (.t 32))⟩,
  ⟨(.some 3), .none, (.mov (.c (.d (.bool .false))))⟩]
abbrev c_poundageref15_Of_r9 : List AO := [⟨(.some 33), .none, (.mov (.t 5))⟩,
  ⟨(.some 34), .none, (.bin .eql (.t 33) (.c (.d (.int .i64 0))))⟩,
  ⟨(.some 35), .none, (.mov (.t 34))⟩,
  ⟨(.some 36), (.some ⟨35, .false⟩), (.mov (.t 0))⟩,
  ⟨(.some 37), (.some ⟨35, .false⟩), (.mov (.t 5))⟩,
  ⟨(.some 38), (.some ⟨35, .false⟩), (.bin .sub (.t 37) (.c (.d (.int .i64 1))))⟩,
  ⟨(.some 39), (.some ⟨35, .false⟩), (.elemAddr 1 (.t 36) (.t 38))⟩,
  ⟨(.some 40), (.some ⟨35, .false⟩), (.load .none (.t 39))⟩,
  ⟨(.some 41), (.some ⟨35, .false⟩), (.mov (.t 6))⟩,
  ⟨(.some 42), (.some ⟨35, .false⟩), (.bin .neq (.t 40) (.t 41))⟩,
  ⟨(.some 43), .none, (.pick (.t 35) (.c (.d (.bool .true))) (.t 42))⟩]
abbrev c_poundageref15_Of_r10 : List AO := [⟨(.some 44), .none, (.mov (.t 4))⟩,
  ⟨(.some 45), .none, (.mov (.t 5))⟩,
  ⟨(.some 46), .none, (.buildSlice 3 1 1 [(.d (.int .i64 0))] [⟨0, (.t 45)⟩])⟩,
  ⟨(.some 47), .none, (.append 3 1 8 [(.d (.int .i64 0))] (.t 44) (.t 46))⟩,
  ⟨(.some 4), .none, (.mov (.t 47))⟩]
abbrev c_poundageref15_Of_r11 : List AO := [⟨(.some 48), .none, (.bin .add (.t 21) (.c (.d (.int .i64 1))))⟩,
  ⟨(.some 21), .none, (.mov (.t 48))⟩]
abbrev c_poundageref15_Of_l0 : ACode := (.seq (.ops c_poundageref15_Of_r5) (.seq (.cond (.t 22) .skip (.exit 0)) (.seq (.block 1 (.seq (.ops c_poundageref15_Of_r6) (.seq (.seq (.ops c_poundageref15_Of_r7) (.cond (.t 31) (.seq (.ops c_poundageref15_Of_r8) .ret) .skip)) (.seq (.ops c_poundageref15_Of_r9) (.cond (.t 43) (.ops c_poundageref15_Of_r10) .skip))))) (.ops c_poundageref15_Of_r11))))
abbrev c_poundageref15_Of_r12 : List AO := [⟨(.some 49), .none, (.mov (.t 0))⟩,
  ⟨(.some 50), .none, (.len (.t 49))⟩,
  ⟨(.some 51), .none, (.bin .sub (.t 50) (.c (.d (.int .i64 1))))⟩,
  ⟨(.some 52), .none, (.build [(.d (.int .i64 0)), (.nilsl 5)] [⟨0, ⟨1, (.t 51)⟩⟩])⟩,
  ⟨(.some 7), .none, (.alloc 59 [(.d (.int .i64 0)), (.nilsl 5)])⟩,
  ⟨.none, .none, (.store 2 (.t 7) (.t 52))⟩]
abbrev c_poundageref15_Of_r13 : List AO := [⟨(.some 8), .none, (.mov (.c (.d (.int .i64 0))))⟩]
abbrev c_poundageref15_Of_r14 : List AO := [⟨(.some 53), .none, (.mov (.t 8))⟩,
  ⟨(.some 54), .none, (.mov (.t 4))⟩,
  ⟨(.some 55), .none, (.len (.t 54))⟩,
  ⟨(.some 56), .none, (.bin .lss (.t 53) (.t 55))⟩]
abbrev c_poundageref15_Of_r15 : List AO := [⟨(.some 57), .none, (.mov (.t 4))⟩,
  ⟨(.some 58), .none, (.mov (.t 8))⟩,
  ⟨(.some 59), .none, (.elemAddr 1 (.t 57) (.t 58))⟩,
  ⟨(.some 61), .none, (.mov (.t 0))⟩,
  ⟨(.some 62), .none, (.mov (.t 4))⟩,
  ⟨(.some 63), .none, (.mov (.t 8))⟩,
  ⟨(.some 64), .none, (.elemAddr 1 (.t 62) (.t 63))⟩,
  ⟨(.some 60), .none, (.loadS .none (.t 59) [9])⟩,
  ⟨(.some 65), .none, (.loadS .none (.t 64) [9])⟩,
  ⟨(.some 66), .none, (.elemAddr 1 (.t 61) (.t 65))⟩,
  ⟨(.some 67), .none, (.loadS .none (.t 66) [9])⟩,
  ⟨(.some 68), .none, (.build [(.d (.int .i64 0)), (.d (.int .i64 0)), (.d (.int .i64 0)), (.d (.int .i64 0)), (.d (.int .i64 0))] [⟨0, ⟨1, (.t 60)⟩⟩, ⟨1, ⟨1, (.t 67)⟩⟩, ⟨4, ⟨1, (.c (.d (.int .i64 1)))⟩⟩])⟩,
  ⟨(.some 9), .none, (.alloc 56 [(.d (.int .i64 0)), (.d (.int .i64 0)), (.d (.int .i64 0)), (.d (.int .i64 0)), (.d (.int .i64 0))])⟩,
  ⟨.none, .none, (.storeS 5 9 (.t 68))⟩]
abbrev c_poundageref15_Of_r16 : List AO := [⟨(.some 69), .none, (.mov (.t 8))⟩,
  ⟨(.some 70), .none, (.bin .add (.t 69) (.c (.d (.int .i64 1))))⟩,
  ⟨(.some 71), .none, (.mov (.t 4))⟩,
  ⟨(.some 72), .none, (.len (.t 71))⟩,
  ⟨(.some 73), .none, (.bin .lss (.t 70) (.t 72))⟩]
abbrev c_poundageref15_Of_r17 : List AO := [⟨(.some 74), .none, (.mov (.t 4))⟩,
  ⟨(.some 75), .none, (.mov (.t 8))⟩,
  ⟨(.some 76), .none, (.bin .add (.t 75) (.c (.d (.int .i64 1))))⟩,
  ⟨(.some 77), .none, (.elemAddr 1 (.t 74) (.t 76))⟩,
  ⟨(.some 79), .none, (.mov (.t 4))⟩,
  ⟨(.some 80), .none, (.mov (.t 8))⟩,
  ⟨(.some 81), .none, (.elemAddr 1 (.t 79) (.t 80))⟩,
  ⟨(.some 78), .none, (.load .none (.t 77))⟩,
  ⟨(.some 82), .none, (.load .none (.t 81))⟩,
  ⟨(.some 83), .none, (.bin .sub (.t 78) (.t 82))⟩,
  ⟨(.some 84), .none, (.fieldAddr 2 (.t 9))⟩,
  ⟨.none, .none, (.store 1 (.t 84) (.t 83))⟩]
abbrev c_poundageref15_Of_r18 : List AO := [⟨(.some 85), .none, (.mov (.t 0))⟩,
  ⟨(.some 86), .none, (.mov (.t 4))⟩,
  ⟨(.some 87), .none, (.mov (.t 8))⟩,
  ⟨(.some 88), .none, (.bin .add (.t 87) (.c (.d (.int .i64 1))))⟩,
  ⟨(.some 89), .none, (.elemAddr 1 (.t 86) (.t 88))⟩,
  ⟨(.some 93), .none, (.fieldAddr 1 (.t 9))⟩,
  ⟨(.some 90), .none, (.load .none (.t 89))⟩,
  ⟨(.some 91), .none, (.elemAddr 1 (.t 85) (.t 90))⟩,
  ⟨(.some 92), .none, (.load .none (.t 91))⟩,
  ⟨(.some 94), .none, (.load .none (.t 93))⟩,
  ⟨(.some 95), .none, (.bin .sub (.t 92) (.t 94))⟩,
  ⟨(.some 96), .none, (.fieldAddr 3 (.t 9))⟩,
  ⟨.none, .none, (.store 1 (.t 96) (.t 95))⟩]
abbrev c_poundageref15_Of_r19 : List AO := [⟨(.some 97), .none, (.fieldAddr 4 (.t 9))⟩,
  ⟨.none, .none, (.store 1 (.t 97) (.c (.d (.int .i64 2))))⟩]
abbrev c_poundageref15_Of_r20 : List AO := [⟨(.some 98), .none, (.mov (.t 8))⟩,
  ⟨(.some 99), .none, (.fieldAddr 4 (.t 9))⟩,
  ⟨(.some 102), .none, (.mov (.t 4))⟩,
  ⟨(.some 103), .none, (.len (.t 102))⟩,
  ⟨(.some 100), .none, (.load .none (.t 99))⟩,
  ⟨(.some 101), .none, (.bin .add (.t 98) (.t 100))⟩,
  ⟨(.some 104), .none, (.bin .lss (.t 101) (.t 103))⟩,
  ⟨(.some 105), .none, (.mov (.t 104))⟩,
  ⟨(.some 106), (.some ⟨105, .true⟩), (.mov (.t 4))⟩,
  ⟨(.some 107), (.some ⟨105, .true⟩), (.mov (.t 8))⟩,
  ⟨(.some 108), (.some ⟨105, .true⟩), (.fieldAddr 4 (.t 9))⟩,
  ⟨(.some 113), (.some ⟨105, .true⟩), (.fieldAddr 0 (.t 9))⟩,
  ⟨(.some 115), (.some ⟨105, .true⟩), (.fieldAddr 4 (.t 9))⟩,
  ⟨(.some 117), (.some ⟨105, .true⟩), (.fieldAddr 2 (.t 9))⟩,
  ⟨(.some 109), (.some ⟨105, .true⟩), (.load .none (.t 108))⟩,
  ⟨(.some 110), (.some ⟨105, .true⟩), (.bin .add (.t 107) (.t 109))⟩,
  ⟨(.some 111), (.some ⟨105, .true⟩), (.elemAddr 1 (.t 106) (.t 110))⟩,
  ⟨(.some 112), (.some ⟨105, .true⟩), (.load .none (.t 111))⟩,
  ⟨(.some 114), (.some ⟨105, .true⟩), (.load .none (.t 113))⟩,
  ⟨(.some 116), (.some ⟨105, .true⟩), (.load .none (.t 115))⟩,
  ⟨(.some 118), (.some ⟨105, .true⟩), (.load .none (.t 117))⟩,
  ⟨(.some 119), (.some ⟨105, .true⟩), (.bin .mul (.t 116) (.t 118))⟩,
  ⟨(.some 120), (.some ⟨105, .true⟩), (.bin .add (.t 114) (.t 119))⟩,
  ⟨(.some 121), (.some ⟨105, .true⟩), (.bin .eql (.t 112) (.t 120))⟩,
  ⟨(.some 122), .none, (.pick (.t 105) (.t 121) (.c (.d (.bool .false))))⟩,
  ⟨(.some 123), .none, (.mov (.t 122))⟩,
  ⟨(.some 124), (.some ⟨123, .true⟩), (.mov (.t 0))⟩,
  ⟨(.some 125), (.some ⟨123, .true⟩), (.mov (.t 4))⟩,
  ⟨(.some 126), (.some ⟨123, .true⟩), (.mov (.t 8))⟩,
  ⟨(.some 127), (.some ⟨123, .true⟩), (.fieldAddr 4 (.t 9))⟩,
  ⟨(.some 134), (.some ⟨123, .true⟩), (.mov (.t 0))⟩,
  ⟨(.some 135), (.some ⟨123, .true⟩), (.mov (.t 4))⟩,
  ⟨(.some 136), (.some ⟨123, .true⟩), (.mov (.t 8))⟩,
  ⟨(.some 137), (.some ⟨123, .true⟩), (.fieldAddr 4 (.t 9))⟩,
  ⟨(.some 145), (.some ⟨123, .true⟩), (.fieldAddr 3 (.t 9))⟩,
  ⟨(.some 128), (.some ⟨123, .true⟩), (.load .none (.t 127))⟩,
  ⟨(.some 129), (.some ⟨123, .true⟩), (.bin .add (.t 126) (.t 128))⟩,
  ⟨(.some 130), (.some ⟨123, .true⟩), (.elemAddr 1 (.t 125) (.t 129))⟩,
  ⟨(.some 131), (.some ⟨123, .true⟩), (.load .none (.t 130))⟩,
  ⟨(.some 132), (.some ⟨123, .true⟩), (.elemAddr 1 (.t 124) (.t 131))⟩,
  ⟨(.some 133), (.some ⟨123, .true⟩), (.load .none (.t 132))⟩,
  ⟨(.some 138), (.some ⟨123, .true⟩), (.load .none (.t 137))⟩,
  ⟨(.some 139), (.some ⟨123, .true⟩), (.bin .add (.t 136) (.t 138))⟩,
  ⟨(.some 140), (.some ⟨123, .true⟩), (.bin .sub (.t 139) (.c (.d (.int .i64 1))))⟩,
  ⟨(.some 141), (.some ⟨123, .true⟩), (.elemAddr 1 (.t 135) (.t 140))⟩,
  ⟨(.some 142), (.some ⟨123, .true⟩), (.load .none (.t 141))⟩,
  ⟨(.some 143), (.some ⟨123, .true⟩), (.elemAddr 1 (.t 134) (.t 142))⟩,
  ⟨(.some 144), (.some ⟨123, .true⟩), (.load .none (.t 143))⟩,
  ⟨(.some 146), (.some ⟨123, .true⟩), (.load .none (.t 145))⟩,
  ⟨(.some 147), (.some ⟨123, .true⟩), (.bin .add (.t 144) (.t 146))⟩,
  ⟨(.some 148), (.some ⟨123, .true⟩), (.bin .eql (.t 133) (.t 147))⟩,
  ⟨(.some 149), .none, (.pick (.t 123) (.t 148) (.c (.d (.bool .false))))⟩]
abbrev c_poundageref15_Of_r21 : List AO := [⟨(.some 150), .none, (.fieldAddr 4 (.t 9))⟩,
  ⟨(.some 151), .none, (.load .none (.t 150))⟩,
  ⟨(.some 152), .none, (.bin .add (.t 151) (.c (.d (.int .i64 1))))⟩,
  ⟨(.some 153), .none, (.fieldAddr 4 (.t 9))⟩,
  ⟨.none, .none, (.store 1 (.t 153) (.t 152))⟩]
abbrev c_poundageref15_Of_l1 : ACode := (.seq (.seq (.dops c_poundageref15_Of_r20) (.cond (.t 149) .skip (.exit 4))) (.block 5 (.ops c_poundageref15_Of_r21)))
abbrev c_poundageref15_Of_r22 : List AO := [⟨(.some 154), .none, (.fieldAddr 1 (.t 7))⟩,
  ⟨(.some 155), .none, (.load .none (.t 154))⟩,
  ⟨(.some 156), .none, (.load (.some 5) (.t 9))⟩,
  ⟨(.some 157), .none, (.buildSlice 56 5 1 [(.d (.int .i64 0)), (.d (.int .i64 0)), (.d (.int .i64 0)), (.d (.int .i64 0)), (.d (.int .i64 0))] [⟨0, (.t 156)⟩])⟩,
  ⟨(.some 158), .none, (.append 56 5 40 [(.d (.int .i64 0)), (.d (.int .i64 0)), (.d (.int .i64 0)), (.d (.int .i64 0)), (.d (.int .i64 0))] (.t 155) (.t 157))⟩,
  ⟨(.some 159), .none, (.fieldAddr 1 (.t 7))⟩,
  ⟨.none, .none, (.store 1 (.t 159) (.t 158))⟩]
abbrev c_poundageref15_Of_r23 : List AO := [⟨(.some 160), .none, (.mov (.t 8))⟩,
  ⟨(.some 161), .none, (.fieldAddr 4 (.t 9))⟩,
  ⟨(.some 162), .none, (.load .none (.t 161))⟩,
  ⟨(.some 163), .none, (.bin .add (.t 160) (.t 162))⟩,
  ⟨(.some 8), .none, (.mov (.t 163))⟩]
abbrev c_poundageref15_Of_l2 : ACode := (.seq (.seq (.ops c_poundageref15_Of_r14) (.cond (.t 56) .skip (.exit 2))) (.block 3 (.seq (.dops c_poundageref15_Of_r15) (.seq (.seq (.ops c_poundageref15_Of_r16) (.cond (.t 73) (.seq (.dops c_poundageref15_Of_r17) (.seq (.dops c_poundageref15_Of_r18) (.seq (.ops c_poundageref15_Of_r19) (.block 4 (.loop c_poundageref15_Of_l1))))) .skip)) (.seq (.ops c_poundageref15_Of_r22) (.ops c_poundageref15_Of_r23))))))
abbrev c_poundageref15_Of_r24 : List AO := [⟨(.some 164), .none, (.load (.some 2) (.t 7))⟩,
  ⟨.none, .none, (.store 2 (.t 2) (.t 164))⟩,
  ⟨(.some 3), .none, (.mov (.c (.d (.bool .true))))⟩]
abbrev c_poundageref15_Of : AFunc := ⟨165, [(.cell 2 (.some 2)), (.tmp 3)], (.seq (.ops c_poundageref15_Of_r0) (.seq (.seq (.ops c_poundageref15_Of_r1) (.cond (.t 17) (.seq (.ops c_poundageref15_Of_r2) .ret) .skip)) (.seq (.ops c_poundageref15_Of_r3) (.seq (.seq (.ops c_poundageref15_Of_r4) (.block 0 (.loop c_poundageref15_Of_l0))) (.seq (.ops c_poundageref15_Of_r12) (.seq (.seq (.ops c_poundageref15_Of_r13) (.block 2 (.loop c_poundageref15_Of_l2))) (.seq (.ops c_poundageref15_Of_r24) .ret)))))))⟩
theorem comp_poundageref15_Of : funcC Try.prog 31 = some c_poundageref15_Of := by kernel_rfl
abbrev f_cmp_isNaN_int : FuncId := 32
abbrev c_cmp_isNaN_int_r0 : List AO := [⟨(.some 2), .none, (.mov (.c (.d (.bool .false))))⟩]
abbrev c_cmp_isNaN_int_r1 : List AO := [⟨(.some 3), .none, (.mov (.t 0))⟩,
  ⟨(.some 4), .none, (.mov (.t 0))⟩,
  ⟨(.some 5), .none, (.bin .neq (.t 3) (.t 4))⟩,
  ⟨(.some 2), .none, (.mov (.t 5))⟩]
abbrev c_cmp_isNaN_int : AFunc := ⟨6, [(.tmp 2)], (.seq (.ops c_cmp_isNaN_int_r0) (.seq (.ops c_cmp_isNaN_int_r1) .ret))⟩
theorem comp_cmp_isNaN_int : funcC Try.prog 32 = some c_cmp_isNaN_int := by kernel_rfl
abbrev f_poundageref11_Charge : FuncId := 33
abbrev c_poundageref11_Charge_r0 : List AO := [⟨(.some 2), .none, (.box 51 (.t 0))⟩,
  ⟨(.some 4), .none, (.mov (.c (.d (.int .i64 0))))⟩,
  ⟨(.some 5), .none, (.mov (.c (.d (.bool .false))))⟩]
abbrev c_poundageref11_Charge_r1 : List AO := [⟨(.some 9), .none, (.load (.some 9) (.t 2))⟩,
  ⟨(.some 10), .none, (.mov (.t 1))⟩,
  ⟨(.some 11), .none, (.call 35 [(.t 9), (.t 10)])⟩,
  ⟨(.some 8), .none, (.mov (.t 11))⟩,
  ⟨(.some 12), .none, (.extract (.t 8) 0)⟩,
  ⟨(.some 13), .none, (.extract (.t 8) 1)⟩,
  ⟨(.some 6), .none, (.mov (.t 12))⟩,
  ⟨(.some 7), .none, (.mov (.t 13))⟩]
abbrev c_poundageref11_Charge_r2 : List AO := [⟨(.some 14), .none, (.mov (.t 7))⟩,
  ⟨(.some 15), .none, (.un .not (.t 14))⟩]
abbrev c_poundageref11_Charge_r3 : List AO := [⟨(.some 4), .none, (.mov (.c (.d (.int .i64 0))))⟩,
  ⟨(.some 5), .none, (.mov (.c (.d (.bool .false))))⟩]
abbrev c_poundageref11_Charge_r4 : List AO := [⟨(.some 16), .none, (.mov (.t 6))⟩,
  ⟨(.some 17), .none, (.fieldAddr 7 (.t 2))⟩,
  ⟨(.some 18), .none, (.load .none (.t 17))⟩,
  ⟨(.some 19), .none, (.call 36 [(.t 16), (.c (.d (.int .i64 1))), (.c (.d (.int .i64 1000000))), (.t 18)])⟩,
  ⟨(.some 20), .none, (.extract (.t 19) 0)⟩,
  ⟨(.some 21), .none, (.extract (.t 19) 1)⟩,
  ⟨(.some 4), .none, (.mov (.t 20))⟩,
  ⟨(.some 5), .none, (.mov (.t 21))⟩]
abbrev c_poundageref11_Charge : AFunc := ⟨22, [(.tmp 4), (.tmp 5)], (.seq (.ops c_poundageref11_Charge_r0) (.seq (.ops c_poundageref11_Charge_r1) (.seq (.seq (.ops c_poundageref11_Charge_r2) (.cond (.t 15) (.seq (.ops c_poundageref11_Charge_r3) .ret) .skip)) (.seq (.ops c_poundageref11_Charge_r4) .ret))))⟩
theorem comp_poundageref11_Charge : funcC Try.prog 33 = some c_poundageref11_Charge := by kernel_rfl
abbrev f_poundageref12_All : FuncId := 34
abbrev c_poundageref12_All_r0 : List AO := [⟨(.some 4), .none, (.mov (.c (.d (.int .i64 0))))⟩,
  ⟨(.some 5), .none, (.mov (.c (.d (.bool .false))))⟩]
abbrev c_poundageref12_All_r1 : List AO := [⟨(.some 10), .none, (.mov (.t 1))⟩,
  ⟨(.some 11), .none, (.len (.t 10))⟩,
  ⟨(.some 12), .none, (.mov (.c (.d (.int .i64 0))))⟩]
abbrev c_poundageref12_All_r2 : List AO := [⟨(.some 13), .none, (.bin .lss (.t 12) (.t 11))⟩]
abbrev c_poundageref12_All_r3 : List AO := [⟨(.some 14), .none, (.elemAddr 3 (.t 10) (.t 12))⟩,
  ⟨(.some 15), .none, (.load (.some 3) (.t 14))⟩,
  ⟨(.some 7), .none, (.alloc 84 [(.d (.int .i64 0)), (.d (.int .i64 0)), (.d (.int .i64 0))])⟩,
  ⟨.none, .none, (.store 3 (.t 7) (.t 15))⟩]
abbrev c_poundageref12_All_r4 : List AO := [⟨(.some 17), .none, (.load (.some 3) (.t 7))⟩,
  ⟨(.some 18), .none, (.mov (.t 0))⟩,
  ⟨(.some 19), .none, (.call 37 [(.t 17), (.t 18)])⟩,
  ⟨(.some 16), .none, (.mov (.t 19))⟩,
  ⟨(.some 20), .none, (.extract (.t 16) 0)⟩,
  ⟨(.some 21), .none, (.extract (.t 16) 1)⟩,
  ⟨(.some 8), .none, (.mov (.t 20))⟩,
  ⟨(.some 9), .none, (.mov (.t 21))⟩]
abbrev c_poundageref12_All_r5 : List AO := [⟨(.some 22), .none, (.mov (.t 9))⟩,
  ⟨(.some 23), .none, (.un .not (.t 22))⟩]
abbrev c_poundageref12_All_r6 : List AO := [⟨(.some 4), .none, (.mov (.c (.d (.int .i64 0))))⟩,
  ⟨(.some 5), .none, (.mov (.c (.d (.bool .false))))⟩]
abbrev c_poundageref12_All_r7 : List AO := [⟨(.some 24), .none, (.mov (.t 8))⟩,
  ⟨(.some 0), .none, (.mov (.t 24))⟩]
abbrev c_poundageref12_All_r8 : List AO := [⟨(.some 25), .none, (.bin .add (.t 12) (.c (.d (.int .i64 1))))⟩,
  ⟨(.some 12), .none, (.mov (.t 25))⟩]
abbrev c_poundageref12_All_l0 : ACode := (.seq (.ops c_poundageref12_All_r2) (.seq (.cond (.t 13) .skip (.exit 0)) (.seq (.block 1 (.seq (.ops c_poundageref12_All_r3) (.seq (.ops c_poundageref12_All_r4) (.seq (.seq (.ops c_poundageref12_All_r5) (.cond (.t 23) (.seq (.ops c_poundageref12_All_r6) .ret) .skip)) (.ops c_poundageref12_All_r7))))) (.ops c_poundageref12_All_r8))))
abbrev c_poundageref12_All_r9 : List AO := [⟨(.some 26), .none, (.mov (.t 0))⟩,
  ⟨(.some 4), .none, (.mov (.t 26))⟩,
  ⟨(.some 5), .none, (.mov (.c (.d (.bool .true))))⟩]
abbrev c_poundageref12_All : AFunc := ⟨27, [(.tmp 4), (.tmp 5)], (.seq (.ops c_poundageref12_All_r0) (.seq (.seq (.ops c_poundageref12_All_r1) (.block 0 (.loop c_poundageref12_All_l0))) (.seq (.ops c_poundageref12_All_r9) .ret)))⟩
theorem comp_poundageref12_All : funcC Try.prog 34 = some c_poundageref12_All := by kernel_rfl
abbrev f_poundageref11_Micro : FuncId := 35
abbrev c_poundageref11_Micro_r0 : List AO := [⟨(.some 2), .none, (.box 51 (.t 0))⟩,
  ⟨(.some 4), .none, (.mov (.c (.d (.int .i64 0))))⟩,
  ⟨(.some 5), .none, (.mov (.c (.d (.bool .false))))⟩]
abbrev c_poundageref11_Micro_r1 : List AO := [⟨(.some 16), .none, (.load (.some 9) (.t 2))⟩,
  ⟨(.some 17), .none, (.mov (.t 1))⟩,
  ⟨(.some 18), .none, (.call 38 [(.t 16), (.t 17)])⟩,
  ⟨(.some 15), .none, (.mov (.t 18))⟩,
  ⟨(.some 19), .none, (.extract (.t 15) 0)⟩,
  ⟨(.some 20), .none, (.extract (.t 15) 1)⟩,
  ⟨(.some 6), .none, (.mov (.t 19))⟩,
  ⟨(.some 7), .none, (.mov (.t 20))⟩]
abbrev c_poundageref11_Micro_r2 : List AO := [⟨(.some 21), .none, (.mov (.t 7))⟩,
  ⟨(.some 22), .none, (.un .not (.t 21))⟩]
abbrev c_poundageref11_Micro_r3 : List AO := [⟨(.some 4), .none, (.mov (.c (.d (.int .i64 0))))⟩,
  ⟨(.some 5), .none, (.mov (.c (.d (.bool .false))))⟩]
abbrev c_poundageref11_Micro_r4 : List AO := [⟨(.some 8), .none, (.mov (.c (.d (.int .i64 0))))⟩]
abbrev c_poundageref11_Micro_r5 : List AO := [⟨(.some 23), .none, (.load (.some 9) (.t 2))⟩,
  ⟨(.some 24), .none, (.mov (.t 6))⟩,
  ⟨(.some 25), .none, (.call 39 [(.t 23), (.t 24)])⟩,
  ⟨(.some 26), .none, (.len (.t 25))⟩,
  ⟨(.some 27), .none, (.mov (.c (.d (.int .i64 0))))⟩]
abbrev c_poundageref11_Micro_r6 : List AO := [⟨(.some 28), .none, (.bin .lss (.t 27) (.t 26))⟩]
abbrev c_poundageref11_Micro_r7 : List AO := [⟨(.some 29), .none, (.elemAddr 3 (.t 25) (.t 27))⟩,
  ⟨(.some 30), .none, (.load (.some 3) (.t 29))⟩,
  ⟨(.some 10), .none, (.alloc 91 [(.d (.int .i64 0)), (.d (.int .i64 0)), (.d (.int .i64 0))])⟩,
  ⟨.none, .none, (.store 3 (.t 10) (.t 30))⟩]
abbrev c_poundageref11_Micro_r8 : List AO := [⟨(.some 32), .none, (.fieldAddr 2 (.t 10))⟩,
  ⟨(.some 33), .none, (.load .none (.t 32))⟩,
  ⟨(.some 34), .none, (.fieldAddr 1 (.t 10))⟩,
  ⟨(.some 35), .none, (.load .none (.t 34))⟩,
  ⟨(.some 36), .none, (.fieldAddr 0 (.t 10))⟩,
  ⟨(.some 37), .none, (.load .none (.t 36))⟩,
  ⟨(.some 38), .none, (.bin .sub (.t 35) (.t 37))⟩,
  ⟨(.some 39), .none, (.call 41 [(.t 33), (.t 38)])⟩,
  ⟨(.some 40), .none, (.call 40 [(.t 39)])⟩,
  ⟨(.some 31), .none, (.mov (.t 40))⟩,
  ⟨(.some 41), .none, (.extract (.t 31) 0)⟩,
  ⟨(.some 42), .none, (.extract (.t 31) 1)⟩,
  ⟨(.some 11), .none, (.mov (.t 41))⟩,
  ⟨(.some 12), .none, (.mov (.t 42))⟩]
abbrev c_poundageref11_Micro_r9 : List AO := [⟨(.some 44), .none, (.mov (.t 8))⟩,
  ⟨(.some 45), .none, (.call 43 [(.t 44)])⟩,
  ⟨(.some 46), .none, (.mov (.t 11))⟩,
  ⟨(.some 47), .none, (.call 43 [(.t 46)])⟩,
  ⟨(.some 48), .none, (.call 42 [(.t 45), (.t 47)])⟩,
  ⟨(.some 49), .none, (.call 40 [(.t 48)])⟩,
  ⟨(.some 43), .none, (.mov (.t 49))⟩,
  ⟨(.some 50), .none, (.extract (.t 43) 0)⟩,
  ⟨(.some 51), .none, (.extract (.t 43) 1)⟩,
  ⟨(.some 13), .none, (.mov (.t 50))⟩,
  ⟨(.some 14), .none, (.mov (.t 51))⟩]
abbrev c_poundageref11_Micro_r10 : List AO := [⟨(.some 52), .none, (.mov (.t 12))⟩,
  ⟨(.some 53), .none, (.un .not (.t 52))⟩,
  ⟨(.some 54), .none, (.mov (.t 53))⟩,
  ⟨(.some 55), (.some ⟨54, .false⟩), (.mov (.t 14))⟩,
  ⟨(.some 56), (.some ⟨54, .false⟩), (.un .not (.t 55))⟩,
  ⟨(.some 57), .none, (.pick (.t 54) (.c (.d (.bool .true))) (.t 56))⟩]
abbrev c_poundageref11_Micro_r11 : List AO := [⟨(.some 4), .none, (.mov (.c (.d (.int .i64 0))))⟩,
  ⟨(.some 5), .none, (.mov (.c (.d (.bool .false))))⟩]
abbrev c_poundageref11_Micro_r12 : List AO := [⟨(.some 58), .none, (.mov (.t 13))⟩,
  ⟨(.some 8), .none, (.mov (.t 58))⟩]
abbrev c_poundageref11_Micro_r13 : List AO := [⟨(.some 59), .none, (.bin .add (.t 27) (.c (.d (.int .i64 1))))⟩,
  ⟨(.some 27), .none, (.mov (.t 59))⟩]
abbrev c_poundageref11_Micro_l0 : ACode := (.seq (.ops c_poundageref11_Micro_r6) (.seq (.cond (.t 28) .skip (.exit 0)) (.seq (.block 1 (.seq (.ops c_poundageref11_Micro_r7) (.seq (.ops c_poundageref11_Micro_r8) (.seq (.ops c_poundageref11_Micro_r9) (.seq (.seq (.ops c_poundageref11_Micro_r10) (.cond (.t 57) (.seq (.ops c_poundageref11_Micro_r11) .ret) .skip)) (.ops c_poundageref11_Micro_r12)))))) (.ops c_poundageref11_Micro_r13))))
abbrev c_poundageref11_Micro_r14 : List AO := [⟨(.some 60), .none, (.mov (.t 8))⟩,
  ⟨(.some 4), .none, (.mov (.t 60))⟩,
  ⟨(.some 5), .none, (.mov (.c (.d (.bool .true))))⟩]
abbrev c_poundageref11_Micro : AFunc := ⟨61, [(.tmp 4), (.tmp 5)], (.seq (.ops c_poundageref11_Micro_r0) (.seq (.ops c_poundageref11_Micro_r1) (.seq (.seq (.ops c_poundageref11_Micro_r2) (.cond (.t 22) (.seq (.ops c_poundageref11_Micro_r3) .ret) .skip)) (.seq (.ops c_poundageref11_Micro_r4) (.seq (.seq (.ops c_poundageref11_Micro_r5) (.block 0 (.loop c_poundageref11_Micro_l0))) (.seq (.ops c_poundageref11_Micro_r14) .ret))))))⟩
theorem comp_poundageref11_Micro : funcC Try.prog 35 = some c_poundageref11_Micro := by kernel_rfl
abbrev f_poundageref02_MulDiv : FuncId := 36
abbrev c_poundageref02_MulDiv_r0 : List AO := [⟨(.some 8), .none, (.mov (.c (.d (.int .i64 0))))⟩,
  ⟨(.some 9), .none, (.mov (.c (.d (.bool .false))))⟩]
abbrev c_poundageref02_MulDiv_r1 : List AO := [⟨(.some 18), .none, (.mov (.t 2))⟩,
  ⟨(.some 19), .none, (.bin .leq (.t 18) (.c (.d (.int .i64 0))))⟩,
  ⟨(.some 20), .none, (.mov (.t 19))⟩,
  ⟨(.some 21), (.some ⟨20, .false⟩), (.mov (.t 3))⟩,
  ⟨(.some 22), (.some ⟨20, .false⟩), (.bin .lss (.t 21) (.c (.d (.int .i64 0))))⟩,
  ⟨(.some 23), .none, (.pick (.t 20) (.c (.d (.bool .true))) (.t 22))⟩,
  ⟨(.some 24), .none, (.mov (.t 23))⟩,
  ⟨(.some 25), (.some ⟨24, .false⟩), (.mov (.t 3))⟩,
  ⟨(.some 26), (.some ⟨24, .false⟩), (.bin .gtr (.t 25) (.c (.d (.int .i64 3))))⟩,
  ⟨(.some 27), .none, (.pick (.t 24) (.c (.d (.bool .true))) (.t 26))⟩]
abbrev c_poundageref02_MulDiv_r2 : List AO := [⟨(.some 8), .none, (.mov (.c (.d (.int .i64 0))))⟩,
  ⟨(.some 9), .none, (.mov (.c (.d (.bool .false))))⟩]
abbrev c_poundageref02_MulDiv_r3 : List AO := [⟨(.some 28), .none, (.mov (.t 0))⟩,
  ⟨(.some 29), .none, (.mov (.t 1))⟩,
  ⟨(.some 30), .none, (.call 41 [(.t 28), (.t 29)])⟩,
  ⟨(.some 10), .none, (.alloc 94 [(.d (.bool .false)), (.d (.int .u64 0)), (.d (.int .u64 0))])⟩,
  ⟨.none, .none, (.store 3 (.t 10) (.t 30))⟩]
abbrev c_poundageref02_MulDiv_r4 : List AO := [⟨(.some 32), .none, (.load (.some 3) (.t 10))⟩,
  ⟨(.some 33), .none, (.mov (.t 2))⟩,
  ⟨(.some 34), .none, (.call 44 [(.t 32), (.t 33)])⟩,
  ⟨(.some 31), .none, (.mov (.t 34))⟩,
  ⟨(.some 35), .none, (.extract (.t 31) 0)⟩,
  ⟨(.some 36), .none, (.extract (.t 31) 1)⟩,
  ⟨(.some 11), .none, (.mov (.t 35))⟩,
  ⟨(.some 12), .none, (.mov (.t 36))⟩]
abbrev c_poundageref02_MulDiv_r5 : List AO := [⟨(.some 38), .none, (.mov (.t 11))⟩,
  ⟨(.some 39), .none, (.mov (.t 2))⟩,
  ⟨(.some 37), .none, (.loadS (.some 3) (.t 10) [13])⟩,
  ⟨(.some 40), .none, (.pcall 41 [(.t 38), (.t 39)])⟩,
  ⟨(.some 41), .none, (.pcall 45 [(.t 40)])⟩,
  ⟨(.some 42), .none, (.pcall 42 [(.t 37), (.t 41)])⟩,
  ⟨(.some 13), .none, (.alloc 94 [(.d (.bool .false)), (.d (.int .u64 0)), (.d (.int .u64 0))])⟩,
  ⟨.none, .none, (.storeS 3 13 (.t 42))⟩]
abbrev c_poundageref02_MulDiv_r6 : List AO := [⟨(.some 43), .none, (.mov (.t 12))⟩,
  ⟨(.some 44), .none, (.mov (.t 43))⟩,
  ⟨(.some 45), (.some ⟨44, .true⟩), (.fieldAddr 1 (.t 13))⟩,
  ⟨(.some 46), (.some ⟨44, .true⟩), (.load .none (.t 45))⟩,
  ⟨(.some 47), (.some ⟨44, .true⟩), (.bin .gtr (.t 46) (.c (.d (.int .u64 0))))⟩,
  ⟨(.some 48), .none, (.pick (.t 44) (.t 47) (.c (.d (.bool .false))))⟩,
  ⟨(.some 49), .none, (.mov (.t 48))⟩,
  ⟨(.some 50), (.some ⟨49, .false⟩), (.mov (.t 12))⟩,
  ⟨(.some 51), (.some ⟨49, .false⟩), (.mov (.t 50))⟩,
  ⟨(.some 52), (.some ⟨51, .true⟩), (.fieldAddr 2 (.t 13))⟩,
  ⟨(.some 53), (.some ⟨51, .true⟩), (.load .none (.t 52))⟩,
  ⟨(.some 54), (.some ⟨51, .true⟩), (.mov (.t 2))⟩,
  ⟨(.some 55), (.some ⟨51, .true⟩), (.conv .u64 (.t 54))⟩,
  ⟨(.some 56), (.some ⟨51, .true⟩), (.bin .geq (.t 53) (.t 55))⟩,
  ⟨(.some 57), (.some ⟨49, .false⟩), (.pick (.t 51) (.t 56) (.c (.d (.bool .false))))⟩,
  ⟨(.some 58), .none, (.pick (.t 49) (.c (.d (.bool .true))) (.t 57))⟩]
abbrev c_poundageref02_MulDiv_r7 : List AO := [⟨(.some 8), .none, (.mov (.c (.d (.int .i64 0))))⟩,
  ⟨(.some 9), .none, (.mov (.c (.d (.bool .false))))⟩]
abbrev c_poundageref02_MulDiv_r8 : List AO := [⟨(.some 59), .none, (.mov (.t 12))⟩,
  ⟨(.some 60), .none, (.un .not (.t 59))⟩]
abbrev c_poundageref02_MulDiv_r9 : List AO := [⟨(.some 62), .none, (.load (.some 3) (.t 10))⟩,
  ⟨(.some 63), .none, (.mov (.t 2))⟩,
  ⟨(.some 64), .none, (.mov (.t 3))⟩,
  ⟨(.some 65), .none, (.call 46 [(.t 62), (.t 63), (.t 64)])⟩,
  ⟨(.some 61), .none, (.mov (.t 65))⟩,
  ⟨(.some 66), .none, (.extract (.t 61) 0)⟩,
  ⟨(.some 67), .none, (.extract (.t 61) 1)⟩,
  ⟨(.some 14), .none, (.mov (.t 66))⟩,
  ⟨(.some 15), .none, (.mov (.t 67))⟩]
abbrev c_poundageref02_MulDiv_r10 : List AO := [⟨(.some 68), .none, (.mov (.t 15))⟩]
abbrev c_poundageref02_MulDiv_r11 : List AO := [⟨(.some 69), .none, (.mov (.t 14))⟩,
  ⟨(.some 8), .none, (.mov (.t 69))⟩,
  ⟨(.some 9), .none, (.mov (.c (.d (.bool .true))))⟩]
abbrev c_poundageref02_MulDiv_r12 : List AO := [⟨(.some 8), .none, (.mov (.c (.d (.int .i64 0))))⟩,
  ⟨(.some 9), .none, (.mov (.c (.d (.bool .false))))⟩]
abbrev c_poundageref02_MulDiv_r13 : List AO := [⟨(.some 16), .none, (.mov (.c (.d (.bool .false))))⟩]
abbrev c_poundageref02_MulDiv_r14 : List AO := [⟨(.some 70), .none, (.mov (.t 2))⟩,
  ⟨(.some 71), .none, (.conv .u64 (.t 70))⟩,
  ⟨(.some 72), .none, (.fieldAddr 2 (.t 13))⟩,
  ⟨(.some 73), .none, (.load .none (.t 72))⟩,
  ⟨(.some 74), .none, (.bin .sub (.t 71) (.t 73))⟩,
  ⟨(.some 17), .none, (.mov (.t 74))⟩]
abbrev c_poundageref02_MulDiv_r15 : List AO := [⟨(.some 75), .none, (.mov (.t 3))⟩]
abbrev c_poundageref02_MulDiv_r16 : List AO := [⟨(.some 77), .none, (.bin .eql (.t 75) (.c (.d (.int .i64 1))))⟩,
  ⟨(.some 76), .none, (.mov (.t 77))⟩]
abbrev c_poundageref02_MulDiv_r17 : List AO := [⟨(.some 78), .none, (.fieldAddr 2 (.t 13))⟩,
  ⟨(.some 79), .none, (.load .none (.t 78))⟩,
  ⟨(.some 80), .none, (.bin .gtr (.t 79) (.c (.d (.int .u64 0))))⟩,
  ⟨(.some 16), .none, (.mov (.t 80))⟩]
abbrev c_poundageref02_MulDiv_r18 : List AO := [⟨(.some 82), .none, (.bin .eql (.t 75) (.c (.d (.int .i64 2))))⟩,
  ⟨(.some 81), .none, (.mov (.t 82))⟩]
abbrev c_poundageref02_MulDiv_r19 : List AO := [⟨(.some 83), .none, (.fieldAddr 2 (.t 13))⟩,
  ⟨(.some 84), .none, (.load .none (.t 83))⟩,
  ⟨(.some 85), .none, (.mov (.t 17))⟩,
  ⟨(.some 86), .none, (.bin .geq (.t 84) (.t 85))⟩,
  ⟨(.some 16), .none, (.mov (.t 86))⟩]
abbrev c_poundageref02_MulDiv_r20 : List AO := [⟨(.some 88), .none, (.bin .eql (.t 75) (.c (.d (.int .i64 3))))⟩,
  ⟨(.some 87), .none, (.mov (.t 88))⟩]
abbrev c_poundageref02_MulDiv_r21 : List AO := [⟨(.some 89), .none, (.fieldAddr 2 (.t 13))⟩,
  ⟨(.some 90), .none, (.load .none (.t 89))⟩,
  ⟨(.some 91), .none, (.mov (.t 17))⟩,
  ⟨(.some 92), .none, (.bin .gtr (.t 90) (.t 91))⟩,
  ⟨(.some 93), .none, (.mov (.t 92))⟩,
  ⟨(.some 94), (.some ⟨93, .false⟩), (.fieldAddr 2 (.t 13))⟩,
  ⟨(.some 95), (.some ⟨93, .false⟩), (.load .none (.t 94))⟩,
  ⟨(.some 96), (.some ⟨93, .false⟩), (.mov (.t 17))⟩,
  ⟨(.some 97), (.some ⟨93, .false⟩), (.bin .eql (.t 95) (.t 96))⟩,
  ⟨(.some 98), (.some ⟨93, .false⟩), (.mov (.t 97))⟩,
  ⟨(.some 99), (.some ⟨98, .true⟩), (.mov (.t 11))⟩,
  ⟨(.some 100), (.some ⟨98, .true⟩), (.bin .rem (.t 99) (.c (.d (.int .i64 2))))⟩,
  ⟨(.some 101), (.some ⟨98, .true⟩), (.bin .neq (.t 100) (.c (.d (.int .i64 0))))⟩,
  ⟨(.some 102), (.some ⟨93, .false⟩), (.pick (.t 98) (.t 101) (.c (.d (.bool .false))))⟩,
  ⟨(.some 103), .none, (.pick (.t 93) (.c (.d (.bool .true))) (.t 102))⟩,
  ⟨(.some 16), .none, (.mov (.t 103))⟩]
abbrev c_poundageref02_MulDiv_r22 : List AO := [⟨(.some 104), .none, (.mov (.t 16))⟩,
  ⟨(.some 105), .none, (.un .not (.t 104))⟩]
abbrev c_poundageref02_MulDiv_r23 : List AO := [⟨(.some 106), .none, (.mov (.t 11))⟩,
  ⟨(.some 8), .none, (.mov (.t 106))⟩,
  ⟨(.some 9), .none, (.mov (.c (.d (.bool .true))))⟩]
abbrev c_poundageref02_MulDiv_r24 : List AO := [⟨(.some 107), .none, (.mov (.t 11))⟩,
  ⟨(.some 108), .none, (.bin .eql (.t 107) (.c (.d (.int .i64 9223372036854775807))))⟩]
abbrev c_poundageref02_MulDiv_r25 : List AO := [⟨(.some 8), .none, (.mov (.c (.d (.int .i64 0))))⟩,
  ⟨(.some 9), .none, (.mov (.c (.d (.bool .false))))⟩]
abbrev c_poundageref02_MulDiv_r26 : List AO := [⟨(.some 109), .none, (.mov (.t 11))⟩,
  ⟨(.some 110), .none, (.bin .add (.t 109) (.c (.d (.int .i64 1))))⟩,
  ⟨(.some 8), .none, (.mov (.t 110))⟩,
  ⟨(.some 9), .none, (.mov (.c (.d (.bool .true))))⟩]
abbrev c_poundageref02_MulDiv : AFunc := ⟨111, [(.tmp 8), (.tmp 9)], (.seq (.ops c_poundageref02_MulDiv_r0) (.seq (.seq (.ops c_poundageref02_MulDiv_r1) (.cond (.t 27) (.seq (.ops c_poundageref02_MulDiv_r2) .ret) .skip)) (.seq (.ops c_poundageref02_MulDiv_r3) (.seq (.ops c_poundageref02_MulDiv_r4) (.seq (.dops c_poundageref02_MulDiv_r5) (.seq (.seq (.ops c_poundageref02_MulDiv_r6) (.cond (.t 58) (.seq (.ops c_poundageref02_MulDiv_r7) .ret) .skip)) (.seq (.seq (.ops c_poundageref02_MulDiv_r8) (.cond (.t 60) (.seq (.seq (.ops c_poundageref02_MulDiv_r9) (.seq (.ops c_poundageref02_MulDiv_r10) (.cond (.t 68) (.seq (.ops c_poundageref02_MulDiv_r11) .ret) .skip))) (.seq (.ops c_poundageref02_MulDiv_r12) .ret)) .skip)) (.seq (.ops c_poundageref02_MulDiv_r13) (.seq (.ops c_poundageref02_MulDiv_r14) (.seq (.seq (.ops c_poundageref02_MulDiv_r15) (.block 0 (.seq (.ops c_poundageref02_MulDiv_r16) (.cond (.t 76) (.ops c_poundageref02_MulDiv_r17) (.seq (.ops c_poundageref02_MulDiv_r18) (.cond (.t 81) (.ops c_poundageref02_MulDiv_r19) (.seq (.ops c_poundageref02_MulDiv_r20) (.cond (.t 87) (.ops c_poundageref02_MulDiv_r21) .skip)))))))) (.seq (.seq (.ops c_poundageref02_MulDiv_r22) (.cond (.t 105) (.seq (.ops c_poundageref02_MulDiv_r23) .ret) .skip)) (.seq (.seq (.ops c_poundageref02_MulDiv_r24) (.cond (.t 108) (.seq (.ops c_poundageref02_MulDiv_r25) .ret) .skip)) (.seq (.ops c_poundageref02_MulDiv_r26) .ret)))))))))))))⟩
theorem comp_poundageref02_MulDiv : funcC Try.prog 36 = some c_poundageref02_MulDiv := by kernel_rfl
abbrev f_poundageref12_One : FuncId := 37
abbrev c_poundageref12_One_r0 : List AO := [⟨(.some 2), .none, (.box 84 (.t 0))⟩,
  ⟨(.some 4), .none, (.mov (.c (.d (.int .i64 0))))⟩,
  ⟨(.some 5), .none, (.mov (.c (.d (.bool .false))))⟩]
abbrev c_poundageref12_One_r1 : List AO := [⟨(.some 6), .none, (.fieldAddr 0 (.t 2))⟩,
  ⟨(.some 7), .none, (.load .none (.t 6))⟩,
  ⟨(.some 8), .none, (.bin .eql (.t 7) (.c (.d (.int .i64 1))))⟩]
abbrev c_poundageref12_One_r2 : List AO := [⟨(.some 9), .none, (.mov (.t 1))⟩,
  ⟨(.some 10), .none, (.fieldAddr 1 (.t 2))⟩,
  ⟨(.some 11), .none, (.load .none (.t 10))⟩,
  ⟨(.some 12), .none, (.fieldAddr 2 (.t 2))⟩,
  ⟨(.some 13), .none, (.load .none (.t 12))⟩,
  ⟨(.some 14), .none, (.call 36 [(.t 9), (.t 11), (.c (.d (.int .i64 100000))), (.t 13)])⟩,
  ⟨(.some 15), .none, (.extract (.t 14) 0)⟩,
  ⟨(.some 16), .none, (.extract (.t 14) 1)⟩,
  ⟨(.some 4), .none, (.mov (.t 15))⟩,
  ⟨(.some 5), .none, (.mov (.t 16))⟩]
abbrev c_poundageref12_One_r3 : List AO := [⟨(.some 17), .none, (.fieldAddr 0 (.t 2))⟩,
  ⟨(.some 18), .none, (.load .none (.t 17))⟩,
  ⟨(.some 19), .none, (.bin .eql (.t 18) (.c (.d (.int .i64 2))))⟩,
  ⟨(.some 20), .none, (.mov (.t 19))⟩,
  ⟨(.some 21), (.some ⟨20, .false⟩), (.fieldAddr 0 (.t 2))⟩,
  ⟨(.some 22), (.some ⟨20, .false⟩), (.load .none (.t 21))⟩,
  ⟨(.some 23), (.some ⟨20, .false⟩), (.bin .eql (.t 22) (.c (.d (.int .i64 3))))⟩,
  ⟨(.some 24), .none, (.pick (.t 20) (.c (.d (.bool .true))) (.t 23))⟩]
abbrev c_poundageref12_One_r4 : List AO := [⟨(.some 25), .none, (.mov (.t 1))⟩,
  ⟨(.some 26), .none, (.fieldAddr 1 (.t 2))⟩,
  ⟨(.some 27), .none, (.load .none (.t 26))⟩,
  ⟨(.some 28), .none, (.bin .gtr (.t 25) (.t 27))⟩,
  ⟨(.some 29), .none, (.fieldAddr 0 (.t 2))⟩,
  ⟨(.some 30), .none, (.load .none (.t 29))⟩,
  ⟨(.some 31), .none, (.bin .eql (.t 30) (.c (.d (.int .i64 2))))⟩,
  ⟨(.some 32), .none, (.binb .false (.t 28) (.t 31))⟩]
abbrev c_poundageref12_One_r5 : List AO := [⟨(.some 33), .none, (.fieldAddr 1 (.t 2))⟩,
  ⟨(.some 34), .none, (.load .none (.t 33))⟩,
  ⟨(.some 4), .none, (.mov (.t 34))⟩,
  ⟨(.some 5), .none, (.mov (.c (.d (.bool .true))))⟩]
abbrev c_poundageref12_One_r6 : List AO := [⟨(.some 35), .none, (.mov (.t 1))⟩,
  ⟨(.some 4), .none, (.mov (.t 35))⟩,
  ⟨(.some 5), .none, (.mov (.c (.d (.bool .true))))⟩]
abbrev c_poundageref12_One_r7 : List AO := [⟨(.some 36), .none, (.fieldAddr 0 (.t 2))⟩,
  ⟨(.some 37), .none, (.load .none (.t 36))⟩,
  ⟨(.some 38), .none, (.bin .eql (.t 37) (.c (.d (.int .i64 4))))⟩]
abbrev c_poundageref12_One_r8 : List AO := [⟨(.some 39), .none, (.mov (.t 1))⟩,
  ⟨(.some 41), .none, (.fieldAddr 1 (.t 2))⟩,
  ⟨(.some 40), .none, (.pcall 43 [(.t 39)])⟩,
  ⟨(.some 42), .none, (.load .none (.t 41))⟩,
  ⟨(.some 43), .none, (.call 43 [(.t 42)])⟩,
  ⟨(.some 44), .none, (.call 42 [(.t 40), (.t 43)])⟩,
  ⟨(.some 45), .none, (.call 40 [(.t 44)])⟩,
  ⟨(.some 46), .none, (.extract (.t 45) 0)⟩,
  ⟨(.some 47), .none, (.extract (.t 45) 1)⟩,
  ⟨(.some 4), .none, (.mov (.t 46))⟩,
  ⟨(.some 5), .none, (.mov (.t 47))⟩]
abbrev c_poundageref12_One_r9 : List AO := [⟨(.some 4), .none, (.mov (.c (.d (.int .i64 0))))⟩,
  ⟨(.some 5), .none, (.mov (.c (.d (.bool .false))))⟩]
abbrev c_poundageref12_One : AFunc := ⟨48, [(.tmp 4), (.tmp 5)], (.seq (.ops c_poundageref12_One_r0) (.seq (.seq (.ops c_poundageref12_One_r1) (.cond (.t 8) (.seq (.ops c_poundageref12_One_r2) .ret) .skip)) (.seq (.seq (.ops c_poundageref12_One_r3) (.cond (.t 24) (.seq (.seq (.ops c_poundageref12_One_r4) (.cond (.t 32) (.seq (.ops c_poundageref12_One_r5) .ret) .skip)) (.seq (.ops c_poundageref12_One_r6) .ret)) .skip)) (.seq (.seq (.ops c_poundageref12_One_r7) (.cond (.t 38) (.seq (.dops c_poundageref12_One_r8) .ret) .skip)) (.seq (.ops c_poundageref12_One_r9) .ret)))))⟩
theorem comp_poundageref12_One : funcC Try.prog 37 = some c_poundageref12_One := by kernel_rfl
abbrev f_poundageref11_Left : FuncId := 38
abbrev c_poundageref11_Left_r0 : List AO := [⟨(.some 2), .none, (.box 51 (.t 0))⟩,
  ⟨(.some 4), .none, (.mov (.c (.d (.int .i64 0))))⟩,
  ⟨(.some 5), .none, (.mov (.c (.d (.bool .false))))⟩]
abbrev c_poundageref11_Left_r1 : List AO := [⟨(.some 9), .none, (.mov (.t 1))⟩,
  ⟨(.some 10), .none, (.bin .lss (.t 9) (.c (.d (.int .i64 0))))⟩]
abbrev c_poundageref11_Left_r2 : List AO := [⟨(.some 4), .none, (.mov (.c (.d (.int .i64 0))))⟩,
  ⟨(.some 5), .none, (.mov (.c (.d (.bool .false))))⟩]
abbrev c_poundageref11_Left_r3 : List AO := [⟨(.some 11), .none, (.mov (.t 1))⟩,
  ⟨(.some 12), .none, (.fieldAddr 3 (.t 2))⟩,
  ⟨(.some 13), .none, (.load .none (.t 12))⟩,
  ⟨(.some 14), .none, (.bin .sub (.t 11) (.t 13))⟩,
  ⟨(.some 15), .none, (.minmax .true (.t 14) [(.c (.d (.int .i64 0)))])⟩,
  ⟨(.some 6), .none, (.mov (.t 15))⟩]
abbrev c_poundageref11_Left_r4 : List AO := [⟨(.some 17), .none, (.mov (.t 6))⟩,
  ⟨(.some 18), .none, (.fieldAddr 4 (.t 2))⟩,
  ⟨(.some 19), .none, (.load .none (.t 18))⟩,
  ⟨(.some 20), .none, (.call 36 [(.t 17), (.c (.d (.int .i64 1))), (.t 19), (.c (.d (.int .i64 1)))])⟩,
  ⟨(.some 16), .none, (.mov (.t 20))⟩,
  ⟨(.some 21), .none, (.extract (.t 16) 0)⟩,
  ⟨(.some 22), .none, (.extract (.t 16) 1)⟩,
  ⟨(.some 7), .none, (.mov (.t 21))⟩,
  ⟨(.some 8), .none, (.mov (.t 22))⟩]
abbrev c_poundageref11_Left_r5 : List AO := [⟨(.some 23), .none, (.mov (.t 8))⟩,
  ⟨(.some 24), .none, (.un .not (.t 23))⟩]
abbrev c_poundageref11_Left_r6 : List AO := [⟨(.some 4), .none, (.mov (.c (.d (.int .i64 0))))⟩,
  ⟨(.some 5), .none, (.mov (.c (.d (.bool .false))))⟩]
abbrev c_poundageref11_Left_r7 : List AO := [⟨(.some 25), .none, (.mov (.t 7))⟩,
  ⟨(.some 26), .none, (.fieldAddr 4 (.t 2))⟩,
  ⟨(.some 27), .none, (.load .none (.t 26))⟩,
  ⟨(.some 28), .none, (.call 41 [(.t 25), (.t 27)])⟩,
  ⟨(.some 29), .none, (.call 40 [(.t 28)])⟩,
  ⟨(.some 30), .none, (.extract (.t 29) 0)⟩,
  ⟨(.some 31), .none, (.extract (.t 29) 1)⟩,
  ⟨(.some 4), .none, (.mov (.t 30))⟩,
  ⟨(.some 5), .none, (.mov (.t 31))⟩]
abbrev c_poundageref11_Left : AFunc := ⟨32, [(.tmp 4), (.tmp 5)], (.seq (.ops c_poundageref11_Left_r0) (.seq (.seq (.ops c_poundageref11_Left_r1) (.cond (.t 10) (.seq (.ops c_poundageref11_Left_r2) .ret) .skip)) (.seq (.ops c_poundageref11_Left_r3) (.seq (.ops c_poundageref11_Left_r4) (.seq (.seq (.ops c_poundageref11_Left_r5) (.cond (.t 24) (.seq (.ops c_poundageref11_Left_r6) .ret) .skip)) (.seq (.ops c_poundageref11_Left_r7) .ret))))))⟩
theorem comp_poundageref11_Left : funcC Try.prog 38 = some c_poundageref11_Left := by kernel_rfl
abbrev f_poundageref11_Steps : FuncId := 39
abbrev c_poundageref11_Steps_r0 : List AO := [⟨(.some 2), .none, (.box 51 (.t 0))⟩,
  ⟨(.some 4), .none, (.mov (.c (.nilsl 0)))⟩]
abbrev c_poundageref11_Steps_r1 : List AO := [⟨(.some 5), .none, (.mov (.c (.nilsl 0)))⟩]
abbrev c_poundageref11_Steps_r2 : List AO := [⟨(.some 13), .none, (.fieldAddr 6 (.t 2))⟩,
  ⟨(.some 14), .none, (.load .none (.t 13))⟩,
  ⟨(.some 15), .none, (.len (.t 14))⟩,
  ⟨(.some 16), .none, (.bin .sub (.t 15) (.c (.d (.int .i64 1))))⟩,
  ⟨(.some 6), .none, (.mov (.t 16))⟩]
abbrev c_poundageref11_Steps_r3 : List AO := [⟨(.some 17), .none, (.fieldAddr 5 (.t 2))⟩,
  ⟨(.some 18), .none, (.load .none (.t 17))⟩,
  ⟨(.some 19), .none, (.bin .eql (.t 18) (.c (.d (.int .i64 2))))⟩]
abbrev c_poundageref11_Steps_r4 : List AO := [⟨(.some 20), .none, (.fieldAddr 6 (.t 2))⟩,
  ⟨(.some 21), .none, (.load .none (.t 20))⟩,
  ⟨(.some 22), .none, (.len (.t 21))⟩,
  ⟨(.some 23), .none, (.mov (.c (.d (.int .i64 0))))⟩]
abbrev c_poundageref11_Steps_r5 : List AO := [⟨(.some 24), .none, (.bin .lss (.t 23) (.t 22))⟩]
abbrev c_poundageref11_Steps_r6 : List AO := [⟨(.some 25), .none, (.mov (.t 23))⟩,
  ⟨(.some 26), .none, (.elemAddr 2 (.t 21) (.t 23))⟩,
  ⟨(.some 27), .none, (.load (.some 2) (.t 26))⟩,
  ⟨(.some 8), .none, (.alloc 82 [(.d (.int .i64 0)), (.d (.int .i64 0))])⟩,
  ⟨(.some 7), .none, (.mov (.t 25))⟩,
  ⟨.none, .none, (.store 2 (.t 8) (.t 27))⟩]
abbrev c_poundageref11_Steps_r7 : List AO := [⟨(.some 28), .none, (.mov (.t 7))⟩,
  ⟨(.some 29), .none, (.mov (.t 6))⟩,
  ⟨(.some 30), .none, (.bin .eql (.t 28) (.t 29))⟩,
  ⟨(.some 31), .none, (.mov (.t 30))⟩,
  ⟨(.some 32), (.some ⟨31, .false⟩), (.mov (.t 1))⟩,
  ⟨(.some 33), (.some ⟨31, .false⟩), (.fieldAddr 0 (.t 8))⟩,
  ⟨(.some 34), (.some ⟨31, .false⟩), (.load .none (.t 33))⟩,
  ⟨(.some 35), (.some ⟨31, .false⟩), (.bin .leq (.t 32) (.t 34))⟩,
  ⟨(.some 36), .none, (.pick (.t 31) (.c (.d (.bool .true))) (.t 35))⟩]
abbrev c_poundageref11_Steps_r8 : List AO := [⟨(.some 37), .none, (.mov (.t 1))⟩,
  ⟨(.some 38), .none, (.bin .gtr (.t 37) (.c (.d (.int .i64 0))))⟩]
abbrev c_poundageref11_Steps_r9 : List AO := [⟨(.some 39), .none, (.mov (.t 5))⟩,
  ⟨(.some 40), .none, (.mov (.t 1))⟩,
  ⟨(.some 41), .none, (.fieldAddr 1 (.t 8))⟩,
  ⟨(.some 42), .none, (.load .none (.t 41))⟩,
  ⟨(.some 43), .none, (.build [(.d (.int .i64 0)), (.d (.int .i64 0)), (.d (.int .i64 0))] [⟨0, ⟨1, (.c (.d (.int .i64 0)))⟩⟩, ⟨1, ⟨1, (.t 40)⟩⟩, ⟨2, ⟨1, (.t 42)⟩⟩])⟩,
  ⟨(.some 44), .none, (.buildSlice 91 3 1 [(.d (.int .i64 0)), (.d (.int .i64 0)), (.d (.int .i64 0))] [⟨0, (.t 43)⟩])⟩,
  ⟨(.some 45), .none, (.append 91 3 24 [(.d (.int .i64 0)), (.d (.int .i64 0)), (.d (.int .i64 0))] (.t 39) (.t 44))⟩,
  ⟨(.some 5), .none, (.mov (.t 45))⟩]
abbrev c_poundageref11_Steps_r10 : List AO := [⟨(.some 46), .none, (.mov (.t 5))⟩,
  ⟨(.some 4), .none, (.mov (.t 46))⟩]
abbrev c_poundageref11_Steps_r11 : List AO := [⟨(.some 47), .none, (.bin .add (.t 23) (.c (.d (.int .i64 1))))⟩,
  ⟨(.some 23), .none, (.mov (.t 47))⟩]
abbrev c_poundageref11_Steps_l0 : ACode := (.seq (.ops c_poundageref11_Steps_r5) (.seq (.cond (.t 24) .skip (.exit 0)) (.seq (.block 1 (.seq (.ops c_poundageref11_Steps_r6) (.seq (.ops c_poundageref11_Steps_r7) (.cond (.t 36) (.seq (.seq (.ops c_poundageref11_Steps_r8) (.cond (.t 38) (.ops c_poundageref11_Steps_r9) .skip)) (.seq (.ops c_poundageref11_Steps_r10) .ret)) .skip)))) (.ops c_poundageref11_Steps_r11))))
abbrev c_poundageref11_Steps_r12 : List AO := [⟨(.some 48), .none, (.mov (.t 5))⟩,
  ⟨(.some 4), .none, (.mov (.t 48))⟩]
abbrev c_poundageref11_Steps_r13 : List AO := [⟨(.some 49), .none, (.fieldAddr 6 (.t 2))⟩,
  ⟨(.some 50), .none, (.load .none (.t 49))⟩,
  ⟨(.some 51), .none, (.len (.t 50))⟩,
  ⟨(.some 52), .none, (.mov (.c (.d (.int .i64 0))))⟩]
abbrev c_poundageref11_Steps_r14 : List AO := [⟨(.some 53), .none, (.bin .lss (.t 52) (.t 51))⟩]
abbrev c_poundageref11_Steps_r15 : List AO := [⟨(.some 54), .none, (.mov (.t 52))⟩,
  ⟨(.some 55), .none, (.elemAddr 2 (.t 50) (.t 52))⟩,
  ⟨(.some 56), .none, (.load (.some 2) (.t 55))⟩,
  ⟨(.some 10), .none, (.alloc 82 [(.d (.int .i64 0)), (.d (.int .i64 0))])⟩,
  ⟨(.some 9), .none, (.mov (.t 54))⟩,
  ⟨.none, .none, (.store 2 (.t 10) (.t 56))⟩]
abbrev c_poundageref11_Steps_r16 : List AO := [⟨(.some 57), .none, (.mov (.t 1))⟩,
  ⟨(.some 11), .none, (.mov (.c (.d (.int .i64 0))))⟩,
  ⟨(.some 12), .none, (.mov (.t 57))⟩]
abbrev c_poundageref11_Steps_r17 : List AO := [⟨(.some 58), .none, (.mov (.t 9))⟩,
  ⟨(.some 59), .none, (.bin .gtr (.t 58) (.c (.d (.int .i64 0))))⟩]
abbrev c_poundageref11_Steps_r18 : List AO := [⟨(.some 60), .none, (.fieldAddr 6 (.t 2))⟩,
  ⟨(.some 61), .none, (.load .none (.t 60))⟩,
  ⟨(.some 62), .none, (.mov (.t 9))⟩,
  ⟨(.some 63), .none, (.bin .sub (.t 62) (.c (.d (.int .i64 1))))⟩,
  ⟨(.some 64), .none, (.elemAddr 2 (.t 61) (.t 63))⟩,
  ⟨(.some 65), .none, (.fieldAddr 0 (.t 64))⟩,
  ⟨(.some 66), .none, (.load .none (.t 65))⟩,
  ⟨(.some 11), .none, (.mov (.t 66))⟩]
abbrev c_poundageref11_Steps_r19 : List AO := [⟨(.some 67), .none, (.mov (.t 9))⟩,
  ⟨(.some 68), .none, (.mov (.t 6))⟩,
  ⟨(.some 69), .none, (.bin .lss (.t 67) (.t 68))⟩,
  ⟨(.some 70), .none, (.mov (.t 69))⟩,
  ⟨(.some 71), (.some ⟨70, .true⟩), (.fieldAddr 0 (.t 10))⟩,
  ⟨(.some 72), (.some ⟨70, .true⟩), (.load .none (.t 71))⟩,
  ⟨(.some 73), (.some ⟨70, .true⟩), (.mov (.t 1))⟩,
  ⟨(.some 74), (.some ⟨70, .true⟩), (.bin .lss (.t 72) (.t 73))⟩,
  ⟨(.some 75), .none, (.pick (.t 70) (.t 74) (.c (.d (.bool .false))))⟩]
abbrev c_poundageref11_Steps_r20 : List AO := [⟨(.some 76), .none, (.fieldAddr 0 (.t 10))⟩,
  ⟨(.some 77), .none, (.load .none (.t 76))⟩,
  ⟨(.some 12), .none, (.mov (.t 77))⟩]
abbrev c_poundageref11_Steps_r21 : List AO := [⟨(.some 78), .none, (.mov (.t 12))⟩,
  ⟨(.some 79), .none, (.mov (.t 11))⟩,
  ⟨(.some 80), .none, (.bin .gtr (.t 78) (.t 79))⟩]
abbrev c_poundageref11_Steps_r22 : List AO := [⟨(.some 81), .none, (.mov (.t 5))⟩,
  ⟨(.some 82), .none, (.mov (.t 11))⟩,
  ⟨(.some 83), .none, (.mov (.t 12))⟩,
  ⟨(.some 84), .none, (.fieldAddr 1 (.t 10))⟩,
  ⟨(.some 85), .none, (.load .none (.t 84))⟩,
  ⟨(.some 86), .none, (.build [(.d (.int .i64 0)), (.d (.int .i64 0)), (.d (.int .i64 0))] [⟨0, ⟨1, (.t 82)⟩⟩, ⟨1, ⟨1, (.t 83)⟩⟩, ⟨2, ⟨1, (.t 85)⟩⟩])⟩,
  ⟨(.some 87), .none, (.buildSlice 91 3 1 [(.d (.int .i64 0)), (.d (.int .i64 0)), (.d (.int .i64 0))] [⟨0, (.t 86)⟩])⟩,
  ⟨(.some 88), .none, (.append 91 3 24 [(.d (.int .i64 0)), (.d (.int .i64 0)), (.d (.int .i64 0))] (.t 81) (.t 87))⟩,
  ⟨(.some 5), .none, (.mov (.t 88))⟩]
abbrev c_poundageref11_Steps_r23 : List AO := [⟨(.some 89), .none, (.bin .add (.t 52) (.c (.d (.int .i64 1))))⟩,
  ⟨(.some 52), .none, (.mov (.t 89))⟩]
abbrev c_poundageref11_Steps_l1 : ACode := (.seq (.ops c_poundageref11_Steps_r14) (.seq (.cond (.t 53) .skip (.exit 2)) (.seq (.block 3 (.seq (.ops c_poundageref11_Steps_r15) (.seq (.ops c_poundageref11_Steps_r16) (.seq (.seq (.ops c_poundageref11_Steps_r17) (.cond (.t 59) (.ops c_poundageref11_Steps_r18) .skip)) (.seq (.seq (.ops c_poundageref11_Steps_r19) (.cond (.t 75) (.ops c_poundageref11_Steps_r20) .skip)) (.seq (.ops c_poundageref11_Steps_r21) (.cond (.t 80) (.ops c_poundageref11_Steps_r22) .skip))))))) (.ops c_poundageref11_Steps_r23))))
abbrev c_poundageref11_Steps_r24 : List AO := [⟨(.some 90), .none, (.mov (.t 5))⟩,
  ⟨(.some 4), .none, (.mov (.t 90))⟩]
abbrev c_poundageref11_Steps : AFunc := ⟨91, [(.tmp 4)], (.seq (.ops c_poundageref11_Steps_r0) (.seq (.ops c_poundageref11_Steps_r1) (.seq (.ops c_poundageref11_Steps_r2) (.seq (.seq (.ops c_poundageref11_Steps_r3) (.cond (.t 19) (.seq (.seq (.ops c_poundageref11_Steps_r4) (.block 0 (.loop c_poundageref11_Steps_l0))) (.seq (.ops c_poundageref11_Steps_r12) .ret)) .skip)) (.seq (.seq (.ops c_poundageref11_Steps_r13) (.block 2 (.loop c_poundageref11_Steps_l1))) (.seq (.ops c_poundageref11_Steps_r24) .ret))))))⟩
theorem comp_poundageref11_Steps : funcC Try.prog 39 = some c_poundageref11_Steps := by kernel_rfl
abbrev f_poundageref01_Int : FuncId := 40
abbrev c_poundageref01_Int_r0 : List AO := [⟨(.some 1), .none, (.box 94 (.t 0))⟩,
  ⟨(.some 2), .none, (.mov (.c (.d (.int .i64 0))))⟩,
  ⟨(.some 3), .none, (.mov (.c (.d (.bool .false))))⟩]
abbrev c_poundageref01_Int_r1 : List AO := [⟨(.some 4), .none, (.fieldAddr 1 (.t 1))⟩,
  ⟨(.some 5), .none, (.load .none (.t 4))⟩,
  ⟨(.some 6), .none, (.bin .neq (.t 5) (.c (.d (.int .u64 0))))⟩]
abbrev c_poundageref01_Int_r2 : List AO := [⟨(.some 2), .none, (.mov (.c (.d (.int .i64 0))))⟩,
  ⟨(.some 3), .none, (.mov (.c (.d (.bool .false))))⟩]
abbrev c_poundageref01_Int_r3 : List AO := [⟨(.some 7), .none, (.fieldAddr 0 (.t 1))⟩,
  ⟨(.some 8), .none, (.load .none (.t 7))⟩]
abbrev c_poundageref01_Int_r4 : List AO := [⟨(.some 9), .none, (.fieldAddr 2 (.t 1))⟩,
  ⟨(.some 10), .none, (.load .none (.t 9))⟩,
  ⟨(.some 11), .none, (.bin .gtr (.t 10) (.c (.d (.int .u64 9223372036854775808))))⟩]
abbrev c_poundageref01_Int_r5 : List AO := [⟨(.some 2), .none, (.mov (.c (.d (.int .i64 0))))⟩,
  ⟨(.some 3), .none, (.mov (.c (.d (.bool .false))))⟩]
abbrev c_poundageref01_Int_r6 : List AO := [⟨(.some 12), .none, (.fieldAddr 2 (.t 1))⟩,
  ⟨(.some 13), .none, (.load .none (.t 12))⟩,
  ⟨(.some 14), .none, (.bin .eql (.t 13) (.c (.d (.int .u64 0))))⟩]
abbrev c_poundageref01_Int_r7 : List AO := [⟨(.some 2), .none, (.mov (.c (.d (.int .i64 0))))⟩,
  ⟨(.some 3), .none, (.mov (.c (.d (.bool .true))))⟩]
abbrev c_poundageref01_Int_r8 : List AO := [⟨(.some 15), .none, (.fieldAddr 2 (.t 1))⟩,
  ⟨(.some 16), .none, (.load .none (.t 15))⟩,
  ⟨(.some 17), .none, (.bin .sub (.t 16) (.c (.d (.int .u64 1))))⟩,
  ⟨(.some 18), .none, (.conv .i64 (.t 17))⟩,
  ⟨(.some 19), .none, (.un .neg (.t 18))⟩,
  ⟨(.some 20), .none, (.bin .sub (.t 19) (.c (.d (.int .i64 1))))⟩,
  ⟨(.some 2), .none, (.mov (.t 20))⟩,
  ⟨(.some 3), .none, (.mov (.c (.d (.bool .true))))⟩]
abbrev c_poundageref01_Int_r9 : List AO := [⟨(.some 21), .none, (.fieldAddr 2 (.t 1))⟩,
  ⟨(.some 22), .none, (.load .none (.t 21))⟩,
  ⟨(.some 23), .none, (.bin .geq (.t 22) (.c (.d (.int .u64 9223372036854775808))))⟩]
abbrev c_poundageref01_Int_r10 : List AO := [⟨(.some 2), .none, (.mov (.c (.d (.int .i64 0))))⟩,
  ⟨(.some 3), .none, (.mov (.c (.d (.bool .false))))⟩]
abbrev c_poundageref01_Int_r11 : List AO := [⟨(.some 24), .none, (.fieldAddr 2 (.t 1))⟩,
  ⟨(.some 25), .none, (.load .none (.t 24))⟩,
  ⟨(.some 26), .none, (.conv .i64 (.t 25))⟩,
  ⟨(.some 2), .none, (.mov (.t 26))⟩,
  ⟨(.some 3), .none, (.mov (.c (.d (.bool .true))))⟩]
abbrev c_poundageref01_Int : AFunc := ⟨27, [(.tmp 2), (.tmp 3)], (.seq (.ops c_poundageref01_Int_r0) (.seq (.seq (.ops c_poundageref01_Int_r1) (.cond (.t 6) (.seq (.ops c_poundageref01_Int_r2) .ret) .skip)) (.seq (.seq (.ops c_poundageref01_Int_r3) (.cond (.t 8) (.seq (.seq (.ops c_poundageref01_Int_r4) (.cond (.t 11) (.seq (.ops c_poundageref01_Int_r5) .ret) .skip)) (.seq (.seq (.ops c_poundageref01_Int_r6) (.cond (.t 14) (.seq (.ops c_poundageref01_Int_r7) .ret) .skip)) (.seq (.ops c_poundageref01_Int_r8) .ret))) .skip)) (.seq (.seq (.ops c_poundageref01_Int_r9) (.cond (.t 23) (.seq (.ops c_poundageref01_Int_r10) .ret) .skip)) (.seq (.ops c_poundageref01_Int_r11) .ret)))))⟩
theorem comp_poundageref01_Int : funcC Try.prog 40 = some c_poundageref01_Int := by kernel_rfl
abbrev f_poundageref01_Mul : FuncId := 41
abbrev c_poundageref01_Mul_r0 : List AO := [⟨(.some 4), .none, (.alloc 94 [(.d (.bool .false)), (.d (.int .u64 0)), (.d (.int .u64 0))])⟩]
abbrev c_poundageref01_Mul_r1 : List AO := [⟨(.some 14), .none, (.mov (.t 0))⟩,
  ⟨(.some 15), .none, (.call 43 [(.t 14)])⟩,
  ⟨(.some 16), .none, (.mov (.t 1))⟩,
  ⟨(.some 17), .none, (.call 43 [(.t 16)])⟩,
  ⟨(.some 5), .none, (.alloc 94 [(.d (.bool .false)), (.d (.int .u64 0)), (.d (.int .u64 0))])⟩,
  ⟨(.some 6), .none, (.alloc 94 [(.d (.bool .false)), (.d (.int .u64 0)), (.d (.int .u64 0))])⟩,
  ⟨.none, .none, (.store 3 (.t 5) (.t 15))⟩,
  ⟨.none, .none, (.store 3 (.t 6) (.t 17))⟩]
abbrev c_poundageref01_Mul_r2 : List AO := [⟨(.some 18), .none, (.fieldAddr 2 (.t 5))⟩,
  ⟨(.some 21), .none, (.fieldAddr 2 (.t 5))⟩,
  ⟨(.some 19), .none, (.load .none (.t 18))⟩,
  ⟨(.some 20), .none, (.bin .rem (.t 19) (.c (.d (.int .u64 4294967296))))⟩,
  ⟨(.some 7), .none, (.mov (.t 20))⟩,
  ⟨(.some 22), .none, (.load .none (.t 21))⟩,
  ⟨(.some 23), .none, (.bin .shr (.t 22) (.c (.d (.int .u64 32))))⟩,
  ⟨(.some 8), .none, (.mov (.t 23))⟩]
abbrev c_poundageref01_Mul_r3 : List AO := [⟨(.some 24), .none, (.fieldAddr 2 (.t 6))⟩,
  ⟨(.some 27), .none, (.fieldAddr 2 (.t 6))⟩,
  ⟨(.some 25), .none, (.load .none (.t 24))⟩,
  ⟨(.some 26), .none, (.bin .rem (.t 25) (.c (.d (.int .u64 4294967296))))⟩,
  ⟨(.some 9), .none, (.mov (.t 26))⟩,
  ⟨(.some 28), .none, (.load .none (.t 27))⟩,
  ⟨(.some 29), .none, (.bin .shr (.t 28) (.c (.d (.int .u64 32))))⟩,
  ⟨(.some 10), .none, (.mov (.t 29))⟩]
abbrev c_poundageref01_Mul_r4 : List AO := [⟨(.some 30), .none, (.mov (.t 8))⟩,
  ⟨(.some 31), .none, (.mov (.t 10))⟩,
  ⟨(.some 32), .none, (.bin .mul (.t 30) (.t 31))⟩,
  ⟨(.some 33), .none, (.mov (.t 7))⟩,
  ⟨(.some 34), .none, (.mov (.t 9))⟩,
  ⟨(.some 35), .none, (.bin .mul (.t 33) (.t 34))⟩,
  ⟨(.some 36), .none, (.build [(.d (.bool .false)), (.d (.int .u64 0)), (.d (.int .u64 0))] [⟨0, ⟨1, (.c (.d (.bool .false)))⟩⟩, ⟨1, ⟨1, (.t 32)⟩⟩, ⟨2, ⟨1, (.t 35)⟩⟩])⟩,
  ⟨(.some 11), .none, (.alloc 94 [(.d (.bool .false)), (.d (.int .u64 0)), (.d (.int .u64 0))])⟩,
  ⟨.none, .none, (.store 3 (.t 11) (.t 36))⟩]
abbrev c_poundageref01_Mul_r5 : List AO := [⟨(.some 37), .none, (.mov (.t 7))⟩,
  ⟨(.some 38), .none, (.mov (.t 10))⟩,
  ⟨(.some 39), .none, (.bin .mul (.t 37) (.t 38))⟩,
  ⟨(.some 40), .none, (.mov (.t 8))⟩,
  ⟨(.some 41), .none, (.mov (.t 9))⟩,
  ⟨(.some 42), .none, (.bin .mul (.t 40) (.t 41))⟩,
  ⟨(.some 43), .none, (.buildSlice 75 1 2 [(.d (.int .u64 0))] [⟨0, (.t 39)⟩, ⟨1, (.t 42)⟩])⟩,
  ⟨(.some 44), .none, (.len (.t 43))⟩,
  ⟨(.some 45), .none, (.mov (.c (.d (.int .i64 0))))⟩]
abbrev c_poundageref01_Mul_r6 : List AO := [⟨(.some 46), .none, (.bin .lss (.t 45) (.t 44))⟩]
abbrev c_poundageref01_Mul_r7 : List AO := [⟨(.some 47), .none, (.elemAddr 1 (.t 43) (.t 45))⟩,
  ⟨(.some 48), .none, (.load .none (.t 47))⟩,
  ⟨(.some 13), .none, (.mov (.t 48))⟩]
abbrev c_poundageref01_Mul_r8 : List AO := [⟨(.some 49), .none, (.load (.some 3) (.t 11))⟩,
  ⟨(.some 50), .none, (.mov (.t 13))⟩,
  ⟨(.some 51), .none, (.bin .shr (.t 50) (.c (.d (.int .u64 32))))⟩,
  ⟨(.some 52), .none, (.mov (.t 13))⟩,
  ⟨(.some 53), .none, (.bin .shl (.t 52) (.c (.d (.int .u64 32))))⟩,
  ⟨(.some 54), .none, (.build [(.d (.bool .false)), (.d (.int .u64 0)), (.d (.int .u64 0))] [⟨0, ⟨1, (.c (.d (.bool .false)))⟩⟩, ⟨1, ⟨1, (.t 51)⟩⟩, ⟨2, ⟨1, (.t 53)⟩⟩])⟩,
  ⟨(.some 55), .none, (.call 47 [(.t 49), (.t 54)])⟩,
  ⟨.none, .none, (.store 3 (.t 11) (.t 55))⟩]
abbrev c_poundageref01_Mul_r9 : List AO := [⟨(.some 56), .none, (.bin .add (.t 45) (.c (.d (.int .i64 1))))⟩,
  ⟨(.some 45), .none, (.mov (.t 56))⟩]
abbrev c_poundageref01_Mul_l0 : ACode := (.seq (.ops c_poundageref01_Mul_r6) (.seq (.cond (.t 46) .skip (.exit 0)) (.seq (.block 1 (.seq (.ops c_poundageref01_Mul_r7) (.ops c_poundageref01_Mul_r8))) (.ops c_poundageref01_Mul_r9))))
abbrev c_poundageref01_Mul_r10 : List AO := [⟨(.some 57), .none, (.fieldAddr 0 (.t 5))⟩,
  ⟨(.some 58), .none, (.load .none (.t 57))⟩,
  ⟨(.some 59), .none, (.fieldAddr 0 (.t 6))⟩,
  ⟨(.some 60), .none, (.load .none (.t 59))⟩,
  ⟨(.some 61), .none, (.binb .true (.t 58) (.t 60))⟩,
  ⟨(.some 62), .none, (.mov (.t 61))⟩,
  ⟨(.some 63), (.some ⟨62, .true⟩), (.load (.some 3) (.t 11))⟩,
  ⟨(.some 64), (.some ⟨62, .true⟩), (.call 48 [(.t 63)])⟩,
  ⟨(.some 65), (.some ⟨62, .true⟩), (.un .not (.t 64))⟩,
  ⟨(.some 66), .none, (.pick (.t 62) (.t 65) (.c (.d (.bool .false))))⟩,
  ⟨(.some 67), .none, (.fieldAddr 0 (.t 11))⟩,
  ⟨.none, .none, (.store 1 (.t 67) (.t 66))⟩]
abbrev c_poundageref01_Mul_r11 : List AO := [⟨(.some 68), .none, (.load (.some 3) (.t 11))⟩,
  ⟨.none, .none, (.store 3 (.t 4) (.t 68))⟩]
abbrev c_poundageref01_Mul : AFunc := ⟨69, [(.cell 4 (.some 3))], (.seq (.ops c_poundageref01_Mul_r0) (.seq (.ops c_poundageref01_Mul_r1) (.seq (.dops c_poundageref01_Mul_r2) (.seq (.dops c_poundageref01_Mul_r3) (.seq (.ops c_poundageref01_Mul_r4) (.seq (.seq (.ops c_poundageref01_Mul_r5) (.block 0 (.loop c_poundageref01_Mul_l0))) (.seq (.ops c_poundageref01_Mul_r10) (.seq (.ops c_poundageref01_Mul_r11) .ret))))))))⟩
theorem comp_poundageref01_Mul : funcC Try.prog 41 = some c_poundageref01_Mul := by kernel_rfl
abbrev f_poundageref01_Add : FuncId := 42
abbrev c_poundageref01_Add_r0 : List AO := [⟨(.some 2), .none, (.box 94 (.t 0))⟩,
  ⟨(.some 3), .none, (.box 94 (.t 1))⟩,
  ⟨(.some 4), .none, (.alloc 94 [(.d (.bool .false)), (.d (.int .u64 0)), (.d (.int .u64 0))])⟩]
abbrev c_poundageref01_Add_r1 : List AO := [⟨(.some 8), .none, (.fieldAddr 0 (.t 2))⟩,
  ⟨(.some 9), .none, (.load .none (.t 8))⟩,
  ⟨(.some 10), .none, (.fieldAddr 0 (.t 3))⟩,
  ⟨(.some 11), .none, (.load .none (.t 10))⟩,
  ⟨(.some 12), .none, (.binb .false (.t 9) (.t 11))⟩]
abbrev c_poundageref01_Add_r2 : List AO := [⟨(.some 13), .none, (.load (.some 3) (.t 2))⟩,
  ⟨(.some 14), .none, (.load (.some 3) (.t 3))⟩,
  ⟨(.some 15), .none, (.call 47 [(.t 13), (.t 14)])⟩,
  ⟨(.some 5), .none, (.alloc 94 [(.d (.bool .false)), (.d (.int .u64 0)), (.d (.int .u64 0))])⟩,
  ⟨.none, .none, (.store 3 (.t 5) (.t 15))⟩]
abbrev c_poundageref01_Add_r3 : List AO := [⟨(.some 16), .none, (.fieldAddr 0 (.t 2))⟩,
  ⟨(.some 17), .none, (.load .none (.t 16))⟩,
  ⟨(.some 18), .none, (.mov (.t 17))⟩,
  ⟨(.some 19), (.some ⟨18, .true⟩), (.load (.some 3) (.t 5))⟩,
  ⟨(.some 20), (.some ⟨18, .true⟩), (.call 48 [(.t 19)])⟩,
  ⟨(.some 21), (.some ⟨18, .true⟩), (.un .not (.t 20))⟩,
  ⟨(.some 22), .none, (.pick (.t 18) (.t 21) (.c (.d (.bool .false))))⟩,
  ⟨(.some 23), .none, (.fieldAddr 0 (.t 5))⟩,
  ⟨.none, .none, (.store 1 (.t 23) (.t 22))⟩]
abbrev c_poundageref01_Add_r4 : List AO := [⟨(.some 24), .none, (.load (.some 3) (.t 5))⟩,
  ⟨.none, .none, (.store 3 (.t 4) (.t 24))⟩]
abbrev c_poundageref01_Add_r5 : List AO := [⟨(.some 25), .none, (.load (.some 3) (.t 2))⟩,
  ⟨(.some 26), .none, (.load (.some 3) (.t 3))⟩,
  ⟨(.some 27), .none, (.call 49 [(.t 25), (.t 26)])⟩]
abbrev c_poundageref01_Add_r6 : List AO := [⟨(.some 28), .none, (.load (.some 3) (.t 3))⟩,
  ⟨(.some 29), .none, (.load (.some 3) (.t 2))⟩,
  ⟨(.some 30), .none, (.call 50 [(.t 28), (.t 29)])⟩,
  ⟨(.some 6), .none, (.alloc 94 [(.d (.bool .false)), (.d (.int .u64 0)), (.d (.int .u64 0))])⟩,
  ⟨.none, .none, (.store 3 (.t 6) (.t 30))⟩]
abbrev c_poundageref01_Add_r7 : List AO := [⟨(.some 31), .none, (.fieldAddr 0 (.t 3))⟩,
  ⟨(.some 32), .none, (.load .none (.t 31))⟩,
  ⟨(.some 33), .none, (.mov (.t 32))⟩,
  ⟨(.some 34), (.some ⟨33, .true⟩), (.load (.some 3) (.t 6))⟩,
  ⟨(.some 35), (.some ⟨33, .true⟩), (.call 48 [(.t 34)])⟩,
  ⟨(.some 36), (.some ⟨33, .true⟩), (.un .not (.t 35))⟩,
  ⟨(.some 37), .none, (.pick (.t 33) (.t 36) (.c (.d (.bool .false))))⟩,
  ⟨(.some 38), .none, (.fieldAddr 0 (.t 6))⟩,
  ⟨.none, .none, (.store 1 (.t 38) (.t 37))⟩]
abbrev c_poundageref01_Add_r8 : List AO := [⟨(.some 39), .none, (.load (.some 3) (.t 6))⟩,
  ⟨.none, .none, (.store 3 (.t 4) (.t 39))⟩]
abbrev c_poundageref01_Add_r9 : List AO := [⟨(.some 40), .none, (.load (.some 3) (.t 2))⟩,
  ⟨(.some 41), .none, (.load (.some 3) (.t 3))⟩,
  ⟨(.some 42), .none, (.call 50 [(.t 40), (.t 41)])⟩,
  ⟨(.some 7), .none, (.alloc 94 [(.d (.bool .false)), (.d (.int .u64 0)), (.d (.int .u64 0))])⟩,
  ⟨.none, .none, (.store 3 (.t 7) (.t 42))⟩]
abbrev c_poundageref01_Add_r10 : List AO := [⟨(.some 43), .none, (.fieldAddr 0 (.t 2))⟩,
  ⟨(.some 44), .none, (.load .none (.t 43))⟩,
  ⟨(.some 45), .none, (.mov (.t 44))⟩,
  ⟨(.some 46), (.some ⟨45, .true⟩), (.load (.some 3) (.t 7))⟩,
  ⟨(.some 47), (.some ⟨45, .true⟩), (.call 48 [(.t 46)])⟩,
  ⟨(.some 48), (.some ⟨45, .true⟩), (.un .not (.t 47))⟩,
  ⟨(.some 49), .none, (.pick (.t 45) (.t 48) (.c (.d (.bool .false))))⟩,
  ⟨(.some 50), .none, (.fieldAddr 0 (.t 7))⟩,
  ⟨.none, .none, (.store 1 (.t 50) (.t 49))⟩]
abbrev c_poundageref01_Add_r11 : List AO := [⟨(.some 51), .none, (.load (.some 3) (.t 7))⟩,
  ⟨.none, .none, (.store 3 (.t 4) (.t 51))⟩]
abbrev c_poundageref01_Add : AFunc := ⟨52, [(.cell 4 (.some 3))], (.seq (.ops c_poundageref01_Add_r0) (.seq (.seq (.ops c_poundageref01_Add_r1) (.cond (.t 12) (.seq (.ops c_poundageref01_Add_r2) (.seq (.ops c_poundageref01_Add_r3) (.seq (.ops c_poundageref01_Add_r4) .ret))) .skip)) (.seq (.seq (.ops c_poundageref01_Add_r5) (.cond (.t 27) (.seq (.ops c_poundageref01_Add_r6) (.seq (.ops c_poundageref01_Add_r7) (.seq (.ops c_poundageref01_Add_r8) .ret))) .skip)) (.seq (.ops c_poundageref01_Add_r9) (.seq (.ops c_poundageref01_Add_r10) (.seq (.ops c_poundageref01_Add_r11) .ret))))))⟩
theorem comp_poundageref01_Add : funcC Try.prog 42 = some c_poundageref01_Add := by kernel_rfl
abbrev f_poundageref01_Of : FuncId := 43
abbrev c_poundageref01_Of_r0 : List AO := [⟨(.some 2), .none, (.alloc 94 [(.d (.bool .false)), (.d (.int .u64 0)), (.d (.int .u64 0))])⟩]
abbrev c_poundageref01_Of_r1 : List AO := [⟨(.some 3), .none, (.mov (.t 0))⟩,
  ⟨(.some 4), .none, (.bin .lss (.t 3) (.c (.d (.int .i64 0))))⟩]
abbrev c_poundageref01_Of_r2 : List AO := [⟨(.some 5), .none, (.mov (.t 0))⟩,
  ⟨(.some 6), .none, (.bin .add (.t 5) (.c (.d (.int .i64 1))))⟩,
  ⟨(.some 7), .none, (.un .neg (.t 6))⟩,
  ⟨(.some 8), .none, (.conv .u64 (.t 7))⟩,
  ⟨(.some 9), .none, (.bin .add (.t 8) (.c (.d (.int .u64 1))))⟩,
  ⟨(.some 10), .none, (.build [(.d (.bool .false)), (.d (.int .u64 0)), (.d (.int .u64 0))] [⟨0, ⟨1, (.c (.d (.bool .true)))⟩⟩, ⟨1, ⟨1, (.c (.d (.int .u64 0)))⟩⟩, ⟨2, ⟨1, (.t 9)⟩⟩])⟩,
  ⟨.none, .none, (.store 3 (.t 2) (.t 10))⟩]
abbrev c_poundageref01_Of_r3 : List AO := [⟨(.some 11), .none, (.mov (.t 0))⟩,
  ⟨(.some 12), .none, (.conv .u64 (.t 11))⟩,
  ⟨(.some 13), .none, (.build [(.d (.bool .false)), (.d (.int .u64 0)), (.d (.int .u64 0))] [⟨0, ⟨1, (.c (.d (.bool .false)))⟩⟩, ⟨1, ⟨1, (.c (.d (.int .u64 0)))⟩⟩, ⟨2, ⟨1, (.t 12)⟩⟩])⟩,
  ⟨.none, .none, (.store 3 (.t 2) (.t 13))⟩]
abbrev c_poundageref01_Of : AFunc := ⟨14, [(.cell 2 (.some 3))], (.seq (.ops c_poundageref01_Of_r0) (.seq (.seq (.ops c_poundageref01_Of_r1) (.cond (.t 4) (.seq (.ops c_poundageref01_Of_r2) .ret) .skip)) (.seq (.ops c_poundageref01_Of_r3) .ret)))⟩
theorem comp_poundageref01_Of : funcC Try.prog 43 = some c_poundageref01_Of := by kernel_rfl
abbrev f_poundageref02_Floor : FuncId := 44
abbrev c_poundageref02_Floor_r0 : List AO := [⟨(.some 2), .none, (.box 94 (.t 0))⟩,
  ⟨(.some 4), .none, (.mov (.c (.d (.int .i64 0))))⟩,
  ⟨(.some 5), .none, (.mov (.c (.d (.bool .false))))⟩]
abbrev c_poundageref02_Floor_r1 : List AO := [⟨(.some 11), .none, (.mov (.t 1))⟩,
  ⟨(.some 12), .none, (.load (.some 3) (.t 2))⟩,
  ⟨(.some 13), .none, (.call 51 [(.c (.d (.int .i64 (-9223372036854775808)))), (.t 11), (.t 12)])⟩,
  ⟨(.some 14), .none, (.un .not (.t 13))⟩]
abbrev c_poundageref02_Floor_r2 : List AO := [⟨(.some 4), .none, (.mov (.c (.d (.int .i64 0))))⟩,
  ⟨(.some 5), .none, (.mov (.c (.d (.bool .false))))⟩]
abbrev c_poundageref02_Floor_r3 : List AO := [⟨(.some 6), .none, (.mov (.c (.d (.int .i64 (-9223372036854775808)))))⟩]
abbrev c_poundageref02_Floor_r4 : List AO := [⟨(.some 7), .none, (.mov (.c (.d (.int .i64 63))))⟩]
abbrev c_poundageref02_Floor_r5 : List AO := [⟨(.some 15), .none, (.mov (.t 7))⟩,
  ⟨(.some 16), .none, (.bin .geq (.t 15) (.c (.d (.int .i64 0))))⟩]
abbrev c_poundageref02_Floor_r6 : List AO := [⟨(.some 19), .none, (.mov (.t 7))⟩,
  ⟨(.some 20), .none, (.conv .u64 (.t 19))⟩,
  ⟨(.some 21), .none, (.bin .shl (.c (.d (.int .u64 1))) (.t 20))⟩,
  ⟨(.some 8), .none, (.mov (.t 21))⟩]
abbrev c_poundageref02_Floor_r7 : List AO := [⟨(.some 22), .none, (.mov (.t 6))⟩,
  ⟨(.some 23), .none, (.conv .u64 (.t 22))⟩,
  ⟨(.some 24), .none, (.mov (.t 8))⟩,
  ⟨(.some 25), .none, (.bin .add (.t 23) (.t 24))⟩,
  ⟨(.some 9), .none, (.mov (.t 25))⟩]
abbrev c_poundageref02_Floor_r8 : List AO := [⟨(.some 26), .none, (.mov (.t 9))⟩,
  ⟨(.some 27), .none, (.conv .i64 (.t 26))⟩,
  ⟨(.some 10), .none, (.mov (.t 27))⟩]
abbrev c_poundageref02_Floor_r9 : List AO := [⟨(.some 28), .none, (.mov (.t 10))⟩,
  ⟨(.some 29), .none, (.mov (.t 6))⟩,
  ⟨(.some 30), .none, (.bin .gtr (.t 28) (.t 29))⟩,
  ⟨(.some 31), .none, (.mov (.t 30))⟩,
  ⟨(.some 32), (.some ⟨31, .true⟩), (.mov (.t 10))⟩,
  ⟨(.some 33), (.some ⟨31, .true⟩), (.mov (.t 1))⟩,
  ⟨(.some 34), (.some ⟨31, .true⟩), (.load (.some 3) (.t 2))⟩,
  ⟨(.some 35), (.some ⟨31, .true⟩), (.call 51 [(.t 32), (.t 33), (.t 34)])⟩,
  ⟨(.some 36), .none, (.pick (.t 31) (.t 35) (.c (.d (.bool .false))))⟩]
abbrev c_poundageref02_Floor_r10 : List AO := [⟨(.some 37), .none, (.mov (.t 10))⟩,
  ⟨(.some 6), .none, (.mov (.t 37))⟩]
abbrev c_poundageref02_Floor_r11 : List AO := [⟨(.some 17), .none, (.mov (.t 7))⟩,
  ⟨(.some 18), .none, (.bin .sub (.t 17) (.c (.d (.int .i64 1))))⟩,
  ⟨(.some 7), .none, (.mov (.t 18))⟩]
abbrev c_poundageref02_Floor_l0 : ACode := (.seq (.seq (.ops c_poundageref02_Floor_r5) (.cond (.t 16) .skip (.exit 0))) (.seq (.block 1 (.seq (.ops c_poundageref02_Floor_r6) (.seq (.ops c_poundageref02_Floor_r7) (.seq (.ops c_poundageref02_Floor_r8) (.seq (.ops c_poundageref02_Floor_r9) (.cond (.t 36) (.ops c_poundageref02_Floor_r10) .skip)))))) (.ops c_poundageref02_Floor_r11)))
abbrev c_poundageref02_Floor_r12 : List AO := [⟨(.some 38), .none, (.mov (.t 6))⟩,
  ⟨(.some 4), .none, (.mov (.t 38))⟩,
  ⟨(.some 5), .none, (.mov (.c (.d (.bool .true))))⟩]
abbrev c_poundageref02_Floor : AFunc := ⟨39, [(.tmp 4), (.tmp 5)], (.seq (.ops c_poundageref02_Floor_r0) (.seq (.seq (.ops c_poundageref02_Floor_r1) (.cond (.t 14) (.seq (.ops c_poundageref02_Floor_r2) .ret) .skip)) (.seq (.ops c_poundageref02_Floor_r3) (.seq (.seq (.ops c_poundageref02_Floor_r4) (.block 0 (.loop c_poundageref02_Floor_l0))) (.seq (.ops c_poundageref02_Floor_r12) .ret)))))⟩
theorem comp_poundageref02_Floor : funcC Try.prog 44 = some c_poundageref02_Floor := by kernel_rfl
abbrev f_poundageref01_Opposite : FuncId := 45
abbrev c_poundageref01_Opposite_r0 : List AO := [⟨(.some 1), .none, (.box 94 (.t 0))⟩,
  ⟨(.some 2), .none, (.alloc 94 [(.d (.bool .false)), (.d (.int .u64 0)), (.d (.int .u64 0))])⟩]
abbrev c_poundageref01_Opposite_r1 : List AO := [⟨(.some 3), .none, (.load (.some 3) (.t 1))⟩,
  ⟨(.some 4), .none, (.call 48 [(.t 3)])⟩]
abbrev c_poundageref01_Opposite_r2 : List AO := [⟨(.some 5), .none, (.load (.some 3) (.t 1))⟩,
  ⟨.none, .none, (.store 3 (.t 2) (.t 5))⟩]
abbrev c_poundageref01_Opposite_r3 : List AO := [⟨(.some 6), .none, (.fieldAddr 0 (.t 1))⟩,
  ⟨(.some 7), .none, (.load .none (.t 6))⟩,
  ⟨(.some 8), .none, (.un .not (.t 7))⟩,
  ⟨(.some 9), .none, (.fieldAddr 1 (.t 1))⟩,
  ⟨(.some 10), .none, (.load .none (.t 9))⟩,
  ⟨(.some 11), .none, (.fieldAddr 2 (.t 1))⟩,
  ⟨(.some 12), .none, (.load .none (.t 11))⟩,
  ⟨(.some 13), .none, (.build [(.d (.bool .false)), (.d (.int .u64 0)), (.d (.int .u64 0))] [⟨0, ⟨1, (.t 8)⟩⟩, ⟨1, ⟨1, (.t 10)⟩⟩, ⟨2, ⟨1, (.t 12)⟩⟩])⟩,
  ⟨.none, .none, (.store 3 (.t 2) (.t 13))⟩]
abbrev c_poundageref01_Opposite : AFunc := ⟨14, [(.cell 2 (.some 3))], (.seq (.ops c_poundageref01_Opposite_r0) (.seq (.seq (.ops c_poundageref01_Opposite_r1) (.cond (.t 4) (.seq (.ops c_poundageref01_Opposite_r2) .ret) .skip)) (.seq (.ops c_poundageref01_Opposite_r3) .ret)))⟩
theorem comp_poundageref01_Opposite : funcC Try.prog 45 = some c_poundageref01_Opposite := by kernel_rfl
abbrev f_poundageref02_edge : FuncId := 46
abbrev c_poundageref02_edge_r0 : List AO := [⟨(.some 3), .none, (.box 94 (.t 0))⟩,
  ⟨(.some 6), .none, (.mov (.c (.d (.int .i64 0))))⟩,
  ⟨(.some 7), .none, (.mov (.c (.d (.bool .false))))⟩]
abbrev c_poundageref02_edge_r1 : List AO := [⟨(.some 8), .none, (.mov (.c (.d (.int .i64 (-9223372036854775808)))))⟩]
abbrev c_poundageref02_edge_r2 : List AO := [⟨(.some 11), .none, (.mov (.t 8))⟩,
  ⟨(.some 12), .none, (.mov (.t 1))⟩,
  ⟨(.some 13), .none, (.pcall 41 [(.t 11), (.t 12)])⟩,
  ⟨(.some 14), .none, (.loadS (.some 3) (.t 3) [9])⟩,
  ⟨(.some 15), .none, (.pcall 45 [(.t 14)])⟩,
  ⟨(.some 16), .none, (.pcall 42 [(.t 13), (.t 15)])⟩,
  ⟨(.some 9), .none, (.alloc 94 [(.d (.bool .false)), (.d (.int .u64 0)), (.d (.int .u64 0))])⟩,
  ⟨.none, .none, (.storeS 3 9 (.t 16))⟩]
abbrev c_poundageref02_edge_r3 : List AO := [⟨(.some 17), .none, (.fieldAddr 0 (.t 9))⟩,
  ⟨(.some 18), .none, (.load .none (.t 17))⟩,
  ⟨(.some 19), .none, (.mov (.t 18))⟩,
  ⟨(.some 20), (.some ⟨19, .false⟩), (.fieldAddr 1 (.t 9))⟩,
  ⟨(.some 21), (.some ⟨19, .false⟩), (.load .none (.t 20))⟩,
  ⟨(.some 22), (.some ⟨19, .false⟩), (.bin .gtr (.t 21) (.c (.d (.int .u64 0))))⟩,
  ⟨(.some 23), .none, (.pick (.t 19) (.c (.d (.bool .true))) (.t 22))⟩,
  ⟨(.some 24), .none, (.mov (.t 23))⟩,
  ⟨(.some 25), (.some ⟨24, .false⟩), (.fieldAddr 2 (.t 9))⟩,
  ⟨(.some 26), (.some ⟨24, .false⟩), (.load .none (.t 25))⟩,
  ⟨(.some 27), (.some ⟨24, .false⟩), (.mov (.t 1))⟩,
  ⟨(.some 28), (.some ⟨24, .false⟩), (.conv .u64 (.t 27))⟩,
  ⟨(.some 29), (.some ⟨24, .false⟩), (.bin .geq (.t 26) (.t 28))⟩,
  ⟨(.some 30), .none, (.pick (.t 24) (.c (.d (.bool .true))) (.t 29))⟩]
abbrev c_poundageref02_edge_r4 : List AO := [⟨(.some 6), .none, (.mov (.c (.d (.int .i64 0))))⟩,
  ⟨(.some 7), .none, (.mov (.c (.d (.bool .false))))⟩]
abbrev c_poundageref02_edge_r5 : List AO := [⟨(.some 31), .none, (.mov (.t 1))⟩,
  ⟨(.some 32), .none, (.conv .u64 (.t 31))⟩,
  ⟨(.some 33), .none, (.fieldAddr 2 (.t 9))⟩,
  ⟨(.some 34), .none, (.load .none (.t 33))⟩,
  ⟨(.some 35), .none, (.bin .sub (.t 32) (.t 34))⟩,
  ⟨(.some 10), .none, (.mov (.t 35))⟩]
abbrev c_poundageref02_edge_r6 : List AO := [⟨(.some 36), .none, (.mov (.t 2))⟩,
  ⟨(.some 37), .none, (.bin .eql (.t 36) (.c (.d (.int .i64 1))))⟩,
  ⟨(.some 38), .none, (.mov (.t 37))⟩,
  ⟨(.some 39), (.some ⟨38, .false⟩), (.mov (.t 2))⟩,
  ⟨(.some 40), (.some ⟨38, .false⟩), (.bin .gtr (.t 39) (.c (.d (.int .i64 1))))⟩,
  ⟨(.some 41), (.some ⟨38, .false⟩), (.mov (.t 40))⟩,
  ⟨(.some 42), (.some ⟨41, .true⟩), (.fieldAddr 2 (.t 9))⟩,
  ⟨(.some 43), (.some ⟨41, .true⟩), (.load .none (.t 42))⟩,
  ⟨(.some 44), (.some ⟨41, .true⟩), (.mov (.t 10))⟩,
  ⟨(.some 45), (.some ⟨41, .true⟩), (.bin .lss (.t 43) (.t 44))⟩,
  ⟨(.some 46), (.some ⟨41, .true⟩), (.mov (.t 45))⟩,
  ⟨(.some 47), (.some ⟨46, .false⟩), (.fieldAddr 2 (.t 9))⟩,
  ⟨(.some 48), (.some ⟨46, .false⟩), (.load .none (.t 47))⟩,
  ⟨(.some 49), (.some ⟨46, .false⟩), (.mov (.t 10))⟩,
  ⟨(.some 50), (.some ⟨46, .false⟩), (.bin .eql (.t 48) (.t 49))⟩,
  ⟨(.some 51), (.some ⟨41, .true⟩), (.pick (.t 46) (.c (.d (.bool .true))) (.t 50))⟩,
  ⟨(.some 52), (.some ⟨38, .false⟩), (.pick (.t 41) (.t 51) (.c (.d (.bool .false))))⟩,
  ⟨(.some 53), .none, (.pick (.t 38) (.c (.d (.bool .true))) (.t 52))⟩]
abbrev c_poundageref02_edge_r7 : List AO := [⟨(.some 54), .none, (.mov (.t 8))⟩,
  ⟨(.some 6), .none, (.mov (.t 54))⟩,
  ⟨(.some 7), .none, (.mov (.c (.d (.bool .true))))⟩]
abbrev c_poundageref02_edge_r8 : List AO := [⟨(.some 6), .none, (.mov (.c (.d (.int .i64 0))))⟩,
  ⟨(.some 7), .none, (.mov (.c (.d (.bool .false))))⟩]
abbrev c_poundageref02_edge : AFunc := ⟨55, [(.tmp 6), (.tmp 7)], (.seq (.ops c_poundageref02_edge_r0) (.seq (.ops c_poundageref02_edge_r1) (.seq (.dops c_poundageref02_edge_r2) (.seq (.seq (.ops c_poundageref02_edge_r3) (.cond (.t 30) (.seq (.ops c_poundageref02_edge_r4) .ret) .skip)) (.seq (.ops c_poundageref02_edge_r5) (.seq (.seq (.ops c_poundageref02_edge_r6) (.cond (.t 53) (.seq (.ops c_poundageref02_edge_r7) .ret) .skip)) (.seq (.ops c_poundageref02_edge_r8) .ret)))))))⟩
theorem comp_poundageref02_edge : funcC Try.prog 46 = some c_poundageref02_edge := by kernel_rfl
abbrev f_poundageref01_plus : FuncId := 47
abbrev c_poundageref01_plus_r0 : List AO := [⟨(.some 2), .none, (.box 94 (.t 0))⟩,
  ⟨(.some 3), .none, (.box 94 (.t 1))⟩,
  ⟨(.some 4), .none, (.alloc 94 [(.d (.bool .false)), (.d (.int .u64 0)), (.d (.int .u64 0))])⟩]
abbrev c_poundageref01_plus_r1 : List AO := [⟨(.some 7), .none, (.fieldAddr 2 (.t 2))⟩,
  ⟨(.some 8), .none, (.load .none (.t 7))⟩,
  ⟨(.some 9), .none, (.fieldAddr 2 (.t 3))⟩,
  ⟨(.some 10), .none, (.load .none (.t 9))⟩,
  ⟨(.some 11), .none, (.bin .add (.t 8) (.t 10))⟩,
  ⟨(.some 5), .none, (.mov (.t 11))⟩]
abbrev c_poundageref01_plus_r2 : List AO := [⟨(.some 12), .none, (.fieldAddr 1 (.t 2))⟩,
  ⟨(.some 13), .none, (.load .none (.t 12))⟩,
  ⟨(.some 14), .none, (.fieldAddr 1 (.t 3))⟩,
  ⟨(.some 15), .none, (.load .none (.t 14))⟩,
  ⟨(.some 16), .none, (.bin .add (.t 13) (.t 15))⟩,
  ⟨(.some 6), .none, (.mov (.t 16))⟩]
abbrev c_poundageref01_plus_r3 : List AO := [⟨(.some 17), .none, (.mov (.t 5))⟩,
  ⟨(.some 18), .none, (.fieldAddr 2 (.t 2))⟩,
  ⟨(.some 19), .none, (.load .none (.t 18))⟩,
  ⟨(.some 20), .none, (.bin .lss (.t 17) (.t 19))⟩]
abbrev c_poundageref01_plus_r4 : List AO := [⟨(.some 21), .none, (.mov (.t 6))⟩,
  ⟨(.some 22), .none, (.bin .add (.t 21) (.c (.d (.int .u64 1))))⟩,
  ⟨(.some 6), .none, (.mov (.t 22))⟩]
abbrev c_poundageref01_plus_r5 : List AO := [⟨(.some 23), .none, (.mov (.t 6))⟩,
  ⟨(.some 24), .none, (.mov (.t 5))⟩,
  ⟨(.some 25), .none, (.build [(.d (.bool .false)), (.d (.int .u64 0)), (.d (.int .u64 0))] [⟨0, ⟨1, (.c (.d (.bool .false)))⟩⟩, ⟨1, ⟨1, (.t 23)⟩⟩, ⟨2, ⟨1, (.t 24)⟩⟩])⟩,
  ⟨.none, .none, (.store 3 (.t 4) (.t 25))⟩]
abbrev c_poundageref01_plus : AFunc := ⟨26, [(.cell 4 (.some 3))], (.seq (.ops c_poundageref01_plus_r0) (.seq (.ops c_poundageref01_plus_r1) (.seq (.ops c_poundageref01_plus_r2) (.seq (.seq (.ops c_poundageref01_plus_r3) (.cond (.t 20) (.ops c_poundageref01_plus_r4) .skip)) (.seq (.ops c_poundageref01_plus_r5) .ret)))))⟩
theorem comp_poundageref01_plus : funcC Try.prog 47 = some c_poundageref01_plus := by kernel_rfl
abbrev f_poundageref01_Zero : FuncId := 48
abbrev c_poundageref01_Zero_r0 : List AO := [⟨(.some 1), .none, (.box 94 (.t 0))⟩,
  ⟨(.some 2), .none, (.mov (.c (.d (.bool .false))))⟩]
abbrev c_poundageref01_Zero_r1 : List AO := [⟨(.some 3), .none, (.fieldAddr 1 (.t 1))⟩,
  ⟨(.some 4), .none, (.load .none (.t 3))⟩,
  ⟨(.some 5), .none, (.bin .eql (.t 4) (.c (.d (.int .u64 0))))⟩,
  ⟨(.some 6), .none, (.mov (.t 5))⟩,
  ⟨(.some 7), (.some ⟨6, .true⟩), (.fieldAddr 2 (.t 1))⟩,
  ⟨(.some 8), (.some ⟨6, .true⟩), (.load .none (.t 7))⟩,
  ⟨(.some 9), (.some ⟨6, .true⟩), (.bin .eql (.t 8) (.c (.d (.int .u64 0))))⟩,
  ⟨(.some 10), .none, (.pick (.t 6) (.t 9) (.c (.d (.bool .false))))⟩,
  ⟨(.some 2), .none, (.mov (.t 10))⟩]
abbrev c_poundageref01_Zero : AFunc := ⟨11, [(.tmp 2)], (.seq (.ops c_poundageref01_Zero_r0) (.seq (.ops c_poundageref01_Zero_r1) .ret))⟩
theorem comp_poundageref01_Zero : funcC Try.prog 48 = some c_poundageref01_Zero := by kernel_rfl
abbrev f_poundageref01_size : FuncId := 49
abbrev c_poundageref01_size_r0 : List AO := [⟨(.some 2), .none, (.box 94 (.t 0))⟩,
  ⟨(.some 3), .none, (.box 94 (.t 1))⟩,
  ⟨(.some 4), .none, (.mov (.c (.d (.bool .false))))⟩]
abbrev c_poundageref01_size_r1 : List AO := [⟨(.some 5), .none, (.fieldAddr 1 (.t 2))⟩,
  ⟨(.some 6), .none, (.load .none (.t 5))⟩,
  ⟨(.some 7), .none, (.fieldAddr 1 (.t 3))⟩,
  ⟨(.some 8), .none, (.load .none (.t 7))⟩,
  ⟨(.some 9), .none, (.bin .lss (.t 6) (.t 8))⟩,
  ⟨(.some 10), .none, (.mov (.t 9))⟩,
  ⟨(.some 11), (.some ⟨10, .false⟩), (.fieldAddr 1 (.t 2))⟩,
  ⟨(.some 12), (.some ⟨10, .false⟩), (.load .none (.t 11))⟩,
  ⟨(.some 13), (.some ⟨10, .false⟩), (.fieldAddr 1 (.t 3))⟩,
  ⟨(.some 14), (.some ⟨10, .false⟩), (.load .none (.t 13))⟩,
  ⟨(.some 15), (.some ⟨10, .false⟩), (.bin .eql (.t 12) (.t 14))⟩,
  ⟨(.some 16), (.some ⟨10, .false⟩), (.mov (.t 15))⟩,
  ⟨(.some 17), (.some ⟨16, .true⟩), (.fieldAddr 2 (.t 2))⟩,
  ⟨(.some 18), (.some ⟨16, .true⟩), (.load .none (.t 17))⟩,
  ⟨(.some 19), (.some ⟨16, .true⟩), (.fieldAddr 2 (.t 3))⟩,
  ⟨(.some 20), (.some ⟨16, .true⟩), (.load .none (.t 19))⟩,
  ⟨(.some 21), (.some ⟨16, .true⟩), (.bin .lss (.t 18) (.t 20))⟩,
  ⟨(.some 22), (.some ⟨10, .false⟩), (.pick (.t 16) (.t 21) (.c (.d (.bool .false))))⟩,
  ⟨(.some 23), .none, (.pick (.t 10) (.c (.d (.bool .true))) (.t 22))⟩,
  ⟨(.some 4), .none, (.mov (.t 23))⟩]
abbrev c_poundageref01_size : AFunc := ⟨24, [(.tmp 4)], (.seq (.ops c_poundageref01_size_r0) (.seq (.ops c_poundageref01_size_r1) .ret))⟩
theorem comp_poundageref01_size : funcC Try.prog 49 = some c_poundageref01_size := by kernel_rfl
abbrev f_poundageref01_minus : FuncId := 50
abbrev c_poundageref01_minus_r0 : List AO := [⟨(.some 2), .none, (.box 94 (.t 0))⟩,
  ⟨(.some 3), .none, (.box 94 (.t 1))⟩,
  ⟨(.some 4), .none, (.alloc 94 [(.d (.bool .false)), (.d (.int .u64 0)), (.d (.int .u64 0))])⟩]
abbrev c_poundageref01_minus_r1 : List AO := [⟨(.some 7), .none, (.fieldAddr 2 (.t 2))⟩,
  ⟨(.some 8), .none, (.load .none (.t 7))⟩,
  ⟨(.some 9), .none, (.fieldAddr 2 (.t 3))⟩,
  ⟨(.some 10), .none, (.load .none (.t 9))⟩,
  ⟨(.some 11), .none, (.bin .sub (.t 8) (.t 10))⟩,
  ⟨(.some 5), .none, (.mov (.t 11))⟩]
abbrev c_poundageref01_minus_r2 : List AO := [⟨(.some 12), .none, (.fieldAddr 1 (.t 2))⟩,
  ⟨(.some 13), .none, (.load .none (.t 12))⟩,
  ⟨(.some 14), .none, (.fieldAddr 1 (.t 3))⟩,
  ⟨(.some 15), .none, (.load .none (.t 14))⟩,
  ⟨(.some 16), .none, (.bin .sub (.t 13) (.t 15))⟩,
  ⟨(.some 6), .none, (.mov (.t 16))⟩]
abbrev c_poundageref01_minus_r3 : List AO := [⟨(.some 17), .none, (.fieldAddr 2 (.t 2))⟩,
  ⟨(.some 18), .none, (.load .none (.t 17))⟩,
  ⟨(.some 19), .none, (.fieldAddr 2 (.t 3))⟩,
  ⟨(.some 20), .none, (.load .none (.t 19))⟩,
  ⟨(.some 21), .none, (.bin .lss (.t 18) (.t 20))⟩]
abbrev c_poundageref01_minus_r4 : List AO := [⟨(.some 22), .none, (.mov (.t 6))⟩,
  ⟨(.some 23), .none, (.bin .sub (.t 22) (.c (.d (.int .u64 1))))⟩,
  ⟨(.some 6), .none, (.mov (.t 23))⟩]
abbrev c_poundageref01_minus_r5 : List AO := [⟨(.some 24), .none, (.mov (.t 6))⟩,
  ⟨(.some 25), .none, (.mov (.t 5))⟩,
  ⟨(.some 26), .none, (.build [(.d (.bool .false)), (.d (.int .u64 0)), (.d (.int .u64 0))] [⟨0, ⟨1, (.c (.d (.bool .false)))⟩⟩, ⟨1, ⟨1, (.t 24)⟩⟩, ⟨2, ⟨1, (.t 25)⟩⟩])⟩,
  ⟨.none, .none, (.store 3 (.t 4) (.t 26))⟩]
abbrev c_poundageref01_minus : AFunc := ⟨27, [(.cell 4 (.some 3))], (.seq (.ops c_poundageref01_minus_r0) (.seq (.ops c_poundageref01_minus_r1) (.seq (.ops c_poundageref01_minus_r2) (.seq (.seq (.ops c_poundageref01_minus_r3) (.cond (.t 21) (.ops c_poundageref01_minus_r4) .skip)) (.seq (.ops c_poundageref01_minus_r5) .ret)))))⟩
theorem comp_poundageref01_minus : funcC Try.prog 50 = some c_poundageref01_minus := by kernel_rfl
abbrev f_poundageref02_under : FuncId := 51
abbrev c_poundageref02_under_r0 : List AO := [⟨(.some 5), .none, (.box 94 (.t 2))⟩,
  ⟨(.some 6), .none, (.mov (.c (.d (.bool .false))))⟩]
abbrev c_poundageref02_under_r1 : List AO := [⟨(.some 8), .none, (.mov (.t 0))⟩,
  ⟨(.some 9), .none, (.mov (.t 1))⟩,
  ⟨(.some 7), .none, (.load (.some 3) (.t 5))⟩,
  ⟨(.some 10), .none, (.pcall 41 [(.t 8), (.t 9)])⟩,
  ⟨(.some 11), .none, (.call 52 [(.t 7), (.t 10)])⟩,
  ⟨(.some 12), .none, (.un .not (.t 11))⟩,
  ⟨(.some 6), .none, (.mov (.t 12))⟩]
abbrev c_poundageref02_under : AFunc := ⟨13, [(.tmp 6)], (.seq (.ops c_poundageref02_under_r0) (.seq (.dops c_poundageref02_under_r1) .ret))⟩
theorem comp_poundageref02_under : funcC Try.prog 51 = some c_poundageref02_under := by kernel_rfl
abbrev f_poundageref01_Less : FuncId := 52
abbrev c_poundageref01_Less_r0 : List AO := [⟨(.some 2), .none, (.box 94 (.t 0))⟩,
  ⟨(.some 3), .none, (.box 94 (.t 1))⟩,
  ⟨(.some 4), .none, (.mov (.c (.d (.bool .false))))⟩]
abbrev c_poundageref01_Less_r1 : List AO := [⟨(.some 6), .none, (.loadS (.some 3) (.t 2) [5])⟩,
  ⟨(.some 7), .none, (.loadS (.some 3) (.t 3) [5])⟩,
  ⟨(.some 8), .none, (.pcall 45 [(.t 7)])⟩,
  ⟨(.some 9), .none, (.pcall 42 [(.t 6), (.t 8)])⟩,
  ⟨(.some 5), .none, (.alloc 94 [(.d (.bool .false)), (.d (.int .u64 0)), (.d (.int .u64 0))])⟩,
  ⟨.none, .none, (.storeS 3 5 (.t 9))⟩]
abbrev c_poundageref01_Less_r2 : List AO := [⟨(.some 10), .none, (.fieldAddr 0 (.t 5))⟩,
  ⟨(.some 11), .none, (.load .none (.t 10))⟩,
  ⟨(.some 4), .none, (.mov (.t 11))⟩]
abbrev c_poundageref01_Less : AFunc := ⟨12, [(.tmp 4)], (.seq (.ops c_poundageref01_Less_r0) (.seq (.dops c_poundageref01_Less_r1) (.seq (.ops c_poundageref01_Less_r2) .ret)))⟩
theorem comp_poundageref01_Less : funcC Try.prog 52 = some c_poundageref01_Less := by kernel_rfl
end Go.Proofs.Ytnldlmlnedamlaa.Abs
