/- The code of the machine and the contracts of one law (joined by kmerge.py). No claim stands here. -/
import Derived.KernelRfl
import Derived.Test.YtcneeilongpakaaProg
import Derived.Test.YtcneeilongpakaaMab
set_option maxRecDepth 100000
set_option linter.unusedSimpArgs false
set_option linter.unusedVariables false
namespace Go.Proofs.Ytcneeilongpakaa.Abs
open Go Go.RowKit Go.Proofs
abbrev f_poundagelaw16_AlgebraBack : FuncId := 3
abbrev c_poundagelaw16_AlgebraBack_r0 : List AO := [⟨(.some 2), .none, (.box 24 (.t 0))⟩,
  ⟨(.some 3), .none, (.box 24 (.t 1))⟩,
  ⟨(.some 4), .none, (.mov (.c (.d (.bool .false))))⟩]
abbrev c_poundagelaw16_AlgebraBack_r1 : List AO := [⟨(.some 17), .none, (.call 4 [])⟩,
  ⟨(.some 18), .none, (.un .not (.t 17))⟩]
abbrev c_poundagelaw16_AlgebraBack_r2 : List AO := [⟨(.some 4), .none, (.mov (.c (.d (.bool .false))))⟩]
abbrev c_poundagelaw16_AlgebraBack_r3 : List AO := [⟨(.some 19), .none, (.load (.some 2) (.t 2))⟩,
  ⟨(.some 20), .none, (.call 5 [(.t 19)])⟩,
  ⟨(.some 21), .none, (.mov (.t 20))⟩,
  ⟨(.some 22), (.some ⟨21, .false⟩), (.load (.some 2) (.t 3))⟩,
  ⟨(.some 23), (.some ⟨21, .false⟩), (.call 5 [(.t 22)])⟩,
  ⟨(.some 24), .none, (.pick (.t 21) (.c (.d (.bool .true))) (.t 23))⟩]
abbrev c_poundagelaw16_AlgebraBack_r4 : List AO := [⟨(.some 4), .none, (.mov (.c (.d (.bool .true))))⟩]
abbrev c_poundagelaw16_AlgebraBack_r5 : List AO := [⟨(.some 26), .none, (.load (.some 2) (.t 2))⟩,
  ⟨(.some 27), .none, (.load (.some 2) (.t 3))⟩,
  ⟨(.some 28), .none, (.call 6 [(.t 26), (.t 27)])⟩,
  ⟨(.some 25), .none, (.mov (.t 28))⟩,
  ⟨(.some 29), .none, (.extract (.t 25) 0)⟩,
  ⟨(.some 30), .none, (.extract (.t 25) 1)⟩,
  ⟨(.some 5), .none, (.alloc 24 [(.d (.int .i64 0)), (.nilsl 5)])⟩,
  ⟨.none, .none, (.store 2 (.t 5) (.t 29))⟩,
  ⟨(.some 6), .none, (.mov (.t 30))⟩]
abbrev c_poundagelaw16_AlgebraBack_r6 : List AO := [⟨(.some 31), .none, (.mov (.t 6))⟩,
  ⟨(.some 32), .none, (.un .not (.t 31))⟩]
abbrev c_poundagelaw16_AlgebraBack_r7 : List AO := [⟨(.some 4), .none, (.mov (.c (.d (.bool .true))))⟩]
abbrev c_poundagelaw16_AlgebraBack_r8 : List AO := [⟨(.some 34), .none, (.load (.some 2) (.t 5))⟩,
  ⟨(.some 35), .none, (.load (.some 2) (.t 3))⟩,
  ⟨(.some 36), .none, (.call 7 [(.t 34), (.t 35)])⟩,
  ⟨(.some 33), .none, (.mov (.t 36))⟩,
  ⟨(.some 37), .none, (.extract (.t 33) 0)⟩,
  ⟨(.some 38), .none, (.extract (.t 33) 1)⟩,
  ⟨(.some 7), .none, (.alloc 24 [(.d (.int .i64 0)), (.nilsl 5)])⟩,
  ⟨.none, .none, (.store 2 (.t 7) (.t 37))⟩,
  ⟨(.some 8), .none, (.mov (.t 38))⟩]
abbrev c_poundagelaw16_AlgebraBack_r9 : List AO := [⟨(.some 39), .none, (.mov (.t 8))⟩,
  ⟨(.some 40), .none, (.un .not (.t 39))⟩,
  ⟨(.some 41), .none, (.mov (.t 40))⟩,
  ⟨(.some 42), (.some ⟨41, .false⟩), (.load (.some 2) (.t 7))⟩,
  ⟨(.some 43), (.some ⟨41, .false⟩), (.load (.some 2) (.t 2))⟩,
  ⟨(.some 44), (.some ⟨41, .false⟩), (.call 8 [(.t 42), (.t 43)])⟩,
  ⟨(.some 45), (.some ⟨41, .false⟩), (.un .not (.t 44))⟩,
  ⟨(.some 46), .none, (.pick (.t 41) (.c (.d (.bool .true))) (.t 45))⟩]
abbrev c_poundagelaw16_AlgebraBack_r10 : List AO := [⟨(.some 4), .none, (.mov (.c (.d (.bool .false))))⟩]
abbrev c_poundagelaw16_AlgebraBack_r11 : List AO := [⟨(.some 48), .none, (.load (.some 2) (.t 2))⟩,
  ⟨(.some 49), .none, (.load (.some 2) (.t 3))⟩,
  ⟨(.some 50), .none, (.call 9 [(.t 48), (.t 49)])⟩,
  ⟨(.some 47), .none, (.mov (.t 50))⟩,
  ⟨(.some 51), .none, (.extract (.t 47) 0)⟩,
  ⟨(.some 52), .none, (.extract (.t 47) 1)⟩,
  ⟨(.some 9), .none, (.alloc 24 [(.d (.int .i64 0)), (.nilsl 5)])⟩,
  ⟨.none, .none, (.store 2 (.t 9) (.t 51))⟩,
  ⟨(.some 10), .none, (.mov (.t 52))⟩]
abbrev c_poundagelaw16_AlgebraBack_r12 : List AO := [⟨(.some 54), .none, (.load (.some 2) (.t 2))⟩,
  ⟨(.some 55), .none, (.load (.some 2) (.t 3))⟩,
  ⟨(.some 56), .none, (.call 10 [(.t 54), (.t 55)])⟩,
  ⟨(.some 53), .none, (.mov (.t 56))⟩,
  ⟨(.some 57), .none, (.extract (.t 53) 0)⟩,
  ⟨(.some 58), .none, (.extract (.t 53) 1)⟩,
  ⟨(.some 11), .none, (.alloc 24 [(.d (.int .i64 0)), (.nilsl 5)])⟩,
  ⟨.none, .none, (.store 2 (.t 11) (.t 57))⟩,
  ⟨(.some 12), .none, (.mov (.t 58))⟩]
abbrev c_poundagelaw16_AlgebraBack_r13 : List AO := [⟨(.some 60), .none, (.load (.some 2) (.t 9))⟩,
  ⟨(.some 61), .none, (.load (.some 2) (.t 11))⟩,
  ⟨(.some 62), .none, (.call 6 [(.t 60), (.t 61)])⟩,
  ⟨(.some 59), .none, (.mov (.t 62))⟩,
  ⟨(.some 63), .none, (.extract (.t 59) 0)⟩,
  ⟨(.some 64), .none, (.extract (.t 59) 1)⟩,
  ⟨(.some 13), .none, (.alloc 24 [(.d (.int .i64 0)), (.nilsl 5)])⟩,
  ⟨.none, .none, (.store 2 (.t 13) (.t 63))⟩,
  ⟨(.some 14), .none, (.mov (.t 64))⟩]
abbrev c_poundagelaw16_AlgebraBack_r14 : List AO := [⟨(.some 66), .none, (.load (.some 2) (.t 2))⟩,
  ⟨(.some 67), .none, (.load (.some 2) (.t 2))⟩,
  ⟨(.some 68), .none, (.call 7 [(.t 66), (.t 67)])⟩,
  ⟨(.some 65), .none, (.mov (.t 68))⟩,
  ⟨(.some 69), .none, (.extract (.t 65) 0)⟩,
  ⟨(.some 70), .none, (.extract (.t 65) 1)⟩,
  ⟨(.some 15), .none, (.alloc 24 [(.d (.int .i64 0)), (.nilsl 5)])⟩,
  ⟨.none, .none, (.store 2 (.t 15) (.t 69))⟩,
  ⟨(.some 16), .none, (.mov (.t 70))⟩]
abbrev c_poundagelaw16_AlgebraBack_r15 : List AO := [⟨(.some 71), .none, (.mov (.t 10))⟩,
  ⟨(.some 72), .none, (.mov (.t 71))⟩,
  ⟨(.some 73), (.some ⟨72, .true⟩), (.mov (.t 12))⟩,
  ⟨(.some 74), .none, (.pick (.t 72) (.t 73) (.c (.d (.bool .false))))⟩,
  ⟨(.some 75), .none, (.mov (.t 74))⟩,
  ⟨(.some 76), (.some ⟨75, .true⟩), (.mov (.t 14))⟩,
  ⟨(.some 77), .none, (.pick (.t 75) (.t 76) (.c (.d (.bool .false))))⟩,
  ⟨(.some 78), .none, (.mov (.t 77))⟩,
  ⟨(.some 79), (.some ⟨78, .true⟩), (.mov (.t 16))⟩,
  ⟨(.some 80), .none, (.pick (.t 78) (.t 79) (.c (.d (.bool .false))))⟩,
  ⟨(.some 81), .none, (.mov (.t 80))⟩,
  ⟨(.some 82), (.some ⟨81, .true⟩), (.load (.some 2) (.t 5))⟩,
  ⟨(.some 83), (.some ⟨81, .true⟩), (.load (.some 2) (.t 13))⟩,
  ⟨(.some 84), (.some ⟨81, .true⟩), (.call 8 [(.t 82), (.t 83)])⟩,
  ⟨(.some 85), .none, (.pick (.t 81) (.t 84) (.c (.d (.bool .false))))⟩,
  ⟨(.some 86), .none, (.mov (.t 85))⟩,
  ⟨(.some 87), (.some ⟨86, .true⟩), (.fieldAddr 1 (.t 15))⟩,
  ⟨(.some 88), (.some ⟨86, .true⟩), (.load .none (.t 87))⟩,
  ⟨(.some 89), (.some ⟨86, .true⟩), (.len (.t 88))⟩,
  ⟨(.some 90), (.some ⟨86, .true⟩), (.bin .eql (.t 89) (.c (.d (.int .i64 1))))⟩,
  ⟨(.some 91), .none, (.pick (.t 86) (.t 90) (.c (.d (.bool .false))))⟩,
  ⟨(.some 92), .none, (.mov (.t 91))⟩,
  ⟨(.some 93), (.some ⟨92, .true⟩), (.fieldAddr 1 (.t 15))⟩,
  ⟨(.some 94), (.some ⟨92, .true⟩), (.load .none (.t 93))⟩,
  ⟨(.some 95), (.some ⟨92, .true⟩), (.elemAddr 5 (.t 94) (.c (.d (.int .i64 0))))⟩,
  ⟨(.some 96), (.some ⟨92, .true⟩), (.load (.some 5) (.t 95))⟩,
  ⟨(.some 97), (.some ⟨92, .true⟩), (.build [(.d (.int .i64 0)), (.d (.int .i64 0)), (.d (.int .i64 0)), (.d (.int .i64 0)), (.d (.int .i64 0))] [⟨4, ⟨1, (.c (.d (.int .i64 1)))⟩⟩])⟩,
  ⟨(.some 98), (.some ⟨92, .true⟩), (.eqAgg .false [0, 0, 0, 0, 0] (.t 96) (.t 97))⟩,
  ⟨(.some 99), .none, (.pick (.t 92) (.t 98) (.c (.d (.bool .false))))⟩,
  ⟨(.some 4), .none, (.mov (.t 99))⟩]
abbrev c_poundagelaw16_AlgebraBack : AFunc := ⟨100, [(.tmp 4)], (.seq (.ops c_poundagelaw16_AlgebraBack_r0) (.seq (.seq (.ops c_poundagelaw16_AlgebraBack_r1) (.cond (.t 18) (.seq (.ops c_poundagelaw16_AlgebraBack_r2) .ret) .skip)) (.seq (.seq (.ops c_poundagelaw16_AlgebraBack_r3) (.cond (.t 24) (.seq (.ops c_poundagelaw16_AlgebraBack_r4) .ret) .skip)) (.seq (.ops c_poundagelaw16_AlgebraBack_r5) (.seq (.seq (.ops c_poundagelaw16_AlgebraBack_r6) (.cond (.t 32) (.seq (.ops c_poundagelaw16_AlgebraBack_r7) .ret) .skip)) (.seq (.ops c_poundagelaw16_AlgebraBack_r8) (.seq (.seq (.ops c_poundagelaw16_AlgebraBack_r9) (.cond (.t 46) (.seq (.ops c_poundagelaw16_AlgebraBack_r10) .ret) .skip)) (.seq (.ops c_poundagelaw16_AlgebraBack_r11) (.seq (.ops c_poundagelaw16_AlgebraBack_r12) (.seq (.ops c_poundagelaw16_AlgebraBack_r13) (.seq (.ops c_poundagelaw16_AlgebraBack_r14) (.seq (.ops c_poundagelaw16_AlgebraBack_r15) .ret))))))))))))⟩
theorem comp_poundagelaw16_AlgebraBack : funcC Try.prog 3 = some c_poundagelaw16_AlgebraBack := by kernel_rfl
abbrev f_poundagelaw16_alive : FuncId := 4
abbrev c_poundagelaw16_alive_r0 : List AO := [⟨(.some 0), .none, (.mov (.c (.d (.bool .false))))⟩]
abbrev c_poundagelaw16_alive_r1 : List AO := [⟨(.some 6), .none, (.build [(.d (.int .i64 0)), (.d (.int .i64 0)), (.d (.int .i64 0)), (.d (.int .i64 0)), (.d (.int .i64 0))] [⟨2, ⟨1, (.c (.d (.int .i64 1)))⟩⟩, ⟨3, ⟨1, (.c (.d (.int .i64 1)))⟩⟩, ⟨4, ⟨1, (.c (.d (.int .i64 3)))⟩⟩])⟩,
  ⟨(.some 7), .none, (.buildSlice 31 5 1 [(.d (.int .i64 0)), (.d (.int .i64 0)), (.d (.int .i64 0)), (.d (.int .i64 0)), (.d (.int .i64 0))] [⟨0, (.t 6)⟩])⟩,
  ⟨(.some 8), .none, (.build [(.d (.int .i64 0)), (.nilsl 5)] [⟨0, ⟨1, (.c (.d (.int .i64 2)))⟩⟩, ⟨1, ⟨1, (.t 7)⟩⟩])⟩,
  ⟨(.some 1), .none, (.alloc 24 [(.d (.int .i64 0)), (.nilsl 5)])⟩,
  ⟨.none, .none, (.store 2 (.t 1) (.t 8))⟩]
abbrev c_poundagelaw16_alive_r2 : List AO := [⟨(.some 10), .none, (.call 11 [(.c (.d (.int .i64 2))), (.c (.d (.int .i64 5)))])⟩,
  ⟨(.some 9), .none, (.mov (.t 10))⟩,
  ⟨(.some 11), .none, (.extract (.t 9) 0)⟩,
  ⟨(.some 12), .none, (.extract (.t 9) 1)⟩,
  ⟨(.some 2), .none, (.alloc 24 [(.d (.int .i64 0)), (.nilsl 5)])⟩,
  ⟨.none, .none, (.store 2 (.t 2) (.t 11))⟩,
  ⟨(.some 3), .none, (.mov (.t 12))⟩]
abbrev c_poundagelaw16_alive_r3 : List AO := [⟨(.some 14), .none, (.load (.some 2) (.t 1))⟩,
  ⟨(.some 15), .none, (.load (.some 2) (.t 2))⟩,
  ⟨(.some 16), .none, (.call 6 [(.t 14), (.t 15)])⟩,
  ⟨(.some 13), .none, (.mov (.t 16))⟩,
  ⟨(.some 17), .none, (.extract (.t 13) 0)⟩,
  ⟨(.some 18), .none, (.extract (.t 13) 1)⟩,
  ⟨(.some 4), .none, (.alloc 24 [(.d (.int .i64 0)), (.nilsl 5)])⟩,
  ⟨.none, .none, (.store 2 (.t 4) (.t 17))⟩,
  ⟨(.some 5), .none, (.mov (.t 18))⟩]
abbrev c_poundagelaw16_alive_r4 : List AO := [⟨(.some 19), .none, (.mov (.t 3))⟩,
  ⟨(.some 20), .none, (.mov (.t 19))⟩,
  ⟨(.some 21), (.some ⟨20, .true⟩), (.mov (.t 5))⟩,
  ⟨(.some 22), .none, (.pick (.t 20) (.t 21) (.c (.d (.bool .false))))⟩,
  ⟨(.some 23), .none, (.mov (.t 22))⟩,
  ⟨(.some 24), (.some ⟨23, .true⟩), (.fieldAddr 1 (.t 4))⟩,
  ⟨(.some 25), (.some ⟨23, .true⟩), (.load .none (.t 24))⟩,
  ⟨(.some 26), (.some ⟨23, .true⟩), (.len (.t 25))⟩,
  ⟨(.some 27), (.some ⟨23, .true⟩), (.bin .eql (.t 26) (.c (.d (.int .i64 1))))⟩,
  ⟨(.some 28), .none, (.pick (.t 23) (.t 27) (.c (.d (.bool .false))))⟩,
  ⟨(.some 29), .none, (.mov (.t 28))⟩,
  ⟨(.some 30), (.some ⟨29, .true⟩), (.fieldAddr 1 (.t 4))⟩,
  ⟨(.some 31), (.some ⟨29, .true⟩), (.load .none (.t 30))⟩,
  ⟨(.some 32), (.some ⟨29, .true⟩), (.elemAddr 5 (.t 31) (.c (.d (.int .i64 0))))⟩,
  ⟨(.some 33), (.some ⟨29, .true⟩), (.load (.some 5) (.t 32))⟩,
  ⟨(.some 34), (.some ⟨29, .true⟩), (.build [(.d (.int .i64 0)), (.d (.int .i64 0)), (.d (.int .i64 0)), (.d (.int .i64 0)), (.d (.int .i64 0))] [⟨1, ⟨1, (.c (.d (.int .i64 5)))⟩⟩, ⟨2, ⟨1, (.c (.d (.int .i64 1)))⟩⟩, ⟨3, ⟨1, (.c (.d (.int .i64 1)))⟩⟩, ⟨4, ⟨1, (.c (.d (.int .i64 3)))⟩⟩])⟩,
  ⟨(.some 35), (.some ⟨29, .true⟩), (.eqAgg .false [0, 0, 0, 0, 0] (.t 33) (.t 34))⟩,
  ⟨(.some 36), .none, (.pick (.t 29) (.t 35) (.c (.d (.bool .false))))⟩,
  ⟨(.some 0), .none, (.mov (.t 36))⟩]
abbrev c_poundagelaw16_alive : AFunc := ⟨37, [(.tmp 0)], (.seq (.ops c_poundagelaw16_alive_r0) (.seq (.ops c_poundagelaw16_alive_r1) (.seq (.ops c_poundagelaw16_alive_r2) (.seq (.ops c_poundagelaw16_alive_r3) (.seq (.ops c_poundagelaw16_alive_r4) .ret)))))⟩
theorem comp_poundagelaw16_alive : funcC Try.prog 4 = some c_poundagelaw16_alive := by kernel_rfl
abbrev f_poundagelaw16_great : FuncId := 5
abbrev c_poundagelaw16_great_r0 : List AO := [⟨(.some 1), .none, (.box 24 (.t 0))⟩,
  ⟨(.some 2), .none, (.mov (.c (.d (.bool .false))))⟩]
abbrev c_poundagelaw16_great_r1 : List AO := [⟨(.some 3), .none, (.fieldAddr 1 (.t 1))⟩,
  ⟨(.some 4), .none, (.load .none (.t 3))⟩,
  ⟨(.some 5), .none, (.len (.t 4))⟩,
  ⟨(.some 6), .none, (.bin .gtr (.t 5) (.c (.d (.int .i64 3000))))⟩,
  ⟨(.some 2), .none, (.mov (.t 6))⟩]
abbrev c_poundagelaw16_great : AFunc := ⟨7, [(.tmp 2)], (.seq (.ops c_poundagelaw16_great_r0) (.seq (.ops c_poundagelaw16_great_r1) .ret))⟩
theorem comp_poundagelaw16_great : funcC Try.prog 5 = some c_poundagelaw16_great := by kernel_rfl
abbrev f_algebra_Sum : FuncId := 6
abbrev c_algebra_Sum_r0 : List AO := [⟨(.some 2), .none, (.box 24 (.t 0))⟩,
  ⟨(.some 3), .none, (.box 24 (.t 1))⟩,
  ⟨(.some 4), .none, (.alloc 24 [(.d (.int .i64 0)), (.nilsl 5)])⟩,
  ⟨(.some 5), .none, (.mov (.c (.d (.bool .false))))⟩]
abbrev c_algebra_Sum_r1 : List AO := [⟨(.some 6), .none, (.load (.some 2) (.t 2))⟩,
  ⟨(.some 7), .none, (.load (.some 2) (.t 3))⟩,
  ⟨(.some 8), .none, (.call 12 [(.t 6), (.t 7), (.c (.fn 13 []))])⟩,
  ⟨(.some 9), .none, (.extract (.t 8) 0)⟩,
  ⟨(.some 10), .none, (.extract (.t 8) 1)⟩,
  ⟨.none, .none, (.store 2 (.t 4) (.t 9))⟩,
  ⟨(.some 5), .none, (.mov (.t 10))⟩]
abbrev c_algebra_Sum : AFunc := ⟨11, [(.cell 4 (.some 2)), (.tmp 5)], (.seq (.ops c_algebra_Sum_r0) (.seq (.ops c_algebra_Sum_r1) .ret))⟩
theorem comp_algebra_Sum : funcC Try.prog 6 = some c_algebra_Sum := by kernel_rfl
abbrev f_algebra_Diff : FuncId := 7
abbrev c_algebra_Diff_r0 : List AO := [⟨(.some 2), .none, (.box 24 (.t 0))⟩,
  ⟨(.some 3), .none, (.box 24 (.t 1))⟩,
  ⟨(.some 4), .none, (.alloc 24 [(.d (.int .i64 0)), (.nilsl 5)])⟩,
  ⟨(.some 5), .none, (.mov (.c (.d (.bool .false))))⟩]
abbrev c_algebra_Diff_r1 : List AO := [⟨(.some 6), .none, (.load (.some 2) (.t 2))⟩,
  ⟨(.some 7), .none, (.load (.some 2) (.t 3))⟩,
  ⟨(.some 8), .none, (.call 12 [(.t 6), (.t 7), (.c (.fn 14 []))])⟩,
  ⟨(.some 9), .none, (.extract (.t 8) 0)⟩,
  ⟨(.some 10), .none, (.extract (.t 8) 1)⟩,
  ⟨.none, .none, (.store 2 (.t 4) (.t 9))⟩,
  ⟨(.some 5), .none, (.mov (.t 10))⟩]
abbrev c_algebra_Diff : AFunc := ⟨11, [(.cell 4 (.some 2)), (.tmp 5)], (.seq (.ops c_algebra_Diff_r0) (.seq (.ops c_algebra_Diff_r1) .ret))⟩
theorem comp_algebra_Diff : funcC Try.prog 7 = some c_algebra_Diff := by kernel_rfl
abbrev f_poundageref15_Same : FuncId := 8
abbrev c_poundageref15_Same_r0 : List AO := [⟨(.some 2), .none, (.box 24 (.t 0))⟩,
  ⟨(.some 3), .none, (.box 24 (.t 1))⟩,
  ⟨(.some 4), .none, (.mov (.c (.d (.bool .false))))⟩]
abbrev c_poundageref15_Same_r1 : List AO := [⟨(.some 6), .none, (.fieldAddr 0 (.t 2))⟩,
  ⟨(.some 7), .none, (.load .none (.t 6))⟩,
  ⟨(.some 8), .none, (.fieldAddr 0 (.t 3))⟩,
  ⟨(.some 9), .none, (.load .none (.t 8))⟩,
  ⟨(.some 10), .none, (.bin .neq (.t 7) (.t 9))⟩,
  ⟨(.some 11), .none, (.mov (.t 10))⟩,
  ⟨(.some 12), (.some ⟨11, .false⟩), (.fieldAddr 1 (.t 2))⟩,
  ⟨(.some 13), (.some ⟨11, .false⟩), (.load .none (.t 12))⟩,
  ⟨(.some 14), (.some ⟨11, .false⟩), (.len (.t 13))⟩,
  ⟨(.some 15), (.some ⟨11, .false⟩), (.fieldAddr 1 (.t 3))⟩,
  ⟨(.some 16), (.some ⟨11, .false⟩), (.load .none (.t 15))⟩,
  ⟨(.some 17), (.some ⟨11, .false⟩), (.len (.t 16))⟩,
  ⟨(.some 18), (.some ⟨11, .false⟩), (.bin .neq (.t 14) (.t 17))⟩,
  ⟨(.some 19), .none, (.pick (.t 11) (.c (.d (.bool .true))) (.t 18))⟩]
abbrev c_poundageref15_Same_r2 : List AO := [⟨(.some 4), .none, (.mov (.c (.d (.bool .false))))⟩]
abbrev c_poundageref15_Same_r3 : List AO := [⟨(.some 20), .none, (.fieldAddr 1 (.t 2))⟩,
  ⟨(.some 21), .none, (.load .none (.t 20))⟩,
  ⟨(.some 22), .none, (.len (.t 21))⟩,
  ⟨(.some 23), .none, (.mov (.c (.d (.int .i64 0))))⟩]
abbrev c_poundageref15_Same_r4 : List AO := [⟨(.some 24), .none, (.bin .lss (.t 23) (.t 22))⟩]
abbrev c_poundageref15_Same_r5 : List AO := [⟨(.some 25), .none, (.mov (.t 23))⟩,
  ⟨(.some 5), .none, (.mov (.t 25))⟩]
abbrev c_poundageref15_Same_r6 : List AO := [⟨(.some 26), .none, (.fieldAddr 1 (.t 2))⟩,
  ⟨(.some 28), .none, (.mov (.t 5))⟩,
  ⟨(.some 31), .none, (.fieldAddr 1 (.t 3))⟩,
  ⟨(.some 33), .none, (.mov (.t 5))⟩,
  ⟨(.some 27), .none, (.load .none (.t 26))⟩,
  ⟨(.some 29), .none, (.elemAddr 5 (.t 27) (.t 28))⟩,
  ⟨(.some 30), .none, (.load (.some 5) (.t 29))⟩,
  ⟨(.some 32), .none, (.load .none (.t 31))⟩,
  ⟨(.some 34), .none, (.elemAddr 5 (.t 32) (.t 33))⟩,
  ⟨(.some 35), .none, (.load (.some 5) (.t 34))⟩,
  ⟨(.some 36), .none, (.eqAgg .true [0, 0, 0, 0, 0] (.t 30) (.t 35))⟩]
abbrev c_poundageref15_Same_r7 : List AO := [⟨(.some 4), .none, (.mov (.c (.d (.bool .false))))⟩]
abbrev c_poundageref15_Same_r8 : List AO := [⟨(.some 37), .none, (.bin .add (.t 23) (.c (.d (.int .i64 1))))⟩,
  ⟨(.some 23), .none, (.mov (.t 37))⟩]
abbrev c_poundageref15_Same_l0 : ACode := (.seq (.ops c_poundageref15_Same_r4) (.seq (.cond (.t 24) .skip (.exit 0)) (.seq (.block 1 (.seq (.ops c_poundageref15_Same_r5) (.seq (.dops c_poundageref15_Same_r6) (.cond (.t 36) (.seq (.ops c_poundageref15_Same_r7) .ret) .skip)))) (.ops c_poundageref15_Same_r8))))
abbrev c_poundageref15_Same_r9 : List AO := [⟨(.some 4), .none, (.mov (.c (.d (.bool .true))))⟩]
abbrev c_poundageref15_Same : AFunc := ⟨38, [(.tmp 4)], (.seq (.ops c_poundageref15_Same_r0) (.seq (.seq (.ops c_poundageref15_Same_r1) (.cond (.t 19) (.seq (.ops c_poundageref15_Same_r2) .ret) .skip)) (.seq (.seq (.ops c_poundageref15_Same_r3) (.block 0 (.loop c_poundageref15_Same_l0))) (.seq (.ops c_poundageref15_Same_r9) .ret))))⟩
theorem comp_poundageref15_Same : funcC Try.prog 8 = some c_poundageref15_Same := by kernel_rfl
abbrev f_algebra_Lesser : FuncId := 9
abbrev c_algebra_Lesser_r0 : List AO := [⟨(.some 2), .none, (.box 24 (.t 0))⟩,
  ⟨(.some 3), .none, (.box 24 (.t 1))⟩,
  ⟨(.some 4), .none, (.alloc 24 [(.d (.int .i64 0)), (.nilsl 5)])⟩,
  ⟨(.some 5), .none, (.mov (.c (.d (.bool .false))))⟩]
abbrev c_algebra_Lesser_r1 : List AO := [⟨(.some 6), .none, (.load (.some 2) (.t 2))⟩,
  ⟨(.some 7), .none, (.load (.some 2) (.t 3))⟩,
  ⟨(.some 8), .none, (.call 12 [(.t 6), (.t 7), (.c (.fn 15 []))])⟩,
  ⟨(.some 9), .none, (.extract (.t 8) 0)⟩,
  ⟨(.some 10), .none, (.extract (.t 8) 1)⟩,
  ⟨.none, .none, (.store 2 (.t 4) (.t 9))⟩,
  ⟨(.some 5), .none, (.mov (.t 10))⟩]
abbrev c_algebra_Lesser : AFunc := ⟨11, [(.cell 4 (.some 2)), (.tmp 5)], (.seq (.ops c_algebra_Lesser_r0) (.seq (.ops c_algebra_Lesser_r1) .ret))⟩
theorem comp_algebra_Lesser : funcC Try.prog 9 = some c_algebra_Lesser := by kernel_rfl
abbrev f_algebra_Greater : FuncId := 10
abbrev c_algebra_Greater_r0 : List AO := [⟨(.some 2), .none, (.box 24 (.t 0))⟩,
  ⟨(.some 3), .none, (.box 24 (.t 1))⟩,
  ⟨(.some 4), .none, (.alloc 24 [(.d (.int .i64 0)), (.nilsl 5)])⟩,
  ⟨(.some 5), .none, (.mov (.c (.d (.bool .false))))⟩]
abbrev c_algebra_Greater_r1 : List AO := [⟨(.some 6), .none, (.load (.some 2) (.t 2))⟩,
  ⟨(.some 7), .none, (.load (.some 2) (.t 3))⟩,
  ⟨(.some 8), .none, (.call 12 [(.t 6), (.t 7), (.c (.fn 16 []))])⟩,
  ⟨(.some 9), .none, (.extract (.t 8) 0)⟩,
  ⟨(.some 10), .none, (.extract (.t 8) 1)⟩,
  ⟨.none, .none, (.store 2 (.t 4) (.t 9))⟩,
  ⟨(.some 5), .none, (.mov (.t 10))⟩]
abbrev c_algebra_Greater : AFunc := ⟨11, [(.cell 4 (.some 2)), (.tmp 5)], (.seq (.ops c_algebra_Greater_r0) (.seq (.ops c_algebra_Greater_r1) .ret))⟩
theorem comp_algebra_Greater : funcC Try.prog 10 = some c_algebra_Greater := by kernel_rfl
abbrev f_algebra_Flat : FuncId := 11
abbrev c_algebra_Flat_r0 : List AO := [⟨(.some 4), .none, (.alloc 24 [(.d (.int .i64 0)), (.nilsl 5)])⟩,
  ⟨(.some 5), .none, (.mov (.c (.d (.bool .false))))⟩]
abbrev c_algebra_Flat_r1 : List AO := [⟨(.some 6), .none, (.mov (.t 0))⟩,
  ⟨(.some 7), .none, (.mov (.t 1))⟩,
  ⟨(.some 8), .none, (.call 18 [(.c (.d (.int .i64 0))), (.t 6), (.t 7)])⟩,
  ⟨(.some 9), .none, (.call 17 [(.t 8)])⟩,
  ⟨(.some 10), .none, (.extract (.t 9) 0)⟩,
  ⟨(.some 11), .none, (.extract (.t 9) 1)⟩,
  ⟨.none, .none, (.store 2 (.t 4) (.t 10))⟩,
  ⟨(.some 5), .none, (.mov (.t 11))⟩]
abbrev c_algebra_Flat : AFunc := ⟨12, [(.cell 4 (.some 2)), (.tmp 5)], (.seq (.ops c_algebra_Flat_r0) (.seq (.ops c_algebra_Flat_r1) .ret))⟩
theorem comp_algebra_Flat : funcC Try.prog 11 = some c_algebra_Flat := by kernel_rfl
abbrev f_algebra_two : FuncId := 12
abbrev c_algebra_two_r0 : List AO := [⟨(.some 3), .none, (.box 24 (.t 0))⟩,
  ⟨(.some 4), .none, (.box 24 (.t 1))⟩,
  ⟨(.some 5), .none, (.box 34 (.t 2))⟩,
  ⟨(.some 6), .none, (.alloc 24 [(.d (.int .i64 0)), (.nilsl 5)])⟩,
  ⟨(.some 7), .none, (.mov (.c (.d (.bool .false))))⟩]
abbrev c_algebra_two_r1 : List AO := [⟨(.some 13), .none, (.load (.some 2) (.t 3))⟩,
  ⟨(.some 14), .none, (.load (.some 2) (.t 4))⟩,
  ⟨(.some 15), .none, (.call 19 [(.t 13), (.t 14)])⟩,
  ⟨(.some 12), .none, (.mov (.t 15))⟩,
  ⟨(.some 16), .none, (.extract (.t 12) 0)⟩,
  ⟨(.some 17), .none, (.extract (.t 12) 1)⟩,
  ⟨(.some 18), .none, (.extract (.t 12) 2)⟩,
  ⟨(.some 8), .none, (.alloc 38 [(.nilsl 3)])⟩,
  ⟨(.some 9), .none, (.alloc 38 [(.nilsl 3)])⟩,
  ⟨.none, .none, (.store 1 (.t 8) (.t 16))⟩,
  ⟨.none, .none, (.store 1 (.t 9) (.t 17))⟩,
  ⟨(.some 10), .none, (.mov (.t 18))⟩]
abbrev c_algebra_two_r2 : List AO := [⟨(.some 19), .none, (.mov (.t 10))⟩,
  ⟨(.some 20), .none, (.un .not (.t 19))⟩]
abbrev c_algebra_two_r3 : List AO := [⟨(.some 21), .none, (.build [(.d (.int .i64 0)), (.nilsl 5)] [])⟩,
  ⟨.none, .none, (.store 2 (.t 6) (.t 21))⟩,
  ⟨(.some 7), .none, (.mov (.c (.d (.bool .false))))⟩]
abbrev c_algebra_two_r4 : List AO := [⟨(.some 22), .none, (.build [(.d (.bool .false))] [])⟩,
  ⟨(.some 23), .none, (.box 44 (.t 22))⟩,
  ⟨(.some 11), .none, (.alloc 42 [.nilp])⟩,
  ⟨.none, .none, (.store 1 (.t 11) (.t 23))⟩]
abbrev c_algebra_two_r5 : List AO := [⟨(.some 27), .none, (.mkfn 22 [(.t 11), (.t 5)])⟩,
  ⟨(.some 24), .none, (.loadP .none 11)⟩,
  ⟨(.some 25), .none, (.load (.some 1) (.t 8))⟩,
  ⟨(.some 26), .none, (.load (.some 1) (.t 9))⟩,
  ⟨(.some 28), .none, (.callS 21 [(.t 25), (.t 26), (.t 27)] [11])⟩,
  ⟨(.some 29), .none, (.call 20 [(.t 24), (.t 28)])⟩,
  ⟨(.some 30), .none, (.extract (.t 29) 0)⟩,
  ⟨(.some 31), .none, (.extract (.t 29) 1)⟩,
  ⟨.none, .none, (.store 2 (.t 6) (.t 30))⟩,
  ⟨(.some 7), .none, (.mov (.t 31))⟩]
abbrev c_algebra_two : AFunc := ⟨32, [(.cell 6 (.some 2)), (.tmp 7)], (.seq (.ops c_algebra_two_r0) (.seq (.ops c_algebra_two_r1) (.seq (.seq (.ops c_algebra_two_r2) (.cond (.t 20) (.seq (.ops c_algebra_two_r3) .ret) .skip)) (.seq (.ops c_algebra_two_r4) (.seq (.dops c_algebra_two_r5) .ret)))))⟩
theorem comp_algebra_two : funcC Try.prog 12 = some c_algebra_two := by kernel_rfl
abbrev f_exact_Add : FuncId := 13
abbrev c_exact_Add_r0 : List AO := [⟨(.some 4), .none, (.mov (.c (.d (.int .i64 0))))⟩,
  ⟨(.some 5), .none, (.mov (.c (.d (.bool .false))))⟩]
abbrev c_exact_Add_r1 : List AO := [⟨(.some 6), .none, (.mov (.t 1))⟩,
  ⟨(.some 7), .none, (.bin .gtr (.t 6) (.c (.d (.int .i64 0))))⟩,
  ⟨(.some 8), .none, (.mov (.t 7))⟩,
  ⟨(.some 9), (.some ⟨8, .true⟩), (.mov (.t 0))⟩,
  ⟨(.some 10), (.some ⟨8, .true⟩), (.mov (.t 1))⟩,
  ⟨(.some 11), (.some ⟨8, .true⟩), (.bin .sub (.c (.d (.int .i64 9223372036854775807))) (.t 10))⟩,
  ⟨(.some 12), (.some ⟨8, .true⟩), (.bin .gtr (.t 9) (.t 11))⟩,
  ⟨(.some 13), .none, (.pick (.t 8) (.t 12) (.c (.d (.bool .false))))⟩,
  ⟨(.some 14), .none, (.mov (.t 13))⟩,
  ⟨(.some 15), (.some ⟨14, .false⟩), (.mov (.t 1))⟩,
  ⟨(.some 16), (.some ⟨14, .false⟩), (.bin .lss (.t 15) (.c (.d (.int .i64 0))))⟩,
  ⟨(.some 17), (.some ⟨14, .false⟩), (.mov (.t 16))⟩,
  ⟨(.some 18), (.some ⟨17, .true⟩), (.mov (.t 0))⟩,
  ⟨(.some 19), (.some ⟨17, .true⟩), (.mov (.t 1))⟩,
  ⟨(.some 20), (.some ⟨17, .true⟩), (.bin .sub (.c (.d (.int .i64 (-9223372036854775808)))) (.t 19))⟩,
  ⟨(.some 21), (.some ⟨17, .true⟩), (.bin .lss (.t 18) (.t 20))⟩,
  ⟨(.some 22), (.some ⟨14, .false⟩), (.pick (.t 17) (.t 21) (.c (.d (.bool .false))))⟩,
  ⟨(.some 23), .none, (.pick (.t 14) (.c (.d (.bool .true))) (.t 22))⟩]
abbrev c_exact_Add_r2 : List AO := [⟨(.some 4), .none, (.mov (.c (.d (.int .i64 0))))⟩,
  ⟨(.some 5), .none, (.mov (.c (.d (.bool .false))))⟩]
abbrev c_exact_Add_r3 : List AO := [⟨(.some 24), .none, (.mov (.t 0))⟩,
  ⟨(.some 25), .none, (.mov (.t 1))⟩,
  ⟨(.some 26), .none, (.bin .add (.t 24) (.t 25))⟩,
  ⟨(.some 4), .none, (.mov (.t 26))⟩,
  ⟨(.some 5), .none, (.mov (.c (.d (.bool .true))))⟩]
abbrev c_exact_Add : AFunc := ⟨27, [(.tmp 4), (.tmp 5)], (.seq (.ops c_exact_Add_r0) (.seq (.seq (.ops c_exact_Add_r1) (.cond (.t 23) (.seq (.ops c_exact_Add_r2) .ret) .skip)) (.seq (.ops c_exact_Add_r3) .ret)))⟩
theorem comp_exact_Add : funcC Try.prog 13 = some c_exact_Add := by kernel_rfl
abbrev f_exact_Sub : FuncId := 14
abbrev c_exact_Sub_r0 : List AO := [⟨(.some 4), .none, (.mov (.c (.d (.int .i64 0))))⟩,
  ⟨(.some 5), .none, (.mov (.c (.d (.bool .false))))⟩]
abbrev c_exact_Sub_r1 : List AO := [⟨(.some 6), .none, (.mov (.t 1))⟩,
  ⟨(.some 7), .none, (.bin .lss (.t 6) (.c (.d (.int .i64 0))))⟩,
  ⟨(.some 8), .none, (.mov (.t 7))⟩,
  ⟨(.some 9), (.some ⟨8, .true⟩), (.mov (.t 0))⟩,
  ⟨(.some 10), (.some ⟨8, .true⟩), (.mov (.t 1))⟩,
  ⟨(.some 11), (.some ⟨8, .true⟩), (.bin .add (.c (.d (.int .i64 9223372036854775807))) (.t 10))⟩,
  ⟨(.some 12), (.some ⟨8, .true⟩), (.bin .gtr (.t 9) (.t 11))⟩,
  ⟨(.some 13), .none, (.pick (.t 8) (.t 12) (.c (.d (.bool .false))))⟩,
  ⟨(.some 14), .none, (.mov (.t 13))⟩,
  ⟨(.some 15), (.some ⟨14, .false⟩), (.mov (.t 1))⟩,
  ⟨(.some 16), (.some ⟨14, .false⟩), (.bin .gtr (.t 15) (.c (.d (.int .i64 0))))⟩,
  ⟨(.some 17), (.some ⟨14, .false⟩), (.mov (.t 16))⟩,
  ⟨(.some 18), (.some ⟨17, .true⟩), (.mov (.t 0))⟩,
  ⟨(.some 19), (.some ⟨17, .true⟩), (.mov (.t 1))⟩,
  ⟨(.some 20), (.some ⟨17, .true⟩), (.bin .add (.c (.d (.int .i64 (-9223372036854775808)))) (.t 19))⟩,
  ⟨(.some 21), (.some ⟨17, .true⟩), (.bin .lss (.t 18) (.t 20))⟩,
  ⟨(.some 22), (.some ⟨14, .false⟩), (.pick (.t 17) (.t 21) (.c (.d (.bool .false))))⟩,
  ⟨(.some 23), .none, (.pick (.t 14) (.c (.d (.bool .true))) (.t 22))⟩]
abbrev c_exact_Sub_r2 : List AO := [⟨(.some 4), .none, (.mov (.c (.d (.int .i64 0))))⟩,
  ⟨(.some 5), .none, (.mov (.c (.d (.bool .false))))⟩]
abbrev c_exact_Sub_r3 : List AO := [⟨(.some 24), .none, (.mov (.t 0))⟩,
  ⟨(.some 25), .none, (.mov (.t 1))⟩,
  ⟨(.some 26), .none, (.bin .sub (.t 24) (.t 25))⟩,
  ⟨(.some 4), .none, (.mov (.t 26))⟩,
  ⟨(.some 5), .none, (.mov (.c (.d (.bool .true))))⟩]
abbrev c_exact_Sub : AFunc := ⟨27, [(.tmp 4), (.tmp 5)], (.seq (.ops c_exact_Sub_r0) (.seq (.seq (.ops c_exact_Sub_r1) (.cond (.t 23) (.seq (.ops c_exact_Sub_r2) .ret) .skip)) (.seq (.ops c_exact_Sub_r3) .ret)))⟩
theorem comp_exact_Sub : funcC Try.prog 14 = some c_exact_Sub := by kernel_rfl
abbrev f_algebra_Lesser_1 : FuncId := 15
abbrev c_algebra_Lesser_1_r0 : List AO := [⟨(.some 4), .none, (.mov (.c (.d (.int .i64 0))))⟩,
  ⟨(.some 5), .none, (.mov (.c (.d (.bool .false))))⟩]
abbrev c_algebra_Lesser_1_r1 : List AO := [⟨(.some 6), .none, (.mov (.t 0))⟩,
  ⟨(.some 7), .none, (.mov (.t 1))⟩,
  ⟨(.some 8), .none, (.minmax .false (.t 6) [(.t 7)])⟩,
  ⟨(.some 4), .none, (.mov (.t 8))⟩,
  ⟨(.some 5), .none, (.mov (.c (.d (.bool .true))))⟩]
abbrev c_algebra_Lesser_1 : AFunc := ⟨9, [(.tmp 4), (.tmp 5)], (.seq (.ops c_algebra_Lesser_1_r0) (.seq (.ops c_algebra_Lesser_1_r1) .ret))⟩
theorem comp_algebra_Lesser_1 : funcC Try.prog 15 = some c_algebra_Lesser_1 := by kernel_rfl
abbrev f_algebra_Greater_1 : FuncId := 16
abbrev c_algebra_Greater_1_r0 : List AO := [⟨(.some 4), .none, (.mov (.c (.d (.int .i64 0))))⟩,
  ⟨(.some 5), .none, (.mov (.c (.d (.bool .false))))⟩]
abbrev c_algebra_Greater_1_r1 : List AO := [⟨(.some 6), .none, (.mov (.t 0))⟩,
  ⟨(.some 7), .none, (.mov (.t 1))⟩,
  ⟨(.some 8), .none, (.minmax .true (.t 6) [(.t 7)])⟩,
  ⟨(.some 4), .none, (.mov (.t 8))⟩,
  ⟨(.some 5), .none, (.mov (.c (.d (.bool .true))))⟩]
abbrev c_algebra_Greater_1 : AFunc := ⟨9, [(.tmp 4), (.tmp 5)], (.seq (.ops c_algebra_Greater_1_r0) (.seq (.ops c_algebra_Greater_1_r1) .ret))⟩
theorem comp_algebra_Greater_1 : funcC Try.prog 16 = some c_algebra_Greater_1 := by kernel_rfl
abbrev f_curve_Of : FuncId := 17
abbrev c_curve_Of_r0 : List AO := [⟨(.some 1), .none, (.box 38 (.t 0))⟩,
  ⟨(.some 2), .none, (.alloc 24 [(.d (.int .i64 0)), (.nilsl 5)])⟩,
  ⟨(.some 3), .none, (.mov (.c (.d (.bool .false))))⟩]
abbrev c_curve_Of_r1 : List AO := [⟨(.some 12), .none, (.load (.some 1) (.t 1))⟩,
  ⟨(.some 13), .none, (.call 24 [(.t 12)])⟩,
  ⟨(.some 11), .none, (.mov (.t 13))⟩,
  ⟨(.some 14), .none, (.extract (.t 11) 0)⟩,
  ⟨(.some 15), .none, (.extract (.t 11) 1)⟩,
  ⟨(.some 16), .none, (.extract (.t 11) 2)⟩,
  ⟨(.some 4), .none, (.mov (.t 14))⟩,
  ⟨(.some 5), .none, (.mov (.t 15))⟩,
  ⟨(.some 6), .none, (.mov (.t 16))⟩]
abbrev c_curve_Of_r2 : List AO := [⟨(.some 17), .none, (.mov (.t 6))⟩,
  ⟨(.some 18), .none, (.un .not (.t 17))⟩,
  ⟨(.some 19), .none, (.mov (.t 18))⟩,
  ⟨(.some 20), (.some ⟨19, .false⟩), (.mov (.t 4))⟩,
  ⟨(.some 21), (.some ⟨19, .false⟩), (.bin .neq (.t 20) (.c (.d (.int .i64 0))))⟩,
  ⟨(.some 22), .none, (.pick (.t 19) (.c (.d (.bool .true))) (.t 21))⟩,
  ⟨(.some 23), .none, (.mov (.t 22))⟩,
  ⟨(.some 24), (.some ⟨23, .false⟩), (.mov (.t 5))⟩,
  ⟨(.some 25), (.some ⟨23, .false⟩), (.bin .gtr (.t 24) (.c (.d (.int .i64 2000))))⟩,
  ⟨(.some 26), .none, (.pick (.t 23) (.c (.d (.bool .true))) (.t 25))⟩]
abbrev c_curve_Of_r3 : List AO := [⟨(.some 27), .none, (.build [(.d (.int .i64 0)), (.nilsl 5)] [])⟩,
  ⟨.none, .none, (.store 2 (.t 2) (.t 27))⟩,
  ⟨(.some 3), .none, (.mov (.c (.d (.bool .false))))⟩]
abbrev c_curve_Of_r4 : List AO := [⟨(.some 28), .none, (.load (.some 1) (.t 1))⟩,
  ⟨(.some 29), .none, (.call 26 [(.t 28)])⟩,
  ⟨(.some 30), .none, (.call 25 [(.t 29)])⟩,
  ⟨(.some 7), .none, (.mov (.t 30))⟩]
abbrev c_curve_Of_r5 : List AO := [⟨(.some 31), .none, (.mov (.t 7))⟩,
  ⟨(.some 32), .none, (.call 27 [(.t 31), (.c (.fn 28 []))])⟩]
abbrev c_curve_Of_r6 : List AO := [⟨(.some 33), .none, (.build [(.d (.int .i64 0)), (.nilsl 5)] [])⟩,
  ⟨.none, .none, (.store 2 (.t 2) (.t 33))⟩,
  ⟨(.some 3), .none, (.mov (.c (.d (.bool .false))))⟩]
abbrev c_curve_Of_r7 : List AO := [⟨(.some 34), .none, (.mov (.t 5))⟩,
  ⟨(.some 35), .none, (.build [(.d (.int .i64 0)), (.nilsl 5)] [⟨0, ⟨1, (.t 34)⟩⟩])⟩,
  ⟨(.some 8), .none, (.alloc 24 [(.d (.int .i64 0)), (.nilsl 5)])⟩,
  ⟨.none, .none, (.store 2 (.t 8) (.t 35))⟩]
abbrev c_curve_Of_r8 : List AO := [⟨(.some 36), .none, (.mov (.t 7))⟩,
  ⟨(.some 37), .none, (.len (.t 36))⟩,
  ⟨(.some 38), .none, (.bin .gtr (.t 37) (.c (.d (.int .i64 0))))⟩]
abbrev c_curve_Of_r9 : List AO := [⟨(.some 40), .none, (.mov (.t 7))⟩,
  ⟨(.some 41), .none, (.call 29 [(.t 40)])⟩,
  ⟨(.some 39), .none, (.mov (.t 41))⟩,
  ⟨(.some 42), .none, (.extract (.t 39) 0)⟩,
  ⟨(.some 43), .none, (.extract (.t 39) 1)⟩,
  ⟨(.some 9), .none, (.alloc 31 [(.d (.int .i64 0)), (.d (.int .i64 0)), (.d (.int .i64 0)), (.d (.int .i64 0)), (.d (.int .i64 0))])⟩,
  ⟨.none, .none, (.store 5 (.t 9) (.t 42))⟩,
  ⟨(.some 10), .none, (.mov (.t 43))⟩]
abbrev c_curve_Of_r10 : List AO := [⟨(.some 44), .none, (.fieldAddr 1 (.t 8))⟩,
  ⟨(.some 45), .none, (.load .none (.t 44))⟩,
  ⟨(.some 46), .none, (.load (.some 5) (.t 9))⟩,
  ⟨(.some 47), .none, (.buildSlice 31 5 1 [(.d (.int .i64 0)), (.d (.int .i64 0)), (.d (.int .i64 0)), (.d (.int .i64 0)), (.d (.int .i64 0))] [⟨0, (.t 46)⟩])⟩,
  ⟨(.some 48), .none, (.append 31 5 40 [(.d (.int .i64 0)), (.d (.int .i64 0)), (.d (.int .i64 0)), (.d (.int .i64 0)), (.d (.int .i64 0))] (.t 45) (.t 47))⟩,
  ⟨(.some 49), .none, (.fieldAddr 1 (.t 8))⟩,
  ⟨.none, .none, (.store 1 (.t 49) (.t 48))⟩]
abbrev c_curve_Of_r11 : List AO := [⟨(.some 50), .none, (.mov (.t 7))⟩,
  ⟨(.some 51), .none, (.mov (.t 10))⟩,
  ⟨(.some 52), .none, (.slice 3 (.t 50) (.some (.t 51)) .none)⟩,
  ⟨(.some 7), .none, (.mov (.t 52))⟩]
abbrev c_curve_Of_l0 : ACode := (.seq (.seq (.ops c_curve_Of_r8) (.cond (.t 38) .skip (.exit 0))) (.block 1 (.seq (.ops c_curve_Of_r9) (.seq (.ops c_curve_Of_r10) (.ops c_curve_Of_r11)))))
abbrev c_curve_Of_r12 : List AO := [⟨(.some 53), .none, (.load (.some 2) (.t 8))⟩,
  ⟨.none, .none, (.store 2 (.t 2) (.t 53))⟩,
  ⟨(.some 3), .none, (.mov (.c (.d (.bool .true))))⟩]
abbrev c_curve_Of : AFunc := ⟨54, [(.cell 2 (.some 2)), (.tmp 3)], (.seq (.ops c_curve_Of_r0) (.seq (.ops c_curve_Of_r1) (.seq (.seq (.ops c_curve_Of_r2) (.cond (.t 26) (.seq (.ops c_curve_Of_r3) .ret) .skip)) (.seq (.ops c_curve_Of_r4) (.seq (.seq (.ops c_curve_Of_r5) (.cond (.t 32) (.seq (.ops c_curve_Of_r6) .ret) .skip)) (.seq (.ops c_curve_Of_r7) (.seq (.block 0 (.loop c_curve_Of_l0)) (.seq (.ops c_curve_Of_r12) .ret))))))))⟩
theorem comp_curve_Of : funcC Try.prog 17 = some c_curve_Of := by kernel_rfl
abbrev f_line_Flat_int : FuncId := 18
abbrev c_line_Flat_int_r0 : List AO := [⟨(.some 6), .none, (.alloc 38 [(.nilsl 3)])⟩]
abbrev c_line_Flat_int_r1 : List AO := [⟨(.some 7), .none, (.mov (.t 1))⟩,
  ⟨(.some 8), .none, (.mov (.t 0))⟩,
  ⟨(.some 9), .none, (.bin .lss (.t 7) (.t 8))⟩]
abbrev c_line_Flat_int_r2 : List AO := [⟨(.some 10), .none, (.build [(.nilsl 3)] [])⟩,
  ⟨.none, .none, (.store 1 (.t 6) (.t 10))⟩]
abbrev c_line_Flat_int_r3 : List AO := [⟨(.some 11), .none, (.mov (.t 0))⟩,
  ⟨(.some 12), .none, (.mov (.t 1))⟩,
  ⟨(.some 13), .none, (.mov (.t 2))⟩,
  ⟨(.some 14), .none, (.build [(.d (.int .i64 0)), (.d (.int .i64 0)), (.d (.int .i64 0))] [⟨0, ⟨1, (.t 11)⟩⟩, ⟨1, ⟨1, (.t 12)⟩⟩, ⟨2, ⟨1, (.t 13)⟩⟩])⟩,
  ⟨(.some 15), .none, (.buildSlice 53 3 1 [(.d (.int .i64 0)), (.d (.int .i64 0)), (.d (.int .i64 0))] [⟨0, (.t 14)⟩])⟩,
  ⟨(.some 16), .none, (.build [(.nilsl 3)] [⟨0, ⟨1, (.t 15)⟩⟩])⟩,
  ⟨.none, .none, (.store 1 (.t 6) (.t 16))⟩]
abbrev c_line_Flat_int : AFunc := ⟨17, [(.cell 6 (.some 1))], (.seq (.ops c_line_Flat_int_r0) (.seq (.seq (.ops c_line_Flat_int_r1) (.cond (.t 9) (.seq (.ops c_line_Flat_int_r2) .ret) .skip)) (.seq (.ops c_line_Flat_int_r3) .ret)))⟩
theorem comp_line_Flat_int : funcC Try.prog 18 = some c_line_Flat_int := by kernel_rfl
abbrev f_algebra_lines : FuncId := 19
abbrev c_algebra_lines_r0 : List AO := [⟨(.some 2), .none, (.box 24 (.t 0))⟩,
  ⟨(.some 3), .none, (.box 24 (.t 1))⟩,
  ⟨(.some 4), .none, (.alloc 38 [(.nilsl 3)])⟩,
  ⟨(.some 5), .none, (.alloc 38 [(.nilsl 3)])⟩,
  ⟨(.some 6), .none, (.mov (.c (.d (.bool .false))))⟩]
abbrev c_algebra_lines_r1 : List AO := [⟨(.some 11), .none, (.fieldAddr 0 (.t 2))⟩,
  ⟨(.some 12), .none, (.load .none (.t 11))⟩,
  ⟨(.some 13), .none, (.fieldAddr 0 (.t 3))⟩,
  ⟨(.some 14), .none, (.load .none (.t 13))⟩,
  ⟨(.some 15), .none, (.bin .neq (.t 12) (.t 14))⟩,
  ⟨(.some 16), .none, (.mov (.t 15))⟩,
  ⟨(.some 17), (.some ⟨16, .false⟩), (.load (.some 2) (.t 2))⟩,
  ⟨(.some 18), (.some ⟨16, .false⟩), (.call 30 [(.t 17)])⟩,
  ⟨(.some 19), (.some ⟨16, .false⟩), (.un .not (.t 18))⟩,
  ⟨(.some 20), .none, (.pick (.t 16) (.c (.d (.bool .true))) (.t 19))⟩,
  ⟨(.some 21), .none, (.mov (.t 20))⟩,
  ⟨(.some 22), (.some ⟨21, .false⟩), (.load (.some 2) (.t 3))⟩,
  ⟨(.some 23), (.some ⟨21, .false⟩), (.call 30 [(.t 22)])⟩,
  ⟨(.some 24), (.some ⟨21, .false⟩), (.un .not (.t 23))⟩,
  ⟨(.some 25), .none, (.pick (.t 21) (.c (.d (.bool .true))) (.t 24))⟩]
abbrev c_algebra_lines_r2 : List AO := [⟨(.some 26), .none, (.build [(.nilsl 3)] [])⟩,
  ⟨(.some 27), .none, (.build [(.nilsl 3)] [])⟩,
  ⟨.none, .none, (.store 1 (.t 4) (.t 26))⟩,
  ⟨.none, .none, (.store 1 (.t 5) (.t 27))⟩,
  ⟨(.some 6), .none, (.mov (.c (.d (.bool .false))))⟩]
abbrev c_algebra_lines_r3 : List AO := [⟨(.some 29), .none, (.load (.some 2) (.t 2))⟩,
  ⟨(.some 30), .none, (.call 31 [(.t 29)])⟩,
  ⟨(.some 28), .none, (.mov (.t 30))⟩,
  ⟨(.some 31), .none, (.extract (.t 28) 0)⟩,
  ⟨(.some 32), .none, (.extract (.t 28) 1)⟩,
  ⟨(.some 7), .none, (.alloc 38 [(.nilsl 3)])⟩,
  ⟨.none, .none, (.store 1 (.t 7) (.t 31))⟩,
  ⟨(.some 8), .none, (.mov (.t 32))⟩]
abbrev c_algebra_lines_r4 : List AO := [⟨(.some 34), .none, (.load (.some 2) (.t 3))⟩,
  ⟨(.some 35), .none, (.call 31 [(.t 34)])⟩,
  ⟨(.some 33), .none, (.mov (.t 35))⟩,
  ⟨(.some 36), .none, (.extract (.t 33) 0)⟩,
  ⟨(.some 37), .none, (.extract (.t 33) 1)⟩,
  ⟨(.some 9), .none, (.alloc 38 [(.nilsl 3)])⟩,
  ⟨.none, .none, (.store 1 (.t 9) (.t 36))⟩,
  ⟨(.some 10), .none, (.mov (.t 37))⟩]
abbrev c_algebra_lines_r5 : List AO := [⟨(.some 38), .none, (.loadS (.some 1) (.t 7) [4, 5])⟩,
  ⟨(.some 39), .none, (.loadS (.some 1) (.t 9) [4, 5])⟩,
  ⟨.none, .none, (.storeS 1 4 (.t 38))⟩,
  ⟨.none, .none, (.storeS 1 5 (.t 39))⟩,
  ⟨(.some 6), .none, (.mov (.c (.d (.bool .true))))⟩]
abbrev c_algebra_lines : AFunc := ⟨40, [(.cell 4 (.some 1)), (.cell 5 (.some 1)), (.tmp 6)], (.seq (.ops c_algebra_lines_r0) (.seq (.seq (.ops c_algebra_lines_r1) (.cond (.t 25) (.seq (.ops c_algebra_lines_r2) .ret) .skip)) (.seq (.ops c_algebra_lines_r3) (.seq (.ops c_algebra_lines_r4) (.seq (.dops c_algebra_lines_r5) .ret)))))⟩
theorem comp_algebra_lines : funcC Try.prog 19 = some c_algebra_lines := by kernel_rfl
abbrev f_algebra_flag_back : FuncId := 20
abbrev c_algebra_flag_back_r0 : List AO := [⟨(.some 3), .none, (.box 38 (.t 1))⟩,
  ⟨(.some 4), .none, (.alloc 24 [(.d (.int .i64 0)), (.nilsl 5)])⟩,
  ⟨(.some 5), .none, (.mov (.c (.d (.bool .false))))⟩]
abbrev c_algebra_flag_back_r1 : List AO := [⟨(.some 6), .none, (.mov (.t 0))⟩,
  ⟨(.some 7), .none, (.nilCheck (.t 6))⟩,
  ⟨(.some 8), .none, (.fieldAddr 0 (.t 7))⟩,
  ⟨(.some 9), .none, (.load .none (.t 8))⟩]
abbrev c_algebra_flag_back_r2 : List AO := [⟨(.some 10), .none, (.build [(.d (.int .i64 0)), (.nilsl 5)] [])⟩,
  ⟨.none, .none, (.store 2 (.t 4) (.t 10))⟩,
  ⟨(.some 5), .none, (.mov (.c (.d (.bool .false))))⟩]
abbrev c_algebra_flag_back_r3 : List AO := [⟨(.some 11), .none, (.load (.some 1) (.t 3))⟩,
  ⟨(.some 12), .none, (.call 17 [(.t 11)])⟩,
  ⟨(.some 13), .none, (.extract (.t 12) 0)⟩,
  ⟨(.some 14), .none, (.extract (.t 12) 1)⟩,
  ⟨.none, .none, (.store 2 (.t 4) (.t 13))⟩,
  ⟨(.some 5), .none, (.mov (.t 14))⟩]
abbrev c_algebra_flag_back : AFunc := ⟨15, [(.cell 4 (.some 2)), (.tmp 5)], (.seq (.ops c_algebra_flag_back_r0) (.seq (.seq (.ops c_algebra_flag_back_r1) (.cond (.t 9) (.seq (.ops c_algebra_flag_back_r2) .ret) .skip)) (.seq (.ops c_algebra_flag_back_r3) .ret)))⟩
theorem comp_algebra_flag_back : funcC Try.prog 20 = some c_algebra_flag_back := by kernel_rfl
abbrev f_line_Zip_int_int_int : FuncId := 21
abbrev c_line_Zip_int_int_int_r0 : List AO := [⟨(.some 3), .none, (.box 38 (.t 0))⟩,
  ⟨(.some 4), .none, (.box 38 (.t 1))⟩,
  ⟨(.some 6), .none, (.alloc 38 [(.nilsl 3)])⟩]
abbrev c_line_Zip_int_int_int_r1 : List AO := [⟨(.some 7), .none, (.alloc 38 [(.nilsl 3)])⟩]
abbrev c_line_Zip_int_int_int_r2 : List AO := [⟨(.some 8), .none, (.mov (.c (.d (.int .i64 0))))⟩,
  ⟨(.some 9), .none, (.mov (.c (.d (.int .i64 0))))⟩]
abbrev c_line_Zip_int_int_int_r3 : List AO := [⟨(.some 14), .none, (.mov (.t 8))⟩,
  ⟨(.some 15), .none, (.fieldAddr 0 (.t 3))⟩,
  ⟨(.some 16), .none, (.load .none (.t 15))⟩,
  ⟨(.some 17), .none, (.len (.t 16))⟩,
  ⟨(.some 18), .none, (.bin .lss (.t 14) (.t 17))⟩,
  ⟨(.some 19), .none, (.mov (.t 18))⟩,
  ⟨(.some 20), (.some ⟨19, .true⟩), (.mov (.t 9))⟩,
  ⟨(.some 21), (.some ⟨19, .true⟩), (.fieldAddr 0 (.t 4))⟩,
  ⟨(.some 22), (.some ⟨19, .true⟩), (.load .none (.t 21))⟩,
  ⟨(.some 23), (.some ⟨19, .true⟩), (.len (.t 22))⟩,
  ⟨(.some 24), (.some ⟨19, .true⟩), (.bin .lss (.t 20) (.t 23))⟩,
  ⟨(.some 25), .none, (.pick (.t 19) (.t 24) (.c (.d (.bool .false))))⟩]
abbrev c_line_Zip_int_int_int_r4 : List AO := [⟨(.some 26), .none, (.fieldAddr 0 (.t 3))⟩,
  ⟨(.some 28), .none, (.mov (.t 8))⟩,
  ⟨(.some 31), .none, (.fieldAddr 0 (.t 4))⟩,
  ⟨(.some 33), .none, (.mov (.t 9))⟩,
  ⟨(.some 27), .none, (.loadS .none (.t 26) [10, 11])⟩,
  ⟨(.some 29), .none, (.elemAddr 3 (.t 27) (.t 28))⟩,
  ⟨(.some 30), .none, (.loadS (.some 3) (.t 29) [10, 11])⟩,
  ⟨(.some 32), .none, (.loadS .none (.t 31) [10, 11])⟩,
  ⟨(.some 34), .none, (.elemAddr 3 (.t 32) (.t 33))⟩,
  ⟨(.some 35), .none, (.loadS (.some 3) (.t 34) [10, 11])⟩,
  ⟨(.some 10), .none, (.alloc 53 [(.d (.int .i64 0)), (.d (.int .i64 0)), (.d (.int .i64 0))])⟩,
  ⟨(.some 11), .none, (.alloc 53 [(.d (.int .i64 0)), (.d (.int .i64 0)), (.d (.int .i64 0))])⟩,
  ⟨.none, .none, (.storeS 3 10 (.t 30))⟩,
  ⟨.none, .none, (.storeS 3 11 (.t 35))⟩]
abbrev c_line_Zip_int_int_int_r5 : List AO := [⟨(.some 36), .none, (.fieldAddr 0 (.t 10))⟩,
  ⟨(.some 38), .none, (.fieldAddr 0 (.t 11))⟩,
  ⟨(.some 41), .none, (.fieldAddr 1 (.t 10))⟩,
  ⟨(.some 43), .none, (.fieldAddr 1 (.t 11))⟩,
  ⟨(.some 37), .none, (.load .none (.t 36))⟩,
  ⟨(.some 39), .none, (.load .none (.t 38))⟩,
  ⟨(.some 40), .none, (.minmax .true (.t 37) [(.t 39)])⟩,
  ⟨(.some 12), .none, (.mov (.t 40))⟩,
  ⟨(.some 42), .none, (.load .none (.t 41))⟩,
  ⟨(.some 44), .none, (.load .none (.t 43))⟩,
  ⟨(.some 45), .none, (.minmax .false (.t 42) [(.t 44)])⟩,
  ⟨(.some 13), .none, (.mov (.t 45))⟩]
abbrev c_line_Zip_int_int_int_r6 : List AO := [⟨(.some 46), .none, (.mov (.t 12))⟩,
  ⟨(.some 47), .none, (.mov (.t 13))⟩,
  ⟨(.some 48), .none, (.bin .leq (.t 46) (.t 47))⟩]
abbrev c_line_Zip_int_int_int_r7 : List AO := [⟨(.some 49), .none, (.mov (.t 12))⟩,
  ⟨(.some 50), .none, (.mov (.t 13))⟩,
  ⟨(.some 51), .none, (.mov (.t 2))⟩,
  ⟨(.some 52), .none, (.fieldAddr 2 (.t 10))⟩,
  ⟨(.some 53), .none, (.load .none (.t 52))⟩,
  ⟨(.some 54), .none, (.fieldAddr 2 (.t 11))⟩,
  ⟨(.some 55), .none, (.load .none (.t 54))⟩,
  ⟨(.some 56), .none, (.callv (.t 51) [(.t 53), (.t 55)])⟩,
  ⟨(.some 57), .none, (.build [(.d (.int .i64 0)), (.d (.int .i64 0)), (.d (.int .i64 0))] [⟨0, ⟨1, (.t 49)⟩⟩, ⟨1, ⟨1, (.t 50)⟩⟩, ⟨2, ⟨1, (.t 56)⟩⟩])⟩,
  ⟨(.some 58), .none, (.call 32 [(.t 7), (.t 57)])⟩]
abbrev c_line_Zip_int_int_int_r8 : List AO := [⟨(.some 59), .none, (.fieldAddr 1 (.t 10))⟩,
  ⟨(.some 60), .none, (.load .none (.t 59))⟩,
  ⟨(.some 61), .none, (.fieldAddr 1 (.t 11))⟩,
  ⟨(.some 62), .none, (.load .none (.t 61))⟩,
  ⟨(.some 63), .none, (.bin .leq (.t 60) (.t 62))⟩]
abbrev c_line_Zip_int_int_int_r9 : List AO := [⟨(.some 64), .none, (.mov (.t 8))⟩,
  ⟨(.some 65), .none, (.bin .add (.t 64) (.c (.d (.int .i64 1))))⟩,
  ⟨(.some 8), .none, (.mov (.t 65))⟩]
abbrev c_line_Zip_int_int_int_r10 : List AO := [⟨(.some 66), .none, (.fieldAddr 1 (.t 11))⟩,
  ⟨(.some 67), .none, (.load .none (.t 66))⟩,
  ⟨(.some 68), .none, (.fieldAddr 1 (.t 10))⟩,
  ⟨(.some 69), .none, (.load .none (.t 68))⟩,
  ⟨(.some 70), .none, (.bin .leq (.t 67) (.t 69))⟩]
abbrev c_line_Zip_int_int_int_r11 : List AO := [⟨(.some 71), .none, (.mov (.t 9))⟩,
  ⟨(.some 72), .none, (.bin .add (.t 71) (.c (.d (.int .i64 1))))⟩,
  ⟨(.some 9), .none, (.mov (.t 72))⟩]
abbrev c_line_Zip_int_int_int_l0 : ACode := (.seq (.seq (.ops c_line_Zip_int_int_int_r3) (.cond (.t 25) .skip (.exit 0))) (.block 1 (.seq (.dops c_line_Zip_int_int_int_r4) (.seq (.dops c_line_Zip_int_int_int_r5) (.seq (.seq (.ops c_line_Zip_int_int_int_r6) (.cond (.t 48) (.ops c_line_Zip_int_int_int_r7) .skip)) (.seq (.seq (.ops c_line_Zip_int_int_int_r8) (.cond (.t 63) (.ops c_line_Zip_int_int_int_r9) .skip)) (.seq (.ops c_line_Zip_int_int_int_r10) (.cond (.t 70) (.ops c_line_Zip_int_int_int_r11) .skip))))))))
abbrev c_line_Zip_int_int_int_r12 : List AO := [⟨(.some 73), .none, (.load (.some 1) (.t 7))⟩,
  ⟨.none, .none, (.store 1 (.t 6) (.t 73))⟩]
abbrev c_line_Zip_int_int_int : AFunc := ⟨74, [(.cell 6 (.some 1))], (.seq (.ops c_line_Zip_int_int_int_r0) (.seq (.ops c_line_Zip_int_int_int_r1) (.seq (.ops c_line_Zip_int_int_int_r2) (.seq (.block 0 (.loop c_line_Zip_int_int_int_l0)) (.seq (.ops c_line_Zip_int_int_int_r12) .ret)))))⟩
theorem comp_line_Zip_int_int_int : funcC Try.prog 21 = some c_line_Zip_int_int_int := by kernel_rfl
abbrev f_algebra_two_1 : FuncId := 22
abbrev c_algebra_two_1_r0 : List AO := [⟨(.some 6), .none, (.mov (.c (.d (.int .i64 0))))⟩]
abbrev c_algebra_two_1_r1 : List AO := [⟨(.some 9), .none, (.mov (.t 0))⟩,
  ⟨(.some 10), .none, (.mov (.t 1))⟩,
  ⟨(.some 7), .none, (.load .none (.t 2))⟩,
  ⟨(.some 8), .none, (.load .none (.t 3))⟩,
  ⟨(.some 11), .none, (.pcallv (.t 8) [(.t 9), (.t 10)])⟩,
  ⟨(.some 12), .none, (.extract (.t 11) 0)⟩,
  ⟨(.some 13), .none, (.extract (.t 11) 1)⟩,
  ⟨(.some 14), .none, (.call 23 [(.t 7), (.t 12), (.t 13)])⟩,
  ⟨(.some 6), .none, (.mov (.t 14))⟩]
abbrev c_algebra_two_1 : AFunc := ⟨15, [(.tmp 6)], (.seq (.ops c_algebra_two_1_r0) (.seq (.dops c_algebra_two_1_r1) .ret))⟩
theorem comp_algebra_two_1 : funcC Try.prog 22 = some c_algebra_two_1 := by kernel_rfl
abbrev f_algebra_flag_note : FuncId := 23
abbrev c_algebra_flag_note_r0 : List AO := [⟨(.some 6), .none, (.mov (.c (.d (.int .i64 0))))⟩]
abbrev c_algebra_flag_note_r1 : List AO := [⟨(.some 7), .none, (.mov (.t 0))⟩,
  ⟨(.some 8), .none, (.mov (.t 0))⟩,
  ⟨(.some 9), .none, (.nilCheck (.t 8))⟩,
  ⟨(.some 10), .none, (.fieldAddr 0 (.t 9))⟩,
  ⟨(.some 11), .none, (.load .none (.t 10))⟩,
  ⟨(.some 12), .none, (.mov (.t 11))⟩,
  ⟨(.some 13), (.some ⟨12, .false⟩), (.mov (.t 2))⟩,
  ⟨(.some 14), (.some ⟨12, .false⟩), (.un .not (.t 13))⟩,
  ⟨(.some 15), .none, (.pick (.t 12) (.c (.d (.bool .true))) (.t 14))⟩,
  ⟨(.some 16), .none, (.nilCheck (.t 7))⟩,
  ⟨(.some 17), .none, (.fieldAddr 0 (.t 16))⟩,
  ⟨.none, .none, (.store 1 (.t 17) (.t 15))⟩]
abbrev c_algebra_flag_note_r2 : List AO := [⟨(.some 18), .none, (.mov (.t 1))⟩,
  ⟨(.some 6), .none, (.mov (.t 18))⟩]
abbrev c_algebra_flag_note : AFunc := ⟨19, [(.tmp 6)], (.seq (.ops c_algebra_flag_note_r0) (.seq (.ops c_algebra_flag_note_r1) (.seq (.ops c_algebra_flag_note_r2) .ret)))⟩
theorem comp_algebra_flag_note : funcC Try.prog 23 = some c_algebra_flag_note := by kernel_rfl
abbrev f_line_Line_int_Span : FuncId := 24
abbrev c_line_Line_int_Span_r0 : List AO := [⟨(.some 1), .none, (.box 38 (.t 0))⟩,
  ⟨(.some 2), .none, (.mov (.c (.d (.int .i64 0))))⟩,
  ⟨(.some 3), .none, (.mov (.c (.d (.int .i64 0))))⟩,
  ⟨(.some 4), .none, (.mov (.c (.d (.bool .false))))⟩]
abbrev c_line_Line_int_Span_r1 : List AO := [⟨(.some 5), .none, (.fieldAddr 0 (.t 1))⟩,
  ⟨(.some 6), .none, (.load .none (.t 5))⟩,
  ⟨(.some 7), .none, (.len (.t 6))⟩,
  ⟨(.some 8), .none, (.bin .eql (.t 7) (.c (.d (.int .i64 0))))⟩]
abbrev c_line_Line_int_Span_r2 : List AO := [⟨(.some 2), .none, (.mov (.c (.d (.int .i64 0))))⟩,
  ⟨(.some 3), .none, (.mov (.c (.d (.int .i64 0))))⟩,
  ⟨(.some 4), .none, (.mov (.c (.d (.bool .false))))⟩]
abbrev c_line_Line_int_Span_r3 : List AO := [⟨(.some 9), .none, (.fieldAddr 0 (.t 1))⟩,
  ⟨(.some 14), .none, (.fieldAddr 0 (.t 1))⟩,
  ⟨(.some 16), .none, (.fieldAddr 0 (.t 1))⟩,
  ⟨(.some 10), .none, (.load .none (.t 9))⟩,
  ⟨(.some 11), .none, (.elemAddr 3 (.t 10) (.c (.d (.int .i64 0))))⟩,
  ⟨(.some 12), .none, (.fieldAddr 0 (.t 11))⟩,
  ⟨(.some 13), .none, (.load .none (.t 12))⟩,
  ⟨(.some 2), .none, (.mov (.t 13))⟩,
  ⟨(.some 15), .none, (.load .none (.t 14))⟩,
  ⟨(.some 17), .none, (.load .none (.t 16))⟩,
  ⟨(.some 18), .none, (.len (.t 17))⟩,
  ⟨(.some 19), .none, (.bin .sub (.t 18) (.c (.d (.int .i64 1))))⟩,
  ⟨(.some 20), .none, (.elemAddr 3 (.t 15) (.t 19))⟩,
  ⟨(.some 21), .none, (.fieldAddr 1 (.t 20))⟩,
  ⟨(.some 22), .none, (.load .none (.t 21))⟩,
  ⟨(.some 3), .none, (.mov (.t 22))⟩,
  ⟨(.some 4), .none, (.mov (.c (.d (.bool .true))))⟩]
abbrev c_line_Line_int_Span : AFunc := ⟨23, [(.tmp 2), (.tmp 3), (.tmp 4)], (.seq (.ops c_line_Line_int_Span_r0) (.seq (.seq (.ops c_line_Line_int_Span_r1) (.cond (.t 8) (.seq (.ops c_line_Line_int_Span_r2) .ret) .skip)) (.seq (.dops c_line_Line_int_Span_r3) .ret)))⟩
theorem comp_line_Line_int_Span : funcC Try.prog 24 = some c_line_Line_int_Span := by kernel_rfl
abbrev f_slices_Collect_line_Run_int_ : FuncId := 25
abbrev c_slices_Collect_line_Run_int__r0 : List AO := [⟨(.some 2), .none, (.mov (.c (.nilsl 0)))⟩]
abbrev c_slices_Collect_line_Run_int__r1 : List AO := [⟨(.some 3), .none, (.mov (.t 0))⟩,
  ⟨(.some 4), .none, (.call 33 [(.c (.nilsl 0)), (.t 3)])⟩,
  ⟨(.some 2), .none, (.mov (.t 4))⟩]
abbrev c_slices_Collect_line_Run_int_ : AFunc := ⟨5, [(.tmp 2)], (.seq (.ops c_slices_Collect_line_Run_int__r0) (.seq (.ops c_slices_Collect_line_Run_int__r1) .ret))⟩
theorem comp_slices_Collect_line_Run_int_ : funcC Try.prog 25 = some c_slices_Collect_line_Run_int_ := by kernel_rfl
abbrev f_line_Line_int_Runs : FuncId := 26
abbrev c_line_Line_int_Runs_r0 : List AO := [⟨(.some 1), .none, (.box 38 (.t 0))⟩,
  ⟨(.some 2), .none, (.mov (.c .nilfn))⟩]
abbrev c_line_Line_int_Runs_r1 : List AO := [⟨(.some 3), .none, (.fieldAddr 0 (.t 1))⟩,
  ⟨(.some 4), .none, (.load .none (.t 3))⟩,
  ⟨(.some 5), .none, (.call 34 [(.t 4)])⟩,
  ⟨(.some 2), .none, (.mov (.t 5))⟩]
abbrev c_line_Line_int_Runs : AFunc := ⟨6, [(.tmp 2)], (.seq (.ops c_line_Line_int_Runs_r0) (.seq (.ops c_line_Line_int_Runs_r1) .ret))⟩
theorem comp_line_Line_int_Runs : funcC Try.prog 26 = some c_line_Line_int_Runs := by kernel_rfl
abbrev f_slices_ContainsFunc_line_Run_int_ : FuncId := 27
abbrev c_slices_ContainsFunc_line_Run_int__r0 : List AO := [⟨(.some 4), .none, (.mov (.c (.d (.bool .false))))⟩]
abbrev c_slices_ContainsFunc_line_Run_int__r1 : List AO := [⟨(.some 5), .none, (.mov (.t 0))⟩,
  ⟨(.some 6), .none, (.mov (.t 1))⟩,
  ⟨(.some 7), .none, (.call 35 [(.t 5), (.t 6)])⟩,
  ⟨(.some 8), .none, (.bin .geq (.t 7) (.c (.d (.int .i64 0))))⟩,
  ⟨(.some 4), .none, (.mov (.t 8))⟩]
abbrev c_slices_ContainsFunc_line_Run_int_ : AFunc := ⟨9, [(.tmp 4)], (.seq (.ops c_slices_ContainsFunc_line_Run_int__r0) (.seq (.ops c_slices_ContainsFunc_line_Run_int__r1) .ret))⟩
theorem comp_slices_ContainsFunc_line_Run_int_ : funcC Try.prog 27 = some c_slices_ContainsFunc_line_Run_int_ := by kernel_rfl
abbrev f_curve_Of_1 : FuncId := 28
abbrev c_curve_Of_1_r0 : List AO := [⟨(.some 1), .none, (.box 53 (.t 0))⟩,
  ⟨(.some 2), .none, (.mov (.c (.d (.bool .false))))⟩]
abbrev c_curve_Of_1_r1 : List AO := [⟨(.some 3), .none, (.fieldAddr 2 (.t 1))⟩,
  ⟨(.some 4), .none, (.load .none (.t 3))⟩,
  ⟨(.some 5), .none, (.bin .lss (.t 4) (.c (.d (.int .i64 (-2305843009213693952)))))⟩,
  ⟨(.some 6), .none, (.mov (.t 5))⟩,
  ⟨(.some 7), (.some ⟨6, .false⟩), (.fieldAddr 2 (.t 1))⟩,
  ⟨(.some 8), (.some ⟨6, .false⟩), (.load .none (.t 7))⟩,
  ⟨(.some 9), (.some ⟨6, .false⟩), (.bin .gtr (.t 8) (.c (.d (.int .i64 2305843009213693952))))⟩,
  ⟨(.some 10), .none, (.pick (.t 6) (.c (.d (.bool .true))) (.t 9))⟩,
  ⟨(.some 2), .none, (.mov (.t 10))⟩]
abbrev c_curve_Of_1 : AFunc := ⟨11, [(.tmp 2)], (.seq (.ops c_curve_Of_1_r0) (.seq (.ops c_curve_Of_1_r1) .ret))⟩
theorem comp_curve_Of_1 : funcC Try.prog 28 = some c_curve_Of_1 := by kernel_rfl
abbrev f_curve_group : FuncId := 29
abbrev c_curve_group_r0 : List AO := [⟨(.some 2), .none, (.alloc 31 [(.d (.int .i64 0)), (.d (.int .i64 0)), (.d (.int .i64 0)), (.d (.int .i64 0)), (.d (.int .i64 0))])⟩,
  ⟨(.some 3), .none, (.mov (.c (.d (.int .i64 0))))⟩]
abbrev c_curve_group_r1 : List AO := [⟨(.some 7), .none, (.mov (.t 0))⟩,
  ⟨(.some 8), .none, (.elemAddr 3 (.t 7) (.c (.d (.int .i64 0))))⟩,
  ⟨(.some 9), .none, (.fieldAddr 0 (.t 8))⟩,
  ⟨(.some 11), .none, (.mov (.t 0))⟩,
  ⟨(.some 12), .none, (.elemAddr 3 (.t 11) (.c (.d (.int .i64 0))))⟩,
  ⟨(.some 13), .none, (.fieldAddr 2 (.t 12))⟩,
  ⟨(.some 10), .none, (.loadS .none (.t 9) [4])⟩,
  ⟨(.some 14), .none, (.loadS .none (.t 13) [4])⟩,
  ⟨(.some 15), .none, (.build [(.d (.int .i64 0)), (.d (.int .i64 0)), (.d (.int .i64 0)), (.d (.int .i64 0)), (.d (.int .i64 0))] [⟨0, ⟨1, (.t 10)⟩⟩, ⟨1, ⟨1, (.t 14)⟩⟩, ⟨4, ⟨1, (.c (.d (.int .i64 1)))⟩⟩])⟩,
  ⟨(.some 4), .none, (.alloc 31 [(.d (.int .i64 0)), (.d (.int .i64 0)), (.d (.int .i64 0)), (.d (.int .i64 0)), (.d (.int .i64 0))])⟩,
  ⟨.none, .none, (.storeS 5 4 (.t 15))⟩]
abbrev c_curve_group_r2 : List AO := [⟨(.some 16), .none, (.mov (.t 0))⟩,
  ⟨(.some 17), .none, (.len (.t 16))⟩,
  ⟨(.some 18), .none, (.bin .eql (.t 17) (.c (.d (.int .i64 1))))⟩]
abbrev c_curve_group_r3 : List AO := [⟨(.some 19), .none, (.load (.some 5) (.t 4))⟩,
  ⟨.none, .none, (.store 5 (.t 2) (.t 19))⟩,
  ⟨(.some 3), .none, (.mov (.c (.d (.int .i64 1))))⟩]
abbrev c_curve_group_r4 : List AO := [⟨(.some 20), .none, (.mov (.t 0))⟩,
  ⟨(.some 21), .none, (.elemAddr 3 (.t 20) (.c (.d (.int .i64 1))))⟩,
  ⟨(.some 22), .none, (.fieldAddr 0 (.t 21))⟩,
  ⟨(.some 24), .none, (.mov (.t 0))⟩,
  ⟨(.some 25), .none, (.elemAddr 3 (.t 24) (.c (.d (.int .i64 0))))⟩,
  ⟨(.some 26), .none, (.fieldAddr 0 (.t 25))⟩,
  ⟨(.some 29), .none, (.mov (.t 0))⟩,
  ⟨(.some 30), .none, (.elemAddr 3 (.t 29) (.c (.d (.int .i64 1))))⟩,
  ⟨(.some 31), .none, (.fieldAddr 2 (.t 30))⟩,
  ⟨(.some 32), .none, (.loadD .none (.t 31))⟩,
  ⟨(.some 33), .none, (.mov (.t 0))⟩,
  ⟨(.some 34), .none, (.elemAddr 3 (.t 33) (.c (.d (.int .i64 0))))⟩,
  ⟨(.some 35), .none, (.fieldAddr 2 (.t 34))⟩,
  ⟨(.some 36), .none, (.loadD .none (.t 35))⟩,
  ⟨(.some 37), .none, (.bin .sub (.t 32) (.t 36))⟩,
  ⟨(.some 23), .none, (.load .none (.t 22))⟩,
  ⟨(.some 27), .none, (.load .none (.t 26))⟩,
  ⟨(.some 28), .none, (.bin .sub (.t 23) (.t 27))⟩,
  ⟨(.some 38), .none, (.fieldAddr 2 (.t 4))⟩,
  ⟨.none, .none, (.store 1 (.t 38) (.t 28))⟩,
  ⟨(.some 39), .none, (.fieldAddr 3 (.t 4))⟩,
  ⟨.none, .none, (.store 1 (.t 39) (.t 37))⟩]
abbrev c_curve_group_r5 : List AO := [⟨(.some 40), .none, (.fieldAddr 4 (.t 4))⟩,
  ⟨(.some 41), .none, (.load .none (.t 40))⟩,
  ⟨(.some 42), .none, (.mov (.t 0))⟩,
  ⟨(.some 43), .none, (.len (.t 42))⟩,
  ⟨(.some 44), .none, (.bin .lss (.t 41) (.t 43))⟩]
abbrev c_curve_group_r6 : List AO := [⟨(.some 45), .none, (.mov (.t 0))⟩,
  ⟨(.some 46), .none, (.fieldAddr 4 (.t 4))⟩,
  ⟨(.some 51), .none, (.mov (.t 0))⟩,
  ⟨(.some 52), .none, (.fieldAddr 4 (.t 4))⟩,
  ⟨(.some 47), .none, (.loadS .none (.t 46) [5, 6])⟩,
  ⟨(.some 48), .none, (.bin .sub (.t 47) (.c (.d (.int .i64 1))))⟩,
  ⟨(.some 49), .none, (.elemAddr 3 (.t 45) (.t 48))⟩,
  ⟨(.some 50), .none, (.loadS (.some 3) (.t 49) [5, 6])⟩,
  ⟨(.some 53), .none, (.loadS .none (.t 52) [5, 6])⟩,
  ⟨(.some 54), .none, (.elemAddr 3 (.t 51) (.t 53))⟩,
  ⟨(.some 55), .none, (.loadS (.some 3) (.t 54) [5, 6])⟩,
  ⟨(.some 5), .none, (.alloc 53 [(.d (.int .i64 0)), (.d (.int .i64 0)), (.d (.int .i64 0))])⟩,
  ⟨(.some 6), .none, (.alloc 53 [(.d (.int .i64 0)), (.d (.int .i64 0)), (.d (.int .i64 0))])⟩,
  ⟨.none, .none, (.storeS 3 5 (.t 50))⟩,
  ⟨.none, .none, (.storeS 3 6 (.t 55))⟩]
abbrev c_curve_group_r7 : List AO := [⟨(.some 56), .none, (.fieldAddr 0 (.t 6))⟩,
  ⟨(.some 57), .none, (.load .none (.t 56))⟩,
  ⟨(.some 58), .none, (.fieldAddr 0 (.t 5))⟩,
  ⟨(.some 59), .none, (.load .none (.t 58))⟩,
  ⟨(.some 60), .none, (.bin .sub (.t 57) (.t 59))⟩,
  ⟨(.some 61), .none, (.fieldAddr 2 (.t 4))⟩,
  ⟨(.some 62), .none, (.load .none (.t 61))⟩,
  ⟨(.some 63), .none, (.bin .neq (.t 60) (.t 62))⟩,
  ⟨(.some 64), .none, (.mov (.t 63))⟩,
  ⟨(.some 65), (.some ⟨64, .false⟩), (.fieldAddr 2 (.t 6))⟩,
  ⟨(.some 66), (.some ⟨64, .false⟩), (.load .none (.t 65))⟩,
  ⟨(.some 67), (.some ⟨64, .false⟩), (.fieldAddr 2 (.t 5))⟩,
  ⟨(.some 68), (.some ⟨64, .false⟩), (.load .none (.t 67))⟩,
  ⟨(.some 69), (.some ⟨64, .false⟩), (.bin .sub (.t 66) (.t 68))⟩,
  ⟨(.some 70), (.some ⟨64, .false⟩), (.fieldAddr 3 (.t 4))⟩,
  ⟨(.some 71), (.some ⟨64, .false⟩), (.load .none (.t 70))⟩,
  ⟨(.some 72), (.some ⟨64, .false⟩), (.bin .neq (.t 69) (.t 71))⟩,
  ⟨(.some 73), .none, (.pick (.t 64) (.c (.d (.bool .true))) (.t 72))⟩]
abbrev c_curve_group_r8 : List AO := [⟨(.some 74), .none, (.fieldAddr 4 (.t 4))⟩,
  ⟨(.some 75), .none, (.load .none (.t 74))⟩,
  ⟨(.some 76), .none, (.bin .add (.t 75) (.c (.d (.int .i64 1))))⟩,
  ⟨(.some 77), .none, (.fieldAddr 4 (.t 4))⟩,
  ⟨.none, .none, (.store 1 (.t 77) (.t 76))⟩]
abbrev c_curve_group_l0 : ACode := (.seq (.seq (.ops c_curve_group_r5) (.cond (.t 44) .skip (.exit 0))) (.block 1 (.seq (.dops c_curve_group_r6) (.seq (.seq (.ops c_curve_group_r7) (.cond (.t 73) (.exit 0) .skip)) (.ops c_curve_group_r8)))))
abbrev c_curve_group_r9 : List AO := [⟨(.some 79), .none, (.fieldAddr 4 (.t 4))⟩,
  ⟨(.some 78), .none, (.loadS (.some 5) (.t 4) [2])⟩,
  ⟨(.some 80), .none, (.loadS .none (.t 79) [2])⟩,
  ⟨.none, .none, (.storeS 5 2 (.t 78))⟩,
  ⟨(.some 3), .none, (.mov (.t 80))⟩]
abbrev c_curve_group : AFunc := ⟨81, [(.cell 2 (.some 5)), (.tmp 3)], (.seq (.ops c_curve_group_r0) (.seq (.dops c_curve_group_r1) (.seq (.seq (.ops c_curve_group_r2) (.cond (.t 18) (.seq (.ops c_curve_group_r3) .ret) .skip)) (.seq (.dops c_curve_group_r4) (.seq (.block 0 (.loop c_curve_group_l0)) (.seq (.dops c_curve_group_r9) .ret))))))⟩
theorem comp_curve_group : funcC Try.prog 29 = some c_curve_group := by kernel_rfl
abbrev f_curve_Good : FuncId := 30
abbrev c_curve_Good_r0 : List AO := [⟨(.some 1), .none, (.box 24 (.t 0))⟩,
  ⟨(.some 2), .none, (.mov (.c (.d (.bool .false))))⟩]
abbrev c_curve_Good_r1 : List AO := [⟨(.some 8), .none, (.load (.some 2) (.t 1))⟩,
  ⟨(.some 9), .none, (.call 31 [(.t 8)])⟩,
  ⟨(.some 7), .none, (.mov (.t 9))⟩,
  ⟨(.some 10), .none, (.extract (.t 7) 0)⟩,
  ⟨(.some 11), .none, (.extract (.t 7) 1)⟩,
  ⟨(.some 3), .none, (.alloc 38 [(.nilsl 3)])⟩,
  ⟨.none, .none, (.store 1 (.t 3) (.t 10))⟩,
  ⟨(.some 4), .none, (.mov (.t 11))⟩]
abbrev c_curve_Good_r2 : List AO := [⟨(.some 12), .none, (.mov (.t 4))⟩,
  ⟨(.some 13), .none, (.un .not (.t 12))⟩]
abbrev c_curve_Good_r3 : List AO := [⟨(.some 2), .none, (.mov (.c (.d (.bool .false))))⟩]
abbrev c_curve_Good_r4 : List AO := [⟨(.some 15), .none, (.load (.some 1) (.t 3))⟩,
  ⟨(.some 16), .none, (.call 17 [(.t 15)])⟩,
  ⟨(.some 14), .none, (.mov (.t 16))⟩,
  ⟨(.some 17), .none, (.extract (.t 14) 0)⟩,
  ⟨(.some 18), .none, (.extract (.t 14) 1)⟩,
  ⟨(.some 5), .none, (.alloc 24 [(.d (.int .i64 0)), (.nilsl 5)])⟩,
  ⟨.none, .none, (.store 2 (.t 5) (.t 17))⟩,
  ⟨(.some 6), .none, (.mov (.t 18))⟩]
abbrev c_curve_Good_r5 : List AO := [⟨(.some 19), .none, (.mov (.t 6))⟩,
  ⟨(.some 20), .none, (.mov (.t 19))⟩,
  ⟨(.some 21), (.some ⟨20, .true⟩), (.load (.some 2) (.t 1))⟩,
  ⟨(.some 22), (.some ⟨20, .true⟩), (.load (.some 2) (.t 5))⟩,
  ⟨(.some 23), (.some ⟨20, .true⟩), (.call 36 [(.t 21), (.t 22)])⟩,
  ⟨(.some 24), .none, (.pick (.t 20) (.t 23) (.c (.d (.bool .false))))⟩,
  ⟨(.some 2), .none, (.mov (.t 24))⟩]
abbrev c_curve_Good : AFunc := ⟨25, [(.tmp 2)], (.seq (.ops c_curve_Good_r0) (.seq (.ops c_curve_Good_r1) (.seq (.seq (.ops c_curve_Good_r2) (.cond (.t 13) (.seq (.ops c_curve_Good_r3) .ret) .skip)) (.seq (.ops c_curve_Good_r4) (.seq (.ops c_curve_Good_r5) .ret)))))⟩
theorem comp_curve_Good : funcC Try.prog 30 = some c_curve_Good := by kernel_rfl
abbrev f_curve_Line : FuncId := 31
abbrev c_curve_Line_r0 : List AO := [⟨(.some 1), .none, (.box 24 (.t 0))⟩,
  ⟨(.some 2), .none, (.alloc 38 [(.nilsl 3)])⟩,
  ⟨(.some 3), .none, (.mov (.c (.d (.bool .false))))⟩]
abbrev c_curve_Line_r1 : List AO := [⟨(.some 8), .none, (.fieldAddr 0 (.t 1))⟩,
  ⟨(.some 9), .none, (.load .none (.t 8))⟩,
  ⟨(.some 10), .none, (.bin .lss (.t 9) (.c (.d (.int .i64 0))))⟩,
  ⟨(.some 11), .none, (.mov (.t 10))⟩,
  ⟨(.some 12), (.some ⟨11, .false⟩), (.fieldAddr 0 (.t 1))⟩,
  ⟨(.some 13), (.some ⟨11, .false⟩), (.load .none (.t 12))⟩,
  ⟨(.some 14), (.some ⟨11, .false⟩), (.bin .gtr (.t 13) (.c (.d (.int .i64 2000))))⟩,
  ⟨(.some 15), .none, (.pick (.t 11) (.c (.d (.bool .true))) (.t 14))⟩,
  ⟨(.some 16), .none, (.mov (.t 15))⟩,
  ⟨(.some 17), (.some ⟨16, .false⟩), (.fieldAddr 1 (.t 1))⟩,
  ⟨(.some 18), (.some ⟨16, .false⟩), (.load .none (.t 17))⟩,
  ⟨(.some 19), (.some ⟨16, .false⟩), (.len (.t 18))⟩,
  ⟨(.some 20), (.some ⟨16, .false⟩), (.bin .eql (.t 19) (.c (.d (.int .i64 0))))⟩,
  ⟨(.some 21), .none, (.pick (.t 16) (.c (.d (.bool .true))) (.t 20))⟩,
  ⟨(.some 22), .none, (.mov (.t 21))⟩,
  ⟨(.some 23), (.some ⟨22, .false⟩), (.fieldAddr 1 (.t 1))⟩,
  ⟨(.some 24), (.some ⟨22, .false⟩), (.load .none (.t 23))⟩,
  ⟨(.some 25), (.some ⟨22, .false⟩), (.len (.t 24))⟩,
  ⟨(.some 26), (.some ⟨22, .false⟩), (.fieldAddr 0 (.t 1))⟩,
  ⟨(.some 27), (.some ⟨22, .false⟩), (.load .none (.t 26))⟩,
  ⟨(.some 28), (.some ⟨22, .false⟩), (.bin .add (.t 27) (.c (.d (.int .i64 1))))⟩,
  ⟨(.some 29), (.some ⟨22, .false⟩), (.bin .gtr (.t 25) (.t 28))⟩,
  ⟨(.some 30), .none, (.pick (.t 22) (.c (.d (.bool .true))) (.t 29))⟩,
  ⟨(.some 31), .none, (.mov (.t 30))⟩,
  ⟨(.some 32), (.some ⟨31, .false⟩), (.fieldAddr 1 (.t 1))⟩,
  ⟨(.some 33), (.some ⟨31, .false⟩), (.load .none (.t 32))⟩,
  ⟨(.some 34), (.some ⟨31, .false⟩), (.elemAddr 5 (.t 33) (.c (.d (.int .i64 0))))⟩,
  ⟨(.some 35), (.some ⟨31, .false⟩), (.fieldAddr 0 (.t 34))⟩,
  ⟨(.some 36), (.some ⟨31, .false⟩), (.load .none (.t 35))⟩,
  ⟨(.some 37), (.some ⟨31, .false⟩), (.bin .neq (.t 36) (.c (.d (.int .i64 0))))⟩,
  ⟨(.some 38), .none, (.pick (.t 31) (.c (.d (.bool .true))) (.t 37))⟩]
abbrev c_curve_Line_r2 : List AO := [⟨(.some 39), .none, (.build [(.nilsl 3)] [])⟩,
  ⟨.none, .none, (.store 1 (.t 2) (.t 39))⟩,
  ⟨(.some 3), .none, (.mov (.c (.d (.bool .false))))⟩]
abbrev c_curve_Line_r3 : List AO := [⟨(.some 4), .none, (.mov (.c (.nilsl 0)))⟩]
abbrev c_curve_Line_r4 : List AO := [⟨(.some 40), .none, (.fieldAddr 0 (.t 1))⟩,
  ⟨(.some 41), .none, (.load .none (.t 40))⟩,
  ⟨(.some 42), .none, (.bin .add (.t 41) (.c (.d (.int .i64 1))))⟩,
  ⟨(.some 43), .none, (.mov (.c (.d (.int .i64 0))))⟩]
abbrev c_curve_Line_r5 : List AO := [⟨(.some 44), .none, (.bin .lss (.t 43) (.t 42))⟩]
abbrev c_curve_Line_r6 : List AO := [⟨(.some 45), .none, (.mov (.t 43))⟩,
  ⟨(.some 5), .none, (.mov (.t 45))⟩]
abbrev c_curve_Line_r7 : List AO := [⟨(.some 47), .none, (.load (.some 2) (.t 1))⟩,
  ⟨(.some 48), .none, (.mov (.t 5))⟩,
  ⟨(.some 49), .none, (.call 37 [(.t 47), (.t 48)])⟩,
  ⟨(.some 46), .none, (.mov (.t 49))⟩,
  ⟨(.some 50), .none, (.extract (.t 46) 0)⟩,
  ⟨(.some 51), .none, (.extract (.t 46) 1)⟩,
  ⟨(.some 6), .none, (.mov (.t 50))⟩,
  ⟨(.some 7), .none, (.mov (.t 51))⟩]
abbrev c_curve_Line_r8 : List AO := [⟨(.some 52), .none, (.mov (.t 4))⟩,
  ⟨(.some 53), .none, (.mov (.t 6))⟩,
  ⟨(.some 54), .none, (.buildSlice 3 1 1 [(.d (.int .i64 0))] [⟨0, (.t 53)⟩])⟩,
  ⟨(.some 55), .none, (.append 3 1 8 [(.d (.int .i64 0))] (.t 52) (.t 54))⟩,
  ⟨(.some 4), .none, (.mov (.t 55))⟩]
abbrev c_curve_Line_r9 : List AO := [⟨(.some 56), .none, (.bin .add (.t 43) (.c (.d (.int .i64 1))))⟩,
  ⟨(.some 43), .none, (.mov (.t 56))⟩]
abbrev c_curve_Line_l0 : ACode := (.seq (.ops c_curve_Line_r5) (.seq (.cond (.t 44) .skip (.exit 0)) (.seq (.block 1 (.seq (.ops c_curve_Line_r6) (.seq (.ops c_curve_Line_r7) (.ops c_curve_Line_r8)))) (.ops c_curve_Line_r9))))
abbrev c_curve_Line_r10 : List AO := [⟨(.some 57), .none, (.mov (.t 4))⟩,
  ⟨(.some 58), .none, (.call 38 [(.c (.d (.int .i64 0))), (.t 57)])⟩,
  ⟨.none, .none, (.store 1 (.t 2) (.t 58))⟩,
  ⟨(.some 3), .none, (.mov (.c (.d (.bool .true))))⟩]
abbrev c_curve_Line : AFunc := ⟨59, [(.cell 2 (.some 1)), (.tmp 3)], (.seq (.ops c_curve_Line_r0) (.seq (.seq (.ops c_curve_Line_r1) (.cond (.t 38) (.seq (.ops c_curve_Line_r2) .ret) .skip)) (.seq (.ops c_curve_Line_r3) (.seq (.seq (.ops c_curve_Line_r4) (.block 0 (.loop c_curve_Line_l0))) (.seq (.ops c_curve_Line_r10) .ret)))))⟩
theorem comp_curve_Line : funcC Try.prog 31 = some c_curve_Line := by kernel_rfl
abbrev f_line_Line_int_put : FuncId := 32
abbrev c_line_Line_int_put_r0 : List AO := [⟨(.some 3), .none, (.box 53 (.t 1))⟩]
abbrev c_line_Line_int_put_r1 : List AO := [⟨(.some 5), .none, (.mov (.t 0))⟩,
  ⟨(.some 6), .none, (.nilCheck (.t 5))⟩,
  ⟨(.some 7), .none, (.fieldAddr 0 (.t 6))⟩,
  ⟨(.some 8), .none, (.load .none (.t 7))⟩,
  ⟨(.some 9), .none, (.len (.t 8))⟩,
  ⟨(.some 4), .none, (.mov (.t 9))⟩]
abbrev c_line_Line_int_put_r2 : List AO := [⟨(.some 10), .none, (.mov (.t 4))⟩,
  ⟨(.some 11), .none, (.bin .gtr (.t 10) (.c (.d (.int .i64 0))))⟩,
  ⟨(.some 12), .none, (.mov (.t 11))⟩,
  ⟨(.some 13), (.some ⟨12, .true⟩), (.mov (.t 0))⟩,
  ⟨(.some 14), (.some ⟨12, .true⟩), (.nilCheck (.t 13))⟩,
  ⟨(.some 15), (.some ⟨12, .true⟩), (.fieldAddr 0 (.t 14))⟩,
  ⟨(.some 17), (.some ⟨12, .true⟩), (.mov (.t 4))⟩,
  ⟨(.some 18), (.some ⟨12, .true⟩), (.bin .sub (.t 17) (.c (.d (.int .i64 1))))⟩,
  ⟨(.some 22), (.some ⟨12, .true⟩), (.fieldAddr 2 (.t 3))⟩,
  ⟨(.some 16), (.some ⟨12, .true⟩), (.load .none (.t 15))⟩,
  ⟨(.some 19), (.some ⟨12, .true⟩), (.elemAddr 3 (.t 16) (.t 18))⟩,
  ⟨(.some 20), (.some ⟨12, .true⟩), (.fieldAddr 2 (.t 19))⟩,
  ⟨(.some 21), (.some ⟨12, .true⟩), (.load .none (.t 20))⟩,
  ⟨(.some 23), (.some ⟨12, .true⟩), (.load .none (.t 22))⟩,
  ⟨(.some 24), (.some ⟨12, .true⟩), (.bin .eql (.t 21) (.t 23))⟩,
  ⟨(.some 25), .none, (.pick (.t 12) (.t 24) (.c (.d (.bool .false))))⟩]
abbrev c_line_Line_int_put_r3 : List AO := [⟨(.some 26), .none, (.mov (.t 0))⟩,
  ⟨(.some 27), .none, (.nilCheck (.t 26))⟩,
  ⟨(.some 28), .none, (.fieldAddr 0 (.t 27))⟩,
  ⟨(.some 30), .none, (.mov (.t 4))⟩,
  ⟨(.some 31), .none, (.bin .sub (.t 30) (.c (.d (.int .i64 1))))⟩,
  ⟨(.some 32), .none, (.fieldAddr 1 (.t 3))⟩,
  ⟨(.some 29), .none, (.load .none (.t 28))⟩,
  ⟨(.some 33), .none, (.load .none (.t 32))⟩,
  ⟨(.some 34), .none, (.elemAddr 3 (.t 29) (.t 31))⟩,
  ⟨(.some 35), .none, (.fieldAddr 1 (.t 34))⟩,
  ⟨.none, .none, (.store 1 (.t 35) (.t 33))⟩]
abbrev c_line_Line_int_put_r4 : List AO := [⟨(.some 36), .none, (.mov (.t 0))⟩,
  ⟨(.some 37), .none, (.mov (.t 0))⟩,
  ⟨(.some 38), .none, (.nilCheck (.t 37))⟩,
  ⟨(.some 39), .none, (.fieldAddr 0 (.t 38))⟩,
  ⟨(.some 40), .none, (.load .none (.t 39))⟩,
  ⟨(.some 41), .none, (.load (.some 3) (.t 3))⟩,
  ⟨(.some 42), .none, (.buildSliceD 53 3 1 [(.d (.int .i64 0)), (.d (.int .i64 0)), (.d (.int .i64 0))] [⟨0, (.t 41)⟩])⟩,
  ⟨(.some 43), .none, (.append 53 3 24 [(.d (.int .i64 0)), (.d (.int .i64 0)), (.d (.int .i64 0))] (.t 40) (.t 42))⟩,
  ⟨(.some 44), .none, (.nilCheck (.t 36))⟩,
  ⟨(.some 45), .none, (.fieldAddr 0 (.t 44))⟩,
  ⟨.none, .none, (.store 1 (.t 45) (.t 43))⟩]
abbrev c_line_Line_int_put : AFunc := ⟨46, [], (.seq (.ops c_line_Line_int_put_r0) (.seq (.seq (.ops c_line_Line_int_put_r1) (.seq (.dops c_line_Line_int_put_r2) (.cond (.t 25) (.seq (.dops c_line_Line_int_put_r3) .ret) .skip))) (.dops c_line_Line_int_put_r4)))⟩
theorem comp_line_Line_int_put : funcC Try.prog 32 = some c_line_Line_int_put := by kernel_rfl
abbrev f_slices_AppendSeq_line_Run_int_ : FuncId := 33
abbrev c_slices_AppendSeq_line_Run_int__r0 : List AO := [⟨(.some 2), .none, (.box 36 (.t 0))⟩,
  ⟨(.some 4), .none, (.mov (.c (.nilsl 0)))⟩]
abbrev c_slices_AppendSeq_line_Run_int__r1 : List AO := [⟨(.some 6), .none, (.mov (.t 1))⟩]
abbrev c_slices_AppendSeq_line_Run_int__r2 : List AO := [⟨(.some 5), .none, (.alloc 53 [(.d (.int .i64 0)), (.d (.int .i64 0)), (.d (.int .i64 0))])⟩,
  ⟨.none, .none, (.store 3 (.t 5) (.t 7))⟩]
abbrev c_slices_AppendSeq_line_Run_int__r3 : List AO := [⟨(.some 8), .none, (.load .none (.t 2))⟩,
  ⟨(.some 9), .none, (.load (.some 3) (.t 5))⟩,
  ⟨(.some 10), .none, (.buildSlice 53 3 1 [(.d (.int .i64 0)), (.d (.int .i64 0)), (.d (.int .i64 0))] [⟨0, (.t 9)⟩])⟩,
  ⟨(.some 11), .none, (.append 53 3 24 [(.d (.int .i64 0)), (.d (.int .i64 0)), (.d (.int .i64 0))] (.t 8) (.t 10))⟩,
  ⟨.none, .none, (.store 1 (.t 2) (.t 11))⟩]
abbrev c_slices_AppendSeq_line_Run_int__g0 : ACode := (.block 1 (.ops c_slices_AppendSeq_line_Run_int__r3))
abbrev c_slices_AppendSeq_line_Run_int__r4 : List AO := [⟨(.some 12), .none, (.load .none (.t 2))⟩,
  ⟨(.some 4), .none, (.mov (.t 12))⟩]
abbrev c_slices_AppendSeq_line_Run_int_ : AFunc := ⟨13, [(.tmp 4)], (.seq (.ops c_slices_AppendSeq_line_Run_int__r0) (.seq (.seq (.ops c_slices_AppendSeq_line_Run_int__r1) (.block 0 (.rangef (.t 6) [7] (.ops c_slices_AppendSeq_line_Run_int__r2) c_slices_AppendSeq_line_Run_int__g0))) (.seq (.ops c_slices_AppendSeq_line_Run_int__r4) .ret)))⟩
theorem comp_slices_AppendSeq_line_Run_int_ : funcC Try.prog 33 = some c_slices_AppendSeq_line_Run_int_ := by kernel_rfl
abbrev f_slices_Values_line_Run_int_ : FuncId := 34
abbrev c_slices_Values_line_Run_int__r0 : List AO := [⟨(.some 1), .none, (.box 36 (.t 0))⟩,
  ⟨(.some 2), .none, (.mov (.c .nilfn))⟩]
abbrev c_slices_Values_line_Run_int__r1 : List AO := [⟨(.some 3), .none, (.mkfn 39 [(.t 1)])⟩,
  ⟨(.some 2), .none, (.mov (.t 3))⟩]
abbrev c_slices_Values_line_Run_int_ : AFunc := ⟨4, [(.tmp 2)], (.seq (.ops c_slices_Values_line_Run_int__r0) (.seq (.ops c_slices_Values_line_Run_int__r1) .ret))⟩
theorem comp_slices_Values_line_Run_int_ : funcC Try.prog 34 = some c_slices_Values_line_Run_int_ := by kernel_rfl
abbrev f_slices_IndexFunc_line_Run_int_ : FuncId := 35
abbrev c_slices_IndexFunc_line_Run_int__r0 : List AO := [⟨(.some 4), .none, (.mov (.c (.d (.int .i64 0))))⟩]
abbrev c_slices_IndexFunc_line_Run_int__r1 : List AO := [⟨(.some 6), .none, (.mov (.t 0))⟩,
  ⟨(.some 7), .none, (.len (.t 6))⟩,
  ⟨(.some 8), .none, (.mov (.c (.d (.int .i64 0))))⟩]
abbrev c_slices_IndexFunc_line_Run_int__r2 : List AO := [⟨(.some 9), .none, (.bin .lss (.t 8) (.t 7))⟩]
abbrev c_slices_IndexFunc_line_Run_int__r3 : List AO := [⟨(.some 10), .none, (.mov (.t 8))⟩,
  ⟨(.some 5), .none, (.mov (.t 10))⟩]
abbrev c_slices_IndexFunc_line_Run_int__r4 : List AO := [⟨(.some 11), .none, (.mov (.t 1))⟩,
  ⟨(.some 12), .none, (.mov (.t 0))⟩,
  ⟨(.some 13), .none, (.mov (.t 5))⟩,
  ⟨(.some 14), .none, (.elemAddr 3 (.t 12) (.t 13))⟩,
  ⟨(.some 15), .none, (.load (.some 3) (.t 14))⟩,
  ⟨(.some 16), .none, (.callv (.t 11) [(.t 15)])⟩]
abbrev c_slices_IndexFunc_line_Run_int__r5 : List AO := [⟨(.some 17), .none, (.mov (.t 5))⟩,
  ⟨(.some 4), .none, (.mov (.t 17))⟩]
abbrev c_slices_IndexFunc_line_Run_int__r6 : List AO := [⟨(.some 18), .none, (.bin .add (.t 8) (.c (.d (.int .i64 1))))⟩,
  ⟨(.some 8), .none, (.mov (.t 18))⟩]
abbrev c_slices_IndexFunc_line_Run_int__l0 : ACode := (.seq (.ops c_slices_IndexFunc_line_Run_int__r2) (.seq (.cond (.t 9) .skip (.exit 0)) (.seq (.block 1 (.seq (.ops c_slices_IndexFunc_line_Run_int__r3) (.seq (.ops c_slices_IndexFunc_line_Run_int__r4) (.cond (.t 16) (.seq (.ops c_slices_IndexFunc_line_Run_int__r5) .ret) .skip)))) (.ops c_slices_IndexFunc_line_Run_int__r6))))
abbrev c_slices_IndexFunc_line_Run_int__r7 : List AO := [⟨(.some 4), .none, (.mov (.c (.d (.int .i64 (-1)))))⟩]
abbrev c_slices_IndexFunc_line_Run_int_ : AFunc := ⟨19, [(.tmp 4)], (.seq (.ops c_slices_IndexFunc_line_Run_int__r0) (.seq (.seq (.ops c_slices_IndexFunc_line_Run_int__r1) (.block 0 (.loop c_slices_IndexFunc_line_Run_int__l0))) (.seq (.ops c_slices_IndexFunc_line_Run_int__r7) .ret)))⟩
theorem comp_slices_IndexFunc_line_Run_int_ : funcC Try.prog 35 = some c_slices_IndexFunc_line_Run_int_ := by kernel_rfl
abbrev f_curve_Same : FuncId := 36
abbrev c_curve_Same_r0 : List AO := [⟨(.some 2), .none, (.box 24 (.t 0))⟩,
  ⟨(.some 3), .none, (.box 24 (.t 1))⟩,
  ⟨(.some 4), .none, (.mov (.c (.d (.bool .false))))⟩]
abbrev c_curve_Same_r1 : List AO := [⟨(.some 5), .none, (.fieldAddr 0 (.t 2))⟩,
  ⟨(.some 6), .none, (.load .none (.t 5))⟩,
  ⟨(.some 7), .none, (.fieldAddr 0 (.t 3))⟩,
  ⟨(.some 8), .none, (.load .none (.t 7))⟩,
  ⟨(.some 9), .none, (.bin .eql (.t 6) (.t 8))⟩,
  ⟨(.some 10), .none, (.mov (.t 9))⟩,
  ⟨(.some 11), (.some ⟨10, .true⟩), (.fieldAddr 1 (.t 2))⟩,
  ⟨(.some 12), (.some ⟨10, .true⟩), (.load .none (.t 11))⟩,
  ⟨(.some 13), (.some ⟨10, .true⟩), (.fieldAddr 1 (.t 3))⟩,
  ⟨(.some 14), (.some ⟨10, .true⟩), (.load .none (.t 13))⟩,
  ⟨(.some 15), (.some ⟨10, .true⟩), (.call 40 [(.t 12), (.t 14)])⟩,
  ⟨(.some 16), .none, (.pick (.t 10) (.t 15) (.c (.d (.bool .false))))⟩,
  ⟨(.some 4), .none, (.mov (.t 16))⟩]
abbrev c_curve_Same : AFunc := ⟨17, [(.tmp 4)], (.seq (.ops c_curve_Same_r0) (.seq (.ops c_curve_Same_r1) .ret))⟩
theorem comp_curve_Same : funcC Try.prog 36 = some c_curve_Same := by kernel_rfl
abbrev f_curve_At : FuncId := 37
abbrev c_curve_At_r0 : List AO := [⟨(.some 2), .none, (.box 24 (.t 0))⟩,
  ⟨(.some 4), .none, (.mov (.c (.d (.int .i64 0))))⟩,
  ⟨(.some 5), .none, (.mov (.c (.d (.bool .false))))⟩]
abbrev c_curve_At_r1 : List AO := [⟨(.some 8), .none, (.mov (.t 1))⟩,
  ⟨(.some 9), .none, (.bin .lss (.t 8) (.c (.d (.int .i64 0))))⟩,
  ⟨(.some 10), .none, (.mov (.t 9))⟩,
  ⟨(.some 11), (.some ⟨10, .false⟩), (.mov (.t 1))⟩,
  ⟨(.some 12), (.some ⟨10, .false⟩), (.fieldAddr 0 (.t 2))⟩,
  ⟨(.some 13), (.some ⟨10, .false⟩), (.load .none (.t 12))⟩,
  ⟨(.some 14), (.some ⟨10, .false⟩), (.bin .gtr (.t 11) (.t 13))⟩,
  ⟨(.some 15), .none, (.pick (.t 10) (.c (.d (.bool .true))) (.t 14))⟩]
abbrev c_curve_At_r2 : List AO := [⟨(.some 4), .none, (.mov (.c (.d (.int .i64 0))))⟩,
  ⟨(.some 5), .none, (.mov (.c (.d (.bool .false))))⟩]
abbrev c_curve_At_r3 : List AO := [⟨(.some 16), .none, (.fieldAddr 1 (.t 2))⟩,
  ⟨(.some 17), .none, (.load .none (.t 16))⟩,
  ⟨(.some 18), .none, (.len (.t 17))⟩,
  ⟨(.some 19), .none, (.bin .sub (.t 18) (.c (.d (.int .i64 1))))⟩,
  ⟨(.some 6), .none, (.mov (.t 19))⟩]
abbrev c_curve_At_r4 : List AO := [⟨(.some 20), .none, (.mov (.t 6))⟩,
  ⟨(.some 21), .none, (.bin .geq (.t 20) (.c (.d (.int .i64 0))))⟩,
  ⟨(.some 22), .none, (.mov (.t 21))⟩,
  ⟨(.some 23), (.some ⟨22, .true⟩), (.fieldAddr 1 (.t 2))⟩,
  ⟨(.some 24), (.some ⟨22, .true⟩), (.load .none (.t 23))⟩,
  ⟨(.some 25), (.some ⟨22, .true⟩), (.mov (.t 6))⟩,
  ⟨(.some 26), (.some ⟨22, .true⟩), (.elemAddr 5 (.t 24) (.t 25))⟩,
  ⟨(.some 27), (.some ⟨22, .true⟩), (.fieldAddr 0 (.t 26))⟩,
  ⟨(.some 28), (.some ⟨22, .true⟩), (.load .none (.t 27))⟩,
  ⟨(.some 29), (.some ⟨22, .true⟩), (.mov (.t 1))⟩,
  ⟨(.some 30), (.some ⟨22, .true⟩), (.bin .gtr (.t 28) (.t 29))⟩,
  ⟨(.some 31), .none, (.pick (.t 22) (.t 30) (.c (.d (.bool .false))))⟩]
abbrev c_curve_At_r5 : List AO := [⟨(.some 32), .none, (.mov (.t 6))⟩,
  ⟨(.some 33), .none, (.bin .sub (.t 32) (.c (.d (.int .i64 1))))⟩,
  ⟨(.some 6), .none, (.mov (.t 33))⟩]
abbrev c_curve_At_l0 : ACode := (.seq (.seq (.ops c_curve_At_r4) (.cond (.t 31) .skip (.exit 0))) (.block 1 (.ops c_curve_At_r5)))
abbrev c_curve_At_r6 : List AO := [⟨(.some 34), .none, (.mov (.t 6))⟩,
  ⟨(.some 35), .none, (.bin .lss (.t 34) (.c (.d (.int .i64 0))))⟩]
abbrev c_curve_At_r7 : List AO := [⟨(.some 4), .none, (.mov (.c (.d (.int .i64 0))))⟩,
  ⟨(.some 5), .none, (.mov (.c (.d (.bool .false))))⟩]
abbrev c_curve_At_r8 : List AO := [⟨(.some 36), .none, (.fieldAddr 1 (.t 2))⟩,
  ⟨(.some 37), .none, (.load .none (.t 36))⟩,
  ⟨(.some 38), .none, (.mov (.t 6))⟩,
  ⟨(.some 39), .none, (.elemAddr 5 (.t 37) (.t 38))⟩,
  ⟨(.some 40), .none, (.load (.some 5) (.t 39))⟩,
  ⟨(.some 7), .none, (.alloc 31 [(.d (.int .i64 0)), (.d (.int .i64 0)), (.d (.int .i64 0)), (.d (.int .i64 0)), (.d (.int .i64 0))])⟩,
  ⟨.none, .none, (.store 5 (.t 7) (.t 40))⟩]
abbrev c_curve_At_r9 : List AO := [⟨(.some 41), .none, (.fieldAddr 2 (.t 7))⟩,
  ⟨(.some 42), .none, (.load .none (.t 41))⟩,
  ⟨(.some 43), .none, (.bin .lss (.t 42) (.c (.d (.int .i64 1))))⟩]
abbrev c_curve_At_r10 : List AO := [⟨(.some 44), .none, (.fieldAddr 1 (.t 7))⟩,
  ⟨(.some 45), .none, (.load .none (.t 44))⟩,
  ⟨(.some 4), .none, (.mov (.t 45))⟩,
  ⟨(.some 5), .none, (.mov (.c (.d (.bool .true))))⟩]
abbrev c_curve_At_r11 : List AO := [⟨(.some 46), .none, (.fieldAddr 1 (.t 7))⟩,
  ⟨(.some 48), .none, (.mov (.t 1))⟩,
  ⟨(.some 49), .none, (.fieldAddr 0 (.t 7))⟩,
  ⟨(.some 52), .none, (.fieldAddr 2 (.t 7))⟩,
  ⟨(.some 55), .none, (.fieldAddr 4 (.t 7))⟩,
  ⟨(.some 59), .none, (.fieldAddr 3 (.t 7))⟩,
  ⟨(.some 47), .none, (.load .none (.t 46))⟩,
  ⟨(.some 50), .none, (.load .none (.t 49))⟩,
  ⟨(.some 51), .none, (.bin .sub (.t 48) (.t 50))⟩,
  ⟨(.some 53), .none, (.load .none (.t 52))⟩,
  ⟨(.some 54), .none, (.bin .quo (.t 51) (.t 53))⟩,
  ⟨(.some 56), .none, (.load .none (.t 55))⟩,
  ⟨(.some 57), .none, (.bin .sub (.t 56) (.c (.d (.int .i64 1))))⟩,
  ⟨(.some 58), .none, (.minmax .false (.t 54) [(.t 57)])⟩,
  ⟨(.some 60), .none, (.load .none (.t 59))⟩,
  ⟨(.some 61), .none, (.bin .mul (.t 58) (.t 60))⟩,
  ⟨(.some 62), .none, (.bin .add (.t 47) (.t 61))⟩,
  ⟨(.some 4), .none, (.mov (.t 62))⟩,
  ⟨(.some 5), .none, (.mov (.c (.d (.bool .true))))⟩]
abbrev c_curve_At : AFunc := ⟨63, [(.tmp 4), (.tmp 5)], (.seq (.ops c_curve_At_r0) (.seq (.seq (.ops c_curve_At_r1) (.cond (.t 15) (.seq (.ops c_curve_At_r2) .ret) .skip)) (.seq (.ops c_curve_At_r3) (.seq (.block 0 (.loop c_curve_At_l0)) (.seq (.seq (.ops c_curve_At_r6) (.cond (.t 35) (.seq (.ops c_curve_At_r7) .ret) .skip)) (.seq (.ops c_curve_At_r8) (.seq (.seq (.ops c_curve_At_r9) (.cond (.t 43) (.seq (.ops c_curve_At_r10) .ret) .skip)) (.seq (.dops c_curve_At_r11) .ret))))))))⟩
theorem comp_curve_At : funcC Try.prog 37 = some c_curve_At := by kernel_rfl
abbrev f_line_Of_int : FuncId := 38
abbrev c_line_Of_int_r0 : List AO := [⟨(.some 4), .none, (.alloc 38 [(.nilsl 3)])⟩]
abbrev c_line_Of_int_r1 : List AO := [⟨(.some 5), .none, (.alloc 38 [(.nilsl 3)])⟩]
abbrev c_line_Of_int_r2 : List AO := [⟨(.some 8), .none, (.mov (.t 1))⟩,
  ⟨(.some 9), .none, (.len (.t 8))⟩,
  ⟨(.some 10), .none, (.mov (.c (.d (.int .i64 0))))⟩]
abbrev c_line_Of_int_r3 : List AO := [⟨(.some 11), .none, (.bin .lss (.t 10) (.t 9))⟩]
abbrev c_line_Of_int_r4 : List AO := [⟨(.some 12), .none, (.mov (.t 10))⟩,
  ⟨(.some 13), .none, (.elemAddr 1 (.t 8) (.t 10))⟩,
  ⟨(.some 14), .none, (.load .none (.t 13))⟩,
  ⟨(.some 6), .none, (.mov (.t 12))⟩,
  ⟨(.some 7), .none, (.mov (.t 14))⟩]
abbrev c_line_Of_int_r5 : List AO := [⟨(.some 15), .none, (.mov (.t 0))⟩,
  ⟨(.some 16), .none, (.mov (.t 6))⟩,
  ⟨(.some 17), .none, (.bin .add (.t 15) (.t 16))⟩,
  ⟨(.some 18), .none, (.mov (.t 0))⟩,
  ⟨(.some 19), .none, (.mov (.t 6))⟩,
  ⟨(.some 20), .none, (.bin .add (.t 18) (.t 19))⟩,
  ⟨(.some 21), .none, (.mov (.t 7))⟩,
  ⟨(.some 22), .none, (.build [(.d (.int .i64 0)), (.d (.int .i64 0)), (.d (.int .i64 0))] [⟨0, ⟨1, (.t 17)⟩⟩, ⟨1, ⟨1, (.t 20)⟩⟩, ⟨2, ⟨1, (.t 21)⟩⟩])⟩,
  ⟨(.some 23), .none, (.call 32 [(.t 5), (.t 22)])⟩]
abbrev c_line_Of_int_r6 : List AO := [⟨(.some 24), .none, (.bin .add (.t 10) (.c (.d (.int .i64 1))))⟩,
  ⟨(.some 10), .none, (.mov (.t 24))⟩]
abbrev c_line_Of_int_l0 : ACode := (.seq (.ops c_line_Of_int_r3) (.seq (.cond (.t 11) .skip (.exit 0)) (.seq (.block 1 (.seq (.ops c_line_Of_int_r4) (.ops c_line_Of_int_r5))) (.ops c_line_Of_int_r6))))
abbrev c_line_Of_int_r7 : List AO := [⟨(.some 25), .none, (.load (.some 1) (.t 5))⟩,
  ⟨.none, .none, (.store 1 (.t 4) (.t 25))⟩]
abbrev c_line_Of_int : AFunc := ⟨26, [(.cell 4 (.some 1))], (.seq (.ops c_line_Of_int_r0) (.seq (.ops c_line_Of_int_r1) (.seq (.seq (.ops c_line_Of_int_r2) (.block 0 (.loop c_line_Of_int_l0))) (.seq (.ops c_line_Of_int_r7) .ret))))⟩
theorem comp_line_Of_int : funcC Try.prog 38 = some c_line_Of_int := by kernel_rfl
abbrev f_slices_Values_line_Run_int_1 : FuncId := 39
abbrev c_slices_Values_line_Run_int_1_r0 : List AO := [⟨(.some 5), .none, (.load .none (.t 1))⟩,
  ⟨(.some 6), .none, (.len (.t 5))⟩,
  ⟨(.some 7), .none, (.mov (.c (.d (.int .i64 0))))⟩]
abbrev c_slices_Values_line_Run_int_1_r1 : List AO := [⟨(.some 8), .none, (.bin .lss (.t 7) (.t 6))⟩]
abbrev c_slices_Values_line_Run_int_1_r2 : List AO := [⟨(.some 9), .none, (.elemAddr 3 (.t 5) (.t 7))⟩,
  ⟨(.some 10), .none, (.load (.some 3) (.t 9))⟩,
  ⟨(.some 4), .none, (.alloc 53 [(.d (.int .i64 0)), (.d (.int .i64 0)), (.d (.int .i64 0))])⟩,
  ⟨.none, .none, (.store 3 (.t 4) (.t 10))⟩]
abbrev c_slices_Values_line_Run_int_1_r3 : List AO := [⟨(.some 11), .none, (.mov (.t 0))⟩,
  ⟨(.some 12), .none, (.load (.some 3) (.t 4))⟩,
  ⟨(.some 13), .none, (.callv (.t 11) [(.t 12)])⟩,
  ⟨(.some 14), .none, (.un .not (.t 13))⟩]
abbrev c_slices_Values_line_Run_int_1_r4 : List AO := [⟨(.some 15), .none, (.bin .add (.t 7) (.c (.d (.int .i64 1))))⟩,
  ⟨(.some 7), .none, (.mov (.t 15))⟩]
abbrev c_slices_Values_line_Run_int_1_l0 : ACode := (.seq (.ops c_slices_Values_line_Run_int_1_r1) (.seq (.cond (.t 8) .skip (.exit 0)) (.seq (.block 1 (.seq (.ops c_slices_Values_line_Run_int_1_r2) (.seq (.ops c_slices_Values_line_Run_int_1_r3) (.cond (.t 14) .ret .skip)))) (.ops c_slices_Values_line_Run_int_1_r4))))
abbrev c_slices_Values_line_Run_int_1 : AFunc := ⟨16, [], (.seq (.ops c_slices_Values_line_Run_int_1_r0) (.block 0 (.loop c_slices_Values_line_Run_int_1_l0)))⟩
theorem comp_slices_Values_line_Run_int_1 : funcC Try.prog 39 = some c_slices_Values_line_Run_int_1 := by kernel_rfl
abbrev f_slices_Equal_api_Group : FuncId := 40
abbrev c_slices_Equal_api_Group_r0 : List AO := [⟨(.some 4), .none, (.mov (.c (.d (.bool .false))))⟩]
abbrev c_slices_Equal_api_Group_r1 : List AO := [⟨(.some 6), .none, (.mov (.t 0))⟩,
  ⟨(.some 7), .none, (.len (.t 6))⟩,
  ⟨(.some 8), .none, (.mov (.t 1))⟩,
  ⟨(.some 9), .none, (.len (.t 8))⟩,
  ⟨(.some 10), .none, (.bin .neq (.t 7) (.t 9))⟩]
abbrev c_slices_Equal_api_Group_r2 : List AO := [⟨(.some 4), .none, (.mov (.c (.d (.bool .false))))⟩]
abbrev c_slices_Equal_api_Group_r3 : List AO := [⟨(.some 11), .none, (.mov (.t 0))⟩,
  ⟨(.some 12), .none, (.len (.t 11))⟩,
  ⟨(.some 13), .none, (.mov (.c (.d (.int .i64 0))))⟩]
abbrev c_slices_Equal_api_Group_r4 : List AO := [⟨(.some 14), .none, (.bin .lss (.t 13) (.t 12))⟩]
abbrev c_slices_Equal_api_Group_r5 : List AO := [⟨(.some 15), .none, (.mov (.t 13))⟩,
  ⟨(.some 5), .none, (.mov (.t 15))⟩]
abbrev c_slices_Equal_api_Group_r6 : List AO := [⟨(.some 16), .none, (.mov (.t 0))⟩,
  ⟨(.some 17), .none, (.mov (.t 5))⟩,
  ⟨(.some 18), .none, (.elemAddr 5 (.t 16) (.t 17))⟩,
  ⟨(.some 20), .none, (.mov (.t 1))⟩,
  ⟨(.some 21), .none, (.mov (.t 5))⟩,
  ⟨(.some 22), .none, (.elemAddr 5 (.t 20) (.t 21))⟩,
  ⟨(.some 19), .none, (.load (.some 5) (.t 18))⟩,
  ⟨(.some 23), .none, (.load (.some 5) (.t 22))⟩,
  ⟨(.some 24), .none, (.eqAgg .true [0, 0, 0, 0, 0] (.t 19) (.t 23))⟩]
abbrev c_slices_Equal_api_Group_r7 : List AO := [⟨(.some 4), .none, (.mov (.c (.d (.bool .false))))⟩]
abbrev c_slices_Equal_api_Group_r8 : List AO := [⟨(.some 25), .none, (.bin .add (.t 13) (.c (.d (.int .i64 1))))⟩,
  ⟨(.some 13), .none, (.mov (.t 25))⟩]
abbrev c_slices_Equal_api_Group_l0 : ACode := (.seq (.ops c_slices_Equal_api_Group_r4) (.seq (.cond (.t 14) .skip (.exit 0)) (.seq (.block 1 (.seq (.ops c_slices_Equal_api_Group_r5) (.seq (.dops c_slices_Equal_api_Group_r6) (.cond (.t 24) (.seq (.ops c_slices_Equal_api_Group_r7) .ret) .skip)))) (.ops c_slices_Equal_api_Group_r8))))
abbrev c_slices_Equal_api_Group_r9 : List AO := [⟨(.some 4), .none, (.mov (.c (.d (.bool .true))))⟩]
abbrev c_slices_Equal_api_Group : AFunc := ⟨26, [(.tmp 4)], (.seq (.ops c_slices_Equal_api_Group_r0) (.seq (.seq (.ops c_slices_Equal_api_Group_r1) (.cond (.t 10) (.seq (.ops c_slices_Equal_api_Group_r2) .ret) .skip)) (.seq (.seq (.ops c_slices_Equal_api_Group_r3) (.block 0 (.loop c_slices_Equal_api_Group_l0))) (.seq (.ops c_slices_Equal_api_Group_r9) .ret))))⟩
theorem comp_slices_Equal_api_Group : funcC Try.prog 40 = some c_slices_Equal_api_Group := by kernel_rfl
end Go.Proofs.Ytcneeilongpakaa.Abs
