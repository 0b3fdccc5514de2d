/- The given functions, as the abstract machine has them: printed by a program of this session. No claim stands here. -/
import Derived.Test.YtmkennmppdmnhaaProg
import Derived.Test.YtmkennmppdmnhaaAbs1
import Derived.KernelRfl
namespace Go.Proofs.Ytmkennmppdmnhaa.Abs
open Go Go.RowKit Go.Proofs
/-! function 3 : poundage poundagelaw17.DaysIs -/
abbrev f_poundagelaw17_DaysIs : FuncId := 3
abbrev c_poundagelaw17_DaysIs_r0 : List AO := [⟨(.some 2), .none, (.box 26 (.t 0))⟩,
  ⟨(.some 4), .none, (.mov (.c (.d (.bool .false))))⟩]
abbrev c_poundagelaw17_DaysIs_r1 : List AO := [⟨(.some 11), .none, (.call 8 [])⟩,
  ⟨(.some 12), .none, (.un .not (.t 11))⟩]
abbrev c_poundagelaw17_DaysIs_r2 : List AO := [⟨(.some 4), .none, (.mov (.c (.d (.bool .false))))⟩]
abbrev c_poundagelaw17_DaysIs_r3 : List AO := [⟨(.some 13), .none, (.load (.some 6) (.t 2))⟩,
  ⟨(.some 14), .none, (.call 9 [(.t 13)])⟩]
abbrev c_poundagelaw17_DaysIs_r4 : List AO := [⟨(.some 4), .none, (.mov (.c (.d (.bool .true))))⟩]
abbrev c_poundagelaw17_DaysIs_r5 : List AO := [⟨(.some 15), .none, (.load (.some 6) (.t 2))⟩,
  ⟨(.some 16), .none, (.call 10 [(.t 15)])⟩,
  ⟨(.some 5), .none, (.alloc 31 [(.nilsl 3)])⟩,
  ⟨.none, .none, (.store 1 (.t 5) (.t 16))⟩]
abbrev c_poundagelaw17_DaysIs_r6 : List AO := [⟨(.some 18), .none, (.load (.some 1) (.t 5))⟩,
  ⟨(.some 19), .none, (.call 11 [(.t 18)])⟩,
  ⟨(.some 17), .none, (.mov (.t 19))⟩,
  ⟨(.some 20), .none, (.extract (.t 17) 0)⟩,
  ⟨(.some 21), .none, (.extract (.t 17) 1)⟩,
  ⟨(.some 22), .none, (.extract (.t 17) 2)⟩,
  ⟨(.some 6), .none, (.mov (.t 20))⟩,
  ⟨(.some 7), .none, (.mov (.t 21))⟩,
  ⟨(.some 8), .none, (.mov (.t 22))⟩]
abbrev c_poundagelaw17_DaysIs_r7 : List AO := [⟨(.some 23), .none, (.load (.some 6) (.t 2))⟩,
  ⟨(.some 24), .none, (.call 12 [(.t 23)])⟩,
  ⟨(.some 25), .none, (.un .not (.t 24))⟩]
abbrev c_poundagelaw17_DaysIs_r8 : List AO := [⟨(.some 26), .none, (.mov (.t 8))⟩,
  ⟨(.some 27), .none, (.un .not (.t 26))⟩,
  ⟨(.some 28), .none, (.mov (.t 27))⟩,
  ⟨(.some 29), (.some ⟨28, .true⟩), (.load (.some 1) (.t 5))⟩,
  ⟨(.some 30), (.some ⟨28, .true⟩), (.call 13 [(.t 29)])⟩,
  ⟨(.some 31), (.some ⟨28, .true⟩), (.bin .eql (.t 30) (.c (.d (.int .i64 0))))⟩,
  ⟨(.some 32), .none, (.pick (.t 28) (.t 31) (.c (.d (.bool .false))))⟩,
  ⟨(.some 4), .none, (.mov (.t 32))⟩]
abbrev c_poundagelaw17_DaysIs_r9 : List AO := [⟨(.some 34), .none, (.load (.some 1) (.t 5))⟩,
  ⟨(.some 35), .none, (.mov (.t 1))⟩,
  ⟨(.some 36), .none, (.call 14 [(.t 34), (.t 35)])⟩,
  ⟨(.some 33), .none, (.mov (.t 36))⟩,
  ⟨(.some 37), .none, (.extract (.t 33) 0)⟩,
  ⟨(.some 38), .none, (.extract (.t 33) 1)⟩,
  ⟨(.some 9), .none, (.mov (.t 37))⟩,
  ⟨(.some 10), .none, (.mov (.t 38))⟩]
abbrev c_poundagelaw17_DaysIs_r10 : List AO := [⟨(.some 39), .none, (.mov (.t 1))⟩,
  ⟨(.some 40), .none, (.fieldAddr 1 (.t 2))⟩,
  ⟨(.some 41), .none, (.load .none (.t 40))⟩,
  ⟨(.some 42), .none, (.bin .lss (.t 39) (.t 41))⟩,
  ⟨(.some 43), .none, (.mov (.t 42))⟩,
  ⟨(.some 44), (.some ⟨43, .false⟩), (.mov (.t 1))⟩,
  ⟨(.some 45), (.some ⟨43, .false⟩), (.fieldAddr 2 (.t 2))⟩,
  ⟨(.some 46), (.some ⟨43, .false⟩), (.load .none (.t 45))⟩,
  ⟨(.some 47), (.some ⟨43, .false⟩), (.bin .gtr (.t 44) (.t 46))⟩,
  ⟨(.some 48), .none, (.pick (.t 43) (.c (.d (.bool .true))) (.t 47))⟩]
abbrev c_poundagelaw17_DaysIs_r11 : List AO := [⟨(.some 49), .none, (.mov (.t 10))⟩,
  ⟨(.some 50), .none, (.un .not (.t 49))⟩,
  ⟨(.some 51), .none, (.mov (.t 50))⟩,
  ⟨(.some 52), (.some ⟨51, .true⟩), (.mov (.t 9))⟩,
  ⟨(.some 53), (.some ⟨51, .true⟩), (.bin .eql (.t 52) (.c (.d (.int .u64 0))))⟩,
  ⟨(.some 54), .none, (.pick (.t 51) (.t 53) (.c (.d (.bool .false))))⟩,
  ⟨(.some 55), .none, (.mov (.t 54))⟩,
  ⟨(.some 56), (.some ⟨55, .true⟩), (.mov (.t 6))⟩,
  ⟨(.some 57), (.some ⟨55, .true⟩), (.fieldAddr 1 (.t 2))⟩,
  ⟨(.some 58), (.some ⟨55, .true⟩), (.load .none (.t 57))⟩,
  ⟨(.some 59), (.some ⟨55, .true⟩), (.bin .eql (.t 56) (.t 58))⟩,
  ⟨(.some 60), .none, (.pick (.t 55) (.t 59) (.c (.d (.bool .false))))⟩,
  ⟨(.some 61), .none, (.mov (.t 60))⟩,
  ⟨(.some 62), (.some ⟨61, .true⟩), (.mov (.t 7))⟩,
  ⟨(.some 63), (.some ⟨61, .true⟩), (.fieldAddr 2 (.t 2))⟩,
  ⟨(.some 64), (.some ⟨61, .true⟩), (.load .none (.t 63))⟩,
  ⟨(.some 65), (.some ⟨61, .true⟩), (.bin .eql (.t 62) (.t 64))⟩,
  ⟨(.some 66), .none, (.pick (.t 61) (.t 65) (.c (.d (.bool .false))))⟩,
  ⟨(.some 4), .none, (.mov (.t 66))⟩]
abbrev c_poundagelaw17_DaysIs_r12 : List AO := [⟨(.some 67), .none, (.mov (.t 10))⟩,
  ⟨(.some 68), .none, (.mov (.t 67))⟩,
  ⟨(.some 69), (.some ⟨68, .true⟩), (.mov (.t 9))⟩,
  ⟨(.some 70), (.some ⟨68, .true⟩), (.load (.some 6) (.t 2))⟩,
  ⟨(.some 71), (.some ⟨68, .true⟩), (.mov (.t 1))⟩,
  ⟨(.some 72), (.some ⟨68, .true⟩), (.call 15 [(.t 70), (.t 71)])⟩,
  ⟨(.some 73), (.some ⟨68, .true⟩), (.bin .eql (.t 69) (.t 72))⟩,
  ⟨(.some 74), .none, (.pick (.t 68) (.t 73) (.c (.d (.bool .false))))⟩,
  ⟨(.some 75), .none, (.mov (.t 74))⟩,
  ⟨(.some 76), (.some ⟨75, .true⟩), (.mov (.t 8))⟩,
  ⟨(.some 77), .none, (.pick (.t 75) (.t 76) (.c (.d (.bool .false))))⟩,
  ⟨(.some 78), .none, (.mov (.t 77))⟩,
  ⟨(.some 79), (.some ⟨78, .true⟩), (.mov (.t 6))⟩,
  ⟨(.some 80), (.some ⟨78, .true⟩), (.fieldAddr 1 (.t 2))⟩,
  ⟨(.some 81), (.some ⟨78, .true⟩), (.load .none (.t 80))⟩,
  ⟨(.some 82), (.some ⟨78, .true⟩), (.bin .eql (.t 79) (.t 81))⟩,
  ⟨(.some 83), .none, (.pick (.t 78) (.t 82) (.c (.d (.bool .false))))⟩,
  ⟨(.some 84), .none, (.mov (.t 83))⟩,
  ⟨(.some 85), (.some ⟨84, .true⟩), (.mov (.t 7))⟩,
  ⟨(.some 86), (.some ⟨84, .true⟩), (.fieldAddr 2 (.t 2))⟩,
  ⟨(.some 87), (.some ⟨84, .true⟩), (.load .none (.t 86))⟩,
  ⟨(.some 88), (.some ⟨84, .true⟩), (.bin .eql (.t 85) (.t 87))⟩,
  ⟨(.some 89), .none, (.pick (.t 84) (.t 88) (.c (.d (.bool .false))))⟩,
  ⟨(.some 4), .none, (.mov (.t 89))⟩]
abbrev c_poundagelaw17_DaysIs : AFunc := ⟨90, [(.tmp 4)], (.seq (.ops c_poundagelaw17_DaysIs_r0) (.seq (.seq (.ops c_poundagelaw17_DaysIs_r1) (.cond (.t 12) (.seq (.ops c_poundagelaw17_DaysIs_r2) .ret) .skip)) (.seq (.seq (.ops c_poundagelaw17_DaysIs_r3) (.cond (.t 14) (.seq (.ops c_poundagelaw17_DaysIs_r4) .ret) .skip)) (.seq (.ops c_poundagelaw17_DaysIs_r5) (.seq (.ops c_poundagelaw17_DaysIs_r6) (.seq (.seq (.ops c_poundagelaw17_DaysIs_r7) (.cond (.t 25) (.seq (.ops c_poundagelaw17_DaysIs_r8) .ret) .skip)) (.seq (.ops c_poundagelaw17_DaysIs_r9) (.seq (.seq (.ops c_poundagelaw17_DaysIs_r10) (.cond (.t 48) (.seq (.ops c_poundagelaw17_DaysIs_r11) .ret) .skip)) (.seq (.ops c_poundagelaw17_DaysIs_r12) .ret)))))))))⟩
theorem comp_poundagelaw17_DaysIs : funcC Try.prog 3 = some c_poundagelaw17_DaysIs := by kernel_rfl
/-! function 4 : poundage poundagelaw17.DaysMore -/
abbrev f_poundagelaw17_DaysMore : FuncId := 4
abbrev c_poundagelaw17_DaysMore_r0 : List AO := [⟨(.some 4), .none, (.box 26 (.t 0))⟩,
  ⟨(.some 8), .none, (.mov (.c (.d (.bool .false))))⟩]
abbrev c_poundagelaw17_DaysMore_r1 : List AO := [⟨(.some 17), .none, (.call 8 [])⟩,
  ⟨(.some 18), .none, (.un .not (.t 17))⟩]
abbrev c_poundagelaw17_DaysMore_r2 : List AO := [⟨(.some 8), .none, (.mov (.c (.d (.bool .false))))⟩]
abbrev c_poundagelaw17_DaysMore_r3 : List AO := [⟨(.some 19), .none, (.load (.some 6) (.t 4))⟩,
  ⟨(.some 20), .none, (.call 9 [(.t 19)])⟩,
  ⟨(.some 21), .none, (.mov (.t 20))⟩,
  ⟨(.some 22), (.some ⟨21, .false⟩), (.load (.some 6) (.t 4))⟩,
  ⟨(.some 23), (.some ⟨21, .false⟩), (.call 12 [(.t 22)])⟩,
  ⟨(.some 24), (.some ⟨21, .false⟩), (.un .not (.t 23))⟩,
  ⟨(.some 25), .none, (.pick (.t 21) (.c (.d (.bool .true))) (.t 24))⟩,
  ⟨(.some 26), .none, (.mov (.t 25))⟩,
  ⟨(.some 27), (.some ⟨26, .false⟩), (.fieldAddr 4 (.t 4))⟩,
  ⟨(.some 28), (.some ⟨26, .false⟩), (.load .none (.t 27))⟩,
  ⟨(.some 29), (.some ⟨26, .false⟩), (.len (.t 28))⟩,
  ⟨(.some 30), (.some ⟨26, .false⟩), (.bin .gtr (.t 29) (.c (.d (.int .i64 7))))⟩,
  ⟨(.some 31), .none, (.pick (.t 26) (.c (.d (.bool .true))) (.t 30))⟩,
  ⟨(.some 32), .none, (.mov (.t 31))⟩,
  ⟨(.some 33), (.some ⟨32, .false⟩), (.mov (.t 1))⟩,
  ⟨(.some 34), (.some ⟨32, .false⟩), (.fieldAddr 1 (.t 4))⟩,
  ⟨(.some 35), (.some ⟨32, .false⟩), (.load .none (.t 34))⟩,
  ⟨(.some 36), (.some ⟨32, .false⟩), (.bin .lss (.t 33) (.t 35))⟩,
  ⟨(.some 37), .none, (.pick (.t 32) (.c (.d (.bool .true))) (.t 36))⟩,
  ⟨(.some 38), .none, (.mov (.t 37))⟩,
  ⟨(.some 39), (.some ⟨38, .false⟩), (.mov (.t 2))⟩,
  ⟨(.some 40), (.some ⟨38, .false⟩), (.mov (.t 1))⟩,
  ⟨(.some 41), (.some ⟨38, .false⟩), (.bin .lss (.t 39) (.t 40))⟩,
  ⟨(.some 42), .none, (.pick (.t 38) (.c (.d (.bool .true))) (.t 41))⟩,
  ⟨(.some 43), .none, (.mov (.t 42))⟩,
  ⟨(.some 44), (.some ⟨43, .false⟩), (.mov (.t 2))⟩,
  ⟨(.some 45), (.some ⟨43, .false⟩), (.fieldAddr 2 (.t 4))⟩,
  ⟨(.some 46), (.some ⟨43, .false⟩), (.load .none (.t 45))⟩,
  ⟨(.some 47), (.some ⟨43, .false⟩), (.bin .gtr (.t 44) (.t 46))⟩,
  ⟨(.some 48), .none, (.pick (.t 43) (.c (.d (.bool .true))) (.t 47))⟩]
abbrev c_poundagelaw17_DaysMore_r4 : List AO := [⟨(.some 8), .none, (.mov (.c (.d (.bool .true))))⟩]
abbrev c_poundagelaw17_DaysMore_r5 : List AO := [⟨(.some 49), .none, (.load (.some 6) (.t 4))⟩,
  ⟨(.some 9), .none, (.alloc 26 [(.d (.str ⟨⟨[]⟩⟩)), (.d (.int .i64 0)), (.d (.int .i64 0)), (.nilsl 5), (.nilsl 3), (.nilsl 9)])⟩,
  ⟨.none, .none, (.store 6 (.t 9) (.t 49))⟩]
abbrev c_poundagelaw17_DaysMore_r6 : List AO := [⟨(.some 50), .none, (.buildSlice 43 3 0 [(.d (.int .i64 0)), (.d (.int .i64 0)), (.d (.int .i64 0))] [])⟩,
  ⟨(.some 51), .none, (.fieldAddr 4 (.t 4))⟩,
  ⟨(.some 52), .none, (.load .none (.t 51))⟩,
  ⟨(.some 53), .none, (.append 43 3 24 [(.d (.int .i64 0)), (.d (.int .i64 0)), (.d (.int .i64 0))] (.t 50) (.t 52))⟩,
  ⟨(.some 54), .none, (.mov (.t 1))⟩,
  ⟨(.some 55), .none, (.mov (.t 2))⟩,
  ⟨(.some 56), .none, (.build [(.d (.int .i64 0)), (.d (.int .i64 0)), (.d (.int .i64 0))] [⟨0, ⟨1, (.c (.d (.int .i64 1)))⟩⟩, ⟨1, ⟨1, (.t 54)⟩⟩, ⟨2, ⟨1, (.t 55)⟩⟩])⟩,
  ⟨(.some 57), .none, (.buildSlice 43 3 1 [(.d (.int .i64 0)), (.d (.int .i64 0)), (.d (.int .i64 0))] [⟨0, (.t 56)⟩])⟩,
  ⟨(.some 58), .none, (.append 43 3 24 [(.d (.int .i64 0)), (.d (.int .i64 0)), (.d (.int .i64 0))] (.t 53) (.t 57))⟩,
  ⟨(.some 59), .none, (.fieldAddr 4 (.t 9))⟩,
  ⟨.none, .none, (.store 1 (.t 59) (.t 58))⟩]
abbrev c_poundagelaw17_DaysMore_r7 : List AO := [⟨(.some 60), .none, (.loadS (.some 6) (.t 4) [10, 11])⟩,
  ⟨(.some 61), .none, (.pcall 10 [(.t 60)])⟩,
  ⟨(.some 62), .none, (.loadS (.some 6) (.t 9) [10, 11])⟩,
  ⟨(.some 63), .none, (.pcall 10 [(.t 62)])⟩,
  ⟨(.some 10), .none, (.alloc 31 [(.nilsl 3)])⟩,
  ⟨(.some 11), .none, (.alloc 31 [(.nilsl 3)])⟩,
  ⟨.none, .none, (.storeS 1 10 (.t 61))⟩,
  ⟨.none, .none, (.storeS 1 11 (.t 63))⟩]
abbrev c_poundagelaw17_DaysMore_r8 : List AO := [⟨(.some 65), .none, (.load (.some 1) (.t 10))⟩,
  ⟨(.some 66), .none, (.mov (.t 3))⟩,
  ⟨(.some 67), .none, (.call 14 [(.t 65), (.t 66)])⟩,
  ⟨(.some 64), .none, (.mov (.t 67))⟩,
  ⟨(.some 68), .none, (.extract (.t 64) 0)⟩,
  ⟨(.some 69), .none, (.extract (.t 64) 1)⟩,
  ⟨(.some 12), .none, (.mov (.t 68))⟩,
  ⟨(.some 13), .none, (.mov (.t 69))⟩]
abbrev c_poundagelaw17_DaysMore_r9 : List AO := [⟨(.some 71), .none, (.load (.some 1) (.t 11))⟩,
  ⟨(.some 72), .none, (.mov (.t 3))⟩,
  ⟨(.some 73), .none, (.call 14 [(.t 71), (.t 72)])⟩,
  ⟨(.some 70), .none, (.mov (.t 73))⟩,
  ⟨(.some 74), .none, (.extract (.t 70) 0)⟩,
  ⟨(.some 75), .none, (.extract (.t 70) 1)⟩,
  ⟨(.some 14), .none, (.mov (.t 74))⟩,
  ⟨(.some 15), .none, (.mov (.t 75))⟩]
abbrev c_poundagelaw17_DaysMore_r10 : List AO := [⟨(.some 76), .none, (.mov (.t 13))⟩,
  ⟨(.some 77), .none, (.mov (.t 15))⟩,
  ⟨(.some 78), .none, (.binb .true (.t 76) (.t 77))⟩]
abbrev c_poundagelaw17_DaysMore_r11 : List AO := [⟨(.some 8), .none, (.mov (.c (.d (.bool .false))))⟩]
abbrev c_poundagelaw17_DaysMore_r12 : List AO := [⟨(.some 79), .none, (.mov (.t 12))⟩,
  ⟨(.some 16), .none, (.mov (.t 79))⟩]
abbrev c_poundagelaw17_DaysMore_r13 : List AO := [⟨(.some 80), .none, (.mov (.t 13))⟩,
  ⟨(.some 81), .none, (.mov (.t 80))⟩,
  ⟨(.some 82), (.some ⟨81, .true⟩), (.mov (.t 1))⟩,
  ⟨(.some 83), (.some ⟨81, .true⟩), (.mov (.t 3))⟩,
  ⟨(.some 84), (.some ⟨81, .true⟩), (.bin .leq (.t 82) (.t 83))⟩,
  ⟨(.some 85), .none, (.pick (.t 81) (.t 84) (.c (.d (.bool .false))))⟩,
  ⟨(.some 86), .none, (.mov (.t 85))⟩,
  ⟨(.some 87), (.some ⟨86, .true⟩), (.mov (.t 3))⟩,
  ⟨(.some 88), (.some ⟨86, .true⟩), (.mov (.t 2))⟩,
  ⟨(.some 89), (.some ⟨86, .true⟩), (.bin .leq (.t 87) (.t 88))⟩,
  ⟨(.some 90), .none, (.pick (.t 86) (.t 89) (.c (.d (.bool .false))))⟩]
abbrev c_poundagelaw17_DaysMore_r14 : List AO := [⟨(.some 91), .none, (.mov (.t 12))⟩,
  ⟨(.some 92), .none, (.fieldAddr 4 (.t 4))⟩,
  ⟨(.some 93), .none, (.load .none (.t 92))⟩,
  ⟨(.some 94), .none, (.len (.t 93))⟩,
  ⟨(.some 95), .none, (.call 16 [(.t 94)])⟩,
  ⟨(.some 96), .none, (.bin .or (.t 91) (.t 95))⟩,
  ⟨(.some 16), .none, (.mov (.t 96))⟩]
abbrev c_poundagelaw17_DaysMore_r15 : List AO := [⟨(.some 97), .none, (.mov (.t 14))⟩,
  ⟨(.some 98), .none, (.mov (.t 16))⟩,
  ⟨(.some 99), .none, (.bin .eql (.t 97) (.t 98))⟩,
  ⟨(.some 100), .none, (.mov (.t 99))⟩,
  ⟨(.some 101), (.some ⟨100, .true⟩), (.load (.some 1) (.t 11))⟩,
  ⟨(.some 102), (.some ⟨100, .true⟩), (.pcall 13 [(.t 101)])⟩,
  ⟨(.some 103), (.some ⟨100, .true⟩), (.load (.some 1) (.t 10))⟩,
  ⟨(.some 104), (.some ⟨100, .true⟩), (.call 13 [(.t 103)])⟩,
  ⟨(.some 105), (.some ⟨100, .true⟩), (.bin .add (.t 104) (.c (.d (.int .i64 2))))⟩,
  ⟨(.some 106), (.some ⟨100, .true⟩), (.bin .leq (.t 102) (.t 105))⟩,
  ⟨(.some 107), .none, (.pick (.t 100) (.t 106) (.c (.d (.bool .false))))⟩,
  ⟨(.some 8), .none, (.mov (.t 107))⟩]
abbrev c_poundagelaw17_DaysMore : AFunc := ⟨108, [(.tmp 8)], (.seq (.ops c_poundagelaw17_DaysMore_r0) (.seq (.seq (.ops c_poundagelaw17_DaysMore_r1) (.cond (.t 18) (.seq (.ops c_poundagelaw17_DaysMore_r2) .ret) .skip)) (.seq (.seq (.ops c_poundagelaw17_DaysMore_r3) (.cond (.t 48) (.seq (.ops c_poundagelaw17_DaysMore_r4) .ret) .skip)) (.seq (.ops c_poundagelaw17_DaysMore_r5) (.seq (.ops c_poundagelaw17_DaysMore_r6) (.seq (.dops c_poundagelaw17_DaysMore_r7) (.seq (.ops c_poundagelaw17_DaysMore_r8) (.seq (.ops c_poundagelaw17_DaysMore_r9) (.seq (.seq (.ops c_poundagelaw17_DaysMore_r10) (.cond (.t 78) (.seq (.ops c_poundagelaw17_DaysMore_r11) .ret) .skip)) (.seq (.ops c_poundagelaw17_DaysMore_r12) (.seq (.seq (.ops c_poundagelaw17_DaysMore_r13) (.cond (.t 90) (.ops c_poundagelaw17_DaysMore_r14) .skip)) (.seq (.dops c_poundagelaw17_DaysMore_r15) .ret))))))))))))⟩
theorem comp_poundagelaw17_DaysMore : funcC Try.prog 4 = some c_poundagelaw17_DaysMore := by kernel_rfl
/-! function 5 : poundage poundagelaw17.DaysSets -/
abbrev f_poundagelaw17_DaysSets : FuncId := 5
abbrev c_poundagelaw17_DaysSets_r0 : List AO := [⟨(.some 6), .none, (.mov (.c (.d (.bool .false))))⟩]
abbrev c_poundagelaw17_DaysSets_r1 : List AO := [⟨(.some 9), .none, (.call 8 [])⟩,
  ⟨(.some 10), .none, (.un .not (.t 9))⟩]
abbrev c_poundagelaw17_DaysSets_r2 : List AO := [⟨(.some 6), .none, (.mov (.c (.d (.bool .false))))⟩]
abbrev c_poundagelaw17_DaysSets_r3 : List AO := [⟨(.some 11), .none, (.mov (.t 0))⟩,
  ⟨(.some 12), .none, (.call 16 [(.t 11)])⟩,
  ⟨(.some 13), .none, (.mov (.t 0))⟩,
  ⟨(.some 14), .none, (.call 17 [(.t 13)])⟩,
  ⟨(.some 7), .none, (.mov (.t 12))⟩,
  ⟨(.some 8), .none, (.mov (.t 14))⟩]
abbrev c_poundagelaw17_DaysSets_r4 : List AO := [⟨(.some 15), .none, (.mov (.t 0))⟩,
  ⟨(.some 16), .none, (.bin .lss (.t 15) (.c (.d (.int .i64 0))))⟩,
  ⟨(.some 17), .none, (.mov (.t 16))⟩,
  ⟨(.some 18), (.some ⟨17, .false⟩), (.mov (.t 0))⟩,
  ⟨(.some 19), (.some ⟨17, .false⟩), (.bin .gtr (.t 18) (.c (.d (.int .i64 7))))⟩,
  ⟨(.some 20), .none, (.pick (.t 17) (.c (.d (.bool .true))) (.t 19))⟩]
abbrev c_poundagelaw17_DaysSets_r5 : List AO := [⟨(.some 21), .none, (.mov (.t 7))⟩,
  ⟨(.some 22), .none, (.bin .eql (.t 21) (.c (.d (.int .u64 0))))⟩,
  ⟨(.some 23), .none, (.mov (.t 22))⟩,
  ⟨(.some 24), (.some ⟨23, .true⟩), (.mov (.t 8))⟩,
  ⟨(.some 25), (.some ⟨23, .true⟩), (.bin .eql (.t 24) (.c (.d (.int .u64 0))))⟩,
  ⟨(.some 26), .none, (.pick (.t 23) (.t 25) (.c (.d (.bool .false))))⟩,
  ⟨(.some 6), .none, (.mov (.t 26))⟩]
abbrev c_poundagelaw17_DaysSets_r6 : List AO := [⟨(.some 27), .none, (.mov (.t 7))⟩,
  ⟨(.some 28), .none, (.mov (.t 0))⟩,
  ⟨(.some 29), .none, (.conv .u64 (.t 28))⟩,
  ⟨(.some 30), .none, (.bin .shl (.c (.d (.int .u64 1))) (.t 29))⟩,
  ⟨(.some 31), .none, (.bin .eql (.t 27) (.t 30))⟩,
  ⟨(.some 32), .none, (.mov (.t 31))⟩,
  ⟨(.some 33), (.some ⟨32, .true⟩), (.mov (.t 8))⟩,
  ⟨(.some 34), (.some ⟨32, .true⟩), (.mov (.t 0))⟩,
  ⟨(.some 35), (.some ⟨32, .true⟩), (.bin .add (.c (.d (.int .i64 8))) (.t 34))⟩,
  ⟨(.some 36), (.some ⟨32, .true⟩), (.conv .u64 (.t 35))⟩,
  ⟨(.some 37), (.some ⟨32, .true⟩), (.bin .shl (.c (.d (.int .u64 1))) (.t 36))⟩,
  ⟨(.some 38), (.some ⟨32, .true⟩), (.bin .eql (.t 33) (.t 37))⟩,
  ⟨(.some 39), .none, (.pick (.t 32) (.t 38) (.c (.d (.bool .false))))⟩,
  ⟨(.some 40), .none, (.mov (.t 39))⟩,
  ⟨(.some 41), (.some ⟨40, .true⟩), (.mov (.t 1))⟩,
  ⟨(.some 42), (.some ⟨40, .true⟩), (.mov (.t 2))⟩,
  ⟨(.some 43), (.some ⟨40, .true⟩), (.call 18 [(.t 41), (.t 42)])⟩,
  ⟨(.some 44), (.some ⟨40, .true⟩), (.mov (.t 2))⟩,
  ⟨(.some 45), (.some ⟨40, .true⟩), (.mov (.t 1))⟩,
  ⟨(.some 46), (.some ⟨40, .true⟩), (.bin .andNot (.t 44) (.t 45))⟩,
  ⟨(.some 47), (.some ⟨40, .true⟩), (.bin .eql (.t 46) (.c (.d (.int .u64 0))))⟩,
  ⟨(.some 48), (.some ⟨40, .true⟩), (.binb .false (.t 43) (.t 47))⟩,
  ⟨(.some 49), .none, (.pick (.t 40) (.t 48) (.c (.d (.bool .false))))⟩,
  ⟨(.some 50), .none, (.mov (.t 49))⟩,
  ⟨(.some 51), (.some ⟨50, .true⟩), (.mov (.t 1))⟩,
  ⟨(.some 52), (.some ⟨50, .true⟩), (.mov (.t 7))⟩,
  ⟨(.some 53), (.some ⟨50, .true⟩), (.call 18 [(.t 51), (.t 52)])⟩,
  ⟨(.some 54), (.some ⟨50, .true⟩), (.mov (.t 1))⟩,
  ⟨(.some 55), (.some ⟨50, .true⟩), (.mov (.t 0))⟩,
  ⟨(.some 56), (.some ⟨50, .true⟩), (.conv .u64 (.t 55))⟩,
  ⟨(.some 57), (.some ⟨50, .true⟩), (.bin .shr (.t 54) (.t 56))⟩,
  ⟨(.some 58), (.some ⟨50, .true⟩), (.bin .rem (.t 57) (.c (.d (.int .u64 2))))⟩,
  ⟨(.some 59), (.some ⟨50, .true⟩), (.bin .eql (.t 58) (.c (.d (.int .u64 1))))⟩,
  ⟨(.some 60), (.some ⟨50, .true⟩), (.binb .false (.t 53) (.t 59))⟩,
  ⟨(.some 61), .none, (.pick (.t 50) (.t 60) (.c (.d (.bool .false))))⟩,
  ⟨(.some 6), .none, (.mov (.t 61))⟩]
abbrev c_poundagelaw17_DaysSets : AFunc := ⟨62, [(.tmp 6)], (.seq (.ops c_poundagelaw17_DaysSets_r0) (.seq (.seq (.ops c_poundagelaw17_DaysSets_r1) (.cond (.t 10) (.seq (.ops c_poundagelaw17_DaysSets_r2) .ret) .skip)) (.seq (.ops c_poundagelaw17_DaysSets_r3) (.seq (.seq (.ops c_poundagelaw17_DaysSets_r4) (.cond (.t 20) (.seq (.ops c_poundagelaw17_DaysSets_r5) .ret) .skip)) (.seq (.ops c_poundagelaw17_DaysSets_r6) .ret)))))⟩
theorem comp_poundagelaw17_DaysSets : funcC Try.prog 5 = some c_poundagelaw17_DaysSets := by kernel_rfl
/-! function 6 : poundage poundagelaw17.DaysRuns -/
abbrev f_poundagelaw17_DaysRuns : FuncId := 6
abbrev c_poundagelaw17_DaysRuns_r0 : List AO := [⟨(.some 1), .none, (.box 26 (.t 0))⟩,
  ⟨(.some 2), .none, (.mov (.c (.d (.bool .false))))⟩]
abbrev c_poundagelaw17_DaysRuns_r1 : List AO := [⟨(.some 7), .none, (.call 8 [])⟩,
  ⟨(.some 8), .none, (.un .not (.t 7))⟩]
abbrev c_poundagelaw17_DaysRuns_r2 : List AO := [⟨(.some 2), .none, (.mov (.c (.d (.bool .false))))⟩]
abbrev c_poundagelaw17_DaysRuns_r3 : List AO := [⟨(.some 9), .none, (.load (.some 6) (.t 1))⟩,
  ⟨(.some 10), .none, (.call 9 [(.t 9)])⟩,
  ⟨(.some 11), .none, (.mov (.t 10))⟩,
  ⟨(.some 12), (.some ⟨11, .false⟩), (.load (.some 6) (.t 1))⟩,
  ⟨(.some 13), (.some ⟨11, .false⟩), (.call 12 [(.t 12)])⟩,
  ⟨(.some 14), (.some ⟨11, .false⟩), (.un .not (.t 13))⟩,
  ⟨(.some 15), .none, (.pick (.t 11) (.c (.d (.bool .true))) (.t 14))⟩]
abbrev c_poundagelaw17_DaysRuns_r4 : List AO := [⟨(.some 2), .none, (.mov (.c (.d (.bool .true))))⟩]
abbrev c_poundagelaw17_DaysRuns_r5 : List AO := [⟨(.some 16), .none, (.load (.some 6) (.t 1))⟩,
  ⟨(.some 17), .none, (.pcall 19 [(.t 16)])⟩,
  ⟨(.some 18), .none, (.load (.some 6) (.t 1))⟩,
  ⟨(.some 19), .none, (.call 20 [(.t 18)])⟩,
  ⟨(.some 3), .none, (.mov (.t 17))⟩,
  ⟨(.some 4), .none, (.mov (.t 19))⟩]
abbrev c_poundagelaw17_DaysRuns_r6 : List AO := [⟨(.some 20), .none, (.mov (.t 3))⟩,
  ⟨(.some 21), .none, (.len (.t 20))⟩,
  ⟨(.some 22), .none, (.mov (.t 4))⟩,
  ⟨(.some 23), .none, (.len (.t 22))⟩,
  ⟨(.some 24), .none, (.bin .add (.t 23) (.c (.d (.int .i64 1))))⟩,
  ⟨(.some 25), .none, (.bin .neq (.t 21) (.t 24))⟩,
  ⟨(.some 26), .none, (.mov (.t 25))⟩,
  ⟨(.some 27), (.some ⟨26, .false⟩), (.mov (.t 3))⟩,
  ⟨(.some 28), (.some ⟨26, .false⟩), (.elemAddr 1 (.t 27) (.c (.d (.int .i64 0))))⟩,
  ⟨(.some 30), (.some ⟨26, .false⟩), (.fieldAddr 1 (.t 1))⟩,
  ⟨(.some 29), (.some ⟨26, .false⟩), (.load .none (.t 28))⟩,
  ⟨(.some 31), (.some ⟨26, .false⟩), (.load .none (.t 30))⟩,
  ⟨(.some 32), (.some ⟨26, .false⟩), (.bin .neq (.t 29) (.t 31))⟩,
  ⟨(.some 33), .none, (.pick (.t 26) (.c (.d (.bool .true))) (.t 32))⟩,
  ⟨(.some 34), .none, (.mov (.t 33))⟩,
  ⟨(.some 35), (.some ⟨34, .false⟩), (.mov (.t 3))⟩,
  ⟨(.some 36), (.some ⟨34, .false⟩), (.len (.t 35))⟩,
  ⟨(.some 37), (.some ⟨34, .false⟩), (.fieldAddr 4 (.t 1))⟩,
  ⟨(.some 40), (.some ⟨34, .false⟩), (.fieldAddr 5 (.t 1))⟩,
  ⟨(.some 38), (.some ⟨34, .false⟩), (.load .none (.t 37))⟩,
  ⟨(.some 39), (.some ⟨34, .false⟩), (.len (.t 38))⟩,
  ⟨(.some 41), (.some ⟨34, .false⟩), (.load .none (.t 40))⟩,
  ⟨(.some 42), (.some ⟨34, .false⟩), (.len (.t 41))⟩,
  ⟨(.some 43), (.some ⟨34, .false⟩), (.bin .add (.t 39) (.t 42))⟩,
  ⟨(.some 44), (.some ⟨34, .false⟩), (.bin .mul (.c (.d (.int .i64 2))) (.t 43))⟩,
  ⟨(.some 45), (.some ⟨34, .false⟩), (.bin .add (.t 44) (.c (.d (.int .i64 1))))⟩,
  ⟨(.some 46), (.some ⟨34, .false⟩), (.bin .gtr (.t 36) (.t 45))⟩,
  ⟨(.some 47), .none, (.pick (.t 34) (.c (.d (.bool .true))) (.t 46))⟩]
abbrev c_poundagelaw17_DaysRuns_r7 : List AO := [⟨(.some 2), .none, (.mov (.c (.d (.bool .false))))⟩]
abbrev c_poundagelaw17_DaysRuns_r8 : List AO := [⟨(.some 48), .none, (.mov (.t 4))⟩,
  ⟨(.some 49), .none, (.len (.t 48))⟩,
  ⟨(.some 50), .none, (.mov (.c (.d (.int .i64 0))))⟩]
abbrev c_poundagelaw17_DaysRuns_r9 : List AO := [⟨(.some 51), .none, (.bin .lss (.t 50) (.t 49))⟩]
abbrev c_poundagelaw17_DaysRuns_r10 : List AO := [⟨(.some 52), .none, (.mov (.t 50))⟩,
  ⟨(.some 53), .none, (.elemAddr 1 (.t 48) (.t 50))⟩,
  ⟨(.some 54), .none, (.load .none (.t 53))⟩,
  ⟨(.some 5), .none, (.mov (.t 52))⟩,
  ⟨(.some 6), .none, (.mov (.t 54))⟩]
abbrev c_poundagelaw17_DaysRuns_r11 : List AO := [⟨(.some 55), .none, (.mov (.t 3))⟩,
  ⟨(.some 56), .none, (.mov (.t 5))⟩,
  ⟨(.some 57), .none, (.bin .add (.t 56) (.c (.d (.int .i64 1))))⟩,
  ⟨(.some 58), .none, (.elemAddr 1 (.t 55) (.t 57))⟩,
  ⟨(.some 59), .none, (.load .none (.t 58))⟩,
  ⟨(.some 60), .none, (.mov (.t 6))⟩,
  ⟨(.some 61), .none, (.bin .neq (.t 59) (.t 60))⟩]
abbrev c_poundagelaw17_DaysRuns_r12 : List AO := [⟨(.some 2), .none, (.mov (.c (.d (.bool .false))))⟩]
abbrev c_poundagelaw17_DaysRuns_r13 : List AO := [⟨(.some 62), .none, (.bin .add (.t 50) (.c (.d (.int .i64 1))))⟩,
  ⟨(.some 50), .none, (.mov (.t 62))⟩]
abbrev c_poundagelaw17_DaysRuns_l0 : ACode := (.seq (.ops c_poundagelaw17_DaysRuns_r9) (.seq (.cond (.t 51) .skip (.exit 0)) (.seq (.block 1 (.seq (.ops c_poundagelaw17_DaysRuns_r10) (.seq (.ops c_poundagelaw17_DaysRuns_r11) (.cond (.t 61) (.seq (.ops c_poundagelaw17_DaysRuns_r12) .ret) .skip)))) (.ops c_poundagelaw17_DaysRuns_r13))))
abbrev c_poundagelaw17_DaysRuns_r14 : List AO := [⟨(.some 2), .none, (.mov (.c (.d (.bool .true))))⟩]
abbrev c_poundagelaw17_DaysRuns : AFunc := ⟨63, [(.tmp 2)], (.seq (.ops c_poundagelaw17_DaysRuns_r0) (.seq (.seq (.ops c_poundagelaw17_DaysRuns_r1) (.cond (.t 8) (.seq (.ops c_poundagelaw17_DaysRuns_r2) .ret) .skip)) (.seq (.seq (.ops c_poundagelaw17_DaysRuns_r3) (.cond (.t 15) (.seq (.ops c_poundagelaw17_DaysRuns_r4) .ret) .skip)) (.seq (.dops c_poundagelaw17_DaysRuns_r5) (.seq (.seq (.dops c_poundagelaw17_DaysRuns_r6) (.cond (.t 47) (.seq (.ops c_poundagelaw17_DaysRuns_r7) .ret) .skip)) (.seq (.seq (.ops c_poundagelaw17_DaysRuns_r8) (.block 0 (.loop c_poundagelaw17_DaysRuns_l0))) (.seq (.ops c_poundagelaw17_DaysRuns_r14) .ret)))))))⟩
theorem comp_poundagelaw17_DaysRuns : funcC Try.prog 6 = some c_poundagelaw17_DaysRuns := by kernel_rfl
/-! function 7 : poundage poundagelaw17.DaysAll -/
abbrev f_poundagelaw17_DaysAll : FuncId := 7
abbrev c_poundagelaw17_DaysAll_r0 : List AO := [⟨(.some 1), .none, (.box 26 (.t 0))⟩,
  ⟨(.some 2), .none, (.mov (.c (.d (.bool .false))))⟩]
abbrev c_poundagelaw17_DaysAll_r1 : List AO := [⟨(.some 19), .none, (.call 8 [])⟩,
  ⟨(.some 20), .none, (.un .not (.t 19))⟩]
abbrev c_poundagelaw17_DaysAll_r2 : List AO := [⟨(.some 2), .none, (.mov (.c (.d (.bool .false))))⟩]
abbrev c_poundagelaw17_DaysAll_r3 : List AO := [⟨(.some 21), .none, (.load (.some 6) (.t 1))⟩,
  ⟨(.some 22), .none, (.call 9 [(.t 21)])⟩,
  ⟨(.some 23), .none, (.mov (.t 22))⟩,
  ⟨(.some 24), (.some ⟨23, .false⟩), (.load (.some 6) (.t 1))⟩,
  ⟨(.some 25), (.some ⟨23, .false⟩), (.call 12 [(.t 24)])⟩,
  ⟨(.some 26), (.some ⟨23, .false⟩), (.un .not (.t 25))⟩,
  ⟨(.some 27), .none, (.pick (.t 23) (.c (.d (.bool .true))) (.t 26))⟩]
abbrev c_poundagelaw17_DaysAll_r4 : List AO := [⟨(.some 2), .none, (.mov (.c (.d (.bool .true))))⟩]
abbrev c_poundagelaw17_DaysAll_r5 : List AO := [⟨(.some 28), .none, (.load (.some 6) (.t 1))⟩,
  ⟨(.some 29), .none, (.call 10 [(.t 28)])⟩,
  ⟨(.some 3), .none, (.alloc 31 [(.nilsl 3)])⟩,
  ⟨.none, .none, (.store 1 (.t 3) (.t 29))⟩]
abbrev c_poundagelaw17_DaysAll_r6 : List AO := [⟨(.some 4), .none, (.alloc 36 [(.d (.int .u64 0))])⟩,
  ⟨(.some 5), .none, (.mov (.c (.d (.int .u64 0))))⟩]
abbrev c_poundagelaw17_DaysAll_r7 : List AO := [⟨(.some 30), .none, (.load (.some 1) (.t 3))⟩,
  ⟨(.some 31), .none, (.call 21 [(.t 30)])⟩]
abbrev c_poundagelaw17_DaysAll_r8 : List AO := [⟨(.some 6), .none, (.alloc 55 [(.d (.int .i64 0)), (.d (.int .i64 0)), (.d (.int .u64 0))])⟩,
  ⟨.none, .none, (.store 3 (.t 6) (.t 32))⟩]
abbrev c_poundagelaw17_DaysAll_r9 : List AO := [⟨(.some 33), .none, (.load .none (.t 4))⟩,
  ⟨(.some 34), .none, (.fieldAddr 2 (.t 6))⟩,
  ⟨(.some 35), .none, (.load .none (.t 34))⟩,
  ⟨(.some 36), .none, (.bin .or (.t 33) (.t 35))⟩,
  ⟨.none, .none, (.store 1 (.t 4) (.t 36))⟩]
abbrev c_poundagelaw17_DaysAll_g0 : ACode := (.block 1 (.ops c_poundagelaw17_DaysAll_r9))
abbrev c_poundagelaw17_DaysAll_r10 : List AO := [⟨(.some 37), .none, (.fieldAddr 4 (.t 1))⟩,
  ⟨(.some 38), .none, (.load .none (.t 37))⟩,
  ⟨(.some 39), .none, (.len (.t 38))⟩,
  ⟨(.some 40), .none, (.mov (.c (.d (.int .i64 0))))⟩]
abbrev c_poundagelaw17_DaysAll_r11 : List AO := [⟨(.some 41), .none, (.bin .lss (.t 40) (.t 39))⟩]
abbrev c_poundagelaw17_DaysAll_r12 : List AO := [⟨(.some 42), .none, (.mov (.t 40))⟩,
  ⟨(.some 43), .none, (.elemAddr 3 (.t 38) (.t 40))⟩,
  ⟨(.some 44), .none, (.load (.some 3) (.t 43))⟩,
  ⟨(.some 8), .none, (.alloc 43 [(.d (.int .i64 0)), (.d (.int .i64 0)), (.d (.int .i64 0))])⟩,
  ⟨(.some 7), .none, (.mov (.t 42))⟩,
  ⟨.none, .none, (.store 3 (.t 8) (.t 44))⟩]
abbrev c_poundagelaw17_DaysAll_r13 : List AO := [⟨(.some 46), .none, (.load (.some 1) (.t 3))⟩,
  ⟨(.some 47), .none, (.fieldAddr 1 (.t 8))⟩,
  ⟨(.some 48), .none, (.load .none (.t 47))⟩,
  ⟨(.some 49), .none, (.call 14 [(.t 46), (.t 48)])⟩,
  ⟨(.some 45), .none, (.mov (.t 49))⟩,
  ⟨(.some 50), .none, (.extract (.t 45) 0)⟩,
  ⟨(.some 51), .none, (.extract (.t 45) 1)⟩,
  ⟨(.some 9), .none, (.mov (.t 50))⟩,
  ⟨(.some 10), .none, (.mov (.t 51))⟩]
abbrev c_poundagelaw17_DaysAll_r14 : List AO := [⟨(.some 53), .none, (.load (.some 1) (.t 3))⟩,
  ⟨(.some 54), .none, (.fieldAddr 2 (.t 8))⟩,
  ⟨(.some 55), .none, (.load .none (.t 54))⟩,
  ⟨(.some 56), .none, (.call 14 [(.t 53), (.t 55)])⟩,
  ⟨(.some 52), .none, (.mov (.t 56))⟩,
  ⟨(.some 57), .none, (.extract (.t 52) 0)⟩,
  ⟨(.some 58), .none, (.extract (.t 52) 1)⟩,
  ⟨(.some 11), .none, (.mov (.t 57))⟩,
  ⟨(.some 12), .none, (.mov (.t 58))⟩]
abbrev c_poundagelaw17_DaysAll_r15 : List AO := [⟨(.some 59), .none, (.mov (.t 9))⟩,
  ⟨(.some 60), .none, (.mov (.t 7))⟩,
  ⟨(.some 61), .none, (.call 16 [(.t 60)])⟩,
  ⟨(.some 62), .none, (.call 18 [(.t 59), (.t 61)])⟩,
  ⟨(.some 63), .none, (.un .not (.t 62))⟩,
  ⟨(.some 64), .none, (.mov (.t 63))⟩,
  ⟨(.some 65), (.some ⟨64, .false⟩), (.mov (.t 11))⟩,
  ⟨(.some 66), (.some ⟨64, .false⟩), (.mov (.t 7))⟩,
  ⟨(.some 67), (.some ⟨64, .false⟩), (.call 16 [(.t 66)])⟩,
  ⟨(.some 68), (.some ⟨64, .false⟩), (.call 18 [(.t 65), (.t 67)])⟩,
  ⟨(.some 69), (.some ⟨64, .false⟩), (.un .not (.t 68))⟩,
  ⟨(.some 70), .none, (.pick (.t 64) (.c (.d (.bool .true))) (.t 69))⟩]
abbrev c_poundagelaw17_DaysAll_r16 : List AO := [⟨(.some 2), .none, (.mov (.c (.d (.bool .false))))⟩]
abbrev c_poundagelaw17_DaysAll_r17 : List AO := [⟨(.some 71), .none, (.mov (.t 5))⟩,
  ⟨(.some 72), .none, (.mov (.t 7))⟩,
  ⟨(.some 73), .none, (.call 16 [(.t 72)])⟩,
  ⟨(.some 74), .none, (.bin .or (.t 71) (.t 73))⟩,
  ⟨(.some 5), .none, (.mov (.t 74))⟩]
abbrev c_poundagelaw17_DaysAll_r18 : List AO := [⟨(.some 75), .none, (.bin .add (.t 40) (.c (.d (.int .i64 1))))⟩,
  ⟨(.some 40), .none, (.mov (.t 75))⟩]
abbrev c_poundagelaw17_DaysAll_l1 : ACode := (.seq (.ops c_poundagelaw17_DaysAll_r11) (.seq (.cond (.t 41) .skip (.exit 2)) (.seq (.block 3 (.seq (.ops c_poundagelaw17_DaysAll_r12) (.seq (.ops c_poundagelaw17_DaysAll_r13) (.seq (.ops c_poundagelaw17_DaysAll_r14) (.seq (.seq (.ops c_poundagelaw17_DaysAll_r15) (.cond (.t 70) (.seq (.ops c_poundagelaw17_DaysAll_r16) .ret) .skip)) (.ops c_poundagelaw17_DaysAll_r17)))))) (.ops c_poundagelaw17_DaysAll_r18))))
abbrev c_poundagelaw17_DaysAll_r19 : List AO := [⟨(.some 76), .none, (.fieldAddr 5 (.t 1))⟩,
  ⟨(.some 77), .none, (.load .none (.t 76))⟩,
  ⟨(.some 78), .none, (.len (.t 77))⟩,
  ⟨(.some 79), .none, (.mov (.c (.d (.int .i64 0))))⟩]
abbrev c_poundagelaw17_DaysAll_r20 : List AO := [⟨(.some 80), .none, (.bin .lss (.t 79) (.t 78))⟩]
abbrev c_poundagelaw17_DaysAll_r21 : List AO := [⟨(.some 81), .none, (.mov (.t 79))⟩,
  ⟨(.some 82), .none, (.elemAddr 9 (.t 77) (.t 79))⟩,
  ⟨(.some 83), .none, (.load (.some 9) (.t 82))⟩,
  ⟨(.some 14), .none, (.alloc 59 [(.d (.int .i64 0)), (.d (.int .i64 0)), (.d (.int .i64 0)), (.d (.int .i64 0)), (.d (.int .i64 0)), (.d (.int .i64 0)), (.nilsl 2), (.d (.int .i64 0)), (.nilsl 3)])⟩,
  ⟨(.some 13), .none, (.mov (.t 81))⟩,
  ⟨.none, .none, (.store 9 (.t 14) (.t 83))⟩]
abbrev c_poundagelaw17_DaysAll_r22 : List AO := [⟨(.some 85), .none, (.load (.some 1) (.t 3))⟩,
  ⟨(.some 86), .none, (.fieldAddr 1 (.t 14))⟩,
  ⟨(.some 87), .none, (.load .none (.t 86))⟩,
  ⟨(.some 88), .none, (.call 14 [(.t 85), (.t 87)])⟩,
  ⟨(.some 84), .none, (.mov (.t 88))⟩,
  ⟨(.some 89), .none, (.extract (.t 84) 0)⟩,
  ⟨(.some 90), .none, (.extract (.t 84) 1)⟩,
  ⟨(.some 15), .none, (.mov (.t 89))⟩,
  ⟨(.some 16), .none, (.mov (.t 90))⟩]
abbrev c_poundagelaw17_DaysAll_r23 : List AO := [⟨(.some 92), .none, (.load (.some 1) (.t 3))⟩,
  ⟨(.some 93), .none, (.fieldAddr 2 (.t 14))⟩,
  ⟨(.some 94), .none, (.load .none (.t 93))⟩,
  ⟨(.some 95), .none, (.call 14 [(.t 92), (.t 94)])⟩,
  ⟨(.some 91), .none, (.mov (.t 95))⟩,
  ⟨(.some 96), .none, (.extract (.t 91) 0)⟩,
  ⟨(.some 97), .none, (.extract (.t 91) 1)⟩,
  ⟨(.some 17), .none, (.mov (.t 96))⟩,
  ⟨(.some 18), .none, (.mov (.t 97))⟩]
abbrev c_poundagelaw17_DaysAll_r24 : List AO := [⟨(.some 98), .none, (.mov (.t 15))⟩,
  ⟨(.some 99), .none, (.mov (.t 13))⟩,
  ⟨(.some 100), .none, (.call 17 [(.t 99)])⟩,
  ⟨(.some 101), .none, (.call 18 [(.t 98), (.t 100)])⟩,
  ⟨(.some 102), .none, (.un .not (.t 101))⟩,
  ⟨(.some 103), .none, (.mov (.t 102))⟩,
  ⟨(.some 104), (.some ⟨103, .false⟩), (.mov (.t 17))⟩,
  ⟨(.some 105), (.some ⟨103, .false⟩), (.mov (.t 13))⟩,
  ⟨(.some 106), (.some ⟨103, .false⟩), (.call 17 [(.t 105)])⟩,
  ⟨(.some 107), (.some ⟨103, .false⟩), (.call 18 [(.t 104), (.t 106)])⟩,
  ⟨(.some 108), (.some ⟨103, .false⟩), (.un .not (.t 107))⟩,
  ⟨(.some 109), .none, (.pick (.t 103) (.c (.d (.bool .true))) (.t 108))⟩]
abbrev c_poundagelaw17_DaysAll_r25 : List AO := [⟨(.some 2), .none, (.mov (.c (.d (.bool .false))))⟩]
abbrev c_poundagelaw17_DaysAll_r26 : List AO := [⟨(.some 110), .none, (.mov (.t 5))⟩,
  ⟨(.some 111), .none, (.mov (.t 13))⟩,
  ⟨(.some 112), .none, (.call 17 [(.t 111)])⟩,
  ⟨(.some 113), .none, (.bin .or (.t 110) (.t 112))⟩,
  ⟨(.some 5), .none, (.mov (.t 113))⟩]
abbrev c_poundagelaw17_DaysAll_r27 : List AO := [⟨(.some 114), .none, (.bin .add (.t 79) (.c (.d (.int .i64 1))))⟩,
  ⟨(.some 79), .none, (.mov (.t 114))⟩]
abbrev c_poundagelaw17_DaysAll_l2 : ACode := (.seq (.ops c_poundagelaw17_DaysAll_r20) (.seq (.cond (.t 80) .skip (.exit 4)) (.seq (.block 5 (.seq (.ops c_poundagelaw17_DaysAll_r21) (.seq (.ops c_poundagelaw17_DaysAll_r22) (.seq (.ops c_poundagelaw17_DaysAll_r23) (.seq (.seq (.ops c_poundagelaw17_DaysAll_r24) (.cond (.t 109) (.seq (.ops c_poundagelaw17_DaysAll_r25) .ret) .skip)) (.ops c_poundagelaw17_DaysAll_r26)))))) (.ops c_poundagelaw17_DaysAll_r27))))
abbrev c_poundagelaw17_DaysAll_r28 : List AO := [⟨(.some 115), .none, (.load .none (.t 4))⟩,
  ⟨(.some 116), .none, (.mov (.t 5))⟩,
  ⟨(.some 117), .none, (.bin .eql (.t 115) (.t 116))⟩,
  ⟨(.some 2), .none, (.mov (.t 117))⟩]
abbrev c_poundagelaw17_DaysAll : AFunc := ⟨118, [(.tmp 2)], (.seq (.ops c_poundagelaw17_DaysAll_r0) (.seq (.seq (.ops c_poundagelaw17_DaysAll_r1) (.cond (.t 20) (.seq (.ops c_poundagelaw17_DaysAll_r2) .ret) .skip)) (.seq (.seq (.ops c_poundagelaw17_DaysAll_r3) (.cond (.t 27) (.seq (.ops c_poundagelaw17_DaysAll_r4) .ret) .skip)) (.seq (.ops c_poundagelaw17_DaysAll_r5) (.seq (.ops c_poundagelaw17_DaysAll_r6) (.seq (.seq (.ops c_poundagelaw17_DaysAll_r7) (.block 0 (.rangef (.t 31) [32] (.ops c_poundagelaw17_DaysAll_r8) c_poundagelaw17_DaysAll_g0))) (.seq (.seq (.ops c_poundagelaw17_DaysAll_r10) (.block 2 (.loop c_poundagelaw17_DaysAll_l1))) (.seq (.seq (.ops c_poundagelaw17_DaysAll_r19) (.block 4 (.loop c_poundagelaw17_DaysAll_l2))) (.seq (.ops c_poundagelaw17_DaysAll_r28) .ret)))))))))⟩
theorem comp_poundagelaw17_DaysAll : funcC Try.prog 7 = some c_poundagelaw17_DaysAll := by kernel_rfl
/-! function 8 : poundage poundagelaw17.alive -/
abbrev f_poundagelaw17_alive : FuncId := 8
abbrev c_poundagelaw17_alive_r0 : List AO := [⟨(.some 0), .none, (.mov (.c (.d (.bool .false))))⟩]
abbrev c_poundagelaw17_alive_r1 : List AO := [⟨(.some 4), .none, (.build [(.d (.int .i64 0)), (.d (.int .i64 0)), (.d (.int .i64 0))] [⟨1, ⟨1, (.c (.d (.int .i64 3)))⟩⟩, ⟨2, ⟨1, (.c (.d (.int .i64 4)))⟩⟩])⟩,
  ⟨(.some 5), .none, (.buildSlice 43 3 1 [(.d (.int .i64 0)), (.d (.int .i64 0)), (.d (.int .i64 0))] [⟨0, (.t 4)⟩])⟩,
  ⟨(.some 6), .none, (.build [(.d (.str ⟨⟨[]⟩⟩)), (.d (.int .i64 0)), (.d (.int .i64 0)), (.nilsl 5), (.nilsl 3), (.nilsl 9)] [⟨2, ⟨1, (.c (.d (.int .i64 9)))⟩⟩, ⟨4, ⟨1, (.t 5)⟩⟩])⟩,
  ⟨(.some 7), .none, (.call 10 [(.t 6)])⟩,
  ⟨(.some 1), .none, (.alloc 31 [(.nilsl 3)])⟩,
  ⟨.none, .none, (.store 1 (.t 1) (.t 7))⟩]
abbrev c_poundagelaw17_alive_r2 : List AO := [⟨(.some 9), .none, (.load (.some 1) (.t 1))⟩,
  ⟨(.some 10), .none, (.call 14 [(.t 9), (.c (.d (.int .i64 4)))])⟩,
  ⟨(.some 8), .none, (.mov (.t 10))⟩,
  ⟨(.some 11), .none, (.extract (.t 8) 0)⟩,
  ⟨(.some 12), .none, (.extract (.t 8) 1)⟩,
  ⟨(.some 2), .none, (.mov (.t 11))⟩,
  ⟨(.some 3), .none, (.mov (.t 12))⟩]
abbrev c_poundagelaw17_alive_r3 : List AO := [⟨(.some 13), .none, (.load (.some 1) (.t 1))⟩,
  ⟨(.some 14), .none, (.call 13 [(.t 13)])⟩,
  ⟨(.some 15), .none, (.bin .eql (.t 14) (.c (.d (.int .i64 3))))⟩,
  ⟨(.some 16), .none, (.mov (.t 15))⟩,
  ⟨(.some 17), (.some ⟨16, .true⟩), (.mov (.t 2))⟩,
  ⟨(.some 18), (.some ⟨16, .true⟩), (.call 16 [(.c (.d (.int .i64 0)))])⟩,
  ⟨(.some 19), (.some ⟨16, .true⟩), (.bin .eql (.t 17) (.t 18))⟩,
  ⟨(.some 20), .none, (.pick (.t 16) (.t 19) (.c (.d (.bool .false))))⟩,
  ⟨(.some 21), .none, (.mov (.t 20))⟩,
  ⟨(.some 22), (.some ⟨21, .true⟩), (.mov (.t 3))⟩,
  ⟨(.some 23), .none, (.pick (.t 21) (.t 22) (.c (.d (.bool .false))))⟩,
  ⟨(.some 24), .none, (.mov (.t 23))⟩,
  ⟨(.some 25), (.some ⟨24, .true⟩), (.call 17 [(.c (.d (.int .i64 1)))])⟩,
  ⟨(.some 26), (.some ⟨24, .true⟩), (.bin .eql (.t 25) (.c (.d (.int .u64 512))))⟩,
  ⟨(.some 27), .none, (.pick (.t 24) (.t 26) (.c (.d (.bool .false))))⟩,
  ⟨(.some 0), .none, (.mov (.t 27))⟩]
abbrev c_poundagelaw17_alive : AFunc := ⟨28, [(.tmp 0)], (.seq (.ops c_poundagelaw17_alive_r0) (.seq (.ops c_poundagelaw17_alive_r1) (.seq (.ops c_poundagelaw17_alive_r2) (.seq (.ops c_poundagelaw17_alive_r3) .ret))))⟩
theorem comp_poundagelaw17_alive : funcC Try.prog 8 = some c_poundagelaw17_alive := by kernel_rfl
/-! function 9 : poundage poundageref10.Great -/
abbrev f_poundageref10_Great : FuncId := 9
abbrev c_poundageref10_Great_r0 : List AO := [⟨(.some 1), .none, (.box 26 (.t 0))⟩,
  ⟨(.some 2), .none, (.mov (.c (.d (.bool .false))))⟩]
abbrev c_poundageref10_Great_r1 : List AO := [⟨(.some 7), .none, (.fieldAddr 3 (.t 1))⟩,
  ⟨(.some 8), .none, (.load .none (.t 7))⟩,
  ⟨(.some 9), .none, (.len (.t 8))⟩,
  ⟨(.some 10), .none, (.bin .gtr (.t 9) (.c (.d (.int .i64 20))))⟩,
  ⟨(.some 11), .none, (.mov (.t 10))⟩,
  ⟨(.some 12), (.some ⟨11, .false⟩), (.fieldAddr 4 (.t 1))⟩,
  ⟨(.some 13), (.some ⟨11, .false⟩), (.load .none (.t 12))⟩,
  ⟨(.some 14), (.some ⟨11, .false⟩), (.len (.t 13))⟩,
  ⟨(.some 15), (.some ⟨11, .false⟩), (.bin .gtr (.t 14) (.c (.d (.int .i64 40))))⟩,
  ⟨(.some 16), .none, (.pick (.t 11) (.c (.d (.bool .true))) (.t 15))⟩,
  ⟨(.some 17), .none, (.mov (.t 16))⟩,
  ⟨(.some 18), (.some ⟨17, .false⟩), (.fieldAddr 5 (.t 1))⟩,
  ⟨(.some 19), (.some ⟨17, .false⟩), (.load .none (.t 18))⟩,
  ⟨(.some 20), (.some ⟨17, .false⟩), (.len (.t 19))⟩,
  ⟨(.some 21), (.some ⟨17, .false⟩), (.bin .gtr (.t 20) (.c (.d (.int .i64 40))))⟩,
  ⟨(.some 22), .none, (.pick (.t 17) (.c (.d (.bool .true))) (.t 21))⟩,
  ⟨(.some 23), .none, (.mov (.t 22))⟩,
  ⟨(.some 24), (.some ⟨23, .false⟩), (.fieldAddr 0 (.t 1))⟩,
  ⟨(.some 25), (.some ⟨23, .false⟩), (.load .none (.t 24))⟩,
  ⟨(.some 26), (.some ⟨23, .false⟩), (.slen (.t 25))⟩,
  ⟨(.some 27), (.some ⟨23, .false⟩), (.bin .gtr (.t 26) (.c (.d (.int .i64 200))))⟩,
  ⟨(.some 28), .none, (.pick (.t 23) (.c (.d (.bool .true))) (.t 27))⟩]
abbrev c_poundageref10_Great_r2 : List AO := [⟨(.some 2), .none, (.mov (.c (.d (.bool .true))))⟩]
abbrev c_poundageref10_Great_r3 : List AO := [⟨(.some 29), .none, (.fieldAddr 3 (.t 1))⟩,
  ⟨(.some 30), .none, (.load .none (.t 29))⟩,
  ⟨(.some 31), .none, (.len (.t 30))⟩,
  ⟨(.some 32), .none, (.mov (.c (.d (.int .i64 0))))⟩]
abbrev c_poundageref10_Great_r4 : List AO := [⟨(.some 33), .none, (.bin .lss (.t 32) (.t 31))⟩]
abbrev c_poundageref10_Great_r5 : List AO := [⟨(.some 34), .none, (.elemAddr 5 (.t 30) (.t 32))⟩,
  ⟨(.some 35), .none, (.load (.some 5) (.t 34))⟩,
  ⟨(.some 4), .none, (.alloc 61 [(.d (.str ⟨⟨[]⟩⟩)), (.d (.str ⟨⟨[]⟩⟩)), (.d (.int .i64 0)), (.d (.int .i64 0)), (.d (.int .i64 0))])⟩,
  ⟨.none, .none, (.store 5 (.t 4) (.t 35))⟩]
abbrev c_poundageref10_Great_r6 : List AO := [⟨(.some 36), .none, (.fieldAddr 0 (.t 4))⟩,
  ⟨(.some 37), .none, (.load .none (.t 36))⟩,
  ⟨(.some 38), .none, (.slen (.t 37))⟩,
  ⟨(.some 39), .none, (.bin .gtr (.t 38) (.c (.d (.int .i64 200))))⟩,
  ⟨(.some 40), .none, (.mov (.t 39))⟩,
  ⟨(.some 41), (.some ⟨40, .false⟩), (.fieldAddr 1 (.t 4))⟩,
  ⟨(.some 42), (.some ⟨40, .false⟩), (.load .none (.t 41))⟩,
  ⟨(.some 43), (.some ⟨40, .false⟩), (.slen (.t 42))⟩,
  ⟨(.some 44), (.some ⟨40, .false⟩), (.bin .gtr (.t 43) (.c (.d (.int .i64 200))))⟩,
  ⟨(.some 45), .none, (.pick (.t 40) (.c (.d (.bool .true))) (.t 44))⟩]
abbrev c_poundageref10_Great_r7 : List AO := [⟨(.some 2), .none, (.mov (.c (.d (.bool .true))))⟩]
abbrev c_poundageref10_Great_r8 : List AO := [⟨(.some 46), .none, (.bin .add (.t 32) (.c (.d (.int .i64 1))))⟩,
  ⟨(.some 32), .none, (.mov (.t 46))⟩]
abbrev c_poundageref10_Great_l0 : ACode := (.seq (.ops c_poundageref10_Great_r4) (.seq (.cond (.t 33) .skip (.exit 0)) (.seq (.block 1 (.seq (.ops c_poundageref10_Great_r5) (.seq (.ops c_poundageref10_Great_r6) (.cond (.t 45) (.seq (.ops c_poundageref10_Great_r7) .ret) .skip)))) (.ops c_poundageref10_Great_r8))))
abbrev c_poundageref10_Great_r9 : List AO := [⟨(.some 47), .none, (.fieldAddr 5 (.t 1))⟩,
  ⟨(.some 48), .none, (.load .none (.t 47))⟩,
  ⟨(.some 49), .none, (.len (.t 48))⟩,
  ⟨(.some 50), .none, (.mov (.c (.d (.int .i64 0))))⟩]
abbrev c_poundageref10_Great_r10 : List AO := [⟨(.some 51), .none, (.bin .lss (.t 50) (.t 49))⟩]
abbrev c_poundageref10_Great_r11 : List AO := [⟨(.some 52), .none, (.elemAddr 9 (.t 48) (.t 50))⟩,
  ⟨(.some 53), .none, (.load (.some 9) (.t 52))⟩,
  ⟨(.some 6), .none, (.alloc 59 [(.d (.int .i64 0)), (.d (.int .i64 0)), (.d (.int .i64 0)), (.d (.int .i64 0)), (.d (.int .i64 0)), (.d (.int .i64 0)), (.nilsl 2), (.d (.int .i64 0)), (.nilsl 3)])⟩,
  ⟨.none, .none, (.store 9 (.t 6) (.t 53))⟩]
abbrev c_poundageref10_Great_r12 : List AO := [⟨(.some 54), .none, (.fieldAddr 6 (.t 6))⟩,
  ⟨(.some 55), .none, (.load .none (.t 54))⟩,
  ⟨(.some 56), .none, (.len (.t 55))⟩,
  ⟨(.some 57), .none, (.bin .gtr (.t 56) (.c (.d (.int .i64 40))))⟩,
  ⟨(.some 58), .none, (.mov (.t 57))⟩,
  ⟨(.some 59), (.some ⟨58, .false⟩), (.fieldAddr 8 (.t 6))⟩,
  ⟨(.some 60), (.some ⟨58, .false⟩), (.load .none (.t 59))⟩,
  ⟨(.some 61), (.some ⟨58, .false⟩), (.len (.t 60))⟩,
  ⟨(.some 62), (.some ⟨58, .false⟩), (.bin .gtr (.t 61) (.c (.d (.int .i64 40))))⟩,
  ⟨(.some 63), .none, (.pick (.t 58) (.c (.d (.bool .true))) (.t 62))⟩]
abbrev c_poundageref10_Great_r13 : List AO := [⟨(.some 2), .none, (.mov (.c (.d (.bool .true))))⟩]
abbrev c_poundageref10_Great_r14 : List AO := [⟨(.some 64), .none, (.bin .add (.t 50) (.c (.d (.int .i64 1))))⟩,
  ⟨(.some 50), .none, (.mov (.t 64))⟩]
abbrev c_poundageref10_Great_l1 : ACode := (.seq (.ops c_poundageref10_Great_r10) (.seq (.cond (.t 51) .skip (.exit 2)) (.seq (.block 3 (.seq (.ops c_poundageref10_Great_r11) (.seq (.ops c_poundageref10_Great_r12) (.cond (.t 63) (.seq (.ops c_poundageref10_Great_r13) .ret) .skip)))) (.ops c_poundageref10_Great_r14))))
abbrev c_poundageref10_Great_r15 : List AO := [⟨(.some 2), .none, (.mov (.c (.d (.bool .false))))⟩]
abbrev c_poundageref10_Great : AFunc := ⟨65, [(.tmp 2)], (.seq (.ops c_poundageref10_Great_r0) (.seq (.seq (.ops c_poundageref10_Great_r1) (.cond (.t 28) (.seq (.ops c_poundageref10_Great_r2) .ret) .skip)) (.seq (.seq (.ops c_poundageref10_Great_r3) (.block 0 (.loop c_poundageref10_Great_l0))) (.seq (.seq (.ops c_poundageref10_Great_r9) (.block 2 (.loop c_poundageref10_Great_l1))) (.seq (.ops c_poundageref10_Great_r15) .ret)))))⟩
theorem comp_poundageref10_Great : funcC Try.prog 9 = some c_poundageref10_Great := by kernel_rfl
/-! function 10 : poundage days.Holds -/
abbrev f_days_Holds : FuncId := 10
abbrev c_days_Holds_r0 : List AO := [⟨(.some 1), .none, (.box 26 (.t 0))⟩,
  ⟨(.some 2), .none, (.alloc 31 [(.nilsl 3)])⟩]
abbrev c_days_Holds_r1 : List AO := [⟨(.some 8), .none, (.load (.some 6) (.t 1))⟩,
  ⟨(.some 9), .none, (.call 22 [(.t 8)])⟩,
  ⟨(.some 10), .none, (.un .not (.t 9))⟩]
abbrev c_days_Holds_r2 : List AO := [⟨(.some 11), .none, (.build [(.nilsl 3)] [])⟩,
  ⟨.none, .none, (.store 1 (.t 2) (.t 11))⟩]
abbrev c_days_Holds_r3 : List AO := [⟨(.some 12), .none, (.fieldAddr 1 (.t 1))⟩,
  ⟨(.some 13), .none, (.load .none (.t 12))⟩,
  ⟨(.some 14), .none, (.fieldAddr 2 (.t 1))⟩,
  ⟨(.some 15), .none, (.load .none (.t 14))⟩,
  ⟨(.some 16), .none, (.call 23 [(.t 13), (.t 15), (.c (.d (.int .u64 0)))])⟩,
  ⟨(.some 3), .none, (.alloc 31 [(.nilsl 3)])⟩,
  ⟨.none, .none, (.store 1 (.t 3) (.t 16))⟩]
abbrev c_days_Holds_r4 : List AO := [⟨(.some 17), .none, (.fieldAddr 4 (.t 1))⟩,
  ⟨(.some 18), .none, (.load .none (.t 17))⟩,
  ⟨(.some 19), .none, (.len (.t 18))⟩,
  ⟨(.some 20), .none, (.mov (.c (.d (.int .i64 0))))⟩]
abbrev c_days_Holds_r5 : List AO := [⟨(.some 21), .none, (.bin .lss (.t 20) (.t 19))⟩]
abbrev c_days_Holds_r6 : List AO := [⟨(.some 22), .none, (.mov (.t 20))⟩,
  ⟨(.some 23), .none, (.elemAddr 3 (.t 18) (.t 20))⟩,
  ⟨(.some 24), .none, (.load (.some 3) (.t 23))⟩,
  ⟨(.some 5), .none, (.alloc 43 [(.d (.int .i64 0)), (.d (.int .i64 0)), (.d (.int .i64 0))])⟩,
  ⟨(.some 4), .none, (.mov (.t 22))⟩,
  ⟨.none, .none, (.store 3 (.t 5) (.t 24))⟩]
abbrev c_days_Holds_r7 : List AO := [⟨(.some 26), .none, (.fieldAddr 1 (.t 5))⟩,
  ⟨(.some 28), .none, (.fieldAddr 2 (.t 5))⟩,
  ⟨(.some 30), .none, (.mov (.t 4))⟩,
  ⟨(.some 25), .none, (.load (.some 1) (.t 3))⟩,
  ⟨(.some 27), .none, (.load .none (.t 26))⟩,
  ⟨(.some 29), .none, (.load .none (.t 28))⟩,
  ⟨(.some 31), .none, (.pcall 16 [(.t 30)])⟩,
  ⟨(.some 32), .none, (.call 24 [(.t 25), (.t 27), (.t 29), (.t 31)])⟩,
  ⟨.none, .none, (.store 1 (.t 3) (.t 32))⟩]
abbrev c_days_Holds_r8 : List AO := [⟨(.some 33), .none, (.bin .add (.t 20) (.c (.d (.int .i64 1))))⟩,
  ⟨(.some 20), .none, (.mov (.t 33))⟩]
abbrev c_days_Holds_l0 : ACode := (.seq (.ops c_days_Holds_r5) (.seq (.cond (.t 21) .skip (.exit 0)) (.seq (.block 1 (.seq (.ops c_days_Holds_r6) (.dops c_days_Holds_r7))) (.ops c_days_Holds_r8))))
abbrev c_days_Holds_r9 : List AO := [⟨(.some 34), .none, (.fieldAddr 5 (.t 1))⟩,
  ⟨(.some 35), .none, (.load .none (.t 34))⟩,
  ⟨(.some 36), .none, (.len (.t 35))⟩,
  ⟨(.some 37), .none, (.mov (.c (.d (.int .i64 0))))⟩]
abbrev c_days_Holds_r10 : List AO := [⟨(.some 38), .none, (.bin .lss (.t 37) (.t 36))⟩]
abbrev c_days_Holds_r11 : List AO := [⟨(.some 39), .none, (.mov (.t 37))⟩,
  ⟨(.some 40), .none, (.elemAddr 9 (.t 35) (.t 37))⟩,
  ⟨(.some 41), .none, (.load (.some 9) (.t 40))⟩,
  ⟨(.some 7), .none, (.alloc 59 [(.d (.int .i64 0)), (.d (.int .i64 0)), (.d (.int .i64 0)), (.d (.int .i64 0)), (.d (.int .i64 0)), (.d (.int .i64 0)), (.nilsl 2), (.d (.int .i64 0)), (.nilsl 3)])⟩,
  ⟨(.some 6), .none, (.mov (.t 39))⟩,
  ⟨.none, .none, (.store 9 (.t 7) (.t 41))⟩]
abbrev c_days_Holds_r12 : List AO := [⟨(.some 43), .none, (.fieldAddr 1 (.t 7))⟩,
  ⟨(.some 45), .none, (.fieldAddr 2 (.t 7))⟩,
  ⟨(.some 47), .none, (.mov (.t 6))⟩,
  ⟨(.some 42), .none, (.load (.some 1) (.t 3))⟩,
  ⟨(.some 44), .none, (.load .none (.t 43))⟩,
  ⟨(.some 46), .none, (.load .none (.t 45))⟩,
  ⟨(.some 48), .none, (.pcall 17 [(.t 47)])⟩,
  ⟨(.some 49), .none, (.call 24 [(.t 42), (.t 44), (.t 46), (.t 48)])⟩,
  ⟨.none, .none, (.store 1 (.t 3) (.t 49))⟩]
abbrev c_days_Holds_r13 : List AO := [⟨(.some 50), .none, (.bin .add (.t 37) (.c (.d (.int .i64 1))))⟩,
  ⟨(.some 37), .none, (.mov (.t 50))⟩]
abbrev c_days_Holds_l1 : ACode := (.seq (.ops c_days_Holds_r10) (.seq (.cond (.t 38) .skip (.exit 2)) (.seq (.block 3 (.seq (.ops c_days_Holds_r11) (.dops c_days_Holds_r12))) (.ops c_days_Holds_r13))))
abbrev c_days_Holds_r14 : List AO := [⟨(.some 51), .none, (.load (.some 1) (.t 3))⟩,
  ⟨.none, .none, (.store 1 (.t 2) (.t 51))⟩]
abbrev c_days_Holds : AFunc := ⟨52, [(.cell 2 (.some 1))], (.seq (.ops c_days_Holds_r0) (.seq (.seq (.ops c_days_Holds_r1) (.cond (.t 10) (.seq (.ops c_days_Holds_r2) .ret) .skip)) (.seq (.ops c_days_Holds_r3) (.seq (.seq (.ops c_days_Holds_r4) (.block 0 (.loop c_days_Holds_l0))) (.seq (.seq (.ops c_days_Holds_r9) (.block 2 (.loop c_days_Holds_l1))) (.seq (.ops c_days_Holds_r14) .ret))))))⟩
theorem comp_days_Holds : funcC Try.prog 10 = some c_days_Holds := by kernel_rfl
/-! function 11 :  poundage line.Line poundage days.Set .Span -/
abbrev f_line_Line_days_Set_Span : FuncId := 11
abbrev c_line_Line_days_Set_Span_r0 : List AO := [⟨(.some 1), .none, (.box 31 (.t 0))⟩,
  ⟨(.some 2), .none, (.mov (.c (.d (.int .i64 0))))⟩,
  ⟨(.some 3), .none, (.mov (.c (.d (.int .i64 0))))⟩,
  ⟨(.some 4), .none, (.mov (.c (.d (.bool .false))))⟩]
abbrev c_line_Line_days_Set_Span_r1 : List AO := [⟨(.some 5), .none, (.fieldAddr 0 (.t 1))⟩,
  ⟨(.some 6), .none, (.load .none (.t 5))⟩,
  ⟨(.some 7), .none, (.len (.t 6))⟩,
  ⟨(.some 8), .none, (.bin .eql (.t 7) (.c (.d (.int .i64 0))))⟩]
abbrev c_line_Line_days_Set_Span_r2 : List AO := [⟨(.some 2), .none, (.mov (.c (.d (.int .i64 0))))⟩,
  ⟨(.some 3), .none, (.mov (.c (.d (.int .i64 0))))⟩,
  ⟨(.some 4), .none, (.mov (.c (.d (.bool .false))))⟩]
abbrev c_line_Line_days_Set_Span_r3 : List AO := [⟨(.some 9), .none, (.fieldAddr 0 (.t 1))⟩,
  ⟨(.some 14), .none, (.fieldAddr 0 (.t 1))⟩,
  ⟨(.some 16), .none, (.fieldAddr 0 (.t 1))⟩,
  ⟨(.some 10), .none, (.load .none (.t 9))⟩,
  ⟨(.some 11), .none, (.elemAddr 3 (.t 10) (.c (.d (.int .i64 0))))⟩,
  ⟨(.some 12), .none, (.fieldAddr 0 (.t 11))⟩,
  ⟨(.some 13), .none, (.load .none (.t 12))⟩,
  ⟨(.some 2), .none, (.mov (.t 13))⟩,
  ⟨(.some 15), .none, (.load .none (.t 14))⟩,
  ⟨(.some 17), .none, (.load .none (.t 16))⟩,
  ⟨(.some 18), .none, (.len (.t 17))⟩,
  ⟨(.some 19), .none, (.bin .sub (.t 18) (.c (.d (.int .i64 1))))⟩,
  ⟨(.some 20), .none, (.elemAddr 3 (.t 15) (.t 19))⟩,
  ⟨(.some 21), .none, (.fieldAddr 1 (.t 20))⟩,
  ⟨(.some 22), .none, (.load .none (.t 21))⟩,
  ⟨(.some 3), .none, (.mov (.t 22))⟩,
  ⟨(.some 4), .none, (.mov (.c (.d (.bool .true))))⟩]
abbrev c_line_Line_days_Set_Span : AFunc := ⟨23, [(.tmp 2), (.tmp 3), (.tmp 4)], (.seq (.ops c_line_Line_days_Set_Span_r0) (.seq (.seq (.ops c_line_Line_days_Set_Span_r1) (.cond (.t 8) (.seq (.ops c_line_Line_days_Set_Span_r2) .ret) .skip)) (.seq (.dops c_line_Line_days_Set_Span_r3) .ret)))⟩
theorem comp_line_Line_days_Set_Span : funcC Try.prog 11 = some c_line_Line_days_Set_Span := by kernel_rfl
/-! function 12 : poundage poundageref10.Good -/
abbrev f_poundageref10_Good : FuncId := 12
abbrev c_poundageref10_Good_r0 : List AO := [⟨(.some 1), .none, (.box 26 (.t 0))⟩,
  ⟨(.some 2), .none, (.mov (.c (.d (.bool .false))))⟩]
abbrev c_poundageref10_Good_r1 : List AO := [⟨(.some 9), .none, (.fieldAddr 1 (.t 1))⟩,
  ⟨(.some 10), .none, (.load .none (.t 9))⟩,
  ⟨(.some 11), .none, (.call 25 [(.t 10), (.c (.d (.int .i64 0))), (.c (.d (.int .i64 3652058)))])⟩,
  ⟨(.some 12), .none, (.un .not (.t 11))⟩,
  ⟨(.some 13), .none, (.mov (.t 12))⟩,
  ⟨(.some 14), (.some ⟨13, .false⟩), (.fieldAddr 2 (.t 1))⟩,
  ⟨(.some 15), (.some ⟨13, .false⟩), (.load .none (.t 14))⟩,
  ⟨(.some 16), (.some ⟨13, .false⟩), (.fieldAddr 1 (.t 1))⟩,
  ⟨(.some 17), (.some ⟨13, .false⟩), (.load .none (.t 16))⟩,
  ⟨(.some 18), (.some ⟨13, .false⟩), (.call 25 [(.t 15), (.t 17), (.c (.d (.int .i64 3652058)))])⟩,
  ⟨(.some 19), (.some ⟨13, .false⟩), (.un .not (.t 18))⟩,
  ⟨(.some 20), .none, (.pick (.t 13) (.c (.d (.bool .true))) (.t 19))⟩,
  ⟨(.some 21), .none, (.mov (.t 20))⟩,
  ⟨(.some 22), (.some ⟨21, .false⟩), (.fieldAddr 2 (.t 1))⟩,
  ⟨(.some 23), (.some ⟨21, .false⟩), (.load .none (.t 22))⟩,
  ⟨(.some 24), (.some ⟨21, .false⟩), (.fieldAddr 1 (.t 1))⟩,
  ⟨(.some 25), (.some ⟨21, .false⟩), (.load .none (.t 24))⟩,
  ⟨(.some 26), (.some ⟨21, .false⟩), (.bin .sub (.t 23) (.t 25))⟩,
  ⟨(.some 27), (.some ⟨21, .false⟩), (.bin .gtr (.t 26) (.c (.d (.int .i64 3999))))⟩,
  ⟨(.some 28), .none, (.pick (.t 21) (.c (.d (.bool .true))) (.t 27))⟩,
  ⟨(.some 29), .none, (.mov (.t 28))⟩,
  ⟨(.some 30), (.some ⟨29, .false⟩), (.fieldAddr 3 (.t 1))⟩,
  ⟨(.some 31), (.some ⟨29, .false⟩), (.load .none (.t 30))⟩,
  ⟨(.some 32), (.some ⟨29, .false⟩), (.len (.t 31))⟩,
  ⟨(.some 33), (.some ⟨29, .false⟩), (.bin .gtr (.t 32) (.c (.d (.int .i64 4))))⟩,
  ⟨(.some 34), .none, (.pick (.t 29) (.c (.d (.bool .true))) (.t 33))⟩,
  ⟨(.some 35), .none, (.mov (.t 34))⟩,
  ⟨(.some 36), (.some ⟨35, .false⟩), (.fieldAddr 4 (.t 1))⟩,
  ⟨(.some 37), (.some ⟨35, .false⟩), (.load .none (.t 36))⟩,
  ⟨(.some 38), (.some ⟨35, .false⟩), (.len (.t 37))⟩,
  ⟨(.some 39), (.some ⟨35, .false⟩), (.bin .gtr (.t 38) (.c (.d (.int .i64 8))))⟩,
  ⟨(.some 40), .none, (.pick (.t 35) (.c (.d (.bool .true))) (.t 39))⟩,
  ⟨(.some 41), .none, (.mov (.t 40))⟩,
  ⟨(.some 42), (.some ⟨41, .false⟩), (.fieldAddr 5 (.t 1))⟩,
  ⟨(.some 43), (.some ⟨41, .false⟩), (.load .none (.t 42))⟩,
  ⟨(.some 44), (.some ⟨41, .false⟩), (.len (.t 43))⟩,
  ⟨(.some 45), (.some ⟨41, .false⟩), (.bin .gtr (.t 44) (.c (.d (.int .i64 8))))⟩,
  ⟨(.some 46), .none, (.pick (.t 41) (.c (.d (.bool .true))) (.t 45))⟩]
abbrev c_poundageref10_Good_r2 : List AO := [⟨(.some 2), .none, (.mov (.c (.d (.bool .false))))⟩]
abbrev c_poundageref10_Good_r3 : List AO := [⟨(.some 47), .none, (.fieldAddr 3 (.t 1))⟩,
  ⟨(.some 48), .none, (.load .none (.t 47))⟩,
  ⟨(.some 49), .none, (.len (.t 48))⟩,
  ⟨(.some 50), .none, (.mov (.c (.d (.int .i64 0))))⟩]
abbrev c_poundageref10_Good_r4 : List AO := [⟨(.some 51), .none, (.bin .lss (.t 50) (.t 49))⟩]
abbrev c_poundageref10_Good_r5 : List AO := [⟨(.some 52), .none, (.mov (.t 50))⟩,
  ⟨(.some 53), .none, (.elemAddr 5 (.t 48) (.t 50))⟩,
  ⟨(.some 54), .none, (.load (.some 5) (.t 53))⟩,
  ⟨(.some 4), .none, (.alloc 61 [(.d (.str ⟨⟨[]⟩⟩)), (.d (.str ⟨⟨[]⟩⟩)), (.d (.int .i64 0)), (.d (.int .i64 0)), (.d (.int .i64 0))])⟩,
  ⟨(.some 3), .none, (.mov (.t 52))⟩,
  ⟨.none, .none, (.store 5 (.t 4) (.t 54))⟩]
abbrev c_poundageref10_Good_r6 : List AO := [⟨(.some 55), .none, (.fieldAddr 2 (.t 4))⟩,
  ⟨(.some 56), .none, (.load .none (.t 55))⟩,
  ⟨(.some 57), .none, (.call 25 [(.t 56), (.c (.d (.int .i64 0))), (.c (.d (.int .i64 2000)))])⟩,
  ⟨(.some 58), .none, (.un .not (.t 57))⟩,
  ⟨(.some 59), .none, (.mov (.t 58))⟩,
  ⟨(.some 60), (.some ⟨59, .false⟩), (.fieldAddr 3 (.t 4))⟩,
  ⟨(.some 61), (.some ⟨59, .false⟩), (.load .none (.t 60))⟩,
  ⟨(.some 62), (.some ⟨59, .false⟩), (.bin .neq (.t 61) (.c (.d (.int .i64 0))))⟩,
  ⟨(.some 63), .none, (.pick (.t 59) (.c (.d (.bool .true))) (.t 62))⟩,
  ⟨(.some 64), .none, (.mov (.t 63))⟩,
  ⟨(.some 65), (.some ⟨64, .false⟩), (.fieldAddr 4 (.t 4))⟩,
  ⟨(.some 66), (.some ⟨64, .false⟩), (.load .none (.t 65))⟩,
  ⟨(.some 67), (.some ⟨64, .false⟩), (.bin .neq (.t 66) (.c (.d (.int .i64 0))))⟩,
  ⟨(.some 68), .none, (.pick (.t 64) (.c (.d (.bool .true))) (.t 67))⟩,
  ⟨(.some 69), .none, (.mov (.t 68))⟩,
  ⟨(.some 70), (.some ⟨69, .false⟩), (.mov (.t 3))⟩,
  ⟨(.some 71), (.some ⟨69, .false⟩), (.bin .gtr (.t 70) (.c (.d (.int .i64 0))))⟩,
  ⟨(.some 72), (.some ⟨69, .false⟩), (.mov (.t 71))⟩,
  ⟨(.some 73), (.some ⟨72, .true⟩), (.fieldAddr 3 (.t 1))⟩,
  ⟨(.some 75), (.some ⟨72, .true⟩), (.mov (.t 3))⟩,
  ⟨(.some 76), (.some ⟨72, .true⟩), (.bin .sub (.t 75) (.c (.d (.int .i64 1))))⟩,
  ⟨(.some 80), (.some ⟨72, .true⟩), (.fieldAddr 0 (.t 4))⟩,
  ⟨(.some 74), (.some ⟨72, .true⟩), (.load .none (.t 73))⟩,
  ⟨(.some 77), (.some ⟨72, .true⟩), (.elemAddr 5 (.t 74) (.t 76))⟩,
  ⟨(.some 78), (.some ⟨72, .true⟩), (.fieldAddr 0 (.t 77))⟩,
  ⟨(.some 79), (.some ⟨72, .true⟩), (.load .none (.t 78))⟩,
  ⟨(.some 81), (.some ⟨72, .true⟩), (.load .none (.t 80))⟩,
  ⟨(.some 82), (.some ⟨72, .true⟩), (.bin .lss (.t 79) (.t 81))⟩,
  ⟨(.some 83), (.some ⟨72, .true⟩), (.un .not (.t 82))⟩,
  ⟨(.some 84), (.some ⟨69, .false⟩), (.pick (.t 72) (.t 83) (.c (.d (.bool .false))))⟩,
  ⟨(.some 85), .none, (.pick (.t 69) (.c (.d (.bool .true))) (.t 84))⟩]
abbrev c_poundageref10_Good_r7 : List AO := [⟨(.some 2), .none, (.mov (.c (.d (.bool .false))))⟩]
abbrev c_poundageref10_Good_r8 : List AO := [⟨(.some 86), .none, (.bin .add (.t 50) (.c (.d (.int .i64 1))))⟩,
  ⟨(.some 50), .none, (.mov (.t 86))⟩]
abbrev c_poundageref10_Good_l0 : ACode := (.seq (.ops c_poundageref10_Good_r4) (.seq (.cond (.t 51) .skip (.exit 0)) (.seq (.block 1 (.seq (.ops c_poundageref10_Good_r5) (.seq (.dops c_poundageref10_Good_r6) (.cond (.t 85) (.seq (.ops c_poundageref10_Good_r7) .ret) .skip)))) (.ops c_poundageref10_Good_r8))))
abbrev c_poundageref10_Good_r9 : List AO := [⟨(.some 87), .none, (.fieldAddr 4 (.t 1))⟩,
  ⟨(.some 88), .none, (.load .none (.t 87))⟩,
  ⟨(.some 89), .none, (.len (.t 88))⟩,
  ⟨(.some 90), .none, (.mov (.c (.d (.int .i64 0))))⟩]
abbrev c_poundageref10_Good_r10 : List AO := [⟨(.some 91), .none, (.bin .lss (.t 90) (.t 89))⟩]
abbrev c_poundageref10_Good_r11 : List AO := [⟨(.some 92), .none, (.elemAddr 3 (.t 88) (.t 90))⟩,
  ⟨(.some 93), .none, (.load (.some 3) (.t 92))⟩,
  ⟨(.some 6), .none, (.alloc 43 [(.d (.int .i64 0)), (.d (.int .i64 0)), (.d (.int .i64 0))])⟩,
  ⟨.none, .none, (.store 3 (.t 6) (.t 93))⟩]
abbrev c_poundageref10_Good_r12 : List AO := [⟨(.some 94), .none, (.fieldAddr 0 (.t 6))⟩,
  ⟨(.some 95), .none, (.load .none (.t 94))⟩,
  ⟨(.some 96), .none, (.call 25 [(.t 95), (.c (.d (.int .i64 0))), (.c (.d (.int .i64 1000000000000)))])⟩,
  ⟨(.some 97), .none, (.un .not (.t 96))⟩,
  ⟨(.some 98), .none, (.mov (.t 97))⟩,
  ⟨(.some 99), (.some ⟨98, .false⟩), (.load (.some 6) (.t 1))⟩,
  ⟨(.some 100), (.some ⟨98, .false⟩), (.fieldAddr 1 (.t 6))⟩,
  ⟨(.some 101), (.some ⟨98, .false⟩), (.load .none (.t 100))⟩,
  ⟨(.some 102), (.some ⟨98, .false⟩), (.fieldAddr 2 (.t 6))⟩,
  ⟨(.some 103), (.some ⟨98, .false⟩), (.load .none (.t 102))⟩,
  ⟨(.some 104), (.some ⟨98, .false⟩), (.call 26 [(.t 99), (.t 101), (.t 103)])⟩,
  ⟨(.some 105), (.some ⟨98, .false⟩), (.un .not (.t 104))⟩,
  ⟨(.some 106), .none, (.pick (.t 98) (.c (.d (.bool .true))) (.t 105))⟩]
abbrev c_poundageref10_Good_r13 : List AO := [⟨(.some 2), .none, (.mov (.c (.d (.bool .false))))⟩]
abbrev c_poundageref10_Good_r14 : List AO := [⟨(.some 107), .none, (.bin .add (.t 90) (.c (.d (.int .i64 1))))⟩,
  ⟨(.some 90), .none, (.mov (.t 107))⟩]
abbrev c_poundageref10_Good_l1 : ACode := (.seq (.ops c_poundageref10_Good_r10) (.seq (.cond (.t 91) .skip (.exit 2)) (.seq (.block 3 (.seq (.ops c_poundageref10_Good_r11) (.seq (.ops c_poundageref10_Good_r12) (.cond (.t 106) (.seq (.ops c_poundageref10_Good_r13) .ret) .skip)))) (.ops c_poundageref10_Good_r14))))
abbrev c_poundageref10_Good_r15 : List AO := [⟨(.some 108), .none, (.fieldAddr 5 (.t 1))⟩,
  ⟨(.some 109), .none, (.load .none (.t 108))⟩,
  ⟨(.some 110), .none, (.len (.t 109))⟩,
  ⟨(.some 111), .none, (.mov (.c (.d (.int .i64 0))))⟩]
abbrev c_poundageref10_Good_r16 : List AO := [⟨(.some 112), .none, (.bin .lss (.t 111) (.t 110))⟩]
abbrev c_poundageref10_Good_r17 : List AO := [⟨(.some 113), .none, (.elemAddr 9 (.t 109) (.t 111))⟩,
  ⟨(.some 114), .none, (.load (.some 9) (.t 113))⟩,
  ⟨(.some 8), .none, (.alloc 59 [(.d (.int .i64 0)), (.d (.int .i64 0)), (.d (.int .i64 0)), (.d (.int .i64 0)), (.d (.int .i64 0)), (.d (.int .i64 0)), (.nilsl 2), (.d (.int .i64 0)), (.nilsl 3)])⟩,
  ⟨.none, .none, (.store 9 (.t 8) (.t 114))⟩]
abbrev c_poundageref10_Good_r18 : List AO := [⟨(.some 115), .none, (.load (.some 6) (.t 1))⟩,
  ⟨(.some 116), .none, (.load (.some 9) (.t 8))⟩,
  ⟨(.some 117), .none, (.call 27 [(.t 115), (.t 116)])⟩,
  ⟨(.some 118), .none, (.un .not (.t 117))⟩]
abbrev c_poundageref10_Good_r19 : List AO := [⟨(.some 2), .none, (.mov (.c (.d (.bool .false))))⟩]
abbrev c_poundageref10_Good_r20 : List AO := [⟨(.some 119), .none, (.bin .add (.t 111) (.c (.d (.int .i64 1))))⟩,
  ⟨(.some 111), .none, (.mov (.t 119))⟩]
abbrev c_poundageref10_Good_l2 : ACode := (.seq (.ops c_poundageref10_Good_r16) (.seq (.cond (.t 112) .skip (.exit 4)) (.seq (.block 5 (.seq (.ops c_poundageref10_Good_r17) (.seq (.ops c_poundageref10_Good_r18) (.cond (.t 118) (.seq (.ops c_poundageref10_Good_r19) .ret) .skip)))) (.ops c_poundageref10_Good_r20))))
abbrev c_poundageref10_Good_r21 : List AO := [⟨(.some 2), .none, (.mov (.c (.d (.bool .true))))⟩]
abbrev c_poundageref10_Good : AFunc := ⟨120, [(.tmp 2)], (.seq (.ops c_poundageref10_Good_r0) (.seq (.seq (.ops c_poundageref10_Good_r1) (.cond (.t 46) (.seq (.ops c_poundageref10_Good_r2) .ret) .skip)) (.seq (.seq (.ops c_poundageref10_Good_r3) (.block 0 (.loop c_poundageref10_Good_l0))) (.seq (.seq (.ops c_poundageref10_Good_r9) (.block 2 (.loop c_poundageref10_Good_l1))) (.seq (.seq (.ops c_poundageref10_Good_r15) (.block 4 (.loop c_poundageref10_Good_l2))) (.seq (.ops c_poundageref10_Good_r21) .ret))))))⟩
theorem comp_poundageref10_Good : funcC Try.prog 12 = some c_poundageref10_Good := by kernel_rfl
/-! function 13 :  poundage line.Line poundage days.Set .Count -/
abbrev f_line_Line_days_Set_Count : FuncId := 13
abbrev c_line_Line_days_Set_Count_r0 : List AO := [⟨(.some 1), .none, (.box 31 (.t 0))⟩,
  ⟨(.some 2), .none, (.mov (.c (.d (.int .i64 0))))⟩]
abbrev c_line_Line_days_Set_Count_r1 : List AO := [⟨(.some 3), .none, (.fieldAddr 0 (.t 1))⟩,
  ⟨(.some 4), .none, (.load .none (.t 3))⟩,
  ⟨(.some 5), .none, (.len (.t 4))⟩,
  ⟨(.some 2), .none, (.mov (.t 5))⟩]
abbrev c_line_Line_days_Set_Count : AFunc := ⟨6, [(.tmp 2)], (.seq (.ops c_line_Line_days_Set_Count_r0) (.seq (.ops c_line_Line_days_Set_Count_r1) .ret))⟩
theorem comp_line_Line_days_Set_Count : funcC Try.prog 13 = some c_line_Line_days_Set_Count := by kernel_rfl
/-! function 14 :  poundage line.Line poundage days.Set .At -/
abbrev f_line_Line_days_Set_At : FuncId := 14
abbrev c_line_Line_days_Set_At_r0 : List AO := [⟨(.some 2), .none, (.box 31 (.t 0))⟩,
  ⟨(.some 4), .none, (.mov (.c (.d (.int .u64 0))))⟩,
  ⟨(.some 5), .none, (.mov (.c (.d (.bool .false))))⟩]
abbrev c_line_Line_days_Set_At_r1 : List AO := [⟨(.some 10), .none, (.fieldAddr 0 (.t 2))⟩,
  ⟨(.some 11), .none, (.load .none (.t 10))⟩,
  ⟨(.some 12), .none, (.mov (.t 1))⟩,
  ⟨(.some 13), .none, (.call 28 [(.t 11), (.t 12), (.c (.fn 29 []))])⟩,
  ⟨(.some 9), .none, (.mov (.t 13))⟩,
  ⟨(.some 14), .none, (.extract (.t 9) 0)⟩,
  ⟨(.some 15), .none, (.extract (.t 9) 1)⟩,
  ⟨(.some 6), .none, (.mov (.t 14))⟩,
  ⟨(.some 7), .none, (.mov (.t 15))⟩]
abbrev c_line_Line_days_Set_At_r2 : List AO := [⟨(.some 16), .none, (.mov (.t 6))⟩,
  ⟨(.some 17), .none, (.fieldAddr 0 (.t 2))⟩,
  ⟨(.some 18), .none, (.load .none (.t 17))⟩,
  ⟨(.some 19), .none, (.len (.t 18))⟩,
  ⟨(.some 20), .none, (.bin .lss (.t 16) (.t 19))⟩,
  ⟨(.some 21), .none, (.mov (.t 20))⟩,
  ⟨(.some 22), (.some ⟨21, .true⟩), (.fieldAddr 0 (.t 2))⟩,
  ⟨(.some 23), (.some ⟨21, .true⟩), (.load .none (.t 22))⟩,
  ⟨(.some 24), (.some ⟨21, .true⟩), (.mov (.t 6))⟩,
  ⟨(.some 25), (.some ⟨21, .true⟩), (.elemAddr 3 (.t 23) (.t 24))⟩,
  ⟨(.some 26), (.some ⟨21, .true⟩), (.fieldAddr 0 (.t 25))⟩,
  ⟨(.some 27), (.some ⟨21, .true⟩), (.load .none (.t 26))⟩,
  ⟨(.some 28), (.some ⟨21, .true⟩), (.mov (.t 1))⟩,
  ⟨(.some 29), (.some ⟨21, .true⟩), (.bin .leq (.t 27) (.t 28))⟩,
  ⟨(.some 30), .none, (.pick (.t 21) (.t 29) (.c (.d (.bool .false))))⟩]
abbrev c_line_Line_days_Set_At_r3 : List AO := [⟨(.some 31), .none, (.fieldAddr 0 (.t 2))⟩,
  ⟨(.some 32), .none, (.load .none (.t 31))⟩,
  ⟨(.some 33), .none, (.mov (.t 6))⟩,
  ⟨(.some 34), .none, (.elemAddr 3 (.t 32) (.t 33))⟩,
  ⟨(.some 35), .none, (.fieldAddr 2 (.t 34))⟩,
  ⟨(.some 36), .none, (.load .none (.t 35))⟩,
  ⟨(.some 4), .none, (.mov (.t 36))⟩,
  ⟨(.some 5), .none, (.mov (.c (.d (.bool .true))))⟩]
abbrev c_line_Line_days_Set_At_r4 : List AO := [⟨(.some 8), .none, (.mov (.c (.d (.int .u64 0))))⟩]
abbrev c_line_Line_days_Set_At_r5 : List AO := [⟨(.some 37), .none, (.mov (.t 8))⟩,
  ⟨(.some 4), .none, (.mov (.t 37))⟩,
  ⟨(.some 5), .none, (.mov (.c (.d (.bool .false))))⟩]
abbrev c_line_Line_days_Set_At : AFunc := ⟨38, [(.tmp 4), (.tmp 5)], (.seq (.ops c_line_Line_days_Set_At_r0) (.seq (.ops c_line_Line_days_Set_At_r1) (.seq (.seq (.ops c_line_Line_days_Set_At_r2) (.cond (.t 30) (.seq (.ops c_line_Line_days_Set_At_r3) .ret) .skip)) (.seq (.ops c_line_Line_days_Set_At_r4) (.seq (.ops c_line_Line_days_Set_At_r5) .ret)))))⟩
theorem comp_line_Line_days_Set_At : funcC Try.prog 14 = some c_line_Line_days_Set_At := by kernel_rfl
/-! function 15 : poundage poundageref17.Holds -/
abbrev f_poundageref17_Holds : FuncId := 15
abbrev c_poundageref17_Holds_r0 : List AO := [⟨(.some 2), .none, (.box 26 (.t 0))⟩,
  ⟨(.some 4), .none, (.mov (.c (.d (.int .u64 0))))⟩]
abbrev c_poundageref17_Holds_r1 : List AO := [⟨(.some 5), .none, (.mov (.c (.d (.int .u64 0))))⟩]
abbrev c_poundageref17_Holds_r2 : List AO := [⟨(.some 10), .none, (.fieldAddr 4 (.t 2))⟩,
  ⟨(.some 11), .none, (.load .none (.t 10))⟩,
  ⟨(.some 12), .none, (.len (.t 11))⟩,
  ⟨(.some 13), .none, (.mov (.c (.d (.int .i64 0))))⟩]
abbrev c_poundageref17_Holds_r3 : List AO := [⟨(.some 14), .none, (.bin .lss (.t 13) (.t 12))⟩]
abbrev c_poundageref17_Holds_r4 : List AO := [⟨(.some 15), .none, (.mov (.t 13))⟩,
  ⟨(.some 16), .none, (.elemAddr 3 (.t 11) (.t 13))⟩,
  ⟨(.some 17), .none, (.load (.some 3) (.t 16))⟩,
  ⟨(.some 7), .none, (.alloc 43 [(.d (.int .i64 0)), (.d (.int .i64 0)), (.d (.int .i64 0))])⟩,
  ⟨(.some 6), .none, (.mov (.t 15))⟩,
  ⟨.none, .none, (.store 3 (.t 7) (.t 17))⟩]
abbrev c_poundageref17_Holds_r5 : List AO := [⟨(.some 18), .none, (.fieldAddr 1 (.t 7))⟩,
  ⟨(.some 19), .none, (.load .none (.t 18))⟩,
  ⟨(.some 20), .none, (.mov (.t 1))⟩,
  ⟨(.some 21), .none, (.bin .leq (.t 19) (.t 20))⟩,
  ⟨(.some 22), .none, (.mov (.t 21))⟩,
  ⟨(.some 23), (.some ⟨22, .true⟩), (.mov (.t 1))⟩,
  ⟨(.some 24), (.some ⟨22, .true⟩), (.fieldAddr 2 (.t 7))⟩,
  ⟨(.some 25), (.some ⟨22, .true⟩), (.load .none (.t 24))⟩,
  ⟨(.some 26), (.some ⟨22, .true⟩), (.bin .leq (.t 23) (.t 25))⟩,
  ⟨(.some 27), .none, (.pick (.t 22) (.t 26) (.c (.d (.bool .false))))⟩]
abbrev c_poundageref17_Holds_r6 : List AO := [⟨(.some 28), .none, (.mov (.t 5))⟩,
  ⟨(.some 29), .none, (.mov (.t 6))⟩,
  ⟨(.some 30), .none, (.conv .u64 (.t 29))⟩,
  ⟨(.some 31), .none, (.bin .shl (.c (.d (.int .u64 1))) (.t 30))⟩,
  ⟨(.some 32), .none, (.bin .or (.t 28) (.t 31))⟩,
  ⟨(.some 5), .none, (.mov (.t 32))⟩]
abbrev c_poundageref17_Holds_r7 : List AO := [⟨(.some 33), .none, (.bin .add (.t 13) (.c (.d (.int .i64 1))))⟩,
  ⟨(.some 13), .none, (.mov (.t 33))⟩]
abbrev c_poundageref17_Holds_l0 : ACode := (.seq (.ops c_poundageref17_Holds_r3) (.seq (.cond (.t 14) .skip (.exit 0)) (.seq (.block 1 (.seq (.ops c_poundageref17_Holds_r4) (.seq (.ops c_poundageref17_Holds_r5) (.cond (.t 27) (.ops c_poundageref17_Holds_r6) .skip)))) (.ops c_poundageref17_Holds_r7))))
abbrev c_poundageref17_Holds_r8 : List AO := [⟨(.some 34), .none, (.fieldAddr 5 (.t 2))⟩,
  ⟨(.some 35), .none, (.load .none (.t 34))⟩,
  ⟨(.some 36), .none, (.len (.t 35))⟩,
  ⟨(.some 37), .none, (.mov (.c (.d (.int .i64 0))))⟩]
abbrev c_poundageref17_Holds_r9 : List AO := [⟨(.some 38), .none, (.bin .lss (.t 37) (.t 36))⟩]
abbrev c_poundageref17_Holds_r10 : List AO := [⟨(.some 39), .none, (.mov (.t 37))⟩,
  ⟨(.some 40), .none, (.elemAddr 9 (.t 35) (.t 37))⟩,
  ⟨(.some 41), .none, (.load (.some 9) (.t 40))⟩,
  ⟨(.some 9), .none, (.alloc 59 [(.d (.int .i64 0)), (.d (.int .i64 0)), (.d (.int .i64 0)), (.d (.int .i64 0)), (.d (.int .i64 0)), (.d (.int .i64 0)), (.nilsl 2), (.d (.int .i64 0)), (.nilsl 3)])⟩,
  ⟨(.some 8), .none, (.mov (.t 39))⟩,
  ⟨.none, .none, (.store 9 (.t 9) (.t 41))⟩]
abbrev c_poundageref17_Holds_r11 : List AO := [⟨(.some 42), .none, (.fieldAddr 1 (.t 9))⟩,
  ⟨(.some 43), .none, (.load .none (.t 42))⟩,
  ⟨(.some 44), .none, (.mov (.t 1))⟩,
  ⟨(.some 45), .none, (.bin .leq (.t 43) (.t 44))⟩,
  ⟨(.some 46), .none, (.mov (.t 45))⟩,
  ⟨(.some 47), (.some ⟨46, .true⟩), (.mov (.t 1))⟩,
  ⟨(.some 48), (.some ⟨46, .true⟩), (.fieldAddr 2 (.t 9))⟩,
  ⟨(.some 49), (.some ⟨46, .true⟩), (.load .none (.t 48))⟩,
  ⟨(.some 50), (.some ⟨46, .true⟩), (.bin .leq (.t 47) (.t 49))⟩,
  ⟨(.some 51), .none, (.pick (.t 46) (.t 50) (.c (.d (.bool .false))))⟩]
abbrev c_poundageref17_Holds_r12 : List AO := [⟨(.some 52), .none, (.mov (.t 5))⟩,
  ⟨(.some 53), .none, (.mov (.t 8))⟩,
  ⟨(.some 54), .none, (.conv .u64 (.t 53))⟩,
  ⟨(.some 55), .none, (.bin .shl (.c (.d (.int .u64 256))) (.t 54))⟩,
  ⟨(.some 56), .none, (.bin .or (.t 52) (.t 55))⟩,
  ⟨(.some 5), .none, (.mov (.t 56))⟩]
abbrev c_poundageref17_Holds_r13 : List AO := [⟨(.some 57), .none, (.bin .add (.t 37) (.c (.d (.int .i64 1))))⟩,
  ⟨(.some 37), .none, (.mov (.t 57))⟩]
abbrev c_poundageref17_Holds_l1 : ACode := (.seq (.ops c_poundageref17_Holds_r9) (.seq (.cond (.t 38) .skip (.exit 2)) (.seq (.block 3 (.seq (.ops c_poundageref17_Holds_r10) (.seq (.ops c_poundageref17_Holds_r11) (.cond (.t 51) (.ops c_poundageref17_Holds_r12) .skip)))) (.ops c_poundageref17_Holds_r13))))
abbrev c_poundageref17_Holds_r14 : List AO := [⟨(.some 58), .none, (.mov (.t 5))⟩,
  ⟨(.some 4), .none, (.mov (.t 58))⟩]
abbrev c_poundageref17_Holds : AFunc := ⟨59, [(.tmp 4)], (.seq (.ops c_poundageref17_Holds_r0) (.seq (.ops c_poundageref17_Holds_r1) (.seq (.seq (.ops c_poundageref17_Holds_r2) (.block 0 (.loop c_poundageref17_Holds_l0))) (.seq (.seq (.ops c_poundageref17_Holds_r8) (.block 2 (.loop c_poundageref17_Holds_l1))) (.seq (.ops c_poundageref17_Holds_r14) .ret)))))⟩
theorem comp_poundageref17_Holds : funcC Try.prog 15 = some c_poundageref17_Holds := by kernel_rfl
/-! function 16 : poundage days.Sum -/
abbrev f_days_Sum : FuncId := 16
abbrev c_days_Sum_r0 : List AO := [⟨(.some 2), .none, (.mov (.c (.d (.int .u64 0))))⟩]
abbrev c_days_Sum_r1 : List AO := [⟨(.some 3), .none, (.mov (.t 0))⟩,
  ⟨(.some 4), .none, (.call 31 [(.t 3), (.c (.d (.int .i64 8)))])⟩,
  ⟨(.some 2), .none, (.mov (.t 4))⟩]
abbrev c_days_Sum : AFunc := ⟨5, [(.tmp 2)], (.seq (.ops c_days_Sum_r0) (.seq (.ops c_days_Sum_r1) .ret))⟩
theorem comp_days_Sum : funcC Try.prog 16 = some c_days_Sum := by kernel_rfl
/-! function 17 : poundage days.Part -/
abbrev f_days_Part : FuncId := 17
abbrev c_days_Part_r0 : List AO := [⟨(.some 2), .none, (.mov (.c (.d (.int .u64 0))))⟩]
abbrev c_days_Part_r1 : List AO := [⟨(.some 3), .none, (.mov (.t 0))⟩,
  ⟨(.some 4), .none, (.call 31 [(.t 3), (.c (.d (.int .i64 8)))])⟩,
  ⟨(.some 5), .none, (.bin .shl (.t 4) (.c (.d (.int .u64 8))))⟩,
  ⟨(.some 2), .none, (.mov (.t 5))⟩]
abbrev c_days_Part : AFunc := ⟨6, [(.tmp 2)], (.seq (.ops c_days_Part_r0) (.seq (.ops c_days_Part_r1) .ret))⟩
theorem comp_days_Part : funcC Try.prog 17 = some c_days_Part := by kernel_rfl
/-! function 18 :  poundage days.Set .Has -/
abbrev f_days_Set_Has : FuncId := 18
abbrev c_days_Set_Has_r0 : List AO := [⟨(.some 4), .none, (.mov (.c (.d (.bool .false))))⟩]
abbrev c_days_Set_Has_r1 : List AO := [⟨(.some 5), .none, (.mov (.t 0))⟩,
  ⟨(.some 6), .none, (.mov (.t 1))⟩,
  ⟨(.some 7), .none, (.bin .and (.t 5) (.t 6))⟩,
  ⟨(.some 8), .none, (.mov (.t 1))⟩,
  ⟨(.some 9), .none, (.bin .eql (.t 7) (.t 8))⟩,
  ⟨(.some 4), .none, (.mov (.t 9))⟩]
abbrev c_days_Set_Has : AFunc := ⟨10, [(.tmp 4)], (.seq (.ops c_days_Set_Has_r0) (.seq (.ops c_days_Set_Has_r1) .ret))⟩
theorem comp_days_Set_Has : funcC Try.prog 18 = some c_days_Set_Has := by kernel_rfl
/-! function 19 : poundage poundagelaw17.starts -/
abbrev f_poundagelaw17_starts : FuncId := 19
abbrev c_poundagelaw17_starts_r0 : List AO := [⟨(.some 1), .none, (.box 26 (.t 0))⟩,
  ⟨(.some 2), .none, (.mov (.c (.nilsl 0)))⟩]
abbrev c_poundagelaw17_starts_r1 : List AO := [⟨(.some 3), .none, (.alloc 49 [(.nilsl 1)])⟩]
abbrev c_poundagelaw17_starts_r2 : List AO := [⟨(.some 6), .none, (.load (.some 6) (.t 1))⟩,
  ⟨(.some 7), .none, (.call 10 [(.t 6)])⟩,
  ⟨(.some 4), .none, (.alloc 31 [(.nilsl 3)])⟩,
  ⟨.none, .none, (.store 1 (.t 4) (.t 7))⟩]
abbrev c_poundagelaw17_starts_r3 : List AO := [⟨(.some 8), .none, (.load (.some 1) (.t 4))⟩,
  ⟨(.some 9), .none, (.call 21 [(.t 8)])⟩]
abbrev c_poundagelaw17_starts_r4 : List AO := [⟨(.some 5), .none, (.alloc 55 [(.d (.int .i64 0)), (.d (.int .i64 0)), (.d (.int .u64 0))])⟩,
  ⟨.none, .none, (.store 3 (.t 5) (.t 10))⟩]
abbrev c_poundagelaw17_starts_r5 : List AO := [⟨(.some 11), .none, (.load .none (.t 3))⟩,
  ⟨(.some 12), .none, (.fieldAddr 0 (.t 5))⟩,
  ⟨(.some 13), .none, (.load .none (.t 12))⟩,
  ⟨(.some 14), .none, (.buildSlice 3 1 1 [(.d (.int .i64 0))] [⟨0, (.t 13)⟩])⟩,
  ⟨(.some 15), .none, (.append 3 1 8 [(.d (.int .i64 0))] (.t 11) (.t 14))⟩,
  ⟨.none, .none, (.store 1 (.t 3) (.t 15))⟩]
abbrev c_poundagelaw17_starts_g0 : ACode := (.block 1 (.ops c_poundagelaw17_starts_r5))
abbrev c_poundagelaw17_starts_r6 : List AO := [⟨(.some 16), .none, (.load .none (.t 3))⟩,
  ⟨(.some 2), .none, (.mov (.t 16))⟩]
abbrev c_poundagelaw17_starts : AFunc := ⟨17, [(.tmp 2)], (.seq (.ops c_poundagelaw17_starts_r0) (.seq (.ops c_poundagelaw17_starts_r1) (.seq (.ops c_poundagelaw17_starts_r2) (.seq (.seq (.ops c_poundagelaw17_starts_r3) (.block 0 (.rangef (.t 9) [10] (.ops c_poundagelaw17_starts_r4) c_poundagelaw17_starts_g0))) (.seq (.ops c_poundagelaw17_starts_r6) .ret)))))⟩
theorem comp_poundagelaw17_starts : funcC Try.prog 19 = some c_poundagelaw17_starts := by kernel_rfl
/-! function 20 : poundage poundageref17.Breaks -/
abbrev f_poundageref17_Breaks : FuncId := 20
abbrev c_poundageref17_Breaks_r0 : List AO := [⟨(.some 1), .none, (.box 26 (.t 0))⟩,
  ⟨(.some 2), .none, (.mov (.c (.nilsl 0)))⟩]
abbrev c_poundageref17_Breaks_r1 : List AO := [⟨(.some 3), .none, (.mov (.c (.nilsl 0)))⟩]
abbrev c_poundageref17_Breaks_r2 : List AO := [⟨(.some 5), .none, (.fieldAddr 1 (.t 1))⟩,
  ⟨(.some 6), .none, (.load .none (.t 5))⟩,
  ⟨(.some 7), .none, (.bin .add (.t 6) (.c (.d (.int .i64 1))))⟩,
  ⟨(.some 4), .none, (.mov (.t 7))⟩]
abbrev c_poundageref17_Breaks_r3 : List AO := [⟨(.some 8), .none, (.mov (.t 4))⟩,
  ⟨(.some 9), .none, (.fieldAddr 2 (.t 1))⟩,
  ⟨(.some 10), .none, (.load .none (.t 9))⟩,
  ⟨(.some 11), .none, (.bin .leq (.t 8) (.t 10))⟩]
abbrev c_poundageref17_Breaks_r4 : List AO := [⟨(.some 15), .none, (.mov (.t 4))⟩,
  ⟨(.some 18), .none, (.mov (.t 4))⟩,
  ⟨(.some 19), .none, (.bin .sub (.t 18) (.c (.d (.int .i64 1))))⟩,
  ⟨(.some 14), .none, (.load (.some 6) (.t 1))⟩,
  ⟨(.some 16), .none, (.pcall 15 [(.t 14), (.t 15)])⟩,
  ⟨(.some 17), .none, (.load (.some 6) (.t 1))⟩,
  ⟨(.some 20), .none, (.call 15 [(.t 17), (.t 19)])⟩,
  ⟨(.some 21), .none, (.bin .neq (.t 16) (.t 20))⟩]
abbrev c_poundageref17_Breaks_r5 : List AO := [⟨(.some 22), .none, (.mov (.t 3))⟩,
  ⟨(.some 23), .none, (.mov (.t 4))⟩,
  ⟨(.some 24), .none, (.buildSlice 3 1 1 [(.d (.int .i64 0))] [⟨0, (.t 23)⟩])⟩,
  ⟨(.some 25), .none, (.append 3 1 8 [(.d (.int .i64 0))] (.t 22) (.t 24))⟩,
  ⟨(.some 3), .none, (.mov (.t 25))⟩]
abbrev c_poundageref17_Breaks_r6 : List AO := [⟨(.some 12), .none, (.mov (.t 4))⟩,
  ⟨(.some 13), .none, (.bin .add (.t 12) (.c (.d (.int .i64 1))))⟩,
  ⟨(.some 4), .none, (.mov (.t 13))⟩]
abbrev c_poundageref17_Breaks_l0 : ACode := (.seq (.seq (.ops c_poundageref17_Breaks_r3) (.cond (.t 11) .skip (.exit 0))) (.seq (.block 1 (.seq (.dops c_poundageref17_Breaks_r4) (.cond (.t 21) (.ops c_poundageref17_Breaks_r5) .skip))) (.ops c_poundageref17_Breaks_r6)))
abbrev c_poundageref17_Breaks_r7 : List AO := [⟨(.some 26), .none, (.mov (.t 3))⟩,
  ⟨(.some 2), .none, (.mov (.t 26))⟩]
abbrev c_poundageref17_Breaks : AFunc := ⟨27, [(.tmp 2)], (.seq (.ops c_poundageref17_Breaks_r0) (.seq (.ops c_poundageref17_Breaks_r1) (.seq (.seq (.ops c_poundageref17_Breaks_r2) (.block 0 (.loop c_poundageref17_Breaks_l0))) (.seq (.ops c_poundageref17_Breaks_r7) .ret))))⟩
theorem comp_poundageref17_Breaks : funcC Try.prog 20 = some c_poundageref17_Breaks := by kernel_rfl
/-! function 21 :  poundage line.Line poundage days.Set .Runs -/
abbrev f_line_Line_days_Set_Runs : FuncId := 21
abbrev c_line_Line_days_Set_Runs_r0 : List AO := [⟨(.some 1), .none, (.box 31 (.t 0))⟩,
  ⟨(.some 2), .none, (.mov (.c .nilfn))⟩]
abbrev c_line_Line_days_Set_Runs_r1 : List AO := [⟨(.some 3), .none, (.fieldAddr 0 (.t 1))⟩,
  ⟨(.some 4), .none, (.load .none (.t 3))⟩,
  ⟨(.some 5), .none, (.call 32 [(.t 4)])⟩,
  ⟨(.some 2), .none, (.mov (.t 5))⟩]
abbrev c_line_Line_days_Set_Runs : AFunc := ⟨6, [(.tmp 2)], (.seq (.ops c_line_Line_days_Set_Runs_r0) (.seq (.ops c_line_Line_days_Set_Runs_r1) .ret))⟩
theorem comp_line_Line_days_Set_Runs : funcC Try.prog 21 = some c_line_Line_days_Set_Runs := by kernel_rfl
/-! function 22 : poundage core.Good -/
abbrev f_core_Good : FuncId := 22
abbrev c_core_Good_r0 : List AO := [⟨(.some 1), .none, (.box 26 (.t 0))⟩,
  ⟨(.some 2), .none, (.mov (.c (.d (.bool .false))))⟩]
abbrev c_core_Good_r1 : List AO := [⟨(.some 7), .none, (.fieldAddr 1 (.t 1))⟩,
  ⟨(.some 8), .none, (.load .none (.t 7))⟩,
  ⟨(.some 9), .none, (.bin .lss (.t 8) (.c (.d (.int .i64 0))))⟩,
  ⟨(.some 10), .none, (.mov (.t 9))⟩,
  ⟨(.some 11), (.some ⟨10, .false⟩), (.fieldAddr 2 (.t 1))⟩,
  ⟨(.some 12), (.some ⟨10, .false⟩), (.load .none (.t 11))⟩,
  ⟨(.some 13), (.some ⟨10, .false⟩), (.fieldAddr 1 (.t 1))⟩,
  ⟨(.some 14), (.some ⟨10, .false⟩), (.load .none (.t 13))⟩,
  ⟨(.some 15), (.some ⟨10, .false⟩), (.bin .lss (.t 12) (.t 14))⟩,
  ⟨(.some 16), .none, (.pick (.t 10) (.c (.d (.bool .true))) (.t 15))⟩,
  ⟨(.some 17), .none, (.mov (.t 16))⟩,
  ⟨(.some 18), (.some ⟨17, .false⟩), (.fieldAddr 2 (.t 1))⟩,
  ⟨(.some 19), (.some ⟨17, .false⟩), (.load .none (.t 18))⟩,
  ⟨(.some 20), (.some ⟨17, .false⟩), (.bin .geq (.t 19) (.c (.d (.int .i64 3652059))))⟩,
  ⟨(.some 21), .none, (.pick (.t 17) (.c (.d (.bool .true))) (.t 20))⟩,
  ⟨(.some 22), .none, (.mov (.t 21))⟩,
  ⟨(.some 23), (.some ⟨22, .false⟩), (.fieldAddr 2 (.t 1))⟩,
  ⟨(.some 24), (.some ⟨22, .false⟩), (.load .none (.t 23))⟩,
  ⟨(.some 25), (.some ⟨22, .false⟩), (.fieldAddr 1 (.t 1))⟩,
  ⟨(.some 26), (.some ⟨22, .false⟩), (.load .none (.t 25))⟩,
  ⟨(.some 27), (.some ⟨22, .false⟩), (.bin .sub (.t 24) (.t 26))⟩,
  ⟨(.some 28), (.some ⟨22, .false⟩), (.bin .geq (.t 27) (.c (.d (.int .i64 4000))))⟩,
  ⟨(.some 29), .none, (.pick (.t 22) (.c (.d (.bool .true))) (.t 28))⟩,
  ⟨(.some 30), .none, (.mov (.t 29))⟩,
  ⟨(.some 31), (.some ⟨30, .false⟩), (.fieldAddr 3 (.t 1))⟩,
  ⟨(.some 32), (.some ⟨30, .false⟩), (.load .none (.t 31))⟩,
  ⟨(.some 33), (.some ⟨30, .false⟩), (.len (.t 32))⟩,
  ⟨(.some 34), (.some ⟨30, .false⟩), (.bin .gtr (.t 33) (.c (.d (.int .i64 4))))⟩,
  ⟨(.some 35), .none, (.pick (.t 30) (.c (.d (.bool .true))) (.t 34))⟩,
  ⟨(.some 36), .none, (.mov (.t 35))⟩,
  ⟨(.some 37), (.some ⟨36, .false⟩), (.fieldAddr 4 (.t 1))⟩,
  ⟨(.some 38), (.some ⟨36, .false⟩), (.load .none (.t 37))⟩,
  ⟨(.some 39), (.some ⟨36, .false⟩), (.len (.t 38))⟩,
  ⟨(.some 40), (.some ⟨36, .false⟩), (.bin .gtr (.t 39) (.c (.d (.int .i64 8))))⟩,
  ⟨(.some 41), .none, (.pick (.t 36) (.c (.d (.bool .true))) (.t 40))⟩,
  ⟨(.some 42), .none, (.mov (.t 41))⟩,
  ⟨(.some 43), (.some ⟨42, .false⟩), (.fieldAddr 5 (.t 1))⟩,
  ⟨(.some 44), (.some ⟨42, .false⟩), (.load .none (.t 43))⟩,
  ⟨(.some 45), (.some ⟨42, .false⟩), (.len (.t 44))⟩,
  ⟨(.some 46), (.some ⟨42, .false⟩), (.bin .gtr (.t 45) (.c (.d (.int .i64 8))))⟩,
  ⟨(.some 47), .none, (.pick (.t 42) (.c (.d (.bool .true))) (.t 46))⟩]
abbrev c_core_Good_r2 : List AO := [⟨(.some 2), .none, (.mov (.c (.d (.bool .false))))⟩]
abbrev c_core_Good_r3 : List AO := [⟨(.some 48), .none, (.fieldAddr 3 (.t 1))⟩,
  ⟨(.some 49), .none, (.load .none (.t 48))⟩,
  ⟨(.some 50), .none, (.len (.t 49))⟩,
  ⟨(.some 51), .none, (.mov (.c (.d (.int .i64 0))))⟩]
abbrev c_core_Good_r4 : List AO := [⟨(.some 52), .none, (.bin .lss (.t 51) (.t 50))⟩]
abbrev c_core_Good_r5 : List AO := [⟨(.some 53), .none, (.mov (.t 51))⟩,
  ⟨(.some 54), .none, (.elemAddr 5 (.t 49) (.t 51))⟩,
  ⟨(.some 55), .none, (.load (.some 5) (.t 54))⟩,
  ⟨(.some 4), .none, (.alloc 61 [(.d (.str ⟨⟨[]⟩⟩)), (.d (.str ⟨⟨[]⟩⟩)), (.d (.int .i64 0)), (.d (.int .i64 0)), (.d (.int .i64 0))])⟩,
  ⟨(.some 3), .none, (.mov (.t 53))⟩,
  ⟨.none, .none, (.store 5 (.t 4) (.t 55))⟩]
abbrev c_core_Good_r6 : List AO := [⟨(.some 56), .none, (.fieldAddr 2 (.t 4))⟩,
  ⟨(.some 57), .none, (.load .none (.t 56))⟩,
  ⟨(.some 58), .none, (.call 33 [(.t 57), (.c (.d (.int .i64 0))), (.c (.d (.int .i64 2000)))])⟩,
  ⟨(.some 59), .none, (.un .not (.t 58))⟩,
  ⟨(.some 60), .none, (.mov (.t 59))⟩,
  ⟨(.some 61), (.some ⟨60, .false⟩), (.fieldAddr 3 (.t 4))⟩,
  ⟨(.some 62), (.some ⟨60, .false⟩), (.load .none (.t 61))⟩,
  ⟨(.some 63), (.some ⟨60, .false⟩), (.bin .neq (.t 62) (.c (.d (.int .i64 0))))⟩,
  ⟨(.some 64), .none, (.pick (.t 60) (.c (.d (.bool .true))) (.t 63))⟩,
  ⟨(.some 65), .none, (.mov (.t 64))⟩,
  ⟨(.some 66), (.some ⟨65, .false⟩), (.fieldAddr 4 (.t 4))⟩,
  ⟨(.some 67), (.some ⟨65, .false⟩), (.load .none (.t 66))⟩,
  ⟨(.some 68), (.some ⟨65, .false⟩), (.bin .neq (.t 67) (.c (.d (.int .i64 0))))⟩,
  ⟨(.some 69), .none, (.pick (.t 65) (.c (.d (.bool .true))) (.t 68))⟩,
  ⟨(.some 70), .none, (.mov (.t 69))⟩,
  ⟨(.some 71), (.some ⟨70, .false⟩), (.mov (.t 3))⟩,
  ⟨(.some 72), (.some ⟨70, .false⟩), (.bin .gtr (.t 71) (.c (.d (.int .i64 0))))⟩,
  ⟨(.some 73), (.some ⟨70, .false⟩), (.mov (.t 72))⟩,
  ⟨(.some 74), (.some ⟨73, .true⟩), (.fieldAddr 3 (.t 1))⟩,
  ⟨(.some 76), (.some ⟨73, .true⟩), (.mov (.t 3))⟩,
  ⟨(.some 77), (.some ⟨73, .true⟩), (.bin .sub (.t 76) (.c (.d (.int .i64 1))))⟩,
  ⟨(.some 81), (.some ⟨73, .true⟩), (.fieldAddr 0 (.t 4))⟩,
  ⟨(.some 75), (.some ⟨73, .true⟩), (.load .none (.t 74))⟩,
  ⟨(.some 78), (.some ⟨73, .true⟩), (.elemAddr 5 (.t 75) (.t 77))⟩,
  ⟨(.some 79), (.some ⟨73, .true⟩), (.fieldAddr 0 (.t 78))⟩,
  ⟨(.some 80), (.some ⟨73, .true⟩), (.load .none (.t 79))⟩,
  ⟨(.some 82), (.some ⟨73, .true⟩), (.load .none (.t 81))⟩,
  ⟨(.some 83), (.some ⟨73, .true⟩), (.bin .geq (.t 80) (.t 82))⟩,
  ⟨(.some 84), (.some ⟨70, .false⟩), (.pick (.t 73) (.t 83) (.c (.d (.bool .false))))⟩,
  ⟨(.some 85), .none, (.pick (.t 70) (.c (.d (.bool .true))) (.t 84))⟩]
abbrev c_core_Good_r7 : List AO := [⟨(.some 2), .none, (.mov (.c (.d (.bool .false))))⟩]
abbrev c_core_Good_r8 : List AO := [⟨(.some 86), .none, (.bin .add (.t 51) (.c (.d (.int .i64 1))))⟩,
  ⟨(.some 51), .none, (.mov (.t 86))⟩]
abbrev c_core_Good_l0 : ACode := (.seq (.ops c_core_Good_r4) (.seq (.cond (.t 52) .skip (.exit 0)) (.seq (.block 1 (.seq (.ops c_core_Good_r5) (.seq (.dops c_core_Good_r6) (.cond (.t 85) (.seq (.ops c_core_Good_r7) .ret) .skip)))) (.ops c_core_Good_r8))))
abbrev c_core_Good_r9 : List AO := [⟨(.some 87), .none, (.fieldAddr 4 (.t 1))⟩,
  ⟨(.some 88), .none, (.load .none (.t 87))⟩,
  ⟨(.some 89), .none, (.len (.t 88))⟩,
  ⟨(.some 90), .none, (.mov (.c (.d (.int .i64 0))))⟩]
abbrev c_core_Good_r10 : List AO := [⟨(.some 91), .none, (.bin .lss (.t 90) (.t 89))⟩]
abbrev c_core_Good_r11 : List AO := [⟨(.some 92), .none, (.elemAddr 3 (.t 88) (.t 90))⟩,
  ⟨(.some 93), .none, (.load (.some 3) (.t 92))⟩,
  ⟨(.some 6), .none, (.alloc 43 [(.d (.int .i64 0)), (.d (.int .i64 0)), (.d (.int .i64 0))])⟩,
  ⟨.none, .none, (.store 3 (.t 6) (.t 93))⟩]
abbrev c_core_Good_r12 : List AO := [⟨(.some 94), .none, (.fieldAddr 0 (.t 6))⟩,
  ⟨(.some 95), .none, (.load .none (.t 94))⟩,
  ⟨(.some 96), .none, (.call 33 [(.t 95), (.c (.d (.int .i64 0))), (.c (.d (.int .i64 1000000000000)))])⟩,
  ⟨(.some 97), .none, (.un .not (.t 96))⟩,
  ⟨(.some 98), .none, (.mov (.t 97))⟩,
  ⟨(.some 99), (.some ⟨98, .false⟩), (.fieldAddr 1 (.t 6))⟩,
  ⟨(.some 100), (.some ⟨98, .false⟩), (.load .none (.t 99))⟩,
  ⟨(.some 101), (.some ⟨98, .false⟩), (.fieldAddr 2 (.t 6))⟩,
  ⟨(.some 102), (.some ⟨98, .false⟩), (.load .none (.t 101))⟩,
  ⟨(.some 103), (.some ⟨98, .false⟩), (.bin .gtr (.t 100) (.t 102))⟩,
  ⟨(.some 104), .none, (.pick (.t 98) (.c (.d (.bool .true))) (.t 103))⟩,
  ⟨(.some 105), .none, (.mov (.t 104))⟩,
  ⟨(.some 106), (.some ⟨105, .false⟩), (.fieldAddr 1 (.t 6))⟩,
  ⟨(.some 107), (.some ⟨105, .false⟩), (.load .none (.t 106))⟩,
  ⟨(.some 108), (.some ⟨105, .false⟩), (.fieldAddr 1 (.t 1))⟩,
  ⟨(.some 109), (.some ⟨105, .false⟩), (.load .none (.t 108))⟩,
  ⟨(.some 110), (.some ⟨105, .false⟩), (.bin .lss (.t 107) (.t 109))⟩,
  ⟨(.some 111), .none, (.pick (.t 105) (.c (.d (.bool .true))) (.t 110))⟩,
  ⟨(.some 112), .none, (.mov (.t 111))⟩,
  ⟨(.some 113), (.some ⟨112, .false⟩), (.fieldAddr 2 (.t 6))⟩,
  ⟨(.some 114), (.some ⟨112, .false⟩), (.load .none (.t 113))⟩,
  ⟨(.some 115), (.some ⟨112, .false⟩), (.fieldAddr 2 (.t 1))⟩,
  ⟨(.some 116), (.some ⟨112, .false⟩), (.load .none (.t 115))⟩,
  ⟨(.some 117), (.some ⟨112, .false⟩), (.bin .gtr (.t 114) (.t 116))⟩,
  ⟨(.some 118), .none, (.pick (.t 112) (.c (.d (.bool .true))) (.t 117))⟩]
abbrev c_core_Good_r13 : List AO := [⟨(.some 2), .none, (.mov (.c (.d (.bool .false))))⟩]
abbrev c_core_Good_r14 : List AO := [⟨(.some 119), .none, (.bin .add (.t 90) (.c (.d (.int .i64 1))))⟩,
  ⟨(.some 90), .none, (.mov (.t 119))⟩]
abbrev c_core_Good_l1 : ACode := (.seq (.ops c_core_Good_r10) (.seq (.cond (.t 91) .skip (.exit 2)) (.seq (.block 3 (.seq (.ops c_core_Good_r11) (.seq (.ops c_core_Good_r12) (.cond (.t 118) (.seq (.ops c_core_Good_r13) .ret) .skip)))) (.ops c_core_Good_r14))))
abbrev c_core_Good_r15 : List AO := [⟨(.some 120), .none, (.fieldAddr 5 (.t 1))⟩,
  ⟨(.some 121), .none, (.load .none (.t 120))⟩,
  ⟨(.some 122), .none, (.mkfn 35 [(.t 1)])⟩,
  ⟨(.some 123), .none, (.call 34 [(.t 121), (.t 122)])⟩,
  ⟨(.some 124), .none, (.un .not (.t 123))⟩,
  ⟨(.some 2), .none, (.mov (.t 124))⟩]
abbrev c_core_Good : AFunc := ⟨125, [(.tmp 2)], (.seq (.ops c_core_Good_r0) (.seq (.seq (.ops c_core_Good_r1) (.cond (.t 47) (.seq (.ops c_core_Good_r2) .ret) .skip)) (.seq (.seq (.ops c_core_Good_r3) (.block 0 (.loop c_core_Good_l0))) (.seq (.seq (.ops c_core_Good_r9) (.block 2 (.loop c_core_Good_l1))) (.seq (.ops c_core_Good_r15) .ret)))))⟩
theorem comp_core_Good : funcC Try.prog 22 = some c_core_Good := by kernel_rfl
/-! function 23 : poundage line.Flat poundage days.Set  -/
abbrev f_line_Flat_days_Set : FuncId := 23
abbrev c_line_Flat_days_Set_r0 : List AO := [⟨(.some 6), .none, (.alloc 31 [(.nilsl 3)])⟩]
abbrev c_line_Flat_days_Set_r1 : List AO := [⟨(.some 7), .none, (.mov (.t 1))⟩,
  ⟨(.some 8), .none, (.mov (.t 0))⟩,
  ⟨(.some 9), .none, (.bin .lss (.t 7) (.t 8))⟩]
abbrev c_line_Flat_days_Set_r2 : List AO := [⟨(.some 10), .none, (.build [(.nilsl 3)] [])⟩,
  ⟨.none, .none, (.store 1 (.t 6) (.t 10))⟩]
abbrev c_line_Flat_days_Set_r3 : List AO := [⟨(.some 11), .none, (.mov (.t 0))⟩,
  ⟨(.some 12), .none, (.mov (.t 1))⟩,
  ⟨(.some 13), .none, (.mov (.t 2))⟩,
  ⟨(.some 14), .none, (.build [(.d (.int .i64 0)), (.d (.int .i64 0)), (.d (.int .u64 0))] [⟨0, ⟨1, (.t 11)⟩⟩, ⟨1, ⟨1, (.t 12)⟩⟩, ⟨2, ⟨1, (.t 13)⟩⟩])⟩,
  ⟨(.some 15), .none, (.buildSlice 55 3 1 [(.d (.int .i64 0)), (.d (.int .i64 0)), (.d (.int .u64 0))] [⟨0, (.t 14)⟩])⟩,
  ⟨(.some 16), .none, (.build [(.nilsl 3)] [⟨0, ⟨1, (.t 15)⟩⟩])⟩,
  ⟨.none, .none, (.store 1 (.t 6) (.t 16))⟩]
abbrev c_line_Flat_days_Set : AFunc := ⟨17, [(.cell 6 (.some 1))], (.seq (.ops c_line_Flat_days_Set_r0) (.seq (.seq (.ops c_line_Flat_days_Set_r1) (.cond (.t 9) (.seq (.ops c_line_Flat_days_Set_r2) .ret) .skip)) (.seq (.ops c_line_Flat_days_Set_r3) .ret)))⟩
theorem comp_line_Flat_days_Set : funcC Try.prog 23 = some c_line_Flat_days_Set := by kernel_rfl
/-! function 24 : poundage days.with -/
abbrev f_days_with : FuncId := 24
abbrev c_days_with_r0 : List AO := [⟨(.some 4), .none, (.box 31 (.t 0))⟩,
  ⟨(.some 8), .none, (.alloc 31 [(.nilsl 3)])⟩]
abbrev c_days_with_r1 : List AO := [⟨(.some 14), .none, (.load (.some 1) (.t 4))⟩,
  ⟨(.some 15), .none, (.call 11 [(.t 14)])⟩,
  ⟨(.some 13), .none, (.mov (.t 15))⟩,
  ⟨(.some 16), .none, (.extract (.t 13) 0)⟩,
  ⟨(.some 17), .none, (.extract (.t 13) 1)⟩,
  ⟨(.some 18), .none, (.extract (.t 13) 2)⟩,
  ⟨(.some 9), .none, (.mov (.t 16))⟩,
  ⟨(.some 10), .none, (.mov (.t 17))⟩,
  ⟨(.some 11), .none, (.mov (.t 18))⟩]
abbrev c_days_with_r2 : List AO := [⟨(.some 19), .none, (.mov (.t 9))⟩,
  ⟨(.some 20), .none, (.mov (.t 10))⟩,
  ⟨(.some 21), .none, (.call 23 [(.t 19), (.t 20), (.c (.d (.int .u64 0)))])⟩,
  ⟨(.some 22), .none, (.mov (.t 1))⟩,
  ⟨(.some 23), .none, (.mov (.t 2))⟩,
  ⟨(.some 24), .none, (.mov (.t 3))⟩,
  ⟨(.some 25), .none, (.call 37 [(.t 21), (.t 22), (.t 23), (.t 24)])⟩,
  ⟨(.some 12), .none, (.alloc 31 [(.nilsl 3)])⟩,
  ⟨.none, .none, (.store 1 (.t 12) (.t 25))⟩]
abbrev c_days_with_r3 : List AO := [⟨(.some 26), .none, (.load (.some 1) (.t 4))⟩,
  ⟨(.some 27), .none, (.load (.some 1) (.t 12))⟩,
  ⟨(.some 28), .none, (.call 38 [(.t 26), (.t 27), (.c (.fn 39 []))])⟩,
  ⟨.none, .none, (.store 1 (.t 8) (.t 28))⟩]
abbrev c_days_with : AFunc := ⟨29, [(.cell 8 (.some 1))], (.seq (.ops c_days_with_r0) (.seq (.ops c_days_with_r1) (.seq (.ops c_days_with_r2) (.seq (.ops c_days_with_r3) .ret))))⟩
theorem comp_days_with : funcC Try.prog 24 = some c_days_with := by kernel_rfl
/-! function 25 : poundage poundageref10.in -/
abbrev f_poundageref10_in : FuncId := 25
abbrev c_poundageref10_in_r0 : List AO := [⟨(.some 6), .none, (.mov (.c (.d (.bool .false))))⟩]
abbrev c_poundageref10_in_r1 : List AO := [⟨(.some 7), .none, (.mov (.t 1))⟩,
  ⟨(.some 8), .none, (.mov (.t 0))⟩,
  ⟨(.some 9), .none, (.bin .leq (.t 7) (.t 8))⟩,
  ⟨(.some 10), .none, (.mov (.t 9))⟩,
  ⟨(.some 11), (.some ⟨10, .true⟩), (.mov (.t 0))⟩,
  ⟨(.some 12), (.some ⟨10, .true⟩), (.mov (.t 2))⟩,
  ⟨(.some 13), (.some ⟨10, .true⟩), (.bin .leq (.t 11) (.t 12))⟩,
  ⟨(.some 14), .none, (.pick (.t 10) (.t 13) (.c (.d (.bool .false))))⟩,
  ⟨(.some 6), .none, (.mov (.t 14))⟩]
abbrev c_poundageref10_in : AFunc := ⟨15, [(.tmp 6)], (.seq (.ops c_poundageref10_in_r0) (.seq (.ops c_poundageref10_in_r1) .ret))⟩
theorem comp_poundageref10_in : funcC Try.prog 25 = some c_poundageref10_in := by kernel_rfl
/-! function 26 : poundage poundageref10.span -/
abbrev f_poundageref10_span : FuncId := 26
abbrev c_poundageref10_span_r0 : List AO := [⟨(.some 3), .none, (.box 26 (.t 0))⟩,
  ⟨(.some 6), .none, (.mov (.c (.d (.bool .false))))⟩]
abbrev c_poundageref10_span_r1 : List AO := [⟨(.some 7), .none, (.fieldAddr 1 (.t 3))⟩,
  ⟨(.some 8), .none, (.load .none (.t 7))⟩,
  ⟨(.some 9), .none, (.mov (.t 1))⟩,
  ⟨(.some 10), .none, (.bin .leq (.t 8) (.t 9))⟩,
  ⟨(.some 11), .none, (.mov (.t 10))⟩,
  ⟨(.some 12), (.some ⟨11, .true⟩), (.mov (.t 1))⟩,
  ⟨(.some 13), (.some ⟨11, .true⟩), (.mov (.t 2))⟩,
  ⟨(.some 14), (.some ⟨11, .true⟩), (.bin .leq (.t 12) (.t 13))⟩,
  ⟨(.some 15), .none, (.pick (.t 11) (.t 14) (.c (.d (.bool .false))))⟩,
  ⟨(.some 16), .none, (.mov (.t 15))⟩,
  ⟨(.some 17), (.some ⟨16, .true⟩), (.mov (.t 2))⟩,
  ⟨(.some 18), (.some ⟨16, .true⟩), (.fieldAddr 2 (.t 3))⟩,
  ⟨(.some 19), (.some ⟨16, .true⟩), (.load .none (.t 18))⟩,
  ⟨(.some 20), (.some ⟨16, .true⟩), (.bin .leq (.t 17) (.t 19))⟩,
  ⟨(.some 21), .none, (.pick (.t 16) (.t 20) (.c (.d (.bool .false))))⟩,
  ⟨(.some 6), .none, (.mov (.t 21))⟩]
abbrev c_poundageref10_span : AFunc := ⟨22, [(.tmp 6)], (.seq (.ops c_poundageref10_span_r0) (.seq (.ops c_poundageref10_span_r1) .ret))⟩
theorem comp_poundageref10_span : funcC Try.prog 26 = some c_poundageref10_span := by kernel_rfl
/-! function 27 : poundage poundageref10.Part -/
abbrev f_poundageref10_Part : FuncId := 27
abbrev c_poundageref10_Part_r0 : List AO := [⟨(.some 2), .none, (.box 26 (.t 0))⟩,
  ⟨(.some 3), .none, (.box 59 (.t 1))⟩,
  ⟨(.some 4), .none, (.mov (.c (.d (.bool .false))))⟩]
abbrev c_poundageref10_Part_r1 : List AO := [⟨(.some 11), .none, (.fieldAddr 0 (.t 3))⟩,
  ⟨(.some 12), .none, (.load .none (.t 11))⟩,
  ⟨(.some 13), .none, (.bin .lss (.t 12) (.c (.d (.int .i64 0))))⟩,
  ⟨(.some 14), .none, (.mov (.t 13))⟩,
  ⟨(.some 15), (.some ⟨14, .false⟩), (.fieldAddr 0 (.t 3))⟩,
  ⟨(.some 16), (.some ⟨14, .false⟩), (.load .none (.t 15))⟩,
  ⟨(.some 17), (.some ⟨14, .false⟩), (.fieldAddr 3 (.t 2))⟩,
  ⟨(.some 18), (.some ⟨14, .false⟩), (.load .none (.t 17))⟩,
  ⟨(.some 19), (.some ⟨14, .false⟩), (.len (.t 18))⟩,
  ⟨(.some 20), (.some ⟨14, .false⟩), (.bin .geq (.t 16) (.t 19))⟩,
  ⟨(.some 21), .none, (.pick (.t 14) (.c (.d (.bool .true))) (.t 20))⟩,
  ⟨(.some 22), .none, (.mov (.t 21))⟩,
  ⟨(.some 23), (.some ⟨22, .false⟩), (.load (.some 6) (.t 2))⟩,
  ⟨(.some 24), (.some ⟨22, .false⟩), (.fieldAddr 1 (.t 3))⟩,
  ⟨(.some 25), (.some ⟨22, .false⟩), (.load .none (.t 24))⟩,
  ⟨(.some 26), (.some ⟨22, .false⟩), (.fieldAddr 2 (.t 3))⟩,
  ⟨(.some 27), (.some ⟨22, .false⟩), (.load .none (.t 26))⟩,
  ⟨(.some 28), (.some ⟨22, .false⟩), (.call 26 [(.t 23), (.t 25), (.t 27)])⟩,
  ⟨(.some 29), (.some ⟨22, .false⟩), (.un .not (.t 28))⟩,
  ⟨(.some 30), .none, (.pick (.t 22) (.c (.d (.bool .true))) (.t 29))⟩,
  ⟨(.some 31), .none, (.mov (.t 30))⟩,
  ⟨(.some 32), (.some ⟨31, .false⟩), (.fieldAddr 3 (.t 3))⟩,
  ⟨(.some 33), (.some ⟨31, .false⟩), (.load .none (.t 32))⟩,
  ⟨(.some 34), (.some ⟨31, .false⟩), (.call 25 [(.t 33), (.c (.d (.int .i64 0))), (.c (.d (.int .i64 1000000)))])⟩,
  ⟨(.some 35), (.some ⟨31, .false⟩), (.un .not (.t 34))⟩,
  ⟨(.some 36), .none, (.pick (.t 31) (.c (.d (.bool .true))) (.t 35))⟩,
  ⟨(.some 37), .none, (.mov (.t 36))⟩,
  ⟨(.some 38), (.some ⟨37, .false⟩), (.fieldAddr 4 (.t 3))⟩,
  ⟨(.some 39), (.some ⟨37, .false⟩), (.load .none (.t 38))⟩,
  ⟨(.some 40), (.some ⟨37, .false⟩), (.call 25 [(.t 39), (.c (.d (.int .i64 1))), (.c (.d (.int .i64 1000000)))])⟩,
  ⟨(.some 41), (.some ⟨37, .false⟩), (.un .not (.t 40))⟩,
  ⟨(.some 42), .none, (.pick (.t 37) (.c (.d (.bool .true))) (.t 41))⟩,
  ⟨(.some 43), .none, (.mov (.t 42))⟩,
  ⟨(.some 44), (.some ⟨43, .false⟩), (.fieldAddr 5 (.t 3))⟩,
  ⟨(.some 45), (.some ⟨43, .false⟩), (.load .none (.t 44))⟩,
  ⟨(.some 46), (.some ⟨43, .false⟩), (.bin .neq (.t 45) (.c (.d (.int .i64 1))))⟩,
  ⟨(.some 47), (.some ⟨43, .false⟩), (.mov (.t 46))⟩,
  ⟨(.some 48), (.some ⟨47, .true⟩), (.fieldAddr 5 (.t 3))⟩,
  ⟨(.some 49), (.some ⟨47, .true⟩), (.load .none (.t 48))⟩,
  ⟨(.some 50), (.some ⟨47, .true⟩), (.bin .neq (.t 49) (.c (.d (.int .i64 2))))⟩,
  ⟨(.some 51), (.some ⟨43, .false⟩), (.pick (.t 47) (.t 50) (.c (.d (.bool .false))))⟩,
  ⟨(.some 52), .none, (.pick (.t 43) (.c (.d (.bool .true))) (.t 51))⟩,
  ⟨(.some 53), .none, (.mov (.t 52))⟩,
  ⟨(.some 54), (.some ⟨53, .false⟩), (.fieldAddr 7 (.t 3))⟩,
  ⟨(.some 55), (.some ⟨53, .false⟩), (.load .none (.t 54))⟩,
  ⟨(.some 56), (.some ⟨53, .false⟩), (.call 25 [(.t 55), (.c (.d (.int .i64 0))), (.c (.d (.int .i64 3)))])⟩,
  ⟨(.some 57), (.some ⟨53, .false⟩), (.un .not (.t 56))⟩,
  ⟨(.some 58), .none, (.pick (.t 53) (.c (.d (.bool .true))) (.t 57))⟩,
  ⟨(.some 59), .none, (.mov (.t 58))⟩,
  ⟨(.some 60), (.some ⟨59, .false⟩), (.fieldAddr 6 (.t 3))⟩,
  ⟨(.some 61), (.some ⟨59, .false⟩), (.load .none (.t 60))⟩,
  ⟨(.some 62), (.some ⟨59, .false⟩), (.len (.t 61))⟩,
  ⟨(.some 63), (.some ⟨59, .false⟩), (.bin .lss (.t 62) (.c (.d (.int .i64 1))))⟩,
  ⟨(.some 64), .none, (.pick (.t 59) (.c (.d (.bool .true))) (.t 63))⟩,
  ⟨(.some 65), .none, (.mov (.t 64))⟩,
  ⟨(.some 66), (.some ⟨65, .false⟩), (.fieldAddr 6 (.t 3))⟩,
  ⟨(.some 67), (.some ⟨65, .false⟩), (.load .none (.t 66))⟩,
  ⟨(.some 68), (.some ⟨65, .false⟩), (.len (.t 67))⟩,
  ⟨(.some 69), (.some ⟨65, .false⟩), (.bin .gtr (.t 68) (.c (.d (.int .i64 8))))⟩,
  ⟨(.some 70), .none, (.pick (.t 65) (.c (.d (.bool .true))) (.t 69))⟩,
  ⟨(.some 71), .none, (.mov (.t 70))⟩,
  ⟨(.some 72), (.some ⟨71, .false⟩), (.fieldAddr 8 (.t 3))⟩,
  ⟨(.some 73), (.some ⟨71, .false⟩), (.load .none (.t 72))⟩,
  ⟨(.some 74), (.some ⟨71, .false⟩), (.len (.t 73))⟩,
  ⟨(.some 75), (.some ⟨71, .false⟩), (.bin .gtr (.t 74) (.c (.d (.int .i64 6))))⟩,
  ⟨(.some 76), .none, (.pick (.t 71) (.c (.d (.bool .true))) (.t 75))⟩]
abbrev c_poundageref10_Part_r2 : List AO := [⟨(.some 4), .none, (.mov (.c (.d (.bool .false))))⟩]
abbrev c_poundageref10_Part_r3 : List AO := [⟨(.some 77), .none, (.fieldAddr 6 (.t 3))⟩,
  ⟨(.some 78), .none, (.load .none (.t 77))⟩,
  ⟨(.some 79), .none, (.len (.t 78))⟩,
  ⟨(.some 80), .none, (.mov (.c (.d (.int .i64 0))))⟩]
abbrev c_poundageref10_Part_r4 : List AO := [⟨(.some 81), .none, (.bin .lss (.t 80) (.t 79))⟩]
abbrev c_poundageref10_Part_r5 : List AO := [⟨(.some 82), .none, (.mov (.t 80))⟩,
  ⟨(.some 83), .none, (.elemAddr 2 (.t 78) (.t 80))⟩,
  ⟨(.some 84), .none, (.load (.some 2) (.t 83))⟩,
  ⟨(.some 6), .none, (.alloc 78 [(.d (.int .i64 0)), (.d (.int .i64 0))])⟩,
  ⟨(.some 5), .none, (.mov (.t 82))⟩,
  ⟨.none, .none, (.store 2 (.t 6) (.t 84))⟩]
abbrev c_poundageref10_Part_r6 : List AO := [⟨(.some 7), .none, (.mov (.c (.d (.int .i64 1))))⟩,
  ⟨(.some 8), .none, (.mov (.c (.d (.int .i64 1000000))))⟩]
abbrev c_poundageref10_Part_r7 : List AO := [⟨(.some 85), .none, (.mov (.t 5))⟩,
  ⟨(.some 86), .none, (.bin .gtr (.t 85) (.c (.d (.int .i64 0))))⟩,
  ⟨(.some 87), .none, (.mov (.t 86))⟩,
  ⟨(.some 88), (.some ⟨87, .true⟩), (.fieldAddr 6 (.t 3))⟩,
  ⟨(.some 89), (.some ⟨87, .true⟩), (.load .none (.t 88))⟩,
  ⟨(.some 90), (.some ⟨87, .true⟩), (.mov (.t 5))⟩,
  ⟨(.some 91), (.some ⟨87, .true⟩), (.bin .sub (.t 90) (.c (.d (.int .i64 1))))⟩,
  ⟨(.some 92), (.some ⟨87, .true⟩), (.elemAddr 2 (.t 89) (.t 91))⟩,
  ⟨(.some 93), (.some ⟨87, .true⟩), (.fieldAddr 0 (.t 92))⟩,
  ⟨(.some 94), (.some ⟨87, .true⟩), (.load .none (.t 93))⟩,
  ⟨(.some 95), (.some ⟨87, .true⟩), (.bin .geq (.t 94) (.c (.d (.int .i64 1))))⟩,
  ⟨(.some 96), .none, (.pick (.t 87) (.t 95) (.c (.d (.bool .false))))⟩]
abbrev c_poundageref10_Part_r8 : List AO := [⟨(.some 97), .none, (.fieldAddr 6 (.t 3))⟩,
  ⟨(.some 98), .none, (.load .none (.t 97))⟩,
  ⟨(.some 99), .none, (.mov (.t 5))⟩,
  ⟨(.some 100), .none, (.bin .sub (.t 99) (.c (.d (.int .i64 1))))⟩,
  ⟨(.some 101), .none, (.elemAddr 2 (.t 98) (.t 100))⟩,
  ⟨(.some 102), .none, (.fieldAddr 0 (.t 101))⟩,
  ⟨(.some 103), .none, (.load .none (.t 102))⟩,
  ⟨(.some 104), .none, (.minmax .false (.t 103) [(.c (.d (.int .i64 1000000)))])⟩,
  ⟨(.some 105), .none, (.bin .add (.t 104) (.c (.d (.int .i64 1))))⟩,
  ⟨(.some 7), .none, (.mov (.t 105))⟩]
abbrev c_poundageref10_Part_r9 : List AO := [⟨(.some 106), .none, (.mov (.t 5))⟩,
  ⟨(.some 107), .none, (.fieldAddr 6 (.t 3))⟩,
  ⟨(.some 108), .none, (.load .none (.t 107))⟩,
  ⟨(.some 109), .none, (.len (.t 108))⟩,
  ⟨(.some 110), .none, (.bin .sub (.t 109) (.c (.d (.int .i64 1))))⟩,
  ⟨(.some 111), .none, (.bin .eql (.t 106) (.t 110))⟩]
abbrev c_poundageref10_Part_r10 : List AO := [⟨(.some 7), .none, (.mov (.c (.d (.int .i64 0))))⟩,
  ⟨(.some 8), .none, (.mov (.c (.d (.int .i64 0))))⟩]
abbrev c_poundageref10_Part_r11 : List AO := [⟨(.some 112), .none, (.fieldAddr 1 (.t 6))⟩,
  ⟨(.some 113), .none, (.load .none (.t 112))⟩,
  ⟨(.some 114), .none, (.call 25 [(.t 113), (.c (.d (.int .i64 0))), (.c (.d (.int .i64 1000000000000)))])⟩,
  ⟨(.some 115), .none, (.un .not (.t 114))⟩,
  ⟨(.some 116), .none, (.mov (.t 115))⟩,
  ⟨(.some 117), (.some ⟨116, .false⟩), (.fieldAddr 0 (.t 6))⟩,
  ⟨(.some 118), (.some ⟨116, .false⟩), (.load .none (.t 117))⟩,
  ⟨(.some 119), (.some ⟨116, .false⟩), (.mov (.t 7))⟩,
  ⟨(.some 120), (.some ⟨116, .false⟩), (.mov (.t 8))⟩,
  ⟨(.some 121), (.some ⟨116, .false⟩), (.call 25 [(.t 118), (.t 119), (.t 120)])⟩,
  ⟨(.some 122), (.some ⟨116, .false⟩), (.un .not (.t 121))⟩,
  ⟨(.some 123), .none, (.pick (.t 116) (.c (.d (.bool .true))) (.t 122))⟩]
abbrev c_poundageref10_Part_r12 : List AO := [⟨(.some 4), .none, (.mov (.c (.d (.bool .false))))⟩]
abbrev c_poundageref10_Part_r13 : List AO := [⟨(.some 124), .none, (.bin .add (.t 80) (.c (.d (.int .i64 1))))⟩,
  ⟨(.some 80), .none, (.mov (.t 124))⟩]
abbrev c_poundageref10_Part_l0 : ACode := (.seq (.ops c_poundageref10_Part_r4) (.seq (.cond (.t 81) .skip (.exit 0)) (.seq (.block 1 (.seq (.ops c_poundageref10_Part_r5) (.seq (.ops c_poundageref10_Part_r6) (.seq (.seq (.ops c_poundageref10_Part_r7) (.cond (.t 96) (.ops c_poundageref10_Part_r8) .skip)) (.seq (.seq (.ops c_poundageref10_Part_r9) (.cond (.t 111) (.ops c_poundageref10_Part_r10) .skip)) (.seq (.ops c_poundageref10_Part_r11) (.cond (.t 123) (.seq (.ops c_poundageref10_Part_r12) .ret) .skip))))))) (.ops c_poundageref10_Part_r13))))
abbrev c_poundageref10_Part_r14 : List AO := [⟨(.some 125), .none, (.fieldAddr 8 (.t 3))⟩,
  ⟨(.some 126), .none, (.load .none (.t 125))⟩,
  ⟨(.some 127), .none, (.len (.t 126))⟩,
  ⟨(.some 128), .none, (.mov (.c (.d (.int .i64 0))))⟩]
abbrev c_poundageref10_Part_r15 : List AO := [⟨(.some 129), .none, (.bin .lss (.t 128) (.t 127))⟩]
abbrev c_poundageref10_Part_r16 : List AO := [⟨(.some 130), .none, (.elemAddr 3 (.t 126) (.t 128))⟩,
  ⟨(.some 131), .none, (.load (.some 3) (.t 130))⟩,
  ⟨(.some 10), .none, (.alloc 80 [(.d (.int .i64 0)), (.d (.int .i64 0)), (.d (.int .i64 0))])⟩,
  ⟨.none, .none, (.store 3 (.t 10) (.t 131))⟩]
abbrev c_poundageref10_Part_r17 : List AO := [⟨(.some 132), .none, (.fieldAddr 0 (.t 10))⟩,
  ⟨(.some 133), .none, (.load .none (.t 132))⟩]
abbrev c_poundageref10_Part_r18 : List AO := [⟨(.some 135), .none, (.bin .eql (.t 133) (.c (.d (.int .i64 1))))⟩,
  ⟨(.some 134), .none, (.mov (.t 135))⟩]
abbrev c_poundageref10_Part_r19 : List AO := [⟨(.some 136), .none, (.fieldAddr 1 (.t 10))⟩,
  ⟨(.some 137), .none, (.load .none (.t 136))⟩,
  ⟨(.some 138), .none, (.call 25 [(.t 137), (.c (.d (.int .i64 0))), (.c (.d (.int .i64 100000000)))])⟩,
  ⟨(.some 139), .none, (.un .not (.t 138))⟩,
  ⟨(.some 140), .none, (.mov (.t 139))⟩,
  ⟨(.some 141), (.some ⟨140, .false⟩), (.fieldAddr 2 (.t 10))⟩,
  ⟨(.some 142), (.some ⟨140, .false⟩), (.load .none (.t 141))⟩,
  ⟨(.some 143), (.some ⟨140, .false⟩), (.call 25 [(.t 142), (.c (.d (.int .i64 0))), (.c (.d (.int .i64 3)))])⟩,
  ⟨(.some 144), (.some ⟨140, .false⟩), (.un .not (.t 143))⟩,
  ⟨(.some 145), .none, (.pick (.t 140) (.c (.d (.bool .true))) (.t 144))⟩]
abbrev c_poundageref10_Part_r20 : List AO := [⟨(.some 4), .none, (.mov (.c (.d (.bool .false))))⟩]
abbrev c_poundageref10_Part_r21 : List AO := [⟨(.some 147), .none, (.bin .eql (.t 133) (.c (.d (.int .i64 2))))⟩,
  ⟨(.some 146), .none, (.mov (.t 147))⟩]
abbrev c_poundageref10_Part_r22 : List AO := [⟨(.some 148), .none, (.bin .eql (.t 133) (.c (.d (.int .i64 3))))⟩,
  ⟨(.some 146), .none, (.mov (.t 148))⟩]
abbrev c_poundageref10_Part_r23 : List AO := [⟨(.some 149), .none, (.bin .eql (.t 133) (.c (.d (.int .i64 4))))⟩,
  ⟨(.some 146), .none, (.mov (.t 149))⟩]
abbrev c_poundageref10_Part_r24 : List AO := [⟨(.some 150), .none, (.fieldAddr 1 (.t 10))⟩,
  ⟨(.some 151), .none, (.load .none (.t 150))⟩,
  ⟨(.some 152), .none, (.call 25 [(.t 151), (.c (.d (.int .i64 0))), (.c (.d (.int .i64 1000000000000)))])⟩,
  ⟨(.some 153), .none, (.un .not (.t 152))⟩,
  ⟨(.some 154), .none, (.mov (.t 153))⟩,
  ⟨(.some 155), (.some ⟨154, .false⟩), (.fieldAddr 2 (.t 10))⟩,
  ⟨(.some 156), (.some ⟨154, .false⟩), (.load .none (.t 155))⟩,
  ⟨(.some 157), (.some ⟨154, .false⟩), (.bin .neq (.t 156) (.c (.d (.int .i64 0))))⟩,
  ⟨(.some 158), .none, (.pick (.t 154) (.c (.d (.bool .true))) (.t 157))⟩]
abbrev c_poundageref10_Part_r25 : List AO := [⟨(.some 4), .none, (.mov (.c (.d (.bool .false))))⟩]
abbrev c_poundageref10_Part_r26 : List AO := [⟨(.some 4), .none, (.mov (.c (.d (.bool .false))))⟩]
abbrev c_poundageref10_Part_r27 : List AO := [⟨(.some 159), .none, (.bin .add (.t 128) (.c (.d (.int .i64 1))))⟩,
  ⟨(.some 128), .none, (.mov (.t 159))⟩]
abbrev c_poundageref10_Part_l1 : ACode := (.seq (.ops c_poundageref10_Part_r15) (.seq (.cond (.t 129) .skip (.exit 2)) (.seq (.block 3 (.seq (.ops c_poundageref10_Part_r16) (.seq (.ops c_poundageref10_Part_r17) (.block 4 (.seq (.ops c_poundageref10_Part_r18) (.cond (.t 134) (.seq (.ops c_poundageref10_Part_r19) (.cond (.t 145) (.seq (.ops c_poundageref10_Part_r20) .ret) .skip)) (.seq (.seq (.ops c_poundageref10_Part_r21) (.cond (.t 146) .skip (.seq (.ops c_poundageref10_Part_r22) (.cond (.t 146) .skip (.ops c_poundageref10_Part_r23))))) (.cond (.t 146) (.seq (.ops c_poundageref10_Part_r24) (.cond (.t 158) (.seq (.ops c_poundageref10_Part_r25) .ret) .skip)) (.seq (.ops c_poundageref10_Part_r26) .ret))))))))) (.ops c_poundageref10_Part_r27))))
abbrev c_poundageref10_Part_r28 : List AO := [⟨(.some 4), .none, (.mov (.c (.d (.bool .true))))⟩]
abbrev c_poundageref10_Part : AFunc := ⟨160, [(.tmp 4)], (.seq (.ops c_poundageref10_Part_r0) (.seq (.seq (.ops c_poundageref10_Part_r1) (.cond (.t 76) (.seq (.ops c_poundageref10_Part_r2) .ret) .skip)) (.seq (.seq (.ops c_poundageref10_Part_r3) (.block 0 (.loop c_poundageref10_Part_l0))) (.seq (.seq (.ops c_poundageref10_Part_r14) (.block 2 (.loop c_poundageref10_Part_l1))) (.seq (.ops c_poundageref10_Part_r28) .ret)))))⟩
theorem comp_poundageref10_Part : funcC Try.prog 27 = some c_poundageref10_Part := by kernel_rfl
/-! function 28 : slices.BinarySearchFunc poundage line.Run poundage days.Set poundage line.Run poundage days.Set int  -/
abbrev f_slices_BinarySearchFunc_days_Set_int : FuncId := 28
abbrev c_slices_BinarySearchFunc_days_Set_int_r0 : List AO := [⟨(.some 6), .none, (.mov (.c (.d (.int .i64 0))))⟩,
  ⟨(.some 7), .none, (.mov (.c (.d (.bool .false))))⟩]
abbrev c_slices_BinarySearchFunc_days_Set_int_r1 : List AO := [⟨(.some 12), .none, (.mov (.t 0))⟩,
  ⟨(.some 13), .none, (.len (.t 12))⟩,
  ⟨(.some 8), .none, (.mov (.t 13))⟩]
abbrev c_slices_BinarySearchFunc_days_Set_int_r2 : List AO := [⟨(.some 14), .none, (.mov (.t 8))⟩,
  ⟨(.some 9), .none, (.mov (.c (.d (.int .i64 0))))⟩,
  ⟨(.some 10), .none, (.mov (.t 14))⟩]
abbrev c_slices_BinarySearchFunc_days_Set_int_r3 : List AO := [⟨(.some 15), .none, (.mov (.t 9))⟩,
  ⟨(.some 16), .none, (.mov (.t 10))⟩,
  ⟨(.some 17), .none, (.bin .lss (.t 15) (.t 16))⟩]
abbrev c_slices_BinarySearchFunc_days_Set_int_r4 : List AO := [⟨(.some 18), .none, (.mov (.t 9))⟩,
  ⟨(.some 19), .none, (.mov (.t 10))⟩,
  ⟨(.some 20), .none, (.bin .add (.t 18) (.t 19))⟩,
  ⟨(.some 21), .none, (.conv .u64 (.t 20))⟩,
  ⟨(.some 22), .none, (.bin .shr (.t 21) (.c (.d (.int .u64 1))))⟩,
  ⟨(.some 23), .none, (.conv .i64 (.t 22))⟩,
  ⟨(.some 11), .none, (.mov (.t 23))⟩]
abbrev c_slices_BinarySearchFunc_days_Set_int_r5 : List AO := [⟨(.some 24), .none, (.mov (.t 2))⟩,
  ⟨(.some 25), .none, (.mov (.t 0))⟩,
  ⟨(.some 26), .none, (.mov (.t 11))⟩,
  ⟨(.some 27), .none, (.elemAddr 3 (.t 25) (.t 26))⟩,
  ⟨(.some 28), .none, (.load (.some 3) (.t 27))⟩,
  ⟨(.some 29), .none, (.mov (.t 1))⟩,
  ⟨(.some 30), .none, (.callv (.t 24) [(.t 28), (.t 29)])⟩,
  ⟨(.some 31), .none, (.bin .lss (.t 30) (.c (.d (.int .i64 0))))⟩]
abbrev c_slices_BinarySearchFunc_days_Set_int_r6 : List AO := [⟨(.some 32), .none, (.mov (.t 11))⟩,
  ⟨(.some 33), .none, (.bin .add (.t 32) (.c (.d (.int .i64 1))))⟩,
  ⟨(.some 9), .none, (.mov (.t 33))⟩]
abbrev c_slices_BinarySearchFunc_days_Set_int_r7 : List AO := [⟨(.some 34), .none, (.mov (.t 11))⟩,
  ⟨(.some 10), .none, (.mov (.t 34))⟩]
abbrev c_slices_BinarySearchFunc_days_Set_int_l0 : ACode := (.seq (.seq (.ops c_slices_BinarySearchFunc_days_Set_int_r3) (.cond (.t 17) .skip (.exit 0))) (.block 1 (.seq (.ops c_slices_BinarySearchFunc_days_Set_int_r4) (.seq (.ops c_slices_BinarySearchFunc_days_Set_int_r5) (.cond (.t 31) (.ops c_slices_BinarySearchFunc_days_Set_int_r6) (.ops c_slices_BinarySearchFunc_days_Set_int_r7))))))
abbrev c_slices_BinarySearchFunc_days_Set_int_r8 : List AO := [⟨(.some 35), .none, (.mov (.t 9))⟩,
  ⟨(.some 36), .none, (.mov (.t 9))⟩,
  ⟨(.some 37), .none, (.mov (.t 8))⟩,
  ⟨(.some 38), .none, (.bin .lss (.t 36) (.t 37))⟩,
  ⟨(.some 39), .none, (.mov (.t 38))⟩,
  ⟨(.some 40), (.some ⟨39, .true⟩), (.mov (.t 2))⟩,
  ⟨(.some 41), (.some ⟨39, .true⟩), (.mov (.t 0))⟩,
  ⟨(.some 42), (.some ⟨39, .true⟩), (.mov (.t 9))⟩,
  ⟨(.some 43), (.some ⟨39, .true⟩), (.elemAddr 3 (.t 41) (.t 42))⟩,
  ⟨(.some 44), (.some ⟨39, .true⟩), (.load (.some 3) (.t 43))⟩,
  ⟨(.some 45), (.some ⟨39, .true⟩), (.mov (.t 1))⟩,
  ⟨(.some 46), (.some ⟨39, .true⟩), (.callv (.t 40) [(.t 44), (.t 45)])⟩,
  ⟨(.some 47), (.some ⟨39, .true⟩), (.bin .eql (.t 46) (.c (.d (.int .i64 0))))⟩,
  ⟨(.some 48), .none, (.pick (.t 39) (.t 47) (.c (.d (.bool .false))))⟩,
  ⟨(.some 6), .none, (.mov (.t 35))⟩,
  ⟨(.some 7), .none, (.mov (.t 48))⟩]
abbrev c_slices_BinarySearchFunc_days_Set_int : AFunc := ⟨49, [(.tmp 6), (.tmp 7)], (.seq (.ops c_slices_BinarySearchFunc_days_Set_int_r0) (.seq (.ops c_slices_BinarySearchFunc_days_Set_int_r1) (.seq (.ops c_slices_BinarySearchFunc_days_Set_int_r2) (.seq (.block 0 (.loop c_slices_BinarySearchFunc_days_Set_int_l0)) (.seq (.ops c_slices_BinarySearchFunc_days_Set_int_r8) .ret)))))⟩
theorem comp_slices_BinarySearchFunc_days_Set_int : funcC Try.prog 28 = some c_slices_BinarySearchFunc_days_Set_int := by kernel_rfl
/-! function 29 :  poundage line.Line poundage days.Set .At 1 -/
abbrev f_line_Line_days_Set_At_1 : FuncId := 29
abbrev c_line_Line_days_Set_At_1_r0 : List AO := [⟨(.some 2), .none, (.box 55 (.t 0))⟩,
  ⟨(.some 4), .none, (.mov (.c (.d (.int .i64 0))))⟩]
abbrev c_line_Line_days_Set_At_1_r1 : List AO := [⟨(.some 5), .none, (.fieldAddr 1 (.t 2))⟩,
  ⟨(.some 6), .none, (.load .none (.t 5))⟩,
  ⟨(.some 7), .none, (.mov (.t 1))⟩,
  ⟨(.some 8), .none, (.call 30 [(.t 6), (.t 7)])⟩,
  ⟨(.some 4), .none, (.mov (.t 8))⟩]
abbrev c_line_Line_days_Set_At_1 : AFunc := ⟨9, [(.tmp 4)], (.seq (.ops c_line_Line_days_Set_At_1_r0) (.seq (.ops c_line_Line_days_Set_At_1_r1) .ret))⟩
theorem comp_line_Line_days_Set_At_1 : funcC Try.prog 29 = some c_line_Line_days_Set_At_1 := by kernel_rfl
/-! function 30 : cmp.Compare int  -/
abbrev f_cmp_Compare_int : FuncId := 30
abbrev c_cmp_Compare_int_r0 : List AO := [⟨(.some 4), .none, (.mov (.c (.d (.int .i64 0))))⟩]
abbrev c_cmp_Compare_int_r1 : List AO := [⟨(.some 7), .none, (.mov (.t 0))⟩,
  ⟨(.some 8), .none, (.call 40 [(.t 7)])⟩,
  ⟨(.some 5), .none, (.mov (.t 8))⟩]
abbrev c_cmp_Compare_int_r2 : List AO := [⟨(.some 9), .none, (.mov (.t 1))⟩,
  ⟨(.some 10), .none, (.call 40 [(.t 9)])⟩,
  ⟨(.some 6), .none, (.mov (.t 10))⟩]
abbrev c_cmp_Compare_int_r3 : List AO := [⟨(.some 11), .none, (.mov (.t 5))⟩]
abbrev c_cmp_Compare_int_r4 : List AO := [⟨(.some 12), .none, (.mov (.t 6))⟩]
abbrev c_cmp_Compare_int_r5 : List AO := [⟨(.some 4), .none, (.mov (.c (.d (.int .i64 0))))⟩]
abbrev c_cmp_Compare_int_r6 : List AO := [⟨(.some 4), .none, (.mov (.c (.d (.int .i64 (-1)))))⟩]
abbrev c_cmp_Compare_int_r7 : List AO := [⟨(.some 13), .none, (.mov (.t 6))⟩]
abbrev c_cmp_Compare_int_r8 : List AO := [⟨(.some 4), .none, (.mov (.c (.d (.int .i64 1))))⟩]
abbrev c_cmp_Compare_int_r9 : List AO := [⟨(.some 14), .none, (.mov (.t 0))⟩,
  ⟨(.some 15), .none, (.mov (.t 1))⟩,
  ⟨(.some 16), .none, (.bin .lss (.t 14) (.t 15))⟩]
abbrev c_cmp_Compare_int_r10 : List AO := [⟨(.some 4), .none, (.mov (.c (.d (.int .i64 (-1)))))⟩]
abbrev c_cmp_Compare_int_r11 : List AO := [⟨(.some 17), .none, (.mov (.t 0))⟩,
  ⟨(.some 18), .none, (.mov (.t 1))⟩,
  ⟨(.some 19), .none, (.bin .gtr (.t 17) (.t 18))⟩]
abbrev c_cmp_Compare_int_r12 : List AO := [⟨(.some 4), .none, (.mov (.c (.d (.int .i64 1))))⟩]
abbrev c_cmp_Compare_int_r13 : List AO := [⟨(.some 4), .none, (.mov (.c (.d (.int .i64 0))))⟩]
abbrev c_cmp_Compare_int : AFunc := ⟨20, [(.tmp 4)], (.seq (.ops c_cmp_Compare_int_r0) (.seq (.ops c_cmp_Compare_int_r1) (.seq (.ops c_cmp_Compare_int_r2) (.seq (.seq (.ops c_cmp_Compare_int_r3) (.cond (.t 11) (.seq (.seq (.ops c_cmp_Compare_int_r4) (.cond (.t 12) (.seq (.ops c_cmp_Compare_int_r5) .ret) .skip)) (.seq (.ops c_cmp_Compare_int_r6) .ret)) .skip)) (.seq (.seq (.ops c_cmp_Compare_int_r7) (.cond (.t 13) (.seq (.ops c_cmp_Compare_int_r8) .ret) .skip)) (.seq (.seq (.ops c_cmp_Compare_int_r9) (.cond (.t 16) (.seq (.ops c_cmp_Compare_int_r10) .ret) .skip)) (.seq (.seq (.ops c_cmp_Compare_int_r11) (.cond (.t 19) (.seq (.ops c_cmp_Compare_int_r12) .ret) .skip)) (.seq (.ops c_cmp_Compare_int_r13) .ret))))))))⟩
theorem comp_cmp_Compare_int : funcC Try.prog 30 = some c_cmp_Compare_int := by kernel_rfl
/-! function 31 : poundage days.bit -/
abbrev f_days_bit : FuncId := 31
abbrev c_days_bit_r0 : List AO := [⟨(.some 4), .none, (.mov (.c (.d (.int .u64 0))))⟩]
abbrev c_days_bit_r1 : List AO := [⟨(.some 5), .none, (.mov (.t 0))⟩,
  ⟨(.some 6), .none, (.bin .lss (.t 5) (.c (.d (.int .i64 0))))⟩,
  ⟨(.some 7), .none, (.mov (.t 6))⟩,
  ⟨(.some 8), (.some ⟨7, .false⟩), (.mov (.t 0))⟩,
  ⟨(.some 9), (.some ⟨7, .false⟩), (.mov (.t 1))⟩,
  ⟨(.some 10), (.some ⟨7, .false⟩), (.bin .geq (.t 8) (.t 9))⟩,
  ⟨(.some 11), .none, (.pick (.t 7) (.c (.d (.bool .true))) (.t 10))⟩]
abbrev c_days_bit_r2 : List AO := [⟨(.some 4), .none, (.mov (.c (.d (.int .u64 0))))⟩]
abbrev c_days_bit_r3 : List AO := [⟨(.some 12), .none, (.mov (.t 0))⟩,
  ⟨(.some 13), .none, (.bin .shl (.c (.d (.int .u64 1))) (.t 12))⟩,
  ⟨(.some 4), .none, (.mov (.t 13))⟩]
abbrev c_days_bit : AFunc := ⟨14, [(.tmp 4)], (.seq (.ops c_days_bit_r0) (.seq (.seq (.ops c_days_bit_r1) (.cond (.t 11) (.seq (.ops c_days_bit_r2) .ret) .skip)) (.seq (.ops c_days_bit_r3) .ret)))⟩
theorem comp_days_bit : funcC Try.prog 31 = some c_days_bit := by kernel_rfl
/-! function 32 : slices.Values poundage line.Run poundage days.Set poundage line.Run poundage days.Set  -/
abbrev f_slices_Values_days_Set_ : FuncId := 32
abbrev c_slices_Values_days_Set__r0 : List AO := [⟨(.some 1), .none, (.box 29 (.t 0))⟩,
  ⟨(.some 2), .none, (.mov (.c .nilfn))⟩]
abbrev c_slices_Values_days_Set__r1 : List AO := [⟨(.some 3), .none, (.mkfn 41 [(.t 1)])⟩,
  ⟨(.some 2), .none, (.mov (.t 3))⟩]
abbrev c_slices_Values_days_Set_ : AFunc := ⟨4, [(.tmp 2)], (.seq (.ops c_slices_Values_days_Set__r0) (.seq (.ops c_slices_Values_days_Set__r1) .ret))⟩
theorem comp_slices_Values_days_Set_ : funcC Try.prog 32 = some c_slices_Values_days_Set_ := by kernel_rfl
/-! function 33 : poundage core.between -/
abbrev f_core_between : FuncId := 33
abbrev c_core_between_r0 : List AO := [⟨(.some 6), .none, (.mov (.c (.d (.bool .false))))⟩]
abbrev c_core_between_r1 : List AO := [⟨(.some 7), .none, (.mov (.t 0))⟩,
  ⟨(.some 8), .none, (.mov (.t 1))⟩,
  ⟨(.some 9), .none, (.bin .geq (.t 7) (.t 8))⟩,
  ⟨(.some 10), .none, (.mov (.t 9))⟩,
  ⟨(.some 11), (.some ⟨10, .true⟩), (.mov (.t 0))⟩,
  ⟨(.some 12), (.some ⟨10, .true⟩), (.mov (.t 2))⟩,
  ⟨(.some 13), (.some ⟨10, .true⟩), (.bin .leq (.t 11) (.t 12))⟩,
  ⟨(.some 14), .none, (.pick (.t 10) (.t 13) (.c (.d (.bool .false))))⟩,
  ⟨(.some 6), .none, (.mov (.t 14))⟩]
abbrev c_core_between : AFunc := ⟨15, [(.tmp 6)], (.seq (.ops c_core_between_r0) (.seq (.ops c_core_between_r1) .ret))⟩
theorem comp_core_between : funcC Try.prog 33 = some c_core_between := by kernel_rfl
/-! function 34 : slices.ContainsFunc poundage api.Part poundage api.Part  -/
abbrev f_slices_ContainsFunc_api_Part : FuncId := 34
abbrev c_slices_ContainsFunc_api_Part_r0 : List AO := [⟨(.some 4), .none, (.mov (.c (.d (.bool .false))))⟩]
abbrev c_slices_ContainsFunc_api_Part_r1 : List AO := [⟨(.some 5), .none, (.mov (.t 0))⟩,
  ⟨(.some 6), .none, (.mov (.t 1))⟩,
  ⟨(.some 7), .none, (.call 42 [(.t 5), (.t 6)])⟩,
  ⟨(.some 8), .none, (.bin .geq (.t 7) (.c (.d (.int .i64 0))))⟩,
  ⟨(.some 4), .none, (.mov (.t 8))⟩]
abbrev c_slices_ContainsFunc_api_Part : AFunc := ⟨9, [(.tmp 4)], (.seq (.ops c_slices_ContainsFunc_api_Part_r0) (.seq (.ops c_slices_ContainsFunc_api_Part_r1) .ret))⟩
theorem comp_slices_ContainsFunc_api_Part : funcC Try.prog 34 = some c_slices_ContainsFunc_api_Part := by kernel_rfl
/-! function 35 : poundage core.Good 1 -/
abbrev f_core_Good_1 : FuncId := 35
abbrev c_core_Good_1_r0 : List AO := [⟨(.some 2), .none, (.box 59 (.t 0))⟩,
  ⟨(.some 3), .none, (.mov (.c (.d (.bool .false))))⟩]
abbrev c_core_Good_1_r1 : List AO := [⟨(.some 4), .none, (.load (.some 6) (.t 1))⟩,
  ⟨(.some 5), .none, (.load (.some 9) (.t 2))⟩,
  ⟨(.some 6), .none, (.call 36 [(.t 4), (.t 5)])⟩,
  ⟨(.some 7), .none, (.un .not (.t 6))⟩,
  ⟨(.some 3), .none, (.mov (.t 7))⟩]
abbrev c_core_Good_1 : AFunc := ⟨8, [(.tmp 3)], (.seq (.ops c_core_Good_1_r0) (.seq (.ops c_core_Good_1_r1) .ret))⟩
theorem comp_core_Good_1 : funcC Try.prog 35 = some c_core_Good_1 := by kernel_rfl
/-! function 36 : poundage core.part -/
abbrev f_core_part : FuncId := 36
abbrev c_core_part_r0 : List AO := [⟨(.some 2), .none, (.box 26 (.t 0))⟩,
  ⟨(.some 3), .none, (.box 59 (.t 1))⟩,
  ⟨(.some 4), .none, (.mov (.c (.d (.bool .false))))⟩]
abbrev c_core_part_r1 : List AO := [⟨(.some 5), .none, (.fieldAddr 0 (.t 3))⟩,
  ⟨(.some 6), .none, (.load .none (.t 5))⟩,
  ⟨(.some 7), .none, (.fieldAddr 3 (.t 2))⟩,
  ⟨(.some 8), .none, (.load .none (.t 7))⟩,
  ⟨(.some 9), .none, (.len (.t 8))⟩,
  ⟨(.some 10), .none, (.bin .sub (.t 9) (.c (.d (.int .i64 1))))⟩,
  ⟨(.some 11), .none, (.call 33 [(.t 6), (.c (.d (.int .i64 0))), (.t 10)])⟩,
  ⟨(.some 12), .none, (.un .not (.t 11))⟩,
  ⟨(.some 13), .none, (.mov (.t 12))⟩,
  ⟨(.some 14), (.some ⟨13, .false⟩), (.fieldAddr 1 (.t 3))⟩,
  ⟨(.some 15), (.some ⟨13, .false⟩), (.load .none (.t 14))⟩,
  ⟨(.some 16), (.some ⟨13, .false⟩), (.fieldAddr 2 (.t 3))⟩,
  ⟨(.some 17), (.some ⟨13, .false⟩), (.load .none (.t 16))⟩,
  ⟨(.some 18), (.some ⟨13, .false⟩), (.bin .gtr (.t 15) (.t 17))⟩,
  ⟨(.some 19), .none, (.pick (.t 13) (.c (.d (.bool .true))) (.t 18))⟩,
  ⟨(.some 20), .none, (.mov (.t 19))⟩,
  ⟨(.some 21), (.some ⟨20, .false⟩), (.fieldAddr 1 (.t 3))⟩,
  ⟨(.some 22), (.some ⟨20, .false⟩), (.load .none (.t 21))⟩,
  ⟨(.some 23), (.some ⟨20, .false⟩), (.fieldAddr 1 (.t 2))⟩,
  ⟨(.some 24), (.some ⟨20, .false⟩), (.load .none (.t 23))⟩,
  ⟨(.some 25), (.some ⟨20, .false⟩), (.bin .lss (.t 22) (.t 24))⟩,
  ⟨(.some 26), .none, (.pick (.t 20) (.c (.d (.bool .true))) (.t 25))⟩,
  ⟨(.some 27), .none, (.mov (.t 26))⟩,
  ⟨(.some 28), (.some ⟨27, .false⟩), (.fieldAddr 2 (.t 3))⟩,
  ⟨(.some 29), (.some ⟨27, .false⟩), (.load .none (.t 28))⟩,
  ⟨(.some 30), (.some ⟨27, .false⟩), (.fieldAddr 2 (.t 2))⟩,
  ⟨(.some 31), (.some ⟨27, .false⟩), (.load .none (.t 30))⟩,
  ⟨(.some 32), (.some ⟨27, .false⟩), (.bin .gtr (.t 29) (.t 31))⟩,
  ⟨(.some 33), .none, (.pick (.t 27) (.c (.d (.bool .true))) (.t 32))⟩]
abbrev c_core_part_r2 : List AO := [⟨(.some 4), .none, (.mov (.c (.d (.bool .false))))⟩]
abbrev c_core_part_r3 : List AO := [⟨(.some 34), .none, (.fieldAddr 3 (.t 3))⟩,
  ⟨(.some 35), .none, (.load .none (.t 34))⟩,
  ⟨(.some 36), .none, (.call 33 [(.t 35), (.c (.d (.int .i64 0))), (.c (.d (.int .i64 1000000)))])⟩,
  ⟨(.some 37), .none, (.un .not (.t 36))⟩,
  ⟨(.some 38), .none, (.mov (.t 37))⟩,
  ⟨(.some 39), (.some ⟨38, .false⟩), (.fieldAddr 4 (.t 3))⟩,
  ⟨(.some 40), (.some ⟨38, .false⟩), (.load .none (.t 39))⟩,
  ⟨(.some 41), (.some ⟨38, .false⟩), (.call 33 [(.t 40), (.c (.d (.int .i64 1))), (.c (.d (.int .i64 1000000)))])⟩,
  ⟨(.some 42), (.some ⟨38, .false⟩), (.un .not (.t 41))⟩,
  ⟨(.some 43), .none, (.pick (.t 38) (.c (.d (.bool .true))) (.t 42))⟩,
  ⟨(.some 44), .none, (.mov (.t 43))⟩,
  ⟨(.some 45), (.some ⟨44, .false⟩), (.fieldAddr 5 (.t 3))⟩,
  ⟨(.some 46), (.some ⟨44, .false⟩), (.load .none (.t 45))⟩,
  ⟨(.some 47), (.some ⟨44, .false⟩), (.call 33 [(.t 46), (.c (.d (.int .i64 1))), (.c (.d (.int .i64 2)))])⟩,
  ⟨(.some 48), (.some ⟨44, .false⟩), (.un .not (.t 47))⟩,
  ⟨(.some 49), .none, (.pick (.t 44) (.c (.d (.bool .true))) (.t 48))⟩,
  ⟨(.some 50), .none, (.mov (.t 49))⟩,
  ⟨(.some 51), (.some ⟨50, .false⟩), (.fieldAddr 7 (.t 3))⟩,
  ⟨(.some 52), (.some ⟨50, .false⟩), (.load .none (.t 51))⟩,
  ⟨(.some 53), (.some ⟨50, .false⟩), (.call 33 [(.t 52), (.c (.d (.int .i64 0))), (.c (.d (.int .i64 3)))])⟩,
  ⟨(.some 54), (.some ⟨50, .false⟩), (.un .not (.t 53))⟩,
  ⟨(.some 55), .none, (.pick (.t 50) (.c (.d (.bool .true))) (.t 54))⟩,
  ⟨(.some 56), .none, (.mov (.t 55))⟩,
  ⟨(.some 57), (.some ⟨56, .false⟩), (.fieldAddr 8 (.t 3))⟩,
  ⟨(.some 58), (.some ⟨56, .false⟩), (.load .none (.t 57))⟩,
  ⟨(.some 59), (.some ⟨56, .false⟩), (.len (.t 58))⟩,
  ⟨(.some 60), (.some ⟨56, .false⟩), (.bin .gtr (.t 59) (.c (.d (.int .i64 6))))⟩,
  ⟨(.some 61), .none, (.pick (.t 56) (.c (.d (.bool .true))) (.t 60))⟩]
abbrev c_core_part_r4 : List AO := [⟨(.some 4), .none, (.mov (.c (.d (.bool .false))))⟩]
abbrev c_core_part_r5 : List AO := [⟨(.some 62), .none, (.fieldAddr 6 (.t 3))⟩,
  ⟨(.some 63), .none, (.load .none (.t 62))⟩,
  ⟨(.some 64), .none, (.call 43 [(.t 63)])⟩,
  ⟨(.some 65), .none, (.mov (.t 64))⟩,
  ⟨(.some 66), (.some ⟨65, .true⟩), (.fieldAddr 8 (.t 3))⟩,
  ⟨(.some 67), (.some ⟨65, .true⟩), (.load .none (.t 66))⟩,
  ⟨(.some 68), (.some ⟨65, .true⟩), (.call 44 [(.t 67), (.c (.fn 45 []))])⟩,
  ⟨(.some 69), (.some ⟨65, .true⟩), (.un .not (.t 68))⟩,
  ⟨(.some 70), .none, (.pick (.t 65) (.t 69) (.c (.d (.bool .false))))⟩,
  ⟨(.some 4), .none, (.mov (.t 70))⟩]
abbrev c_core_part : AFunc := ⟨71, [(.tmp 4)], (.seq (.ops c_core_part_r0) (.seq (.seq (.ops c_core_part_r1) (.cond (.t 33) (.seq (.ops c_core_part_r2) .ret) .skip)) (.seq (.seq (.ops c_core_part_r3) (.cond (.t 61) (.seq (.ops c_core_part_r4) .ret) .skip)) (.seq (.ops c_core_part_r5) .ret))))⟩
theorem comp_core_part : funcC Try.prog 36 = some c_core_part := by kernel_rfl
/-! function 37 : poundage line.Fill poundage days.Set  -/
abbrev f_line_Fill_days_Set : FuncId := 37
abbrev c_line_Fill_days_Set_r0 : List AO := [⟨(.some 4), .none, (.box 31 (.t 0))⟩,
  ⟨(.some 8), .none, (.alloc 31 [(.nilsl 3)])⟩]
abbrev c_line_Fill_days_Set_r1 : List AO := [⟨(.some 9), .none, (.alloc 31 [(.nilsl 3)])⟩]
abbrev c_line_Fill_days_Set_r2 : List AO := [⟨(.some 14), .none, (.fieldAddr 0 (.t 4))⟩,
  ⟨(.some 15), .none, (.load .none (.t 14))⟩,
  ⟨(.some 16), .none, (.len (.t 15))⟩,
  ⟨(.some 17), .none, (.mov (.c (.d (.int .i64 0))))⟩]
abbrev c_line_Fill_days_Set_r3 : List AO := [⟨(.some 18), .none, (.bin .lss (.t 17) (.t 16))⟩]
abbrev c_line_Fill_days_Set_r4 : List AO := [⟨(.some 19), .none, (.elemAddr 3 (.t 15) (.t 17))⟩,
  ⟨(.some 20), .none, (.load (.some 3) (.t 19))⟩,
  ⟨(.some 11), .none, (.alloc 55 [(.d (.int .i64 0)), (.d (.int .i64 0)), (.d (.int .u64 0))])⟩,
  ⟨.none, .none, (.store 3 (.t 11) (.t 20))⟩]
abbrev c_line_Fill_days_Set_r5 : List AO := [⟨(.some 21), .none, (.fieldAddr 0 (.t 11))⟩,
  ⟨(.some 23), .none, (.mov (.t 1))⟩,
  ⟨(.some 25), .none, (.fieldAddr 1 (.t 11))⟩,
  ⟨(.some 27), .none, (.mov (.t 2))⟩,
  ⟨(.some 22), .none, (.load .none (.t 21))⟩,
  ⟨(.some 24), .none, (.minmax .true (.t 22) [(.t 23)])⟩,
  ⟨(.some 12), .none, (.mov (.t 24))⟩,
  ⟨(.some 26), .none, (.load .none (.t 25))⟩,
  ⟨(.some 28), .none, (.minmax .false (.t 26) [(.t 27)])⟩,
  ⟨(.some 13), .none, (.mov (.t 28))⟩]
abbrev c_line_Fill_days_Set_r6 : List AO := [⟨(.some 29), .none, (.mov (.t 12))⟩,
  ⟨(.some 30), .none, (.mov (.t 13))⟩,
  ⟨(.some 31), .none, (.bin .gtr (.t 29) (.t 30))⟩]
abbrev c_line_Fill_days_Set_r7 : List AO := [⟨(.some 32), .none, (.load (.some 3) (.t 11))⟩,
  ⟨(.some 33), .none, (.call 47 [(.t 9), (.t 32)])⟩]
abbrev c_line_Fill_days_Set_r8 : List AO := [⟨(.some 34), .none, (.fieldAddr 0 (.t 11))⟩,
  ⟨(.some 35), .none, (.load .none (.t 34))⟩,
  ⟨(.some 36), .none, (.mov (.t 12))⟩,
  ⟨(.some 37), .none, (.bin .lss (.t 35) (.t 36))⟩]
abbrev c_line_Fill_days_Set_r9 : List AO := [⟨(.some 38), .none, (.fieldAddr 0 (.t 11))⟩,
  ⟨(.some 39), .none, (.load .none (.t 38))⟩,
  ⟨(.some 40), .none, (.mov (.t 12))⟩,
  ⟨(.some 41), .none, (.bin .sub (.t 40) (.c (.d (.int .i64 1))))⟩,
  ⟨(.some 42), .none, (.fieldAddr 2 (.t 11))⟩,
  ⟨(.some 43), .none, (.load .none (.t 42))⟩,
  ⟨(.some 44), .none, (.build [(.d (.int .i64 0)), (.d (.int .i64 0)), (.d (.int .u64 0))] [⟨0, ⟨1, (.t 39)⟩⟩, ⟨1, ⟨1, (.t 41)⟩⟩, ⟨2, ⟨1, (.t 43)⟩⟩])⟩,
  ⟨(.some 45), .none, (.call 47 [(.t 9), (.t 44)])⟩]
abbrev c_line_Fill_days_Set_r10 : List AO := [⟨(.some 46), .none, (.mov (.t 12))⟩,
  ⟨(.some 47), .none, (.mov (.t 13))⟩,
  ⟨(.some 48), .none, (.mov (.t 3))⟩,
  ⟨(.some 49), .none, (.build [(.d (.int .i64 0)), (.d (.int .i64 0)), (.d (.int .u64 0))] [⟨0, ⟨1, (.t 46)⟩⟩, ⟨1, ⟨1, (.t 47)⟩⟩, ⟨2, ⟨1, (.t 48)⟩⟩])⟩,
  ⟨(.some 50), .none, (.call 47 [(.t 9), (.t 49)])⟩]
abbrev c_line_Fill_days_Set_r11 : List AO := [⟨(.some 51), .none, (.mov (.t 13))⟩,
  ⟨(.some 52), .none, (.fieldAddr 1 (.t 11))⟩,
  ⟨(.some 53), .none, (.load .none (.t 52))⟩,
  ⟨(.some 54), .none, (.bin .lss (.t 51) (.t 53))⟩]
abbrev c_line_Fill_days_Set_r12 : List AO := [⟨(.some 55), .none, (.mov (.t 13))⟩,
  ⟨(.some 56), .none, (.bin .add (.t 55) (.c (.d (.int .i64 1))))⟩,
  ⟨(.some 57), .none, (.fieldAddr 1 (.t 11))⟩,
  ⟨(.some 58), .none, (.load .none (.t 57))⟩,
  ⟨(.some 59), .none, (.fieldAddr 2 (.t 11))⟩,
  ⟨(.some 60), .none, (.load .none (.t 59))⟩,
  ⟨(.some 61), .none, (.build [(.d (.int .i64 0)), (.d (.int .i64 0)), (.d (.int .u64 0))] [⟨0, ⟨1, (.t 56)⟩⟩, ⟨1, ⟨1, (.t 58)⟩⟩, ⟨2, ⟨1, (.t 60)⟩⟩])⟩,
  ⟨(.some 62), .none, (.call 47 [(.t 9), (.t 61)])⟩]
abbrev c_line_Fill_days_Set_r13 : List AO := [⟨(.some 63), .none, (.bin .add (.t 17) (.c (.d (.int .i64 1))))⟩,
  ⟨(.some 17), .none, (.mov (.t 63))⟩]
abbrev c_line_Fill_days_Set_l0 : ACode := (.seq (.ops c_line_Fill_days_Set_r3) (.seq (.cond (.t 18) .skip (.exit 0)) (.seq (.block 1 (.seq (.ops c_line_Fill_days_Set_r4) (.seq (.dops c_line_Fill_days_Set_r5) (.seq (.seq (.ops c_line_Fill_days_Set_r6) (.cond (.t 31) (.seq (.ops c_line_Fill_days_Set_r7) (.exit 1)) .skip)) (.seq (.seq (.ops c_line_Fill_days_Set_r8) (.cond (.t 37) (.ops c_line_Fill_days_Set_r9) .skip)) (.seq (.ops c_line_Fill_days_Set_r10) (.seq (.ops c_line_Fill_days_Set_r11) (.cond (.t 54) (.ops c_line_Fill_days_Set_r12) .skip)))))))) (.ops c_line_Fill_days_Set_r13))))
abbrev c_line_Fill_days_Set_r14 : List AO := [⟨(.some 64), .none, (.load (.some 1) (.t 9))⟩,
  ⟨.none, .none, (.store 1 (.t 8) (.t 64))⟩]
abbrev c_line_Fill_days_Set : AFunc := ⟨65, [(.cell 8 (.some 1))], (.seq (.ops c_line_Fill_days_Set_r0) (.seq (.ops c_line_Fill_days_Set_r1) (.seq (.seq (.ops c_line_Fill_days_Set_r2) (.block 0 (.loop c_line_Fill_days_Set_l0))) (.seq (.ops c_line_Fill_days_Set_r14) .ret))))⟩
theorem comp_line_Fill_days_Set : funcC Try.prog 37 = some c_line_Fill_days_Set := by kernel_rfl
/-! function 38 : poundage line.Zip poundage days.Set poundage days.Set poundage days.Set  -/
abbrev f_line_Zip_days_Set : FuncId := 38
abbrev c_line_Zip_days_Set_r0 : List AO := [⟨(.some 3), .none, (.box 31 (.t 0))⟩,
  ⟨(.some 4), .none, (.box 31 (.t 1))⟩,
  ⟨(.some 6), .none, (.alloc 31 [(.nilsl 3)])⟩]
abbrev c_line_Zip_days_Set_r1 : List AO := [⟨(.some 7), .none, (.alloc 31 [(.nilsl 3)])⟩]
abbrev c_line_Zip_days_Set_r2 : List AO := [⟨(.some 8), .none, (.mov (.c (.d (.int .i64 0))))⟩,
  ⟨(.some 9), .none, (.mov (.c (.d (.int .i64 0))))⟩]
abbrev c_line_Zip_days_Set_r3 : List AO := [⟨(.some 14), .none, (.mov (.t 8))⟩,
  ⟨(.some 15), .none, (.fieldAddr 0 (.t 3))⟩,
  ⟨(.some 16), .none, (.load .none (.t 15))⟩,
  ⟨(.some 17), .none, (.len (.t 16))⟩,
  ⟨(.some 18), .none, (.bin .lss (.t 14) (.t 17))⟩,
  ⟨(.some 19), .none, (.mov (.t 18))⟩,
  ⟨(.some 20), (.some ⟨19, .true⟩), (.mov (.t 9))⟩,
  ⟨(.some 21), (.some ⟨19, .true⟩), (.fieldAddr 0 (.t 4))⟩,
  ⟨(.some 22), (.some ⟨19, .true⟩), (.load .none (.t 21))⟩,
  ⟨(.some 23), (.some ⟨19, .true⟩), (.len (.t 22))⟩,
  ⟨(.some 24), (.some ⟨19, .true⟩), (.bin .lss (.t 20) (.t 23))⟩,
  ⟨(.some 25), .none, (.pick (.t 19) (.t 24) (.c (.d (.bool .false))))⟩]
abbrev c_line_Zip_days_Set_r4 : List AO := [⟨(.some 26), .none, (.fieldAddr 0 (.t 3))⟩,
  ⟨(.some 28), .none, (.mov (.t 8))⟩,
  ⟨(.some 31), .none, (.fieldAddr 0 (.t 4))⟩,
  ⟨(.some 33), .none, (.mov (.t 9))⟩,
  ⟨(.some 27), .none, (.loadS .none (.t 26) [10, 11])⟩,
  ⟨(.some 29), .none, (.elemAddr 3 (.t 27) (.t 28))⟩,
  ⟨(.some 30), .none, (.loadS (.some 3) (.t 29) [10, 11])⟩,
  ⟨(.some 32), .none, (.loadS .none (.t 31) [10, 11])⟩,
  ⟨(.some 34), .none, (.elemAddr 3 (.t 32) (.t 33))⟩,
  ⟨(.some 35), .none, (.loadS (.some 3) (.t 34) [10, 11])⟩,
  ⟨(.some 10), .none, (.alloc 55 [(.d (.int .i64 0)), (.d (.int .i64 0)), (.d (.int .u64 0))])⟩,
  ⟨(.some 11), .none, (.alloc 55 [(.d (.int .i64 0)), (.d (.int .i64 0)), (.d (.int .u64 0))])⟩,
  ⟨.none, .none, (.storeS 3 10 (.t 30))⟩,
  ⟨.none, .none, (.storeS 3 11 (.t 35))⟩]
abbrev c_line_Zip_days_Set_r5 : List AO := [⟨(.some 36), .none, (.fieldAddr 0 (.t 10))⟩,
  ⟨(.some 38), .none, (.fieldAddr 0 (.t 11))⟩,
  ⟨(.some 41), .none, (.fieldAddr 1 (.t 10))⟩,
  ⟨(.some 43), .none, (.fieldAddr 1 (.t 11))⟩,
  ⟨(.some 37), .none, (.load .none (.t 36))⟩,
  ⟨(.some 39), .none, (.load .none (.t 38))⟩,
  ⟨(.some 40), .none, (.minmax .true (.t 37) [(.t 39)])⟩,
  ⟨(.some 12), .none, (.mov (.t 40))⟩,
  ⟨(.some 42), .none, (.load .none (.t 41))⟩,
  ⟨(.some 44), .none, (.load .none (.t 43))⟩,
  ⟨(.some 45), .none, (.minmax .false (.t 42) [(.t 44)])⟩,
  ⟨(.some 13), .none, (.mov (.t 45))⟩]
abbrev c_line_Zip_days_Set_r6 : List AO := [⟨(.some 46), .none, (.mov (.t 12))⟩,
  ⟨(.some 47), .none, (.mov (.t 13))⟩,
  ⟨(.some 48), .none, (.bin .leq (.t 46) (.t 47))⟩]
abbrev c_line_Zip_days_Set_r7 : List AO := [⟨(.some 49), .none, (.mov (.t 12))⟩,
  ⟨(.some 50), .none, (.mov (.t 13))⟩,
  ⟨(.some 51), .none, (.mov (.t 2))⟩,
  ⟨(.some 52), .none, (.fieldAddr 2 (.t 10))⟩,
  ⟨(.some 53), .none, (.load .none (.t 52))⟩,
  ⟨(.some 54), .none, (.fieldAddr 2 (.t 11))⟩,
  ⟨(.some 55), .none, (.load .none (.t 54))⟩,
  ⟨(.some 56), .none, (.callv (.t 51) [(.t 53), (.t 55)])⟩,
  ⟨(.some 57), .none, (.build [(.d (.int .i64 0)), (.d (.int .i64 0)), (.d (.int .u64 0))] [⟨0, ⟨1, (.t 49)⟩⟩, ⟨1, ⟨1, (.t 50)⟩⟩, ⟨2, ⟨1, (.t 56)⟩⟩])⟩,
  ⟨(.some 58), .none, (.call 47 [(.t 7), (.t 57)])⟩]
abbrev c_line_Zip_days_Set_r8 : List AO := [⟨(.some 59), .none, (.fieldAddr 1 (.t 10))⟩,
  ⟨(.some 60), .none, (.load .none (.t 59))⟩,
  ⟨(.some 61), .none, (.fieldAddr 1 (.t 11))⟩,
  ⟨(.some 62), .none, (.load .none (.t 61))⟩,
  ⟨(.some 63), .none, (.bin .leq (.t 60) (.t 62))⟩]
abbrev c_line_Zip_days_Set_r9 : List AO := [⟨(.some 64), .none, (.mov (.t 8))⟩,
  ⟨(.some 65), .none, (.bin .add (.t 64) (.c (.d (.int .i64 1))))⟩,
  ⟨(.some 8), .none, (.mov (.t 65))⟩]
abbrev c_line_Zip_days_Set_r10 : List AO := [⟨(.some 66), .none, (.fieldAddr 1 (.t 11))⟩,
  ⟨(.some 67), .none, (.load .none (.t 66))⟩,
  ⟨(.some 68), .none, (.fieldAddr 1 (.t 10))⟩,
  ⟨(.some 69), .none, (.load .none (.t 68))⟩,
  ⟨(.some 70), .none, (.bin .leq (.t 67) (.t 69))⟩]
abbrev c_line_Zip_days_Set_r11 : List AO := [⟨(.some 71), .none, (.mov (.t 9))⟩,
  ⟨(.some 72), .none, (.bin .add (.t 71) (.c (.d (.int .i64 1))))⟩,
  ⟨(.some 9), .none, (.mov (.t 72))⟩]
abbrev c_line_Zip_days_Set_l0 : ACode := (.seq (.seq (.ops c_line_Zip_days_Set_r3) (.cond (.t 25) .skip (.exit 0))) (.block 1 (.seq (.dops c_line_Zip_days_Set_r4) (.seq (.dops c_line_Zip_days_Set_r5) (.seq (.seq (.ops c_line_Zip_days_Set_r6) (.cond (.t 48) (.ops c_line_Zip_days_Set_r7) .skip)) (.seq (.seq (.ops c_line_Zip_days_Set_r8) (.cond (.t 63) (.ops c_line_Zip_days_Set_r9) .skip)) (.seq (.ops c_line_Zip_days_Set_r10) (.cond (.t 70) (.ops c_line_Zip_days_Set_r11) .skip))))))))
abbrev c_line_Zip_days_Set_r12 : List AO := [⟨(.some 73), .none, (.load (.some 1) (.t 7))⟩,
  ⟨.none, .none, (.store 1 (.t 6) (.t 73))⟩]
abbrev c_line_Zip_days_Set : AFunc := ⟨74, [(.cell 6 (.some 1))], (.seq (.ops c_line_Zip_days_Set_r0) (.seq (.ops c_line_Zip_days_Set_r1) (.seq (.ops c_line_Zip_days_Set_r2) (.seq (.block 0 (.loop c_line_Zip_days_Set_l0)) (.seq (.ops c_line_Zip_days_Set_r12) .ret)))))⟩
theorem comp_line_Zip_days_Set : funcC Try.prog 38 = some c_line_Zip_days_Set := by kernel_rfl
/-! function 39 : poundage days.with 1 -/
abbrev f_days_with_1 : FuncId := 39
abbrev c_days_with_1_r0 : List AO := [⟨(.some 4), .none, (.mov (.c (.d (.int .u64 0))))⟩]
abbrev c_days_with_1_r1 : List AO := [⟨(.some 5), .none, (.mov (.t 0))⟩,
  ⟨(.some 6), .none, (.mov (.t 1))⟩,
  ⟨(.some 7), .none, (.bin .or (.t 5) (.t 6))⟩,
  ⟨(.some 4), .none, (.mov (.t 7))⟩]
abbrev c_days_with_1 : AFunc := ⟨8, [(.tmp 4)], (.seq (.ops c_days_with_1_r0) (.seq (.ops c_days_with_1_r1) .ret))⟩
theorem comp_days_with_1 : funcC Try.prog 39 = some c_days_with_1 := by kernel_rfl
/-! function 40 : cmp.isNaN int  -/
abbrev f_cmp_isNaN_int : FuncId := 40
abbrev c_cmp_isNaN_int_r0 : List AO := [⟨(.some 2), .none, (.mov (.c (.d (.bool .false))))⟩]
abbrev c_cmp_isNaN_int_r1 : List AO := [⟨(.some 3), .none, (.mov (.t 0))⟩,
  ⟨(.some 4), .none, (.mov (.t 0))⟩,
  ⟨(.some 5), .none, (.bin .neq (.t 3) (.t 4))⟩,
  ⟨(.some 2), .none, (.mov (.t 5))⟩]
abbrev c_cmp_isNaN_int : AFunc := ⟨6, [(.tmp 2)], (.seq (.ops c_cmp_isNaN_int_r0) (.seq (.ops c_cmp_isNaN_int_r1) .ret))⟩
theorem comp_cmp_isNaN_int : funcC Try.prog 40 = some c_cmp_isNaN_int := by kernel_rfl
/-! function 41 : slices.Values poundage line.Run poundage days.Set poundage line.Run poundage days.Set 1 -/
abbrev f_slices_Values_days_Set_1 : FuncId := 41
abbrev c_slices_Values_days_Set_1_r0 : List AO := [⟨(.some 5), .none, (.load .none (.t 1))⟩,
  ⟨(.some 6), .none, (.len (.t 5))⟩,
  ⟨(.some 7), .none, (.mov (.c (.d (.int .i64 0))))⟩]
abbrev c_slices_Values_days_Set_1_r1 : List AO := [⟨(.some 8), .none, (.bin .lss (.t 7) (.t 6))⟩]
abbrev c_slices_Values_days_Set_1_r2 : List AO := [⟨(.some 9), .none, (.elemAddr 3 (.t 5) (.t 7))⟩,
  ⟨(.some 10), .none, (.load (.some 3) (.t 9))⟩,
  ⟨(.some 4), .none, (.alloc 55 [(.d (.int .i64 0)), (.d (.int .i64 0)), (.d (.int .u64 0))])⟩,
  ⟨.none, .none, (.store 3 (.t 4) (.t 10))⟩]
abbrev c_slices_Values_days_Set_1_r3 : List AO := [⟨(.some 11), .none, (.mov (.t 0))⟩,
  ⟨(.some 12), .none, (.load (.some 3) (.t 4))⟩,
  ⟨(.some 13), .none, (.callv (.t 11) [(.t 12)])⟩,
  ⟨(.some 14), .none, (.un .not (.t 13))⟩]
abbrev c_slices_Values_days_Set_1_r4 : List AO := [⟨(.some 15), .none, (.bin .add (.t 7) (.c (.d (.int .i64 1))))⟩,
  ⟨(.some 7), .none, (.mov (.t 15))⟩]
abbrev c_slices_Values_days_Set_1_l0 : ACode := (.seq (.ops c_slices_Values_days_Set_1_r1) (.seq (.cond (.t 8) .skip (.exit 0)) (.seq (.block 1 (.seq (.ops c_slices_Values_days_Set_1_r2) (.seq (.ops c_slices_Values_days_Set_1_r3) (.cond (.t 14) .ret .skip)))) (.ops c_slices_Values_days_Set_1_r4))))
abbrev c_slices_Values_days_Set_1 : AFunc := ⟨16, [], (.seq (.ops c_slices_Values_days_Set_1_r0) (.block 0 (.loop c_slices_Values_days_Set_1_l0)))⟩
theorem comp_slices_Values_days_Set_1 : funcC Try.prog 41 = some c_slices_Values_days_Set_1 := by kernel_rfl
/-! function 42 : slices.IndexFunc poundage api.Part poundage api.Part  -/
abbrev f_slices_IndexFunc_api_Part : FuncId := 42
abbrev c_slices_IndexFunc_api_Part_r0 : List AO := [⟨(.some 4), .none, (.mov (.c (.d (.int .i64 0))))⟩]
abbrev c_slices_IndexFunc_api_Part_r1 : List AO := [⟨(.some 6), .none, (.mov (.t 0))⟩,
  ⟨(.some 7), .none, (.len (.t 6))⟩,
  ⟨(.some 8), .none, (.mov (.c (.d (.int .i64 0))))⟩]
abbrev c_slices_IndexFunc_api_Part_r2 : List AO := [⟨(.some 9), .none, (.bin .lss (.t 8) (.t 7))⟩]
abbrev c_slices_IndexFunc_api_Part_r3 : List AO := [⟨(.some 10), .none, (.mov (.t 8))⟩,
  ⟨(.some 5), .none, (.mov (.t 10))⟩]
abbrev c_slices_IndexFunc_api_Part_r4 : List AO := [⟨(.some 11), .none, (.mov (.t 1))⟩,
  ⟨(.some 12), .none, (.mov (.t 0))⟩,
  ⟨(.some 13), .none, (.mov (.t 5))⟩,
  ⟨(.some 14), .none, (.elemAddr 9 (.t 12) (.t 13))⟩,
  ⟨(.some 15), .none, (.load (.some 9) (.t 14))⟩,
  ⟨(.some 16), .none, (.callv (.t 11) [(.t 15)])⟩]
abbrev c_slices_IndexFunc_api_Part_r5 : List AO := [⟨(.some 17), .none, (.mov (.t 5))⟩,
  ⟨(.some 4), .none, (.mov (.t 17))⟩]
abbrev c_slices_IndexFunc_api_Part_r6 : List AO := [⟨(.some 18), .none, (.bin .add (.t 8) (.c (.d (.int .i64 1))))⟩,
  ⟨(.some 8), .none, (.mov (.t 18))⟩]
abbrev c_slices_IndexFunc_api_Part_l0 : ACode := (.seq (.ops c_slices_IndexFunc_api_Part_r2) (.seq (.cond (.t 9) .skip (.exit 0)) (.seq (.block 1 (.seq (.ops c_slices_IndexFunc_api_Part_r3) (.seq (.ops c_slices_IndexFunc_api_Part_r4) (.cond (.t 16) (.seq (.ops c_slices_IndexFunc_api_Part_r5) .ret) .skip)))) (.ops c_slices_IndexFunc_api_Part_r6))))
abbrev c_slices_IndexFunc_api_Part_r7 : List AO := [⟨(.some 4), .none, (.mov (.c (.d (.int .i64 (-1)))))⟩]
abbrev c_slices_IndexFunc_api_Part : AFunc := ⟨19, [(.tmp 4)], (.seq (.ops c_slices_IndexFunc_api_Part_r0) (.seq (.seq (.ops c_slices_IndexFunc_api_Part_r1) (.block 0 (.loop c_slices_IndexFunc_api_Part_l0))) (.seq (.ops c_slices_IndexFunc_api_Part_r7) .ret)))⟩
theorem comp_slices_IndexFunc_api_Part : funcC Try.prog 42 = some c_slices_IndexFunc_api_Part := by kernel_rfl
/-! function 43 : poundage core.tiers -/
abbrev f_core_tiers : FuncId := 43
abbrev c_core_tiers_r0 : List AO := [⟨(.some 2), .none, (.mov (.c (.d (.bool .false))))⟩]
abbrev c_core_tiers_r1 : List AO := [⟨(.some 3), .none, (.mov (.c (.d (.int .i64 0))))⟩]
abbrev c_core_tiers_r2 : List AO := [⟨(.some 7), .none, (.mov (.t 0))⟩,
  ⟨(.some 8), .none, (.len (.t 7))⟩,
  ⟨(.some 9), .none, (.mov (.c (.d (.int .i64 0))))⟩]
abbrev c_core_tiers_r3 : List AO := [⟨(.some 10), .none, (.bin .lss (.t 9) (.t 8))⟩]
abbrev c_core_tiers_r4 : List AO := [⟨(.some 11), .none, (.mov (.t 9))⟩,
  ⟨(.some 12), .none, (.elemAddr 2 (.t 7) (.t 9))⟩,
  ⟨(.some 13), .none, (.load (.some 2) (.t 12))⟩,
  ⟨(.some 5), .none, (.alloc 78 [(.d (.int .i64 0)), (.d (.int .i64 0))])⟩,
  ⟨(.some 4), .none, (.mov (.t 11))⟩,
  ⟨.none, .none, (.store 2 (.t 5) (.t 13))⟩]
abbrev c_core_tiers_r5 : List AO := [⟨(.some 14), .none, (.mov (.t 4))⟩,
  ⟨(.some 15), .none, (.mov (.t 0))⟩,
  ⟨(.some 16), .none, (.len (.t 15))⟩,
  ⟨(.some 17), .none, (.bin .sub (.t 16) (.c (.d (.int .i64 1))))⟩,
  ⟨(.some 18), .none, (.bin .eql (.t 14) (.t 17))⟩,
  ⟨(.some 6), .none, (.mov (.t 18))⟩]
abbrev c_core_tiers_r6 : List AO := [⟨(.some 19), .none, (.fieldAddr 1 (.t 5))⟩,
  ⟨(.some 20), .none, (.load .none (.t 19))⟩,
  ⟨(.some 21), .none, (.call 33 [(.t 20), (.c (.d (.int .i64 0))), (.c (.d (.int .i64 1000000000000)))])⟩,
  ⟨(.some 22), .none, (.un .not (.t 21))⟩,
  ⟨(.some 23), .none, (.mov (.t 22))⟩,
  ⟨(.some 24), (.some ⟨23, .false⟩), (.mov (.t 6))⟩,
  ⟨(.some 25), (.some ⟨23, .false⟩), (.mov (.t 24))⟩,
  ⟨(.some 26), (.some ⟨25, .true⟩), (.fieldAddr 0 (.t 5))⟩,
  ⟨(.some 27), (.some ⟨25, .true⟩), (.load .none (.t 26))⟩,
  ⟨(.some 28), (.some ⟨25, .true⟩), (.bin .neq (.t 27) (.c (.d (.int .i64 0))))⟩,
  ⟨(.some 29), (.some ⟨23, .false⟩), (.pick (.t 25) (.t 28) (.c (.d (.bool .false))))⟩,
  ⟨(.some 30), .none, (.pick (.t 23) (.c (.d (.bool .true))) (.t 29))⟩,
  ⟨(.some 31), .none, (.mov (.t 30))⟩,
  ⟨(.some 32), (.some ⟨31, .false⟩), (.mov (.t 6))⟩,
  ⟨(.some 33), (.some ⟨31, .false⟩), (.un .not (.t 32))⟩,
  ⟨(.some 34), (.some ⟨31, .false⟩), (.mov (.t 33))⟩,
  ⟨(.some 35), (.some ⟨34, .true⟩), (.fieldAddr 0 (.t 5))⟩,
  ⟨(.some 36), (.some ⟨34, .true⟩), (.load .none (.t 35))⟩,
  ⟨(.some 37), (.some ⟨34, .true⟩), (.mov (.t 3))⟩,
  ⟨(.some 38), (.some ⟨34, .true⟩), (.bin .add (.t 37) (.c (.d (.int .i64 1))))⟩,
  ⟨(.some 39), (.some ⟨34, .true⟩), (.call 33 [(.t 36), (.t 38), (.c (.d (.int .i64 1000000)))])⟩,
  ⟨(.some 40), (.some ⟨34, .true⟩), (.un .not (.t 39))⟩,
  ⟨(.some 41), (.some ⟨31, .false⟩), (.pick (.t 34) (.t 40) (.c (.d (.bool .false))))⟩,
  ⟨(.some 42), .none, (.pick (.t 31) (.c (.d (.bool .true))) (.t 41))⟩]
abbrev c_core_tiers_r7 : List AO := [⟨(.some 2), .none, (.mov (.c (.d (.bool .false))))⟩]
abbrev c_core_tiers_r8 : List AO := [⟨(.some 43), .none, (.fieldAddr 0 (.t 5))⟩,
  ⟨(.some 44), .none, (.load .none (.t 43))⟩,
  ⟨(.some 3), .none, (.mov (.t 44))⟩]
abbrev c_core_tiers_r9 : List AO := [⟨(.some 45), .none, (.bin .add (.t 9) (.c (.d (.int .i64 1))))⟩,
  ⟨(.some 9), .none, (.mov (.t 45))⟩]
abbrev c_core_tiers_l0 : ACode := (.seq (.ops c_core_tiers_r3) (.seq (.cond (.t 10) .skip (.exit 0)) (.seq (.block 1 (.seq (.ops c_core_tiers_r4) (.seq (.ops c_core_tiers_r5) (.seq (.seq (.ops c_core_tiers_r6) (.cond (.t 42) (.seq (.ops c_core_tiers_r7) .ret) .skip)) (.ops c_core_tiers_r8))))) (.ops c_core_tiers_r9))))
abbrev c_core_tiers_r10 : List AO := [⟨(.some 46), .none, (.mov (.t 0))⟩,
  ⟨(.some 47), .none, (.len (.t 46))⟩,
  ⟨(.some 48), .none, (.call 33 [(.t 47), (.c (.d (.int .i64 1))), (.c (.d (.int .i64 8)))])⟩,
  ⟨(.some 2), .none, (.mov (.t 48))⟩]
abbrev c_core_tiers : AFunc := ⟨49, [(.tmp 2)], (.seq (.ops c_core_tiers_r0) (.seq (.ops c_core_tiers_r1) (.seq (.seq (.ops c_core_tiers_r2) (.block 0 (.loop c_core_tiers_l0))) (.seq (.ops c_core_tiers_r10) .ret))))⟩
theorem comp_core_tiers : funcC Try.prog 43 = some c_core_tiers := by kernel_rfl
/-! function 44 : slices.ContainsFunc poundage api.Adjust poundage api.Adjust  -/
abbrev f_slices_ContainsFunc_api_Adjust : FuncId := 44
abbrev c_slices_ContainsFunc_api_Adjust_r0 : List AO := [⟨(.some 4), .none, (.mov (.c (.d (.bool .false))))⟩]
abbrev c_slices_ContainsFunc_api_Adjust_r1 : List AO := [⟨(.some 5), .none, (.mov (.t 0))⟩,
  ⟨(.some 6), .none, (.mov (.t 1))⟩,
  ⟨(.some 7), .none, (.call 48 [(.t 5), (.t 6)])⟩,
  ⟨(.some 8), .none, (.bin .geq (.t 7) (.c (.d (.int .i64 0))))⟩,
  ⟨(.some 4), .none, (.mov (.t 8))⟩]
abbrev c_slices_ContainsFunc_api_Adjust : AFunc := ⟨9, [(.tmp 4)], (.seq (.ops c_slices_ContainsFunc_api_Adjust_r0) (.seq (.ops c_slices_ContainsFunc_api_Adjust_r1) .ret))⟩
theorem comp_slices_ContainsFunc_api_Adjust : funcC Try.prog 44 = some c_slices_ContainsFunc_api_Adjust := by kernel_rfl
/-! function 45 : poundage core.part 1 -/
abbrev f_core_part_1 : FuncId := 45
abbrev c_core_part_1_r0 : List AO := [⟨(.some 1), .none, (.box 80 (.t 0))⟩,
  ⟨(.some 2), .none, (.mov (.c (.d (.bool .false))))⟩]
abbrev c_core_part_1_r1 : List AO := [⟨(.some 3), .none, (.load (.some 3) (.t 1))⟩,
  ⟨(.some 4), .none, (.call 46 [(.t 3)])⟩,
  ⟨(.some 5), .none, (.un .not (.t 4))⟩,
  ⟨(.some 2), .none, (.mov (.t 5))⟩]
abbrev c_core_part_1 : AFunc := ⟨6, [(.tmp 2)], (.seq (.ops c_core_part_1_r0) (.seq (.ops c_core_part_1_r1) .ret))⟩
theorem comp_core_part_1 : funcC Try.prog 45 = some c_core_part_1 := by kernel_rfl
/-! function 46 : poundage core.adjust -/
abbrev f_core_adjust : FuncId := 46
abbrev c_core_adjust_r0 : List AO := [⟨(.some 1), .none, (.box 80 (.t 0))⟩,
  ⟨(.some 2), .none, (.mov (.c (.d (.bool .false))))⟩]
abbrev c_core_adjust_r1 : List AO := [⟨(.some 3), .none, (.fieldAddr 0 (.t 1))⟩,
  ⟨(.some 4), .none, (.load .none (.t 3))⟩,
  ⟨(.some 5), .none, (.bin .eql (.t 4) (.c (.d (.int .i64 1))))⟩]
abbrev c_core_adjust_r2 : List AO := [⟨(.some 6), .none, (.fieldAddr 1 (.t 1))⟩,
  ⟨(.some 7), .none, (.load .none (.t 6))⟩,
  ⟨(.some 8), .none, (.call 33 [(.t 7), (.c (.d (.int .i64 0))), (.c (.d (.int .i64 100000000)))])⟩,
  ⟨(.some 9), .none, (.mov (.t 8))⟩,
  ⟨(.some 10), (.some ⟨9, .true⟩), (.fieldAddr 2 (.t 1))⟩,
  ⟨(.some 11), (.some ⟨9, .true⟩), (.load .none (.t 10))⟩,
  ⟨(.some 12), (.some ⟨9, .true⟩), (.call 33 [(.t 11), (.c (.d (.int .i64 0))), (.c (.d (.int .i64 3)))])⟩,
  ⟨(.some 13), .none, (.pick (.t 9) (.t 12) (.c (.d (.bool .false))))⟩,
  ⟨(.some 2), .none, (.mov (.t 13))⟩]
abbrev c_core_adjust_r3 : List AO := [⟨(.some 14), .none, (.fieldAddr 0 (.t 1))⟩,
  ⟨(.some 15), .none, (.load .none (.t 14))⟩,
  ⟨(.some 16), .none, (.call 33 [(.t 15), (.c (.d (.int .i64 2))), (.c (.d (.int .i64 4)))])⟩,
  ⟨(.some 17), .none, (.mov (.t 16))⟩,
  ⟨(.some 18), (.some ⟨17, .true⟩), (.fieldAddr 1 (.t 1))⟩,
  ⟨(.some 19), (.some ⟨17, .true⟩), (.load .none (.t 18))⟩,
  ⟨(.some 20), (.some ⟨17, .true⟩), (.call 33 [(.t 19), (.c (.d (.int .i64 0))), (.c (.d (.int .i64 1000000000000)))])⟩,
  ⟨(.some 21), .none, (.pick (.t 17) (.t 20) (.c (.d (.bool .false))))⟩,
  ⟨(.some 22), .none, (.mov (.t 21))⟩,
  ⟨(.some 23), (.some ⟨22, .true⟩), (.fieldAddr 2 (.t 1))⟩,
  ⟨(.some 24), (.some ⟨22, .true⟩), (.load .none (.t 23))⟩,
  ⟨(.some 25), (.some ⟨22, .true⟩), (.bin .eql (.t 24) (.c (.d (.int .i64 0))))⟩,
  ⟨(.some 26), .none, (.pick (.t 22) (.t 25) (.c (.d (.bool .false))))⟩,
  ⟨(.some 2), .none, (.mov (.t 26))⟩]
abbrev c_core_adjust : AFunc := ⟨27, [(.tmp 2)], (.seq (.ops c_core_adjust_r0) (.seq (.seq (.ops c_core_adjust_r1) (.cond (.t 5) (.seq (.ops c_core_adjust_r2) .ret) .skip)) (.seq (.ops c_core_adjust_r3) .ret)))⟩
theorem comp_core_adjust : funcC Try.prog 46 = some c_core_adjust := by kernel_rfl
/-! function 47 :  poundage line.Line poundage days.Set .put -/
abbrev f_line_Line_days_Set_put : FuncId := 47
abbrev c_line_Line_days_Set_put_r0 : List AO := [⟨(.some 3), .none, (.box 55 (.t 1))⟩]
abbrev c_line_Line_days_Set_put_r1 : List AO := [⟨(.some 5), .none, (.mov (.t 0))⟩,
  ⟨(.some 6), .none, (.nilCheck (.t 5))⟩,
  ⟨(.some 7), .none, (.fieldAddr 0 (.t 6))⟩,
  ⟨(.some 8), .none, (.load .none (.t 7))⟩,
  ⟨(.some 9), .none, (.len (.t 8))⟩,
  ⟨(.some 4), .none, (.mov (.t 9))⟩]
abbrev c_line_Line_days_Set_put_r2 : List AO := [⟨(.some 10), .none, (.mov (.t 4))⟩,
  ⟨(.some 11), .none, (.bin .gtr (.t 10) (.c (.d (.int .i64 0))))⟩,
  ⟨(.some 12), .none, (.mov (.t 11))⟩,
  ⟨(.some 13), (.some ⟨12, .true⟩), (.mov (.t 0))⟩,
  ⟨(.some 14), (.some ⟨12, .true⟩), (.nilCheck (.t 13))⟩,
  ⟨(.some 15), (.some ⟨12, .true⟩), (.fieldAddr 0 (.t 14))⟩,
  ⟨(.some 17), (.some ⟨12, .true⟩), (.mov (.t 4))⟩,
  ⟨(.some 18), (.some ⟨12, .true⟩), (.bin .sub (.t 17) (.c (.d (.int .i64 1))))⟩,
  ⟨(.some 22), (.some ⟨12, .true⟩), (.fieldAddr 2 (.t 3))⟩,
  ⟨(.some 16), (.some ⟨12, .true⟩), (.load .none (.t 15))⟩,
  ⟨(.some 19), (.some ⟨12, .true⟩), (.elemAddr 3 (.t 16) (.t 18))⟩,
  ⟨(.some 20), (.some ⟨12, .true⟩), (.fieldAddr 2 (.t 19))⟩,
  ⟨(.some 21), (.some ⟨12, .true⟩), (.load .none (.t 20))⟩,
  ⟨(.some 23), (.some ⟨12, .true⟩), (.load .none (.t 22))⟩,
  ⟨(.some 24), (.some ⟨12, .true⟩), (.bin .eql (.t 21) (.t 23))⟩,
  ⟨(.some 25), .none, (.pick (.t 12) (.t 24) (.c (.d (.bool .false))))⟩]
abbrev c_line_Line_days_Set_put_r3 : List AO := [⟨(.some 26), .none, (.mov (.t 0))⟩,
  ⟨(.some 27), .none, (.nilCheck (.t 26))⟩,
  ⟨(.some 28), .none, (.fieldAddr 0 (.t 27))⟩,
  ⟨(.some 30), .none, (.mov (.t 4))⟩,
  ⟨(.some 31), .none, (.bin .sub (.t 30) (.c (.d (.int .i64 1))))⟩,
  ⟨(.some 32), .none, (.fieldAddr 1 (.t 3))⟩,
  ⟨(.some 29), .none, (.load .none (.t 28))⟩,
  ⟨(.some 33), .none, (.load .none (.t 32))⟩,
  ⟨(.some 34), .none, (.elemAddr 3 (.t 29) (.t 31))⟩,
  ⟨(.some 35), .none, (.fieldAddr 1 (.t 34))⟩,
  ⟨.none, .none, (.store 1 (.t 35) (.t 33))⟩]
abbrev c_line_Line_days_Set_put_r4 : List AO := [⟨(.some 36), .none, (.mov (.t 0))⟩,
  ⟨(.some 37), .none, (.mov (.t 0))⟩,
  ⟨(.some 38), .none, (.nilCheck (.t 37))⟩,
  ⟨(.some 39), .none, (.fieldAddr 0 (.t 38))⟩,
  ⟨(.some 40), .none, (.load .none (.t 39))⟩,
  ⟨(.some 41), .none, (.load (.some 3) (.t 3))⟩,
  ⟨(.some 42), .none, (.buildSliceD 55 3 1 [(.d (.int .i64 0)), (.d (.int .i64 0)), (.d (.int .u64 0))] [⟨0, (.t 41)⟩])⟩,
  ⟨(.some 43), .none, (.append 55 3 24 [(.d (.int .i64 0)), (.d (.int .i64 0)), (.d (.int .u64 0))] (.t 40) (.t 42))⟩,
  ⟨(.some 44), .none, (.nilCheck (.t 36))⟩,
  ⟨(.some 45), .none, (.fieldAddr 0 (.t 44))⟩,
  ⟨.none, .none, (.store 1 (.t 45) (.t 43))⟩]
abbrev c_line_Line_days_Set_put : AFunc := ⟨46, [], (.seq (.ops c_line_Line_days_Set_put_r0) (.seq (.seq (.ops c_line_Line_days_Set_put_r1) (.seq (.dops c_line_Line_days_Set_put_r2) (.cond (.t 25) (.seq (.dops c_line_Line_days_Set_put_r3) .ret) .skip))) (.dops c_line_Line_days_Set_put_r4)))⟩
theorem comp_line_Line_days_Set_put : funcC Try.prog 47 = some c_line_Line_days_Set_put := by kernel_rfl
/-! function 48 : slices.IndexFunc poundage api.Adjust poundage api.Adjust  -/
abbrev f_slices_IndexFunc_api_Adjust : FuncId := 48
abbrev c_slices_IndexFunc_api_Adjust_r0 : List AO := [⟨(.some 4), .none, (.mov (.c (.d (.int .i64 0))))⟩]
abbrev c_slices_IndexFunc_api_Adjust_r1 : List AO := [⟨(.some 6), .none, (.mov (.t 0))⟩,
  ⟨(.some 7), .none, (.len (.t 6))⟩,
  ⟨(.some 8), .none, (.mov (.c (.d (.int .i64 0))))⟩]
abbrev c_slices_IndexFunc_api_Adjust_r2 : List AO := [⟨(.some 9), .none, (.bin .lss (.t 8) (.t 7))⟩]
abbrev c_slices_IndexFunc_api_Adjust_r3 : List AO := [⟨(.some 10), .none, (.mov (.t 8))⟩,
  ⟨(.some 5), .none, (.mov (.t 10))⟩]
abbrev c_slices_IndexFunc_api_Adjust_r4 : List AO := [⟨(.some 11), .none, (.mov (.t 1))⟩,
  ⟨(.some 12), .none, (.mov (.t 0))⟩,
  ⟨(.some 13), .none, (.mov (.t 5))⟩,
  ⟨(.some 14), .none, (.elemAddr 3 (.t 12) (.t 13))⟩,
  ⟨(.some 15), .none, (.load (.some 3) (.t 14))⟩,
  ⟨(.some 16), .none, (.callv (.t 11) [(.t 15)])⟩]
abbrev c_slices_IndexFunc_api_Adjust_r5 : List AO := [⟨(.some 17), .none, (.mov (.t 5))⟩,
  ⟨(.some 4), .none, (.mov (.t 17))⟩]
abbrev c_slices_IndexFunc_api_Adjust_r6 : List AO := [⟨(.some 18), .none, (.bin .add (.t 8) (.c (.d (.int .i64 1))))⟩,
  ⟨(.some 8), .none, (.mov (.t 18))⟩]
abbrev c_slices_IndexFunc_api_Adjust_l0 : ACode := (.seq (.ops c_slices_IndexFunc_api_Adjust_r2) (.seq (.cond (.t 9) .skip (.exit 0)) (.seq (.block 1 (.seq (.ops c_slices_IndexFunc_api_Adjust_r3) (.seq (.ops c_slices_IndexFunc_api_Adjust_r4) (.cond (.t 16) (.seq (.ops c_slices_IndexFunc_api_Adjust_r5) .ret) .skip)))) (.ops c_slices_IndexFunc_api_Adjust_r6))))
abbrev c_slices_IndexFunc_api_Adjust_r7 : List AO := [⟨(.some 4), .none, (.mov (.c (.d (.int .i64 (-1)))))⟩]
abbrev c_slices_IndexFunc_api_Adjust : AFunc := ⟨19, [(.tmp 4)], (.seq (.ops c_slices_IndexFunc_api_Adjust_r0) (.seq (.seq (.ops c_slices_IndexFunc_api_Adjust_r1) (.block 0 (.loop c_slices_IndexFunc_api_Adjust_l0))) (.seq (.ops c_slices_IndexFunc_api_Adjust_r7) .ret)))⟩
theorem comp_slices_IndexFunc_api_Adjust : funcC Try.prog 48 = some c_slices_IndexFunc_api_Adjust := by kernel_rfl
/-! function 49 :  runtime.boundsError .Error -/
abbrev f__runtime_boundsError_Error : FuncId := 49
/-! function 50 :  runtime.boundsError .RuntimeError -/
abbrev f__runtime_boundsError_RuntimeError : FuncId := 50
/-! function 51 :  runtime.errorString .Error -/
abbrev f__runtime_errorString_Error : FuncId := 51
/-! function 52 :  runtime.errorString .RuntimeError -/
abbrev f__runtime_errorString_RuntimeError : FuncId := 52
/-! function 53 :  runtime.plainError .Error -/
abbrev f__runtime_plainError_Error : FuncId := 53
/-! function 54 :  runtime.plainError .RuntimeError -/
abbrev f__runtime_plainError_RuntimeError : FuncId := 54
/-! function 55 :  runtime.errorAddressString .Error -/
abbrev f__runtime_errorAddressString_Error : FuncId := 55
/-! function 56 :  runtime.errorAddressString .RuntimeError -/
abbrev f__runtime_errorAddressString_RuntimeError : FuncId := 56
/-! function 57 :  runtime.TypeAssertionError .Error -/
abbrev f__runtime_TypeAssertionError_Error : FuncId := 57
/-! function 58 :  runtime.TypeAssertionError .RuntimeError -/
abbrev f__runtime_TypeAssertionError_RuntimeError : FuncId := 58
/-! function 59 :  runtime.PanicNilError .Error -/
abbrev f__runtime_PanicNilError_Error : FuncId := 59
/-! function 60 :  runtime.PanicNilError .RuntimeError -/
abbrev f__runtime_PanicNilError_RuntimeError : FuncId := 60
/-! function 61 :  internal abi.Type .Align -/
abbrev f_abi_Type_Align : FuncId := 61
/-! function 62 :  internal runtime maps.unhashableTypeError .Error -/
abbrev f_maps_unhashableTypeError_Error : FuncId := 62
/-! function 63 :  internal runtime maps.unhashableTypeError .RuntimeError -/
abbrev f_maps_unhashableTypeError_RuntimeError : FuncId := 63
/-! function 64 :  internal abi.Kind .String -/
abbrev f_abi_Kind_String : FuncId := 64
end Go.Proofs.Ytmkennmppdmnhaa.Abs
