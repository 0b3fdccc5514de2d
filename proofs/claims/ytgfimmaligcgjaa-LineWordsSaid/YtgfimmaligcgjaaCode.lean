/- The given functions, as the abstract machine has them: printed by a program of this session. No claim stands here. -/
import Derived.Test.YtgfimmaligcgjaaProg
import Derived.Test.YtgfimmaligcgjaaAbs1
import Derived.KernelRfl
namespace Go.Proofs.Ytgfimmaligcgjaa.Abs
open Go Go.RowKit Go.Proofs
/-! function 3 : poundage poundagelaw14.LineWords -/
abbrev f_poundagelaw14_LineWords : FuncId := 3
abbrev c_poundagelaw14_LineWords_r0 : List AO := [⟨(.some 4), .none, (.mov (.c (.d (.bool .false))))⟩]
abbrev c_poundagelaw14_LineWords_r1 : List AO := [⟨(.some 14), .none, (.call 9 [])⟩,
  ⟨(.some 15), .none, (.un .not (.t 14))⟩]
abbrev c_poundagelaw14_LineWords_r2 : List AO := [⟨(.some 4), .none, (.mov (.c (.d (.bool .false))))⟩]
abbrev c_poundagelaw14_LineWords_r3 : List AO := [⟨(.some 16), .none, (.mov (.t 0))⟩,
  ⟨(.some 17), .none, (.mov (.t 1))⟩,
  ⟨(.some 18), .none, (.call 10 [(.t 16), (.t 17)])⟩]
abbrev c_poundagelaw14_LineWords_r4 : List AO := [⟨(.some 4), .none, (.mov (.c (.d (.bool .true))))⟩]
abbrev c_poundagelaw14_LineWords_r5 : List AO := [⟨(.some 5), .none, (.mov (.c (.nilsl 0)))⟩]
abbrev c_poundagelaw14_LineWords_r6 : List AO := [⟨(.some 6), .none, (.mov (.c (.nilsl 0)))⟩]
abbrev c_poundagelaw14_LineWords_r7 : List AO := [⟨(.some 19), .none, (.mov (.t 1))⟩,
  ⟨(.some 20), .none, (.len (.t 19))⟩,
  ⟨(.some 21), .none, (.mov (.c (.d (.int .i64 0))))⟩]
abbrev c_poundagelaw14_LineWords_r8 : List AO := [⟨(.some 22), .none, (.bin .lss (.t 21) (.t 20))⟩]
abbrev c_poundagelaw14_LineWords_r9 : List AO := [⟨(.some 23), .none, (.elemAddr 1 (.t 19) (.t 21))⟩,
  ⟨(.some 24), .none, (.load .none (.t 23))⟩,
  ⟨(.some 8), .none, (.mov (.t 24))⟩]
abbrev c_poundagelaw14_LineWords_r10 : List AO := [⟨(.some 25), .none, (.mov (.t 5))⟩,
  ⟨(.some 26), .none, (.mov (.t 8))⟩,
  ⟨(.some 27), .none, (.call 11 [(.t 26)])⟩,
  ⟨(.some 28), .none, (.buildSlice 9 1 1 [(.d (.str ⟨⟨[]⟩⟩))] [⟨0, (.t 27)⟩])⟩,
  ⟨(.some 29), .none, (.append 9 1 16 [(.d (.str ⟨⟨[]⟩⟩))] (.t 25) (.t 28))⟩,
  ⟨(.some 5), .none, (.mov (.t 29))⟩]
abbrev c_poundagelaw14_LineWords_r11 : List AO := [⟨(.some 30), .none, (.mov (.t 6))⟩,
  ⟨(.some 31), .none, (.mov (.t 8))⟩,
  ⟨(.some 32), .none, (.conv .u64 (.t 31))⟩,
  ⟨(.some 33), .none, (.bin .rem (.t 32) (.c (.d (.int .u64 3))))⟩,
  ⟨(.some 34), .none, (.conv .i64 (.t 33))⟩,
  ⟨(.some 35), .none, (.buildSlice 3 1 1 [(.d (.int .i64 0))] [⟨0, (.t 34)⟩])⟩,
  ⟨(.some 36), .none, (.append 3 1 8 [(.d (.int .i64 0))] (.t 30) (.t 35))⟩,
  ⟨(.some 6), .none, (.mov (.t 36))⟩]
abbrev c_poundagelaw14_LineWords_r12 : List AO := [⟨(.some 37), .none, (.bin .add (.t 21) (.c (.d (.int .i64 1))))⟩,
  ⟨(.some 21), .none, (.mov (.t 37))⟩]
abbrev c_poundagelaw14_LineWords_l0 : ACode := (.seq (.ops c_poundagelaw14_LineWords_r8) (.seq (.cond (.t 22) .skip (.exit 0)) (.seq (.block 1 (.seq (.ops c_poundagelaw14_LineWords_r9) (.seq (.ops c_poundagelaw14_LineWords_r10) (.ops c_poundagelaw14_LineWords_r11)))) (.ops c_poundagelaw14_LineWords_r12))))
abbrev c_poundagelaw14_LineWords_r13 : List AO := [⟨(.some 38), .none, (.mov (.t 0))⟩,
  ⟨(.some 39), .none, (.mov (.t 5))⟩,
  ⟨(.some 40), .none, (.call 12 [(.t 38), (.t 39)])⟩,
  ⟨(.some 41), .none, (.mov (.t 0))⟩,
  ⟨(.some 42), .none, (.mov (.t 6))⟩,
  ⟨(.some 43), .none, (.call 14 [(.t 41), (.t 42)])⟩,
  ⟨(.some 44), .none, (.call 13 [(.t 43), (.c (.fn 11 []))])⟩,
  ⟨(.some 9), .none, (.alloc 30 [(.nilsl 3)])⟩,
  ⟨(.some 10), .none, (.alloc 30 [(.nilsl 3)])⟩,
  ⟨.none, .none, (.store 1 (.t 9) (.t 40))⟩,
  ⟨.none, .none, (.store 1 (.t 10) (.t 44))⟩]
abbrev c_poundagelaw14_LineWords_r14 : List AO := [⟨(.some 45), .none, (.load (.some 1) (.t 9))⟩,
  ⟨(.some 46), .none, (.load (.some 1) (.t 10))⟩,
  ⟨(.some 47), .none, (.call 15 [(.t 45), (.t 46)])⟩,
  ⟨(.some 48), .none, (.un .not (.t 47))⟩,
  ⟨(.some 49), .none, (.mov (.t 48))⟩,
  ⟨(.some 50), (.some ⟨49, .false⟩), (.load (.some 1) (.t 9))⟩,
  ⟨(.some 51), (.some ⟨49, .false⟩), (.call 16 [(.t 50)])⟩,
  ⟨(.some 52), (.some ⟨49, .false⟩), (.mov (.t 0))⟩,
  ⟨(.some 53), (.some ⟨49, .false⟩), (.mov (.t 6))⟩,
  ⟨(.some 54), (.some ⟨49, .false⟩), (.call 14 [(.t 52), (.t 53)])⟩,
  ⟨(.some 55), (.some ⟨49, .false⟩), (.call 17 [(.t 54)])⟩,
  ⟨(.some 56), (.some ⟨49, .false⟩), (.bin .neq (.t 51) (.t 55))⟩,
  ⟨(.some 57), .none, (.pick (.t 49) (.c (.d (.bool .true))) (.t 56))⟩]
abbrev c_poundagelaw14_LineWords_r15 : List AO := [⟨(.some 4), .none, (.mov (.c (.d (.bool .false))))⟩]
abbrev c_poundagelaw14_LineWords_r16 : List AO := [⟨(.some 58), .none, (.mov (.t 5))⟩,
  ⟨(.some 59), .none, (.len (.t 58))⟩,
  ⟨(.some 60), .none, (.mov (.c (.d (.int .i64 0))))⟩]
abbrev c_poundagelaw14_LineWords_r17 : List AO := [⟨(.some 61), .none, (.bin .lss (.t 60) (.t 59))⟩]
abbrev c_poundagelaw14_LineWords_r18 : List AO := [⟨(.some 62), .none, (.mov (.t 60))⟩,
  ⟨(.some 11), .none, (.mov (.t 62))⟩]
abbrev c_poundagelaw14_LineWords_r19 : List AO := [⟨(.some 64), .none, (.load (.some 1) (.t 9))⟩,
  ⟨(.some 65), .none, (.mov (.t 0))⟩,
  ⟨(.some 66), .none, (.mov (.t 11))⟩,
  ⟨(.some 67), .none, (.bin .add (.t 65) (.t 66))⟩,
  ⟨(.some 68), .none, (.call 18 [(.t 64), (.t 67)])⟩,
  ⟨(.some 63), .none, (.mov (.t 68))⟩,
  ⟨(.some 69), .none, (.extract (.t 63) 0)⟩,
  ⟨(.some 70), .none, (.extract (.t 63) 1)⟩,
  ⟨(.some 12), .none, (.mov (.t 69))⟩,
  ⟨(.some 13), .none, (.mov (.t 70))⟩]
abbrev c_poundagelaw14_LineWords_r20 : List AO := [⟨(.some 71), .none, (.mov (.t 13))⟩,
  ⟨(.some 72), .none, (.un .not (.t 71))⟩,
  ⟨(.some 73), .none, (.mov (.t 72))⟩,
  ⟨(.some 74), (.some ⟨73, .false⟩), (.mov (.t 12))⟩,
  ⟨(.some 75), (.some ⟨73, .false⟩), (.mov (.t 5))⟩,
  ⟨(.some 76), (.some ⟨73, .false⟩), (.mov (.t 11))⟩,
  ⟨(.some 77), (.some ⟨73, .false⟩), (.elemAddr 1 (.t 75) (.t 76))⟩,
  ⟨(.some 78), (.some ⟨73, .false⟩), (.load .none (.t 77))⟩,
  ⟨(.some 79), (.some ⟨73, .false⟩), (.bin .neq (.t 74) (.t 78))⟩,
  ⟨(.some 80), .none, (.pick (.t 73) (.c (.d (.bool .true))) (.t 79))⟩]
abbrev c_poundagelaw14_LineWords_r21 : List AO := [⟨(.some 4), .none, (.mov (.c (.d (.bool .false))))⟩]
abbrev c_poundagelaw14_LineWords_r22 : List AO := [⟨(.some 81), .none, (.bin .add (.t 60) (.c (.d (.int .i64 1))))⟩,
  ⟨(.some 60), .none, (.mov (.t 81))⟩]
abbrev c_poundagelaw14_LineWords_l1 : ACode := (.seq (.ops c_poundagelaw14_LineWords_r17) (.seq (.cond (.t 61) .skip (.exit 2)) (.seq (.block 3 (.seq (.ops c_poundagelaw14_LineWords_r18) (.seq (.ops c_poundagelaw14_LineWords_r19) (.seq (.ops c_poundagelaw14_LineWords_r20) (.cond (.t 80) (.seq (.ops c_poundagelaw14_LineWords_r21) .ret) .skip))))) (.ops c_poundagelaw14_LineWords_r22))))
abbrev c_poundagelaw14_LineWords_r23 : List AO := [⟨(.some 4), .none, (.mov (.c (.d (.bool .true))))⟩]
abbrev c_poundagelaw14_LineWords : AFunc := ⟨82, [(.tmp 4)], (.seq (.ops c_poundagelaw14_LineWords_r0) (.seq (.seq (.ops c_poundagelaw14_LineWords_r1) (.cond (.t 15) (.seq (.ops c_poundagelaw14_LineWords_r2) .ret) .skip)) (.seq (.seq (.ops c_poundagelaw14_LineWords_r3) (.cond (.t 18) (.seq (.ops c_poundagelaw14_LineWords_r4) .ret) .skip)) (.seq (.ops c_poundagelaw14_LineWords_r5) (.seq (.ops c_poundagelaw14_LineWords_r6) (.seq (.seq (.ops c_poundagelaw14_LineWords_r7) (.block 0 (.loop c_poundagelaw14_LineWords_l0))) (.seq (.ops c_poundagelaw14_LineWords_r13) (.seq (.seq (.ops c_poundagelaw14_LineWords_r14) (.cond (.t 57) (.seq (.ops c_poundagelaw14_LineWords_r15) .ret) .skip)) (.seq (.seq (.ops c_poundagelaw14_LineWords_r16) (.block 2 (.loop c_poundagelaw14_LineWords_l1))) (.seq (.ops c_poundagelaw14_LineWords_r23) .ret))))))))))⟩
theorem comp_poundagelaw14_LineWords : funcC Try.prog 3 = some c_poundagelaw14_LineWords := by kernel_rfl
/-! function 4 : poundage poundagelaw14.LineIs -/
abbrev f_poundagelaw14_LineIs : FuncId := 4
abbrev c_poundagelaw14_LineIs_r0 : List AO := [⟨(.some 6), .none, (.mov (.c (.d (.bool .false))))⟩]
abbrev c_poundagelaw14_LineIs_r1 : List AO := [⟨(.some 10), .none, (.call 9 [])⟩,
  ⟨(.some 11), .none, (.un .not (.t 10))⟩]
abbrev c_poundagelaw14_LineIs_r2 : List AO := [⟨(.some 6), .none, (.mov (.c (.d (.bool .false))))⟩]
abbrev c_poundagelaw14_LineIs_r3 : List AO := [⟨(.some 12), .none, (.mov (.t 0))⟩,
  ⟨(.some 13), .none, (.mov (.t 1))⟩,
  ⟨(.some 14), .none, (.call 10 [(.t 12), (.t 13)])⟩]
abbrev c_poundagelaw14_LineIs_r4 : List AO := [⟨(.some 6), .none, (.mov (.c (.d (.bool .true))))⟩]
abbrev c_poundagelaw14_LineIs_r5 : List AO := [⟨(.some 15), .none, (.mov (.t 0))⟩,
  ⟨(.some 16), .none, (.mov (.t 1))⟩,
  ⟨(.some 17), .none, (.call 14 [(.t 15), (.t 16)])⟩,
  ⟨(.some 7), .none, (.alloc 35 [(.nilsl 3)])⟩,
  ⟨.none, .none, (.store 1 (.t 7) (.t 17))⟩]
abbrev c_poundagelaw14_LineIs_r6 : List AO := [⟨(.some 18), .none, (.mov (.t 0))⟩,
  ⟨(.some 19), .none, (.mov (.t 1))⟩,
  ⟨(.some 20), .none, (.build [(.d (.int .i64 0)), (.nilsl 1)] [⟨0, ⟨1, (.t 18)⟩⟩, ⟨1, ⟨1, (.t 19)⟩⟩])⟩,
  ⟨(.some 8), .none, (.alloc 42 [(.d (.int .i64 0)), (.nilsl 1)])⟩,
  ⟨.none, .none, (.store 2 (.t 8) (.t 20))⟩]
abbrev c_poundagelaw14_LineIs_r7 : List AO := [⟨(.some 9), .none, (.alloc 35 [(.nilsl 3)])⟩]
abbrev c_poundagelaw14_LineIs_r8 : List AO := [⟨(.some 21), .none, (.load (.some 1) (.t 9))⟩,
  ⟨(.some 22), .none, (.call 17 [(.t 21)])⟩,
  ⟨(.some 23), .none, (.bin .neq (.t 22) (.c (.d (.int .i64 0))))⟩,
  ⟨(.some 24), .none, (.mov (.t 23))⟩,
  ⟨(.some 25), (.some ⟨24, .false⟩), (.load (.some 1) (.t 9))⟩,
  ⟨(.some 26), (.some ⟨24, .false⟩), (.call 19 [(.t 25), (.c (.d (.int .i64 9)))])⟩,
  ⟨(.some 27), (.some ⟨24, .false⟩), (.len (.t 26))⟩,
  ⟨(.some 28), (.some ⟨24, .false⟩), (.bin .neq (.t 27) (.c (.d (.int .i64 0))))⟩,
  ⟨(.some 29), .none, (.pick (.t 24) (.c (.d (.bool .true))) (.t 28))⟩,
  ⟨(.some 30), .none, (.mov (.t 29))⟩,
  ⟨(.some 31), (.some ⟨30, .false⟩), (.load (.some 1) (.t 9))⟩,
  ⟨(.some 32), (.some ⟨30, .false⟩), (.pcall 14 [(.c (.d (.int .i64 7))), (.c (.nilsl 0))])⟩,
  ⟨(.some 33), (.some ⟨30, .false⟩), (.call 20 [(.t 31), (.t 32)])⟩,
  ⟨(.some 34), (.some ⟨30, .false⟩), (.un .not (.t 33))⟩,
  ⟨(.some 35), .none, (.pick (.t 30) (.c (.d (.bool .true))) (.t 34))⟩]
abbrev c_poundagelaw14_LineIs_r9 : List AO := [⟨(.some 6), .none, (.mov (.c (.d (.bool .false))))⟩]
abbrev c_poundagelaw14_LineIs_r10 : List AO := [⟨(.some 36), .none, (.load (.some 1) (.t 7))⟩,
  ⟨(.some 37), .none, (.load (.some 2) (.t 8))⟩,
  ⟨(.some 38), .none, (.call 21 [(.t 36), (.t 37)])⟩,
  ⟨(.some 39), .none, (.mov (.t 38))⟩,
  ⟨(.some 41), (.some ⟨39, .true⟩), (.mov (.t 2))⟩,
  ⟨(.some 44), (.some ⟨39, .true⟩), (.mov (.t 2))⟩,
  ⟨(.some 45), (.some ⟨39, .true⟩), (.minmax .true (.t 44) [(.c (.d (.int .i64 0)))])⟩,
  ⟨(.some 40), (.some ⟨39, .true⟩), (.load (.some 1) (.t 7))⟩,
  ⟨(.some 42), (.some ⟨39, .true⟩), (.pcall 19 [(.t 40), (.t 41)])⟩,
  ⟨(.some 43), (.some ⟨39, .true⟩), (.len (.t 42))⟩,
  ⟨(.some 46), (.some ⟨39, .true⟩), (.load (.some 2) (.t 8))⟩,
  ⟨(.some 47), (.some ⟨39, .true⟩), (.call 22 [(.t 46)])⟩,
  ⟨(.some 48), (.some ⟨39, .true⟩), (.len (.t 47))⟩,
  ⟨(.some 49), (.some ⟨39, .true⟩), (.minmax .false (.t 45) [(.t 48)])⟩,
  ⟨(.some 50), (.some ⟨39, .true⟩), (.bin .eql (.t 43) (.t 49))⟩,
  ⟨(.some 51), .none, (.pick (.t 39) (.t 50) (.c (.d (.bool .false))))⟩,
  ⟨(.some 6), .none, (.mov (.t 51))⟩]
abbrev c_poundagelaw14_LineIs : AFunc := ⟨52, [(.tmp 6)], (.seq (.ops c_poundagelaw14_LineIs_r0) (.seq (.seq (.ops c_poundagelaw14_LineIs_r1) (.cond (.t 11) (.seq (.ops c_poundagelaw14_LineIs_r2) .ret) .skip)) (.seq (.seq (.ops c_poundagelaw14_LineIs_r3) (.cond (.t 14) (.seq (.ops c_poundagelaw14_LineIs_r4) .ret) .skip)) (.seq (.ops c_poundagelaw14_LineIs_r5) (.seq (.ops c_poundagelaw14_LineIs_r6) (.seq (.ops c_poundagelaw14_LineIs_r7) (.seq (.seq (.dops c_poundagelaw14_LineIs_r8) (.cond (.t 35) (.seq (.ops c_poundagelaw14_LineIs_r9) .ret) .skip)) (.seq (.dops c_poundagelaw14_LineIs_r10) .ret))))))))⟩
theorem comp_poundagelaw14_LineIs : funcC Try.prog 4 = some c_poundagelaw14_LineIs := by kernel_rfl
/-! function 5 : poundage poundagelaw14.LineZips -/
abbrev f_poundagelaw14_LineZips : FuncId := 5
abbrev c_poundagelaw14_LineZips_r0 : List AO := [⟨(.some 8), .none, (.mov (.c (.d (.bool .false))))⟩]
abbrev c_poundagelaw14_LineZips_r1 : List AO := [⟨(.some 10), .none, (.call 9 [])⟩,
  ⟨(.some 11), .none, (.un .not (.t 10))⟩]
abbrev c_poundagelaw14_LineZips_r2 : List AO := [⟨(.some 8), .none, (.mov (.c (.d (.bool .false))))⟩]
abbrev c_poundagelaw14_LineZips_r3 : List AO := [⟨(.some 12), .none, (.mov (.t 0))⟩,
  ⟨(.some 13), .none, (.mov (.t 1))⟩,
  ⟨(.some 14), .none, (.call 10 [(.t 12), (.t 13)])⟩,
  ⟨(.some 15), .none, (.mov (.t 14))⟩,
  ⟨(.some 16), (.some ⟨15, .false⟩), (.mov (.t 2))⟩,
  ⟨(.some 17), (.some ⟨15, .false⟩), (.mov (.t 3))⟩,
  ⟨(.some 18), (.some ⟨15, .false⟩), (.call 10 [(.t 16), (.t 17)])⟩,
  ⟨(.some 19), .none, (.pick (.t 15) (.c (.d (.bool .true))) (.t 18))⟩]
abbrev c_poundagelaw14_LineZips_r4 : List AO := [⟨(.some 8), .none, (.mov (.c (.d (.bool .true))))⟩]
abbrev c_poundagelaw14_LineZips_r5 : List AO := [⟨(.some 20), .none, (.mov (.t 0))⟩,
  ⟨(.some 21), .none, (.mov (.t 1))⟩,
  ⟨(.some 22), .none, (.call 14 [(.t 20), (.t 21)])⟩,
  ⟨(.some 23), .none, (.mov (.t 2))⟩,
  ⟨(.some 24), .none, (.mov (.t 3))⟩,
  ⟨(.some 25), .none, (.call 14 [(.t 23), (.t 24)])⟩,
  ⟨(.some 26), .none, (.call 23 [(.t 22), (.t 25), (.c (.fn 24 []))])⟩,
  ⟨(.some 9), .none, (.alloc 35 [(.nilsl 3)])⟩,
  ⟨.none, .none, (.store 1 (.t 9) (.t 26))⟩]
abbrev c_poundagelaw14_LineZips_r6 : List AO := [⟨(.some 28), .none, (.mov (.t 0))⟩,
  ⟨(.some 29), .none, (.mov (.t 1))⟩,
  ⟨(.some 30), .none, (.build [(.d (.int .i64 0)), (.nilsl 1)] [⟨0, ⟨1, (.t 28)⟩⟩, ⟨1, ⟨1, (.t 29)⟩⟩])⟩,
  ⟨(.some 31), .none, (.mov (.t 2))⟩,
  ⟨(.some 32), .none, (.mov (.t 3))⟩,
  ⟨(.some 33), .none, (.build [(.d (.int .i64 0)), (.nilsl 1)] [⟨0, ⟨1, (.t 31)⟩⟩, ⟨1, ⟨1, (.t 32)⟩⟩])⟩,
  ⟨(.some 27), .none, (.load (.some 1) (.t 9))⟩,
  ⟨(.some 34), .none, (.pcall 25 [(.t 30), (.t 33)])⟩,
  ⟨(.some 35), .none, (.call 21 [(.t 27), (.t 34)])⟩,
  ⟨(.some 8), .none, (.mov (.t 35))⟩]
abbrev c_poundagelaw14_LineZips : AFunc := ⟨36, [(.tmp 8)], (.seq (.ops c_poundagelaw14_LineZips_r0) (.seq (.seq (.ops c_poundagelaw14_LineZips_r1) (.cond (.t 11) (.seq (.ops c_poundagelaw14_LineZips_r2) .ret) .skip)) (.seq (.seq (.ops c_poundagelaw14_LineZips_r3) (.cond (.t 19) (.seq (.ops c_poundagelaw14_LineZips_r4) .ret) .skip)) (.seq (.ops c_poundagelaw14_LineZips_r5) (.seq (.dops c_poundagelaw14_LineZips_r6) .ret)))))⟩
theorem comp_poundagelaw14_LineZips : funcC Try.prog 5 = some c_poundagelaw14_LineZips := by kernel_rfl
/-! function 6 : poundage poundagelaw14.LineMaps -/
abbrev f_poundagelaw14_LineMaps : FuncId := 6
abbrev c_poundagelaw14_LineMaps_r0 : List AO := [⟨(.some 6), .none, (.mov (.c (.d (.bool .false))))⟩]
abbrev c_poundagelaw14_LineMaps_r1 : List AO := [⟨(.some 14), .none, (.call 9 [])⟩,
  ⟨(.some 15), .none, (.un .not (.t 14))⟩]
abbrev c_poundagelaw14_LineMaps_r2 : List AO := [⟨(.some 6), .none, (.mov (.c (.d (.bool .false))))⟩]
abbrev c_poundagelaw14_LineMaps_r3 : List AO := [⟨(.some 16), .none, (.mov (.t 0))⟩,
  ⟨(.some 17), .none, (.mov (.t 1))⟩,
  ⟨(.some 18), .none, (.call 10 [(.t 16), (.t 17)])⟩,
  ⟨(.some 19), .none, (.mov (.t 18))⟩,
  ⟨(.some 20), (.some ⟨19, .false⟩), (.mov (.t 0))⟩,
  ⟨(.some 21), (.some ⟨19, .false⟩), (.mov (.t 2))⟩,
  ⟨(.some 22), (.some ⟨19, .false⟩), (.call 10 [(.t 20), (.t 21)])⟩,
  ⟨(.some 23), .none, (.pick (.t 19) (.c (.d (.bool .true))) (.t 22))⟩]
abbrev c_poundagelaw14_LineMaps_r4 : List AO := [⟨(.some 6), .none, (.mov (.c (.d (.bool .true))))⟩]
abbrev c_poundagelaw14_LineMaps_r5 : List AO := [⟨(.some 24), .none, (.mov (.t 0))⟩,
  ⟨(.some 25), .none, (.mov (.t 1))⟩,
  ⟨(.some 26), .none, (.call 14 [(.t 24), (.t 25)])⟩,
  ⟨(.some 27), .none, (.mov (.t 0))⟩,
  ⟨(.some 28), .none, (.mov (.t 2))⟩,
  ⟨(.some 29), .none, (.call 14 [(.t 27), (.t 28)])⟩,
  ⟨(.some 7), .none, (.alloc 35 [(.nilsl 3)])⟩,
  ⟨(.some 8), .none, (.alloc 35 [(.nilsl 3)])⟩,
  ⟨.none, .none, (.store 1 (.t 7) (.t 26))⟩,
  ⟨.none, .none, (.store 1 (.t 8) (.t 29))⟩]
abbrev c_poundagelaw14_LineMaps_r6 : List AO := [⟨(.some 30), .none, (.mov (.t 1))⟩,
  ⟨(.some 31), .none, (.len (.t 30))⟩,
  ⟨(.some 32), .none, (.mov (.t 2))⟩,
  ⟨(.some 33), .none, (.len (.t 32))⟩,
  ⟨(.some 34), .none, (.bin .eql (.t 31) (.t 33))⟩,
  ⟨(.some 9), .none, (.mov (.t 34))⟩]
abbrev c_poundagelaw14_LineMaps_r7 : List AO := [⟨(.some 10), .none, (.mov (.c (.nilsl 0)))⟩]
abbrev c_poundagelaw14_LineMaps_r8 : List AO := [⟨(.some 35), .none, (.mov (.t 1))⟩,
  ⟨(.some 36), .none, (.len (.t 35))⟩,
  ⟨(.some 37), .none, (.mov (.c (.d (.int .i64 0))))⟩]
abbrev c_poundagelaw14_LineMaps_r9 : List AO := [⟨(.some 38), .none, (.bin .lss (.t 37) (.t 36))⟩]
abbrev c_poundagelaw14_LineMaps_r10 : List AO := [⟨(.some 39), .none, (.mov (.t 37))⟩,
  ⟨(.some 40), .none, (.elemAddr 1 (.t 35) (.t 37))⟩,
  ⟨(.some 41), .none, (.load .none (.t 40))⟩,
  ⟨(.some 11), .none, (.mov (.t 39))⟩,
  ⟨(.some 12), .none, (.mov (.t 41))⟩]
abbrev c_poundagelaw14_LineMaps_r11 : List AO := [⟨(.some 42), .none, (.mov (.t 9))⟩,
  ⟨(.some 43), .none, (.mov (.t 42))⟩,
  ⟨(.some 44), (.some ⟨43, .true⟩), (.mov (.t 11))⟩,
  ⟨(.some 45), (.some ⟨43, .true⟩), (.mov (.t 2))⟩,
  ⟨(.some 46), (.some ⟨43, .true⟩), (.len (.t 45))⟩,
  ⟨(.some 47), (.some ⟨43, .true⟩), (.bin .lss (.t 44) (.t 46))⟩,
  ⟨(.some 48), .none, (.pick (.t 43) (.t 47) (.c (.d (.bool .false))))⟩,
  ⟨(.some 49), .none, (.mov (.t 48))⟩,
  ⟨(.some 50), (.some ⟨49, .true⟩), (.mov (.t 2))⟩,
  ⟨(.some 51), (.some ⟨49, .true⟩), (.mov (.t 11))⟩,
  ⟨(.some 52), (.some ⟨49, .true⟩), (.elemAddr 1 (.t 50) (.t 51))⟩,
  ⟨(.some 53), (.some ⟨49, .true⟩), (.load .none (.t 52))⟩,
  ⟨(.some 54), (.some ⟨49, .true⟩), (.mov (.t 12))⟩,
  ⟨(.some 55), (.some ⟨49, .true⟩), (.bin .eql (.t 53) (.t 54))⟩,
  ⟨(.some 56), .none, (.pick (.t 49) (.t 55) (.c (.d (.bool .false))))⟩,
  ⟨(.some 9), .none, (.mov (.t 56))⟩]
abbrev c_poundagelaw14_LineMaps_r12 : List AO := [⟨(.some 57), .none, (.mov (.t 10))⟩,
  ⟨(.some 58), .none, (.mov (.t 12))⟩,
  ⟨(.some 59), .none, (.bin .quo (.t 58) (.c (.d (.int .i64 2))))⟩,
  ⟨(.some 60), .none, (.buildSlice 3 1 1 [(.d (.int .i64 0))] [⟨0, (.t 59)⟩])⟩,
  ⟨(.some 61), .none, (.append 3 1 8 [(.d (.int .i64 0))] (.t 57) (.t 60))⟩,
  ⟨(.some 10), .none, (.mov (.t 61))⟩]
abbrev c_poundagelaw14_LineMaps_r13 : List AO := [⟨(.some 62), .none, (.bin .add (.t 37) (.c (.d (.int .i64 1))))⟩,
  ⟨(.some 37), .none, (.mov (.t 62))⟩]
abbrev c_poundagelaw14_LineMaps_l0 : ACode := (.seq (.ops c_poundagelaw14_LineMaps_r9) (.seq (.cond (.t 38) .skip (.exit 0)) (.seq (.block 1 (.seq (.ops c_poundagelaw14_LineMaps_r10) (.seq (.ops c_poundagelaw14_LineMaps_r11) (.ops c_poundagelaw14_LineMaps_r12)))) (.ops c_poundagelaw14_LineMaps_r13))))
abbrev c_poundagelaw14_LineMaps_r14 : List AO := [⟨(.some 63), .none, (.load (.some 1) (.t 7))⟩,
  ⟨(.some 64), .none, (.call 26 [(.t 63), (.c (.fn 27 []))])⟩,
  ⟨(.some 13), .none, (.alloc 35 [(.nilsl 3)])⟩,
  ⟨.none, .none, (.store 1 (.t 13) (.t 64))⟩]
abbrev c_poundagelaw14_LineMaps_r15 : List AO := [⟨(.some 65), .none, (.load (.some 1) (.t 7))⟩,
  ⟨(.some 66), .none, (.load (.some 1) (.t 8))⟩,
  ⟨(.some 67), .none, (.call 20 [(.t 65), (.t 66)])⟩,
  ⟨(.some 68), .none, (.mov (.t 9))⟩,
  ⟨(.some 69), .none, (.binb .false (.t 67) (.t 68))⟩,
  ⟨(.some 70), .none, (.mov (.t 69))⟩,
  ⟨(.some 71), (.some ⟨70, .true⟩), (.load (.some 1) (.t 13))⟩,
  ⟨(.some 72), (.some ⟨70, .true⟩), (.mov (.t 0))⟩,
  ⟨(.some 73), (.some ⟨70, .true⟩), (.mov (.t 10))⟩,
  ⟨(.some 74), (.some ⟨70, .true⟩), (.build [(.d (.int .i64 0)), (.nilsl 1)] [⟨0, ⟨1, (.t 72)⟩⟩, ⟨1, ⟨1, (.t 73)⟩⟩])⟩,
  ⟨(.some 75), (.some ⟨70, .true⟩), (.call 21 [(.t 71), (.t 74)])⟩,
  ⟨(.some 76), .none, (.pick (.t 70) (.t 75) (.c (.d (.bool .false))))⟩,
  ⟨(.some 6), .none, (.mov (.t 76))⟩]
abbrev c_poundagelaw14_LineMaps : AFunc := ⟨77, [(.tmp 6)], (.seq (.ops c_poundagelaw14_LineMaps_r0) (.seq (.seq (.ops c_poundagelaw14_LineMaps_r1) (.cond (.t 15) (.seq (.ops c_poundagelaw14_LineMaps_r2) .ret) .skip)) (.seq (.seq (.ops c_poundagelaw14_LineMaps_r3) (.cond (.t 23) (.seq (.ops c_poundagelaw14_LineMaps_r4) .ret) .skip)) (.seq (.ops c_poundagelaw14_LineMaps_r5) (.seq (.ops c_poundagelaw14_LineMaps_r6) (.seq (.ops c_poundagelaw14_LineMaps_r7) (.seq (.seq (.ops c_poundagelaw14_LineMaps_r8) (.block 0 (.loop c_poundagelaw14_LineMaps_l0))) (.seq (.ops c_poundagelaw14_LineMaps_r14) (.seq (.ops c_poundagelaw14_LineMaps_r15) .ret)))))))))⟩
theorem comp_poundagelaw14_LineMaps : funcC Try.prog 6 = some c_poundagelaw14_LineMaps := by kernel_rfl
/-! function 7 : poundage poundagelaw14.LineAgain -/
abbrev f_poundagelaw14_LineAgain : FuncId := 7
abbrev c_poundagelaw14_LineAgain_r0 : List AO := [⟨(.some 4), .none, (.mov (.c (.d (.bool .false))))⟩]
abbrev c_poundagelaw14_LineAgain_r1 : List AO := [⟨(.some 12), .none, (.call 9 [])⟩,
  ⟨(.some 13), .none, (.un .not (.t 12))⟩]
abbrev c_poundagelaw14_LineAgain_r2 : List AO := [⟨(.some 4), .none, (.mov (.c (.d (.bool .false))))⟩]
abbrev c_poundagelaw14_LineAgain_r3 : List AO := [⟨(.some 14), .none, (.mov (.t 0))⟩,
  ⟨(.some 15), .none, (.mov (.t 1))⟩,
  ⟨(.some 16), .none, (.call 10 [(.t 14), (.t 15)])⟩]
abbrev c_poundagelaw14_LineAgain_r4 : List AO := [⟨(.some 4), .none, (.mov (.c (.d (.bool .true))))⟩]
abbrev c_poundagelaw14_LineAgain_r5 : List AO := [⟨(.some 17), .none, (.mov (.t 0))⟩,
  ⟨(.some 18), .none, (.mov (.t 1))⟩,
  ⟨(.some 19), .none, (.call 14 [(.t 17), (.t 18)])⟩,
  ⟨(.some 5), .none, (.alloc 35 [(.nilsl 3)])⟩,
  ⟨.none, .none, (.store 1 (.t 5) (.t 19))⟩]
abbrev c_poundagelaw14_LineAgain_r6 : List AO := [⟨(.some 6), .none, (.mov (.c (.nilsl 0)))⟩]
abbrev c_poundagelaw14_LineAgain_r7 : List AO := [⟨(.some 20), .none, (.mov (.t 1))⟩,
  ⟨(.some 21), .none, (.len (.t 20))⟩,
  ⟨(.some 22), .none, (.mov (.c (.d (.int .i64 0))))⟩]
abbrev c_poundagelaw14_LineAgain_r8 : List AO := [⟨(.some 23), .none, (.bin .lss (.t 22) (.t 21))⟩]
abbrev c_poundagelaw14_LineAgain_r9 : List AO := [⟨(.some 24), .none, (.mov (.t 22))⟩,
  ⟨(.some 7), .none, (.mov (.t 24))⟩]
abbrev c_poundagelaw14_LineAgain_r10 : List AO := [⟨(.some 26), .none, (.load (.some 1) (.t 5))⟩,
  ⟨(.some 27), .none, (.mov (.t 0))⟩,
  ⟨(.some 28), .none, (.mov (.t 7))⟩,
  ⟨(.some 29), .none, (.bin .add (.t 27) (.t 28))⟩,
  ⟨(.some 30), .none, (.call 28 [(.t 26), (.t 29)])⟩,
  ⟨(.some 25), .none, (.mov (.t 30))⟩,
  ⟨(.some 31), .none, (.extract (.t 25) 0)⟩,
  ⟨(.some 32), .none, (.extract (.t 25) 1)⟩,
  ⟨(.some 8), .none, (.mov (.t 31))⟩,
  ⟨(.some 9), .none, (.mov (.t 32))⟩]
abbrev c_poundagelaw14_LineAgain_r11 : List AO := [⟨(.some 33), .none, (.mov (.t 9))⟩,
  ⟨(.some 34), .none, (.un .not (.t 33))⟩]
abbrev c_poundagelaw14_LineAgain_r12 : List AO := [⟨(.some 4), .none, (.mov (.c (.d (.bool .false))))⟩]
abbrev c_poundagelaw14_LineAgain_r13 : List AO := [⟨(.some 35), .none, (.mov (.t 6))⟩,
  ⟨(.some 36), .none, (.mov (.t 8))⟩,
  ⟨(.some 37), .none, (.buildSlice 3 1 1 [(.d (.int .i64 0))] [⟨0, (.t 36)⟩])⟩,
  ⟨(.some 38), .none, (.append 3 1 8 [(.d (.int .i64 0))] (.t 35) (.t 37))⟩,
  ⟨(.some 6), .none, (.mov (.t 38))⟩]
abbrev c_poundagelaw14_LineAgain_r14 : List AO := [⟨(.some 39), .none, (.bin .add (.t 22) (.c (.d (.int .i64 1))))⟩,
  ⟨(.some 22), .none, (.mov (.t 39))⟩]
abbrev c_poundagelaw14_LineAgain_l0 : ACode := (.seq (.ops c_poundagelaw14_LineAgain_r8) (.seq (.cond (.t 23) .skip (.exit 0)) (.seq (.block 1 (.seq (.ops c_poundagelaw14_LineAgain_r9) (.seq (.ops c_poundagelaw14_LineAgain_r10) (.seq (.seq (.ops c_poundagelaw14_LineAgain_r11) (.cond (.t 34) (.seq (.ops c_poundagelaw14_LineAgain_r12) .ret) .skip)) (.ops c_poundagelaw14_LineAgain_r13))))) (.ops c_poundagelaw14_LineAgain_r14))))
abbrev c_poundagelaw14_LineAgain_r15 : List AO := [⟨(.some 40), .none, (.load (.some 1) (.t 5))⟩,
  ⟨(.some 41), .none, (.call 26 [(.t 40), (.c (.fn 29 []))])⟩,
  ⟨(.some 10), .none, (.alloc 35 [(.nilsl 3)])⟩,
  ⟨.none, .none, (.store 1 (.t 10) (.t 41))⟩]
abbrev c_poundagelaw14_LineAgain_r16 : List AO := [⟨(.some 42), .none, (.load (.some 1) (.t 5))⟩,
  ⟨(.some 43), .none, (.load (.some 1) (.t 5))⟩,
  ⟨(.some 44), .none, (.call 23 [(.t 42), (.t 43), (.c (.fn 30 []))])⟩,
  ⟨(.some 11), .none, (.alloc 35 [(.nilsl 3)])⟩,
  ⟨.none, .none, (.store 1 (.t 11) (.t 44))⟩]
abbrev c_poundagelaw14_LineAgain_r17 : List AO := [⟨(.some 46), .none, (.mov (.t 0))⟩,
  ⟨(.some 47), .none, (.mov (.t 6))⟩,
  ⟨(.some 45), .none, (.load (.some 1) (.t 5))⟩,
  ⟨(.some 48), .none, (.pcall 14 [(.t 46), (.t 47)])⟩,
  ⟨(.some 49), .none, (.call 20 [(.t 45), (.t 48)])⟩,
  ⟨(.some 50), .none, (.mov (.t 49))⟩,
  ⟨(.some 51), (.some ⟨50, .true⟩), (.load (.some 1) (.t 5))⟩,
  ⟨(.some 52), (.some ⟨50, .true⟩), (.load (.some 1) (.t 10))⟩,
  ⟨(.some 53), (.some ⟨50, .true⟩), (.call 20 [(.t 51), (.t 52)])⟩,
  ⟨(.some 54), .none, (.pick (.t 50) (.t 53) (.c (.d (.bool .false))))⟩,
  ⟨(.some 55), .none, (.mov (.t 54))⟩,
  ⟨(.some 56), (.some ⟨55, .true⟩), (.load (.some 1) (.t 5))⟩,
  ⟨(.some 57), (.some ⟨55, .true⟩), (.load (.some 1) (.t 11))⟩,
  ⟨(.some 58), (.some ⟨55, .true⟩), (.call 20 [(.t 56), (.t 57)])⟩,
  ⟨(.some 59), .none, (.pick (.t 55) (.t 58) (.c (.d (.bool .false))))⟩,
  ⟨(.some 4), .none, (.mov (.t 59))⟩]
abbrev c_poundagelaw14_LineAgain : AFunc := ⟨60, [(.tmp 4)], (.seq (.ops c_poundagelaw14_LineAgain_r0) (.seq (.seq (.ops c_poundagelaw14_LineAgain_r1) (.cond (.t 13) (.seq (.ops c_poundagelaw14_LineAgain_r2) .ret) .skip)) (.seq (.seq (.ops c_poundagelaw14_LineAgain_r3) (.cond (.t 16) (.seq (.ops c_poundagelaw14_LineAgain_r4) .ret) .skip)) (.seq (.ops c_poundagelaw14_LineAgain_r5) (.seq (.ops c_poundagelaw14_LineAgain_r6) (.seq (.seq (.ops c_poundagelaw14_LineAgain_r7) (.block 0 (.loop c_poundagelaw14_LineAgain_l0))) (.seq (.ops c_poundagelaw14_LineAgain_r15) (.seq (.ops c_poundagelaw14_LineAgain_r16) (.seq (.dops c_poundagelaw14_LineAgain_r17) .ret)))))))))⟩
theorem comp_poundagelaw14_LineAgain : funcC Try.prog 7 = some c_poundagelaw14_LineAgain := by kernel_rfl
/-! function 8 : poundage poundagelaw14.LineFills -/
abbrev f_poundagelaw14_LineFills : FuncId := 8
abbrev c_poundagelaw14_LineFills_r0 : List AO := [⟨(.some 10), .none, (.mov (.c (.d (.bool .false))))⟩]
abbrev c_poundagelaw14_LineFills_r1 : List AO := [⟨(.some 19), .none, (.call 9 [])⟩,
  ⟨(.some 20), .none, (.un .not (.t 19))⟩]
abbrev c_poundagelaw14_LineFills_r2 : List AO := [⟨(.some 10), .none, (.mov (.c (.d (.bool .false))))⟩]
abbrev c_poundagelaw14_LineFills_r3 : List AO := [⟨(.some 21), .none, (.mov (.t 0))⟩,
  ⟨(.some 22), .none, (.mov (.t 1))⟩,
  ⟨(.some 23), .none, (.call 10 [(.t 21), (.t 22)])⟩,
  ⟨(.some 24), .none, (.mov (.t 23))⟩,
  ⟨(.some 25), (.some ⟨24, .false⟩), (.mov (.t 2))⟩,
  ⟨(.some 26), (.some ⟨24, .false⟩), (.bin .gtr (.t 25) (.c (.d (.int .i64 1073741824))))⟩,
  ⟨(.some 27), .none, (.pick (.t 24) (.c (.d (.bool .true))) (.t 26))⟩,
  ⟨(.some 28), .none, (.mov (.t 27))⟩,
  ⟨(.some 29), (.some ⟨28, .false⟩), (.mov (.t 2))⟩,
  ⟨(.some 30), (.some ⟨28, .false⟩), (.bin .lss (.t 29) (.c (.d (.int .i64 (-1073741824)))))⟩,
  ⟨(.some 31), .none, (.pick (.t 28) (.c (.d (.bool .true))) (.t 30))⟩,
  ⟨(.some 32), .none, (.mov (.t 31))⟩,
  ⟨(.some 33), (.some ⟨32, .false⟩), (.mov (.t 3))⟩,
  ⟨(.some 34), (.some ⟨32, .false⟩), (.bin .gtr (.t 33) (.c (.d (.int .i64 1073741824))))⟩,
  ⟨(.some 35), .none, (.pick (.t 32) (.c (.d (.bool .true))) (.t 34))⟩,
  ⟨(.some 36), .none, (.mov (.t 35))⟩,
  ⟨(.some 37), (.some ⟨36, .false⟩), (.mov (.t 3))⟩,
  ⟨(.some 38), (.some ⟨36, .false⟩), (.bin .lss (.t 37) (.c (.d (.int .i64 (-1073741824)))))⟩,
  ⟨(.some 39), .none, (.pick (.t 36) (.c (.d (.bool .true))) (.t 38))⟩]
abbrev c_poundagelaw14_LineFills_r4 : List AO := [⟨(.some 10), .none, (.mov (.c (.d (.bool .true))))⟩]
abbrev c_poundagelaw14_LineFills_r5 : List AO := [⟨(.some 40), .none, (.mov (.t 0))⟩,
  ⟨(.some 41), .none, (.mov (.t 1))⟩,
  ⟨(.some 42), .none, (.call 14 [(.t 40), (.t 41)])⟩,
  ⟨(.some 11), .none, (.alloc 35 [(.nilsl 3)])⟩,
  ⟨.none, .none, (.store 1 (.t 11) (.t 42))⟩]
abbrev c_poundagelaw14_LineFills_r6 : List AO := [⟨(.some 43), .none, (.load (.some 1) (.t 11))⟩,
  ⟨(.some 44), .none, (.mov (.t 2))⟩,
  ⟨(.some 45), .none, (.mov (.t 3))⟩,
  ⟨(.some 46), .none, (.mov (.t 4))⟩,
  ⟨(.some 47), .none, (.call 31 [(.t 43), (.t 44), (.t 45), (.t 46)])⟩,
  ⟨(.some 12), .none, (.alloc 35 [(.nilsl 3)])⟩,
  ⟨.none, .none, (.store 1 (.t 12) (.t 47))⟩]
abbrev c_poundagelaw14_LineFills_r7 : List AO := [⟨(.some 49), .none, (.mov (.t 0))⟩,
  ⟨(.some 50), .none, (.mov (.t 1))⟩,
  ⟨(.some 51), .none, (.build [(.d (.int .i64 0)), (.nilsl 1)] [⟨0, ⟨1, (.t 49)⟩⟩, ⟨1, ⟨1, (.t 50)⟩⟩])⟩,
  ⟨(.some 52), .none, (.mov (.t 2))⟩,
  ⟨(.some 53), .none, (.mov (.t 3))⟩,
  ⟨(.some 54), .none, (.mov (.t 4))⟩,
  ⟨(.some 48), .none, (.load (.some 1) (.t 12))⟩,
  ⟨(.some 55), .none, (.pcall 32 [(.t 51), (.t 52), (.t 53), (.t 54)])⟩,
  ⟨(.some 56), .none, (.call 21 [(.t 48), (.t 55)])⟩,
  ⟨(.some 57), .none, (.un .not (.t 56))⟩,
  ⟨(.some 58), .none, (.mov (.t 57))⟩,
  ⟨(.some 60), (.some ⟨58, .false⟩), (.mov (.t 0))⟩,
  ⟨(.some 61), (.some ⟨58, .false⟩), (.mov (.t 1))⟩,
  ⟨(.some 59), (.some ⟨58, .false⟩), (.load (.some 1) (.t 11))⟩,
  ⟨(.some 62), (.some ⟨58, .false⟩), (.pcall 14 [(.t 60), (.t 61)])⟩,
  ⟨(.some 63), (.some ⟨58, .false⟩), (.call 20 [(.t 59), (.t 62)])⟩,
  ⟨(.some 64), (.some ⟨58, .false⟩), (.un .not (.t 63))⟩,
  ⟨(.some 65), .none, (.pick (.t 58) (.c (.d (.bool .true))) (.t 64))⟩]
abbrev c_poundagelaw14_LineFills_r8 : List AO := [⟨(.some 10), .none, (.mov (.c (.d (.bool .false))))⟩]
abbrev c_poundagelaw14_LineFills_r9 : List AO := [⟨(.some 66), .none, (.mov (.t 2))⟩,
  ⟨(.some 67), .none, (.mov (.t 3))⟩,
  ⟨(.some 68), .none, (.mov (.t 4))⟩,
  ⟨(.some 69), .none, (.call 33 [(.t 66), (.t 67), (.t 68)])⟩,
  ⟨(.some 13), .none, (.alloc 35 [(.nilsl 3)])⟩,
  ⟨.none, .none, (.store 1 (.t 13) (.t 69))⟩]
abbrev c_poundagelaw14_LineFills_r10 : List AO := [⟨(.some 71), .none, (.load (.some 1) (.t 13))⟩,
  ⟨(.some 72), .none, (.call 34 [(.t 71)])⟩,
  ⟨(.some 70), .none, (.mov (.t 72))⟩,
  ⟨(.some 73), .none, (.extract (.t 70) 0)⟩,
  ⟨(.some 74), .none, (.extract (.t 70) 1)⟩,
  ⟨(.some 75), .none, (.extract (.t 70) 2)⟩,
  ⟨(.some 14), .none, (.mov (.t 73))⟩,
  ⟨(.some 15), .none, (.mov (.t 74))⟩,
  ⟨(.some 16), .none, (.mov (.t 75))⟩]
abbrev c_poundagelaw14_LineFills_r11 : List AO := [⟨(.some 76), .none, (.mov (.t 3))⟩,
  ⟨(.some 77), .none, (.mov (.t 2))⟩,
  ⟨(.some 78), .none, (.bin .lss (.t 76) (.t 77))⟩]
abbrev c_poundagelaw14_LineFills_r12 : List AO := [⟨(.some 79), .none, (.mov (.t 16))⟩,
  ⟨(.some 80), .none, (.un .not (.t 79))⟩,
  ⟨(.some 81), .none, (.mov (.t 80))⟩,
  ⟨(.some 82), (.some ⟨81, .true⟩), (.load (.some 1) (.t 13))⟩,
  ⟨(.some 83), (.some ⟨81, .true⟩), (.call 17 [(.t 82)])⟩,
  ⟨(.some 84), (.some ⟨81, .true⟩), (.bin .eql (.t 83) (.c (.d (.int .i64 0))))⟩,
  ⟨(.some 85), .none, (.pick (.t 81) (.t 84) (.c (.d (.bool .false))))⟩,
  ⟨(.some 10), .none, (.mov (.t 85))⟩]
abbrev c_poundagelaw14_LineFills_r13 : List AO := [⟨(.some 87), .none, (.load (.some 1) (.t 13))⟩,
  ⟨(.some 88), .none, (.mov (.t 3))⟩,
  ⟨(.some 89), .none, (.call 28 [(.t 87), (.t 88)])⟩,
  ⟨(.some 86), .none, (.mov (.t 89))⟩,
  ⟨(.some 90), .none, (.extract (.t 86) 0)⟩,
  ⟨(.some 91), .none, (.extract (.t 86) 1)⟩,
  ⟨(.some 17), .none, (.mov (.t 90))⟩,
  ⟨(.some 18), .none, (.mov (.t 91))⟩]
abbrev c_poundagelaw14_LineFills_r14 : List AO := [⟨(.some 92), .none, (.mov (.t 16))⟩,
  ⟨(.some 93), .none, (.mov (.t 92))⟩,
  ⟨(.some 94), (.some ⟨93, .true⟩), (.mov (.t 14))⟩,
  ⟨(.some 95), (.some ⟨93, .true⟩), (.mov (.t 2))⟩,
  ⟨(.some 96), (.some ⟨93, .true⟩), (.bin .eql (.t 94) (.t 95))⟩,
  ⟨(.some 97), .none, (.pick (.t 93) (.t 96) (.c (.d (.bool .false))))⟩,
  ⟨(.some 98), .none, (.mov (.t 97))⟩,
  ⟨(.some 99), (.some ⟨98, .true⟩), (.mov (.t 15))⟩,
  ⟨(.some 100), (.some ⟨98, .true⟩), (.mov (.t 3))⟩,
  ⟨(.some 101), (.some ⟨98, .true⟩), (.bin .eql (.t 99) (.t 100))⟩,
  ⟨(.some 102), .none, (.pick (.t 98) (.t 101) (.c (.d (.bool .false))))⟩,
  ⟨(.some 103), .none, (.mov (.t 102))⟩,
  ⟨(.some 104), (.some ⟨103, .true⟩), (.load (.some 1) (.t 13))⟩,
  ⟨(.some 105), (.some ⟨103, .true⟩), (.call 17 [(.t 104)])⟩,
  ⟨(.some 106), (.some ⟨103, .true⟩), (.bin .eql (.t 105) (.c (.d (.int .i64 1))))⟩,
  ⟨(.some 107), .none, (.pick (.t 103) (.t 106) (.c (.d (.bool .false))))⟩,
  ⟨(.some 108), .none, (.mov (.t 107))⟩,
  ⟨(.some 109), (.some ⟨108, .true⟩), (.mov (.t 18))⟩,
  ⟨(.some 110), .none, (.pick (.t 108) (.t 109) (.c (.d (.bool .false))))⟩,
  ⟨(.some 111), .none, (.mov (.t 110))⟩,
  ⟨(.some 112), (.some ⟨111, .true⟩), (.mov (.t 17))⟩,
  ⟨(.some 113), (.some ⟨111, .true⟩), (.mov (.t 4))⟩,
  ⟨(.some 114), (.some ⟨111, .true⟩), (.bin .eql (.t 112) (.t 113))⟩,
  ⟨(.some 115), .none, (.pick (.t 111) (.t 114) (.c (.d (.bool .false))))⟩,
  ⟨(.some 10), .none, (.mov (.t 115))⟩]
abbrev c_poundagelaw14_LineFills : AFunc := ⟨116, [(.tmp 10)], (.seq (.ops c_poundagelaw14_LineFills_r0) (.seq (.seq (.ops c_poundagelaw14_LineFills_r1) (.cond (.t 20) (.seq (.ops c_poundagelaw14_LineFills_r2) .ret) .skip)) (.seq (.seq (.ops c_poundagelaw14_LineFills_r3) (.cond (.t 39) (.seq (.ops c_poundagelaw14_LineFills_r4) .ret) .skip)) (.seq (.ops c_poundagelaw14_LineFills_r5) (.seq (.ops c_poundagelaw14_LineFills_r6) (.seq (.seq (.dops c_poundagelaw14_LineFills_r7) (.cond (.t 65) (.seq (.ops c_poundagelaw14_LineFills_r8) .ret) .skip)) (.seq (.ops c_poundagelaw14_LineFills_r9) (.seq (.ops c_poundagelaw14_LineFills_r10) (.seq (.seq (.ops c_poundagelaw14_LineFills_r11) (.cond (.t 78) (.seq (.ops c_poundagelaw14_LineFills_r12) .ret) .skip)) (.seq (.ops c_poundagelaw14_LineFills_r13) (.seq (.ops c_poundagelaw14_LineFills_r14) .ret)))))))))))⟩
theorem comp_poundagelaw14_LineFills : funcC Try.prog 8 = some c_poundagelaw14_LineFills := by kernel_rfl
/-! function 9 : poundage poundagelaw14.alive -/
abbrev f_poundagelaw14_alive : FuncId := 9
abbrev c_poundagelaw14_alive_r0 : List AO := [⟨(.some 0), .none, (.mov (.c (.d (.bool .false))))⟩]
abbrev c_poundagelaw14_alive_r1 : List AO := [⟨(.some 7), .none, (.buildSlice 3 1 3 [(.d (.int .i64 0))] [⟨0, (.c (.d (.int .i64 1)))⟩, ⟨1, (.c (.d (.int .i64 1)))⟩, ⟨2, (.c (.d (.int .i64 2)))⟩])⟩,
  ⟨(.some 8), .none, (.call 14 [(.c (.d (.int .i64 5))), (.t 7)])⟩,
  ⟨(.some 1), .none, (.alloc 35 [(.nilsl 3)])⟩,
  ⟨.none, .none, (.store 1 (.t 1) (.t 8))⟩]
abbrev c_poundagelaw14_alive_r2 : List AO := [⟨(.some 10), .none, (.load (.some 1) (.t 1))⟩,
  ⟨(.some 11), .none, (.call 28 [(.t 10), (.c (.d (.int .i64 6)))])⟩,
  ⟨(.some 9), .none, (.mov (.t 11))⟩,
  ⟨(.some 12), .none, (.extract (.t 9) 0)⟩,
  ⟨(.some 13), .none, (.extract (.t 9) 1)⟩,
  ⟨(.some 2), .none, (.mov (.t 12))⟩,
  ⟨(.some 3), .none, (.mov (.t 13))⟩]
abbrev c_poundagelaw14_alive_r3 : List AO := [⟨(.some 15), .none, (.load (.some 1) (.t 1))⟩,
  ⟨(.some 16), .none, (.call 34 [(.t 15)])⟩,
  ⟨(.some 14), .none, (.mov (.t 16))⟩,
  ⟨(.some 17), .none, (.extract (.t 14) 0)⟩,
  ⟨(.some 18), .none, (.extract (.t 14) 1)⟩,
  ⟨(.some 19), .none, (.extract (.t 14) 2)⟩,
  ⟨(.some 4), .none, (.mov (.t 17))⟩,
  ⟨(.some 5), .none, (.mov (.t 18))⟩,
  ⟨(.some 6), .none, (.mov (.t 19))⟩]
abbrev c_poundagelaw14_alive_r4 : List AO := [⟨(.some 20), .none, (.load (.some 1) (.t 1))⟩,
  ⟨(.some 21), .none, (.call 17 [(.t 20)])⟩,
  ⟨(.some 22), .none, (.bin .eql (.t 21) (.c (.d (.int .i64 2))))⟩,
  ⟨(.some 23), .none, (.mov (.t 22))⟩,
  ⟨(.some 24), (.some ⟨23, .true⟩), (.mov (.t 2))⟩,
  ⟨(.some 25), (.some ⟨23, .true⟩), (.bin .eql (.t 24) (.c (.d (.int .i64 1))))⟩,
  ⟨(.some 26), .none, (.pick (.t 23) (.t 25) (.c (.d (.bool .false))))⟩,
  ⟨(.some 27), .none, (.mov (.t 26))⟩,
  ⟨(.some 28), (.some ⟨27, .true⟩), (.mov (.t 3))⟩,
  ⟨(.some 29), .none, (.pick (.t 27) (.t 28) (.c (.d (.bool .false))))⟩,
  ⟨(.some 30), .none, (.mov (.t 29))⟩,
  ⟨(.some 31), (.some ⟨30, .true⟩), (.mov (.t 4))⟩,
  ⟨(.some 32), (.some ⟨30, .true⟩), (.bin .eql (.t 31) (.c (.d (.int .i64 5))))⟩,
  ⟨(.some 33), .none, (.pick (.t 30) (.t 32) (.c (.d (.bool .false))))⟩,
  ⟨(.some 34), .none, (.mov (.t 33))⟩,
  ⟨(.some 35), (.some ⟨34, .true⟩), (.mov (.t 5))⟩,
  ⟨(.some 36), (.some ⟨34, .true⟩), (.bin .eql (.t 35) (.c (.d (.int .i64 7))))⟩,
  ⟨(.some 37), .none, (.pick (.t 34) (.t 36) (.c (.d (.bool .false))))⟩,
  ⟨(.some 38), .none, (.mov (.t 37))⟩,
  ⟨(.some 39), (.some ⟨38, .true⟩), (.mov (.t 6))⟩,
  ⟨(.some 40), .none, (.pick (.t 38) (.t 39) (.c (.d (.bool .false))))⟩,
  ⟨(.some 0), .none, (.mov (.t 40))⟩]
abbrev c_poundagelaw14_alive : AFunc := ⟨41, [(.tmp 0)], (.seq (.ops c_poundagelaw14_alive_r0) (.seq (.ops c_poundagelaw14_alive_r1) (.seq (.ops c_poundagelaw14_alive_r2) (.seq (.ops c_poundagelaw14_alive_r3) (.seq (.ops c_poundagelaw14_alive_r4) .ret)))))⟩
theorem comp_poundagelaw14_alive : funcC Try.prog 9 = some c_poundagelaw14_alive := by kernel_rfl
/-! function 10 : poundage poundagelaw14.great -/
abbrev f_poundagelaw14_great : FuncId := 10
abbrev c_poundagelaw14_great_r0 : List AO := [⟨(.some 4), .none, (.mov (.c (.d (.bool .false))))⟩]
abbrev c_poundagelaw14_great_r1 : List AO := [⟨(.some 5), .none, (.mov (.t 0))⟩,
  ⟨(.some 6), .none, (.bin .gtr (.t 5) (.c (.d (.int .i64 1048576))))⟩,
  ⟨(.some 7), .none, (.mov (.t 6))⟩,
  ⟨(.some 8), (.some ⟨7, .false⟩), (.mov (.t 0))⟩,
  ⟨(.some 9), (.some ⟨7, .false⟩), (.bin .lss (.t 8) (.c (.d (.int .i64 (-1048576)))))⟩,
  ⟨(.some 10), .none, (.pick (.t 7) (.c (.d (.bool .true))) (.t 9))⟩,
  ⟨(.some 11), .none, (.mov (.t 10))⟩,
  ⟨(.some 12), (.some ⟨11, .false⟩), (.mov (.t 1))⟩,
  ⟨(.some 13), (.some ⟨11, .false⟩), (.len (.t 12))⟩,
  ⟨(.some 14), (.some ⟨11, .false⟩), (.bin .gtr (.t 13) (.c (.d (.int .i64 300))))⟩,
  ⟨(.some 15), .none, (.pick (.t 11) (.c (.d (.bool .true))) (.t 14))⟩,
  ⟨(.some 4), .none, (.mov (.t 15))⟩]
abbrev c_poundagelaw14_great : AFunc := ⟨16, [(.tmp 4)], (.seq (.ops c_poundagelaw14_great_r0) (.seq (.ops c_poundagelaw14_great_r1) .ret))⟩
theorem comp_poundagelaw14_great : funcC Try.prog 10 = some c_poundagelaw14_great := by kernel_rfl
/-! function 11 : poundage poundagelaw14.word -/
abbrev f_poundagelaw14_word : FuncId := 11
abbrev c_poundagelaw14_word_r0 : List AO := [⟨(.some 2), .none, (.mov (.c (.d (.str ⟨⟨[]⟩⟩))))⟩]
abbrev c_poundagelaw14_word_r1 : List AO := [⟨(.some 3), .none, (.build [(.d (.str ⟨⟨[]⟩⟩)), (.d (.str ⟨⟨[]⟩⟩)), (.d (.str ⟨⟨[]⟩⟩))] [⟨0, ⟨1, (.c (.d (.str ⟨⟨[97]⟩⟩)))⟩⟩, ⟨1, ⟨1, (.c (.d (.str ⟨⟨[98]⟩⟩)))⟩⟩, ⟨2, ⟨1, (.c (.d (.str ⟨⟨[99]⟩⟩)))⟩⟩])⟩,
  ⟨(.some 4), .none, (.mov (.t 0))⟩,
  ⟨(.some 5), .none, (.conv .u64 (.t 4))⟩,
  ⟨(.some 6), .none, (.bin .rem (.t 5) (.c (.d (.int .u64 3))))⟩,
  ⟨(.some 7), .none, (.conv .i64 (.t 6))⟩,
  ⟨(.some 8), .none, (.idxArr 3 1 .none (.t 3) (.t 7))⟩,
  ⟨(.some 2), .none, (.mov (.t 8))⟩]
abbrev c_poundagelaw14_word : AFunc := ⟨9, [(.tmp 2)], (.seq (.ops c_poundagelaw14_word_r0) (.seq (.ops c_poundagelaw14_word_r1) .ret))⟩
theorem comp_poundagelaw14_word : funcC Try.prog 11 = some c_poundagelaw14_word := by kernel_rfl
/-! function 12 : poundage line.Of string  -/
abbrev f_line_Of_string : FuncId := 12
abbrev c_line_Of_string_r0 : List AO := [⟨(.some 4), .none, (.alloc 30 [(.nilsl 3)])⟩]
abbrev c_line_Of_string_r1 : List AO := [⟨(.some 5), .none, (.alloc 30 [(.nilsl 3)])⟩]
abbrev c_line_Of_string_r2 : List AO := [⟨(.some 8), .none, (.mov (.t 1))⟩,
  ⟨(.some 9), .none, (.len (.t 8))⟩,
  ⟨(.some 10), .none, (.mov (.c (.d (.int .i64 0))))⟩]
abbrev c_line_Of_string_r3 : List AO := [⟨(.some 11), .none, (.bin .lss (.t 10) (.t 9))⟩]
abbrev c_line_Of_string_r4 : List AO := [⟨(.some 12), .none, (.mov (.t 10))⟩,
  ⟨(.some 13), .none, (.elemAddr 1 (.t 8) (.t 10))⟩,
  ⟨(.some 14), .none, (.load .none (.t 13))⟩,
  ⟨(.some 6), .none, (.mov (.t 12))⟩,
  ⟨(.some 7), .none, (.mov (.t 14))⟩]
abbrev c_line_Of_string_r5 : List AO := [⟨(.some 15), .none, (.mov (.t 0))⟩,
  ⟨(.some 16), .none, (.mov (.t 6))⟩,
  ⟨(.some 17), .none, (.bin .add (.t 15) (.t 16))⟩,
  ⟨(.some 18), .none, (.mov (.t 0))⟩,
  ⟨(.some 19), .none, (.mov (.t 6))⟩,
  ⟨(.some 20), .none, (.bin .add (.t 18) (.t 19))⟩,
  ⟨(.some 21), .none, (.mov (.t 7))⟩,
  ⟨(.some 22), .none, (.build [(.d (.int .i64 0)), (.d (.int .i64 0)), (.d (.str ⟨⟨[]⟩⟩))] [⟨0, ⟨1, (.t 17)⟩⟩, ⟨1, ⟨1, (.t 20)⟩⟩, ⟨2, ⟨1, (.t 21)⟩⟩])⟩,
  ⟨(.some 23), .none, (.call 35 [(.t 5), (.t 22)])⟩]
abbrev c_line_Of_string_r6 : List AO := [⟨(.some 24), .none, (.bin .add (.t 10) (.c (.d (.int .i64 1))))⟩,
  ⟨(.some 10), .none, (.mov (.t 24))⟩]
abbrev c_line_Of_string_l0 : ACode := (.seq (.ops c_line_Of_string_r3) (.seq (.cond (.t 11) .skip (.exit 0)) (.seq (.block 1 (.seq (.ops c_line_Of_string_r4) (.ops c_line_Of_string_r5))) (.ops c_line_Of_string_r6))))
abbrev c_line_Of_string_r7 : List AO := [⟨(.some 25), .none, (.load (.some 1) (.t 5))⟩,
  ⟨.none, .none, (.store 1 (.t 4) (.t 25))⟩]
abbrev c_line_Of_string : AFunc := ⟨26, [(.cell 4 (.some 1))], (.seq (.ops c_line_Of_string_r0) (.seq (.ops c_line_Of_string_r1) (.seq (.seq (.ops c_line_Of_string_r2) (.block 0 (.loop c_line_Of_string_l0))) (.seq (.ops c_line_Of_string_r7) .ret))))⟩
theorem comp_line_Of_string : funcC Try.prog 12 = some c_line_Of_string := by kernel_rfl
/-! function 13 : poundage line.Map int string  -/
abbrev f_line_Map_int_string : FuncId := 13
abbrev c_line_Map_int_string_r0 : List AO := [⟨(.some 2), .none, (.box 35 (.t 0))⟩,
  ⟨(.some 4), .none, (.alloc 30 [(.nilsl 3)])⟩]
abbrev c_line_Map_int_string_r1 : List AO := [⟨(.some 5), .none, (.alloc 30 [(.nilsl 3)])⟩]
abbrev c_line_Map_int_string_r2 : List AO := [⟨(.some 8), .none, (.fieldAddr 0 (.t 2))⟩,
  ⟨(.some 9), .none, (.load .none (.t 8))⟩,
  ⟨(.some 10), .none, (.len (.t 9))⟩,
  ⟨(.some 11), .none, (.mov (.c (.d (.int .i64 0))))⟩]
abbrev c_line_Map_int_string_r3 : List AO := [⟨(.some 12), .none, (.bin .lss (.t 11) (.t 10))⟩]
abbrev c_line_Map_int_string_r4 : List AO := [⟨(.some 13), .none, (.elemAddr 3 (.t 9) (.t 11))⟩,
  ⟨(.some 14), .none, (.load (.some 3) (.t 13))⟩,
  ⟨(.some 7), .none, (.alloc 69 [(.d (.int .i64 0)), (.d (.int .i64 0)), (.d (.int .i64 0))])⟩,
  ⟨.none, .none, (.store 3 (.t 7) (.t 14))⟩]
abbrev c_line_Map_int_string_r5 : List AO := [⟨(.some 15), .none, (.fieldAddr 0 (.t 7))⟩,
  ⟨(.some 17), .none, (.fieldAddr 1 (.t 7))⟩,
  ⟨(.some 19), .none, (.mov (.t 1))⟩,
  ⟨(.some 20), .none, (.fieldAddr 2 (.t 7))⟩,
  ⟨(.some 16), .none, (.load .none (.t 15))⟩,
  ⟨(.some 18), .none, (.load .none (.t 17))⟩,
  ⟨(.some 21), .none, (.load .none (.t 20))⟩,
  ⟨(.some 22), .none, (.pcallv (.t 19) [(.t 21)])⟩,
  ⟨(.some 23), .none, (.build [(.d (.int .i64 0)), (.d (.int .i64 0)), (.d (.str ⟨⟨[]⟩⟩))] [⟨0, ⟨1, (.t 16)⟩⟩, ⟨1, ⟨1, (.t 18)⟩⟩, ⟨2, ⟨1, (.t 22)⟩⟩])⟩,
  ⟨(.some 24), .none, (.call 35 [(.t 5), (.t 23)])⟩]
abbrev c_line_Map_int_string_r6 : List AO := [⟨(.some 25), .none, (.bin .add (.t 11) (.c (.d (.int .i64 1))))⟩,
  ⟨(.some 11), .none, (.mov (.t 25))⟩]
abbrev c_line_Map_int_string_l0 : ACode := (.seq (.ops c_line_Map_int_string_r3) (.seq (.cond (.t 12) .skip (.exit 0)) (.seq (.block 1 (.seq (.ops c_line_Map_int_string_r4) (.dops c_line_Map_int_string_r5))) (.ops c_line_Map_int_string_r6))))
abbrev c_line_Map_int_string_r7 : List AO := [⟨(.some 26), .none, (.load (.some 1) (.t 5))⟩,
  ⟨.none, .none, (.store 1 (.t 4) (.t 26))⟩]
abbrev c_line_Map_int_string : AFunc := ⟨27, [(.cell 4 (.some 1))], (.seq (.ops c_line_Map_int_string_r0) (.seq (.ops c_line_Map_int_string_r1) (.seq (.seq (.ops c_line_Map_int_string_r2) (.block 0 (.loop c_line_Map_int_string_l0))) (.seq (.ops c_line_Map_int_string_r7) .ret))))⟩
theorem comp_line_Map_int_string : funcC Try.prog 13 = some c_line_Map_int_string := by kernel_rfl
/-! function 14 : poundage line.Of int  -/
abbrev f_line_Of_int : FuncId := 14
abbrev c_line_Of_int_r0 : List AO := [⟨(.some 4), .none, (.alloc 35 [(.nilsl 3)])⟩]
abbrev c_line_Of_int_r1 : List AO := [⟨(.some 5), .none, (.alloc 35 [(.nilsl 3)])⟩]
abbrev c_line_Of_int_r2 : List AO := [⟨(.some 8), .none, (.mov (.t 1))⟩,
  ⟨(.some 9), .none, (.len (.t 8))⟩,
  ⟨(.some 10), .none, (.mov (.c (.d (.int .i64 0))))⟩]
abbrev c_line_Of_int_r3 : List AO := [⟨(.some 11), .none, (.bin .lss (.t 10) (.t 9))⟩]
abbrev c_line_Of_int_r4 : List AO := [⟨(.some 12), .none, (.mov (.t 10))⟩,
  ⟨(.some 13), .none, (.elemAddr 1 (.t 8) (.t 10))⟩,
  ⟨(.some 14), .none, (.load .none (.t 13))⟩,
  ⟨(.some 6), .none, (.mov (.t 12))⟩,
  ⟨(.some 7), .none, (.mov (.t 14))⟩]
abbrev c_line_Of_int_r5 : List AO := [⟨(.some 15), .none, (.mov (.t 0))⟩,
  ⟨(.some 16), .none, (.mov (.t 6))⟩,
  ⟨(.some 17), .none, (.bin .add (.t 15) (.t 16))⟩,
  ⟨(.some 18), .none, (.mov (.t 0))⟩,
  ⟨(.some 19), .none, (.mov (.t 6))⟩,
  ⟨(.some 20), .none, (.bin .add (.t 18) (.t 19))⟩,
  ⟨(.some 21), .none, (.mov (.t 7))⟩,
  ⟨(.some 22), .none, (.build [(.d (.int .i64 0)), (.d (.int .i64 0)), (.d (.int .i64 0))] [⟨0, ⟨1, (.t 17)⟩⟩, ⟨1, ⟨1, (.t 20)⟩⟩, ⟨2, ⟨1, (.t 21)⟩⟩])⟩,
  ⟨(.some 23), .none, (.call 36 [(.t 5), (.t 22)])⟩]
abbrev c_line_Of_int_r6 : List AO := [⟨(.some 24), .none, (.bin .add (.t 10) (.c (.d (.int .i64 1))))⟩,
  ⟨(.some 10), .none, (.mov (.t 24))⟩]
abbrev c_line_Of_int_l0 : ACode := (.seq (.ops c_line_Of_int_r3) (.seq (.cond (.t 11) .skip (.exit 0)) (.seq (.block 1 (.seq (.ops c_line_Of_int_r4) (.ops c_line_Of_int_r5))) (.ops c_line_Of_int_r6))))
abbrev c_line_Of_int_r7 : List AO := [⟨(.some 25), .none, (.load (.some 1) (.t 5))⟩,
  ⟨.none, .none, (.store 1 (.t 4) (.t 25))⟩]
abbrev c_line_Of_int : AFunc := ⟨26, [(.cell 4 (.some 1))], (.seq (.ops c_line_Of_int_r0) (.seq (.ops c_line_Of_int_r1) (.seq (.seq (.ops c_line_Of_int_r2) (.block 0 (.loop c_line_Of_int_l0))) (.seq (.ops c_line_Of_int_r7) .ret))))⟩
theorem comp_line_Of_int : funcC Try.prog 14 = some c_line_Of_int := by kernel_rfl
/-! function 15 : poundage line.Equal string  -/
abbrev f_line_Equal_string : FuncId := 15
abbrev c_line_Equal_string_r0 : List AO := [⟨(.some 2), .none, (.box 30 (.t 0))⟩,
  ⟨(.some 3), .none, (.box 30 (.t 1))⟩,
  ⟨(.some 4), .none, (.mov (.c (.d (.bool .false))))⟩]
abbrev c_line_Equal_string_r1 : List AO := [⟨(.some 5), .none, (.fieldAddr 0 (.t 2))⟩,
  ⟨(.some 6), .none, (.load .none (.t 5))⟩,
  ⟨(.some 7), .none, (.fieldAddr 0 (.t 3))⟩,
  ⟨(.some 8), .none, (.load .none (.t 7))⟩,
  ⟨(.some 9), .none, (.call 37 [(.t 6), (.t 8)])⟩,
  ⟨(.some 4), .none, (.mov (.t 9))⟩]
abbrev c_line_Equal_string : AFunc := ⟨10, [(.tmp 4)], (.seq (.ops c_line_Equal_string_r0) (.seq (.ops c_line_Equal_string_r1) .ret))⟩
theorem comp_line_Equal_string : funcC Try.prog 15 = some c_line_Equal_string := by kernel_rfl
/-! function 16 :  poundage line.Line string .Count -/
abbrev f_line_Line_string_Count : FuncId := 16
abbrev c_line_Line_string_Count_r0 : List AO := [⟨(.some 1), .none, (.box 30 (.t 0))⟩,
  ⟨(.some 2), .none, (.mov (.c (.d (.int .i64 0))))⟩]
abbrev c_line_Line_string_Count_r1 : List AO := [⟨(.some 3), .none, (.fieldAddr 0 (.t 1))⟩,
  ⟨(.some 4), .none, (.load .none (.t 3))⟩,
  ⟨(.some 5), .none, (.len (.t 4))⟩,
  ⟨(.some 2), .none, (.mov (.t 5))⟩]
abbrev c_line_Line_string_Count : AFunc := ⟨6, [(.tmp 2)], (.seq (.ops c_line_Line_string_Count_r0) (.seq (.ops c_line_Line_string_Count_r1) .ret))⟩
theorem comp_line_Line_string_Count : funcC Try.prog 16 = some c_line_Line_string_Count := by kernel_rfl
/-! function 17 :  poundage line.Line int .Count -/
abbrev f_line_Line_int_Count : FuncId := 17
abbrev c_line_Line_int_Count_r0 : List AO := [⟨(.some 1), .none, (.box 35 (.t 0))⟩,
  ⟨(.some 2), .none, (.mov (.c (.d (.int .i64 0))))⟩]
abbrev c_line_Line_int_Count_r1 : List AO := [⟨(.some 3), .none, (.fieldAddr 0 (.t 1))⟩,
  ⟨(.some 4), .none, (.load .none (.t 3))⟩,
  ⟨(.some 5), .none, (.len (.t 4))⟩,
  ⟨(.some 2), .none, (.mov (.t 5))⟩]
abbrev c_line_Line_int_Count : AFunc := ⟨6, [(.tmp 2)], (.seq (.ops c_line_Line_int_Count_r0) (.seq (.ops c_line_Line_int_Count_r1) .ret))⟩
theorem comp_line_Line_int_Count : funcC Try.prog 17 = some c_line_Line_int_Count := by kernel_rfl
/-! function 18 :  poundage line.Line string .At -/
abbrev f_line_Line_string_At : FuncId := 18
abbrev c_line_Line_string_At_r0 : List AO := [⟨(.some 2), .none, (.box 30 (.t 0))⟩,
  ⟨(.some 4), .none, (.mov (.c (.d (.str ⟨⟨[]⟩⟩))))⟩,
  ⟨(.some 5), .none, (.mov (.c (.d (.bool .false))))⟩]
abbrev c_line_Line_string_At_r1 : List AO := [⟨(.some 10), .none, (.fieldAddr 0 (.t 2))⟩,
  ⟨(.some 11), .none, (.load .none (.t 10))⟩,
  ⟨(.some 12), .none, (.mov (.t 1))⟩,
  ⟨(.some 13), .none, (.call 38 [(.t 11), (.t 12), (.c (.fn 39 []))])⟩,
  ⟨(.some 9), .none, (.mov (.t 13))⟩,
  ⟨(.some 14), .none, (.extract (.t 9) 0)⟩,
  ⟨(.some 15), .none, (.extract (.t 9) 1)⟩,
  ⟨(.some 6), .none, (.mov (.t 14))⟩,
  ⟨(.some 7), .none, (.mov (.t 15))⟩]
abbrev c_line_Line_string_At_r2 : List AO := [⟨(.some 16), .none, (.mov (.t 6))⟩,
  ⟨(.some 17), .none, (.fieldAddr 0 (.t 2))⟩,
  ⟨(.some 18), .none, (.load .none (.t 17))⟩,
  ⟨(.some 19), .none, (.len (.t 18))⟩,
  ⟨(.some 20), .none, (.bin .lss (.t 16) (.t 19))⟩,
  ⟨(.some 21), .none, (.mov (.t 20))⟩,
  ⟨(.some 22), (.some ⟨21, .true⟩), (.fieldAddr 0 (.t 2))⟩,
  ⟨(.some 23), (.some ⟨21, .true⟩), (.load .none (.t 22))⟩,
  ⟨(.some 24), (.some ⟨21, .true⟩), (.mov (.t 6))⟩,
  ⟨(.some 25), (.some ⟨21, .true⟩), (.elemAddr 3 (.t 23) (.t 24))⟩,
  ⟨(.some 26), (.some ⟨21, .true⟩), (.fieldAddr 0 (.t 25))⟩,
  ⟨(.some 27), (.some ⟨21, .true⟩), (.load .none (.t 26))⟩,
  ⟨(.some 28), (.some ⟨21, .true⟩), (.mov (.t 1))⟩,
  ⟨(.some 29), (.some ⟨21, .true⟩), (.bin .leq (.t 27) (.t 28))⟩,
  ⟨(.some 30), .none, (.pick (.t 21) (.t 29) (.c (.d (.bool .false))))⟩]
abbrev c_line_Line_string_At_r3 : List AO := [⟨(.some 31), .none, (.fieldAddr 0 (.t 2))⟩,
  ⟨(.some 32), .none, (.load .none (.t 31))⟩,
  ⟨(.some 33), .none, (.mov (.t 6))⟩,
  ⟨(.some 34), .none, (.elemAddr 3 (.t 32) (.t 33))⟩,
  ⟨(.some 35), .none, (.fieldAddr 2 (.t 34))⟩,
  ⟨(.some 36), .none, (.load .none (.t 35))⟩,
  ⟨(.some 4), .none, (.mov (.t 36))⟩,
  ⟨(.some 5), .none, (.mov (.c (.d (.bool .true))))⟩]
abbrev c_line_Line_string_At_r4 : List AO := [⟨(.some 8), .none, (.mov (.c (.d (.str ⟨⟨[]⟩⟩))))⟩]
abbrev c_line_Line_string_At_r5 : List AO := [⟨(.some 37), .none, (.mov (.t 8))⟩,
  ⟨(.some 4), .none, (.mov (.t 37))⟩,
  ⟨(.some 5), .none, (.mov (.c (.d (.bool .false))))⟩]
abbrev c_line_Line_string_At : AFunc := ⟨38, [(.tmp 4), (.tmp 5)], (.seq (.ops c_line_Line_string_At_r0) (.seq (.ops c_line_Line_string_At_r1) (.seq (.seq (.ops c_line_Line_string_At_r2) (.cond (.t 30) (.seq (.ops c_line_Line_string_At_r3) .ret) .skip)) (.seq (.ops c_line_Line_string_At_r4) (.seq (.ops c_line_Line_string_At_r5) .ret)))))⟩
theorem comp_line_Line_string_At : funcC Try.prog 18 = some c_line_Line_string_At := by kernel_rfl
/-! function 19 : poundage poundagelaw14.gone -/
abbrev f_poundagelaw14_gone : FuncId := 19
abbrev c_poundagelaw14_gone_r0 : List AO := [⟨(.some 2), .none, (.box 35 (.t 0))⟩,
  ⟨(.some 3), .none, (.box 3 (.t 1))⟩,
  ⟨(.some 4), .none, (.mov (.c (.nilsl 0)))⟩]
abbrev c_poundagelaw14_gone_r1 : List AO := [⟨(.some 5), .none, (.alloc 33 [(.nilsl 3)])⟩]
abbrev c_poundagelaw14_gone_r2 : List AO := [⟨(.some 7), .none, (.load (.some 1) (.t 2))⟩,
  ⟨(.some 8), .none, (.call 41 [(.t 7)])⟩]
abbrev c_poundagelaw14_gone_r3 : List AO := [⟨(.some 6), .none, (.alloc 69 [(.d (.int .i64 0)), (.d (.int .i64 0)), (.d (.int .i64 0))])⟩,
  ⟨.none, .none, (.store 3 (.t 6) (.t 9))⟩]
abbrev c_poundagelaw14_gone_r4 : List AO := [⟨(.some 10), .none, (.load .none (.t 5))⟩,
  ⟨(.some 11), .none, (.len (.t 10))⟩,
  ⟨(.some 12), .none, (.load .none (.t 3))⟩,
  ⟨(.some 13), .none, (.bin .geq (.t 11) (.t 12))⟩]
abbrev c_poundagelaw14_gone_r5 : List AO := [⟨(.some 14), .none, (.load .none (.t 5))⟩,
  ⟨(.some 15), .none, (.load (.some 3) (.t 6))⟩,
  ⟨(.some 16), .none, (.buildSlice 69 3 1 [(.d (.int .i64 0)), (.d (.int .i64 0)), (.d (.int .i64 0))] [⟨0, (.t 15)⟩])⟩,
  ⟨(.some 17), .none, (.append 69 3 24 [(.d (.int .i64 0)), (.d (.int .i64 0)), (.d (.int .i64 0))] (.t 14) (.t 16))⟩,
  ⟨.none, .none, (.store 1 (.t 5) (.t 17))⟩]
abbrev c_poundagelaw14_gone_g0 : ACode := (.block 1 (.seq (.seq (.ops c_poundagelaw14_gone_r4) (.cond (.t 13) (.exit 0) .skip)) (.ops c_poundagelaw14_gone_r5)))
abbrev c_poundagelaw14_gone_r6 : List AO := [⟨(.some 18), .none, (.load .none (.t 5))⟩,
  ⟨(.some 4), .none, (.mov (.t 18))⟩]
abbrev c_poundagelaw14_gone : AFunc := ⟨19, [(.tmp 4)], (.seq (.ops c_poundagelaw14_gone_r0) (.seq (.ops c_poundagelaw14_gone_r1) (.seq (.seq (.ops c_poundagelaw14_gone_r2) (.block 0 (.rangef (.t 8) [9] (.ops c_poundagelaw14_gone_r3) c_poundagelaw14_gone_g0))) (.seq (.ops c_poundagelaw14_gone_r6) .ret))))⟩
theorem comp_poundagelaw14_gone : funcC Try.prog 19 = some c_poundagelaw14_gone := by kernel_rfl
/-! function 20 : poundage line.Equal int  -/
abbrev f_line_Equal_int : FuncId := 20
abbrev c_line_Equal_int_r0 : List AO := [⟨(.some 2), .none, (.box 35 (.t 0))⟩,
  ⟨(.some 3), .none, (.box 35 (.t 1))⟩,
  ⟨(.some 4), .none, (.mov (.c (.d (.bool .false))))⟩]
abbrev c_line_Equal_int_r1 : List AO := [⟨(.some 5), .none, (.fieldAddr 0 (.t 2))⟩,
  ⟨(.some 6), .none, (.load .none (.t 5))⟩,
  ⟨(.some 7), .none, (.fieldAddr 0 (.t 3))⟩,
  ⟨(.some 8), .none, (.load .none (.t 7))⟩,
  ⟨(.some 9), .none, (.call 42 [(.t 6), (.t 8)])⟩,
  ⟨(.some 4), .none, (.mov (.t 9))⟩]
abbrev c_line_Equal_int : AFunc := ⟨10, [(.tmp 4)], (.seq (.ops c_line_Equal_int_r0) (.seq (.ops c_line_Equal_int_r1) .ret))⟩
theorem comp_line_Equal_int : funcC Try.prog 20 = some c_line_Equal_int := by kernel_rfl
/-! function 21 : poundage poundagelaw14.same -/
abbrev f_poundagelaw14_same : FuncId := 21
abbrev c_poundagelaw14_same_r0 : List AO := [⟨(.some 2), .none, (.box 35 (.t 0))⟩,
  ⟨(.some 3), .none, (.box 42 (.t 1))⟩,
  ⟨(.some 4), .none, (.mov (.c (.d (.bool .false))))⟩]
abbrev c_poundagelaw14_same_r1 : List AO := [⟨(.some 17), .none, (.load (.some 2) (.t 3))⟩,
  ⟨(.some 18), .none, (.call 22 [(.t 17)])⟩,
  ⟨(.some 5), .none, (.mov (.t 18))⟩]
abbrev c_poundagelaw14_same_r2 : List AO := [⟨(.some 19), .none, (.load (.some 1) (.t 2))⟩,
  ⟨(.some 20), .none, (.call 19 [(.t 19), (.c (.d (.int .i64 1000)))])⟩,
  ⟨(.some 6), .none, (.mov (.t 20))⟩]
abbrev c_poundagelaw14_same_r3 : List AO := [⟨(.some 22), .none, (.load (.some 1) (.t 2))⟩,
  ⟨(.some 23), .none, (.call 34 [(.t 22)])⟩,
  ⟨(.some 21), .none, (.mov (.t 23))⟩,
  ⟨(.some 24), .none, (.extract (.t 21) 0)⟩,
  ⟨(.some 25), .none, (.extract (.t 21) 1)⟩,
  ⟨(.some 26), .none, (.extract (.t 21) 2)⟩,
  ⟨(.some 7), .none, (.mov (.t 24))⟩,
  ⟨(.some 8), .none, (.mov (.t 25))⟩,
  ⟨(.some 9), .none, (.mov (.t 26))⟩]
abbrev c_poundagelaw14_same_r4 : List AO := [⟨(.some 27), .none, (.load (.some 1) (.t 2))⟩,
  ⟨(.some 28), .none, (.call 17 [(.t 27)])⟩,
  ⟨(.some 29), .none, (.mov (.t 5))⟩,
  ⟨(.some 30), .none, (.len (.t 29))⟩,
  ⟨(.some 31), .none, (.bin .neq (.t 28) (.t 30))⟩,
  ⟨(.some 32), .none, (.mov (.t 31))⟩,
  ⟨(.some 33), (.some ⟨32, .false⟩), (.mov (.t 6))⟩,
  ⟨(.some 34), (.some ⟨32, .false⟩), (.len (.t 33))⟩,
  ⟨(.some 35), (.some ⟨32, .false⟩), (.mov (.t 5))⟩,
  ⟨(.some 36), (.some ⟨32, .false⟩), (.len (.t 35))⟩,
  ⟨(.some 37), (.some ⟨32, .false⟩), (.bin .neq (.t 34) (.t 36))⟩,
  ⟨(.some 38), .none, (.pick (.t 32) (.c (.d (.bool .true))) (.t 37))⟩,
  ⟨(.some 39), .none, (.mov (.t 38))⟩,
  ⟨(.some 40), (.some ⟨39, .false⟩), (.mov (.t 9))⟩,
  ⟨(.some 41), (.some ⟨39, .false⟩), (.mov (.t 5))⟩,
  ⟨(.some 42), (.some ⟨39, .false⟩), (.len (.t 41))⟩,
  ⟨(.some 43), (.some ⟨39, .false⟩), (.bin .gtr (.t 42) (.c (.d (.int .i64 0))))⟩,
  ⟨(.some 44), (.some ⟨39, .false⟩), (.binb .true (.t 40) (.t 43))⟩,
  ⟨(.some 45), .none, (.pick (.t 39) (.c (.d (.bool .true))) (.t 44))⟩]
abbrev c_poundagelaw14_same_r5 : List AO := [⟨(.some 4), .none, (.mov (.c (.d (.bool .false))))⟩]
abbrev c_poundagelaw14_same_r6 : List AO := [⟨(.some 46), .none, (.mov (.t 9))⟩,
  ⟨(.some 47), .none, (.un .not (.t 46))⟩]
abbrev c_poundagelaw14_same_r7 : List AO := [⟨(.some 48), .none, (.mov (.t 7))⟩,
  ⟨(.some 49), .none, (.bin .eql (.t 48) (.c (.d (.int .i64 0))))⟩,
  ⟨(.some 50), .none, (.mov (.t 49))⟩,
  ⟨(.some 51), (.some ⟨50, .true⟩), (.mov (.t 8))⟩,
  ⟨(.some 52), (.some ⟨50, .true⟩), (.bin .eql (.t 51) (.c (.d (.int .i64 0))))⟩,
  ⟨(.some 53), .none, (.pick (.t 50) (.t 52) (.c (.d (.bool .false))))⟩,
  ⟨(.some 4), .none, (.mov (.t 53))⟩]
abbrev c_poundagelaw14_same_r8 : List AO := [⟨(.some 54), .none, (.mov (.t 6))⟩,
  ⟨(.some 55), .none, (.len (.t 54))⟩,
  ⟨(.some 56), .none, (.mov (.c (.d (.int .i64 0))))⟩]
abbrev c_poundagelaw14_same_r9 : List AO := [⟨(.some 57), .none, (.bin .lss (.t 56) (.t 55))⟩]
abbrev c_poundagelaw14_same_r10 : List AO := [⟨(.some 58), .none, (.mov (.t 56))⟩,
  ⟨(.some 59), .none, (.elemAddr 3 (.t 54) (.t 56))⟩,
  ⟨(.some 60), .none, (.load (.some 3) (.t 59))⟩,
  ⟨(.some 11), .none, (.alloc 69 [(.d (.int .i64 0)), (.d (.int .i64 0)), (.d (.int .i64 0))])⟩,
  ⟨(.some 10), .none, (.mov (.t 58))⟩,
  ⟨.none, .none, (.store 3 (.t 11) (.t 60))⟩]
abbrev c_poundagelaw14_same_r11 : List AO := [⟨(.some 61), .none, (.fieldAddr 0 (.t 11))⟩,
  ⟨(.some 63), .none, (.mov (.t 5))⟩,
  ⟨(.some 64), .none, (.mov (.t 10))⟩,
  ⟨(.some 65), .none, (.elemAddr 3 (.t 63) (.t 64))⟩,
  ⟨(.some 66), .none, (.fieldAddr 0 (.t 65))⟩,
  ⟨(.some 62), .none, (.load .none (.t 61))⟩,
  ⟨(.some 67), .none, (.load .none (.t 66))⟩,
  ⟨(.some 68), .none, (.bin .neq (.t 62) (.t 67))⟩,
  ⟨(.some 69), .none, (.mov (.t 68))⟩,
  ⟨(.some 70), (.some ⟨69, .false⟩), (.fieldAddr 1 (.t 11))⟩,
  ⟨(.some 72), (.some ⟨69, .false⟩), (.mov (.t 5))⟩,
  ⟨(.some 73), (.some ⟨69, .false⟩), (.mov (.t 10))⟩,
  ⟨(.some 74), (.some ⟨69, .false⟩), (.elemAddr 3 (.t 72) (.t 73))⟩,
  ⟨(.some 75), (.some ⟨69, .false⟩), (.fieldAddr 1 (.t 74))⟩,
  ⟨(.some 71), (.some ⟨69, .false⟩), (.load .none (.t 70))⟩,
  ⟨(.some 76), (.some ⟨69, .false⟩), (.load .none (.t 75))⟩,
  ⟨(.some 77), (.some ⟨69, .false⟩), (.bin .neq (.t 71) (.t 76))⟩,
  ⟨(.some 78), .none, (.pick (.t 69) (.c (.d (.bool .true))) (.t 77))⟩,
  ⟨(.some 79), .none, (.mov (.t 78))⟩,
  ⟨(.some 80), (.some ⟨79, .false⟩), (.fieldAddr 2 (.t 11))⟩,
  ⟨(.some 82), (.some ⟨79, .false⟩), (.mov (.t 5))⟩,
  ⟨(.some 83), (.some ⟨79, .false⟩), (.mov (.t 10))⟩,
  ⟨(.some 84), (.some ⟨79, .false⟩), (.elemAddr 3 (.t 82) (.t 83))⟩,
  ⟨(.some 85), (.some ⟨79, .false⟩), (.fieldAddr 2 (.t 84))⟩,
  ⟨(.some 81), (.some ⟨79, .false⟩), (.load .none (.t 80))⟩,
  ⟨(.some 86), (.some ⟨79, .false⟩), (.load .none (.t 85))⟩,
  ⟨(.some 87), (.some ⟨79, .false⟩), (.bin .neq (.t 81) (.t 86))⟩,
  ⟨(.some 88), .none, (.pick (.t 79) (.c (.d (.bool .true))) (.t 87))⟩]
abbrev c_poundagelaw14_same_r12 : List AO := [⟨(.some 4), .none, (.mov (.c (.d (.bool .false))))⟩]
abbrev c_poundagelaw14_same_r13 : List AO := [⟨(.some 89), .none, (.bin .add (.t 56) (.c (.d (.int .i64 1))))⟩,
  ⟨(.some 56), .none, (.mov (.t 89))⟩]
abbrev c_poundagelaw14_same_l0 : ACode := (.seq (.ops c_poundagelaw14_same_r9) (.seq (.cond (.t 57) .skip (.exit 0)) (.seq (.block 1 (.seq (.ops c_poundagelaw14_same_r10) (.seq (.dops c_poundagelaw14_same_r11) (.cond (.t 88) (.seq (.ops c_poundagelaw14_same_r12) .ret) .skip)))) (.ops c_poundagelaw14_same_r13))))
abbrev c_poundagelaw14_same_r14 : List AO := [⟨(.some 90), .none, (.fieldAddr 0 (.t 3))⟩,
  ⟨(.some 91), .none, (.load .none (.t 90))⟩,
  ⟨(.some 92), .none, (.bin .sub (.t 91) (.c (.d (.int .i64 2))))⟩,
  ⟨(.some 12), .none, (.mov (.t 92))⟩]
abbrev c_poundagelaw14_same_r15 : List AO := [⟨(.some 93), .none, (.mov (.t 12))⟩,
  ⟨(.some 94), .none, (.fieldAddr 0 (.t 3))⟩,
  ⟨(.some 95), .none, (.load .none (.t 94))⟩,
  ⟨(.some 96), .none, (.fieldAddr 1 (.t 3))⟩,
  ⟨(.some 97), .none, (.load .none (.t 96))⟩,
  ⟨(.some 98), .none, (.len (.t 97))⟩,
  ⟨(.some 99), .none, (.bin .add (.t 95) (.t 98))⟩,
  ⟨(.some 100), .none, (.bin .add (.t 99) (.c (.d (.int .i64 1))))⟩,
  ⟨(.some 101), .none, (.bin .leq (.t 93) (.t 100))⟩]
abbrev c_poundagelaw14_same_r16 : List AO := [⟨(.some 105), .none, (.load (.some 1) (.t 2))⟩,
  ⟨(.some 106), .none, (.mov (.t 12))⟩,
  ⟨(.some 107), .none, (.call 28 [(.t 105), (.t 106)])⟩,
  ⟨(.some 104), .none, (.mov (.t 107))⟩,
  ⟨(.some 108), .none, (.extract (.t 104) 0)⟩,
  ⟨(.some 109), .none, (.extract (.t 104) 1)⟩,
  ⟨(.some 13), .none, (.mov (.t 108))⟩,
  ⟨(.some 14), .none, (.mov (.t 109))⟩]
abbrev c_poundagelaw14_same_r17 : List AO := [⟨(.some 111), .none, (.load (.some 2) (.t 3))⟩,
  ⟨(.some 112), .none, (.mov (.t 12))⟩,
  ⟨(.some 113), .none, (.call 43 [(.t 111), (.t 112)])⟩,
  ⟨(.some 110), .none, (.mov (.t 113))⟩,
  ⟨(.some 114), .none, (.extract (.t 110) 0)⟩,
  ⟨(.some 115), .none, (.extract (.t 110) 1)⟩,
  ⟨(.some 15), .none, (.mov (.t 114))⟩,
  ⟨(.some 16), .none, (.mov (.t 115))⟩]
abbrev c_poundagelaw14_same_r18 : List AO := [⟨(.some 116), .none, (.mov (.t 13))⟩,
  ⟨(.some 117), .none, (.mov (.t 15))⟩,
  ⟨(.some 118), .none, (.bin .neq (.t 116) (.t 117))⟩,
  ⟨(.some 119), .none, (.mov (.t 118))⟩,
  ⟨(.some 120), (.some ⟨119, .false⟩), (.mov (.t 14))⟩,
  ⟨(.some 121), (.some ⟨119, .false⟩), (.mov (.t 16))⟩,
  ⟨(.some 122), (.some ⟨119, .false⟩), (.binb .true (.t 120) (.t 121))⟩,
  ⟨(.some 123), .none, (.pick (.t 119) (.c (.d (.bool .true))) (.t 122))⟩]
abbrev c_poundagelaw14_same_r19 : List AO := [⟨(.some 4), .none, (.mov (.c (.d (.bool .false))))⟩]
abbrev c_poundagelaw14_same_r20 : List AO := [⟨(.some 102), .none, (.mov (.t 12))⟩,
  ⟨(.some 103), .none, (.bin .add (.t 102) (.c (.d (.int .i64 1))))⟩,
  ⟨(.some 12), .none, (.mov (.t 103))⟩]
abbrev c_poundagelaw14_same_l1 : ACode := (.seq (.seq (.ops c_poundagelaw14_same_r15) (.cond (.t 101) .skip (.exit 2))) (.seq (.block 3 (.seq (.ops c_poundagelaw14_same_r16) (.seq (.ops c_poundagelaw14_same_r17) (.seq (.ops c_poundagelaw14_same_r18) (.cond (.t 123) (.seq (.ops c_poundagelaw14_same_r19) .ret) .skip))))) (.ops c_poundagelaw14_same_r20)))
abbrev c_poundagelaw14_same_r21 : List AO := [⟨(.some 124), .none, (.mov (.t 7))⟩,
  ⟨(.some 125), .none, (.fieldAddr 0 (.t 3))⟩,
  ⟨(.some 126), .none, (.load .none (.t 125))⟩,
  ⟨(.some 127), .none, (.bin .eql (.t 124) (.t 126))⟩,
  ⟨(.some 128), .none, (.mov (.t 127))⟩,
  ⟨(.some 129), (.some ⟨128, .true⟩), (.mov (.t 8))⟩,
  ⟨(.some 130), (.some ⟨128, .true⟩), (.fieldAddr 0 (.t 3))⟩,
  ⟨(.some 131), (.some ⟨128, .true⟩), (.load .none (.t 130))⟩,
  ⟨(.some 132), (.some ⟨128, .true⟩), (.fieldAddr 1 (.t 3))⟩,
  ⟨(.some 133), (.some ⟨128, .true⟩), (.load .none (.t 132))⟩,
  ⟨(.some 134), (.some ⟨128, .true⟩), (.len (.t 133))⟩,
  ⟨(.some 135), (.some ⟨128, .true⟩), (.bin .add (.t 131) (.t 134))⟩,
  ⟨(.some 136), (.some ⟨128, .true⟩), (.bin .sub (.t 135) (.c (.d (.int .i64 1))))⟩,
  ⟨(.some 137), (.some ⟨128, .true⟩), (.bin .eql (.t 129) (.t 136))⟩,
  ⟨(.some 138), .none, (.pick (.t 128) (.t 137) (.c (.d (.bool .false))))⟩,
  ⟨(.some 4), .none, (.mov (.t 138))⟩]
abbrev c_poundagelaw14_same : AFunc := ⟨139, [(.tmp 4)], (.seq (.ops c_poundagelaw14_same_r0) (.seq (.ops c_poundagelaw14_same_r1) (.seq (.ops c_poundagelaw14_same_r2) (.seq (.ops c_poundagelaw14_same_r3) (.seq (.seq (.ops c_poundagelaw14_same_r4) (.cond (.t 45) (.seq (.ops c_poundagelaw14_same_r5) .ret) .skip)) (.seq (.seq (.ops c_poundagelaw14_same_r6) (.cond (.t 47) (.seq (.ops c_poundagelaw14_same_r7) .ret) .skip)) (.seq (.seq (.ops c_poundagelaw14_same_r8) (.block 0 (.loop c_poundagelaw14_same_l0))) (.seq (.seq (.ops c_poundagelaw14_same_r14) (.block 2 (.loop c_poundagelaw14_same_l1))) (.seq (.ops c_poundagelaw14_same_r21) .ret)))))))))⟩
theorem comp_poundagelaw14_same : funcC Try.prog 21 = some c_poundagelaw14_same := by kernel_rfl
/-! function 22 :  poundage poundageref14.Line .Runs -/
abbrev f_poundageref14_Line_Runs : FuncId := 22
abbrev c_poundageref14_Line_Runs_r0 : List AO := [⟨(.some 1), .none, (.box 42 (.t 0))⟩,
  ⟨(.some 2), .none, (.mov (.c (.nilsl 0)))⟩]
abbrev c_poundageref14_Line_Runs_r1 : List AO := [⟨(.some 3), .none, (.mov (.c (.nilsl 0)))⟩]
abbrev c_poundageref14_Line_Runs_r2 : List AO := [⟨(.some 6), .none, (.fieldAddr 1 (.t 1))⟩,
  ⟨(.some 7), .none, (.load .none (.t 6))⟩,
  ⟨(.some 8), .none, (.len (.t 7))⟩,
  ⟨(.some 9), .none, (.mov (.c (.d (.int .i64 0))))⟩]
abbrev c_poundageref14_Line_Runs_r3 : List AO := [⟨(.some 10), .none, (.bin .lss (.t 9) (.t 8))⟩]
abbrev c_poundageref14_Line_Runs_r4 : List AO := [⟨(.some 11), .none, (.mov (.t 9))⟩,
  ⟨(.some 12), .none, (.elemAddr 1 (.t 7) (.t 9))⟩,
  ⟨(.some 13), .none, (.load .none (.t 12))⟩,
  ⟨(.some 4), .none, (.mov (.t 11))⟩,
  ⟨(.some 5), .none, (.mov (.t 13))⟩]
abbrev c_poundageref14_Line_Runs_r5 : List AO := [⟨(.some 14), .none, (.mov (.t 4))⟩,
  ⟨(.some 15), .none, (.bin .gtr (.t 14) (.c (.d (.int .i64 0))))⟩,
  ⟨(.some 16), .none, (.mov (.t 15))⟩,
  ⟨(.some 17), (.some ⟨16, .true⟩), (.fieldAddr 1 (.t 1))⟩,
  ⟨(.some 18), (.some ⟨16, .true⟩), (.load .none (.t 17))⟩,
  ⟨(.some 19), (.some ⟨16, .true⟩), (.mov (.t 4))⟩,
  ⟨(.some 20), (.some ⟨16, .true⟩), (.bin .sub (.t 19) (.c (.d (.int .i64 1))))⟩,
  ⟨(.some 21), (.some ⟨16, .true⟩), (.elemAddr 1 (.t 18) (.t 20))⟩,
  ⟨(.some 22), (.some ⟨16, .true⟩), (.load .none (.t 21))⟩,
  ⟨(.some 23), (.some ⟨16, .true⟩), (.mov (.t 5))⟩,
  ⟨(.some 24), (.some ⟨16, .true⟩), (.bin .eql (.t 22) (.t 23))⟩,
  ⟨(.some 25), .none, (.pick (.t 16) (.t 24) (.c (.d (.bool .false))))⟩]
abbrev c_poundageref14_Line_Runs_r6 : List AO := [⟨(.some 26), .none, (.mov (.t 3))⟩,
  ⟨(.some 27), .none, (.mov (.t 3))⟩,
  ⟨(.some 28), .none, (.len (.t 27))⟩,
  ⟨(.some 29), .none, (.bin .sub (.t 28) (.c (.d (.int .i64 1))))⟩,
  ⟨(.some 30), .none, (.fieldAddr 0 (.t 1))⟩,
  ⟨(.some 31), .none, (.load .none (.t 30))⟩,
  ⟨(.some 32), .none, (.mov (.t 4))⟩,
  ⟨(.some 33), .none, (.bin .add (.t 31) (.t 32))⟩,
  ⟨(.some 34), .none, (.elemAddr 3 (.t 26) (.t 29))⟩,
  ⟨(.some 35), .none, (.fieldAddr 1 (.t 34))⟩,
  ⟨.none, .none, (.store 1 (.t 35) (.t 33))⟩]
abbrev c_poundageref14_Line_Runs_r7 : List AO := [⟨(.some 36), .none, (.mov (.t 3))⟩,
  ⟨(.some 37), .none, (.fieldAddr 0 (.t 1))⟩,
  ⟨(.some 38), .none, (.load .none (.t 37))⟩,
  ⟨(.some 39), .none, (.mov (.t 4))⟩,
  ⟨(.some 40), .none, (.bin .add (.t 38) (.t 39))⟩,
  ⟨(.some 41), .none, (.fieldAddr 0 (.t 1))⟩,
  ⟨(.some 42), .none, (.load .none (.t 41))⟩,
  ⟨(.some 43), .none, (.mov (.t 4))⟩,
  ⟨(.some 44), .none, (.bin .add (.t 42) (.t 43))⟩,
  ⟨(.some 45), .none, (.mov (.t 5))⟩,
  ⟨(.some 46), .none, (.build [(.d (.int .i64 0)), (.d (.int .i64 0)), (.d (.int .i64 0))] [⟨0, ⟨1, (.t 40)⟩⟩, ⟨1, ⟨1, (.t 44)⟩⟩, ⟨2, ⟨1, (.t 45)⟩⟩])⟩,
  ⟨(.some 47), .none, (.buildSlice 78 3 1 [(.d (.int .i64 0)), (.d (.int .i64 0)), (.d (.int .i64 0))] [⟨0, (.t 46)⟩])⟩,
  ⟨(.some 48), .none, (.append 78 3 24 [(.d (.int .i64 0)), (.d (.int .i64 0)), (.d (.int .i64 0))] (.t 36) (.t 47))⟩,
  ⟨(.some 3), .none, (.mov (.t 48))⟩]
abbrev c_poundageref14_Line_Runs_r8 : List AO := [⟨(.some 49), .none, (.bin .add (.t 9) (.c (.d (.int .i64 1))))⟩,
  ⟨(.some 9), .none, (.mov (.t 49))⟩]
abbrev c_poundageref14_Line_Runs_l0 : ACode := (.seq (.ops c_poundageref14_Line_Runs_r3) (.seq (.cond (.t 10) .skip (.exit 0)) (.seq (.block 1 (.seq (.ops c_poundageref14_Line_Runs_r4) (.seq (.ops c_poundageref14_Line_Runs_r5) (.cond (.t 25) (.ops c_poundageref14_Line_Runs_r6) (.ops c_poundageref14_Line_Runs_r7))))) (.ops c_poundageref14_Line_Runs_r8))))
abbrev c_poundageref14_Line_Runs_r9 : List AO := [⟨(.some 50), .none, (.mov (.t 3))⟩,
  ⟨(.some 2), .none, (.mov (.t 50))⟩]
abbrev c_poundageref14_Line_Runs : AFunc := ⟨51, [(.tmp 2)], (.seq (.ops c_poundageref14_Line_Runs_r0) (.seq (.ops c_poundageref14_Line_Runs_r1) (.seq (.seq (.ops c_poundageref14_Line_Runs_r2) (.block 0 (.loop c_poundageref14_Line_Runs_l0))) (.seq (.ops c_poundageref14_Line_Runs_r9) .ret))))⟩
theorem comp_poundageref14_Line_Runs : funcC Try.prog 22 = some c_poundageref14_Line_Runs := by kernel_rfl
/-! function 23 : poundage line.Zip int int int  -/
abbrev f_line_Zip_int_int_int : FuncId := 23
abbrev c_line_Zip_int_int_int_r0 : List AO := [⟨(.some 3), .none, (.box 35 (.t 0))⟩,
  ⟨(.some 4), .none, (.box 35 (.t 1))⟩,
  ⟨(.some 6), .none, (.alloc 35 [(.nilsl 3)])⟩]
abbrev c_line_Zip_int_int_int_r1 : List AO := [⟨(.some 7), .none, (.alloc 35 [(.nilsl 3)])⟩]
abbrev c_line_Zip_int_int_int_r2 : List AO := [⟨(.some 8), .none, (.mov (.c (.d (.int .i64 0))))⟩,
  ⟨(.some 9), .none, (.mov (.c (.d (.int .i64 0))))⟩]
abbrev c_line_Zip_int_int_int_r3 : List AO := [⟨(.some 14), .none, (.mov (.t 8))⟩,
  ⟨(.some 15), .none, (.fieldAddr 0 (.t 3))⟩,
  ⟨(.some 16), .none, (.load .none (.t 15))⟩,
  ⟨(.some 17), .none, (.len (.t 16))⟩,
  ⟨(.some 18), .none, (.bin .lss (.t 14) (.t 17))⟩,
  ⟨(.some 19), .none, (.mov (.t 18))⟩,
  ⟨(.some 20), (.some ⟨19, .true⟩), (.mov (.t 9))⟩,
  ⟨(.some 21), (.some ⟨19, .true⟩), (.fieldAddr 0 (.t 4))⟩,
  ⟨(.some 22), (.some ⟨19, .true⟩), (.load .none (.t 21))⟩,
  ⟨(.some 23), (.some ⟨19, .true⟩), (.len (.t 22))⟩,
  ⟨(.some 24), (.some ⟨19, .true⟩), (.bin .lss (.t 20) (.t 23))⟩,
  ⟨(.some 25), .none, (.pick (.t 19) (.t 24) (.c (.d (.bool .false))))⟩]
abbrev c_line_Zip_int_int_int_r4 : List AO := [⟨(.some 26), .none, (.fieldAddr 0 (.t 3))⟩,
  ⟨(.some 28), .none, (.mov (.t 8))⟩,
  ⟨(.some 31), .none, (.fieldAddr 0 (.t 4))⟩,
  ⟨(.some 33), .none, (.mov (.t 9))⟩,
  ⟨(.some 27), .none, (.loadS .none (.t 26) [10, 11])⟩,
  ⟨(.some 29), .none, (.elemAddr 3 (.t 27) (.t 28))⟩,
  ⟨(.some 30), .none, (.loadS (.some 3) (.t 29) [10, 11])⟩,
  ⟨(.some 32), .none, (.loadS .none (.t 31) [10, 11])⟩,
  ⟨(.some 34), .none, (.elemAddr 3 (.t 32) (.t 33))⟩,
  ⟨(.some 35), .none, (.loadS (.some 3) (.t 34) [10, 11])⟩,
  ⟨(.some 10), .none, (.alloc 69 [(.d (.int .i64 0)), (.d (.int .i64 0)), (.d (.int .i64 0))])⟩,
  ⟨(.some 11), .none, (.alloc 69 [(.d (.int .i64 0)), (.d (.int .i64 0)), (.d (.int .i64 0))])⟩,
  ⟨.none, .none, (.storeS 3 10 (.t 30))⟩,
  ⟨.none, .none, (.storeS 3 11 (.t 35))⟩]
abbrev c_line_Zip_int_int_int_r5 : List AO := [⟨(.some 36), .none, (.fieldAddr 0 (.t 10))⟩,
  ⟨(.some 38), .none, (.fieldAddr 0 (.t 11))⟩,
  ⟨(.some 41), .none, (.fieldAddr 1 (.t 10))⟩,
  ⟨(.some 43), .none, (.fieldAddr 1 (.t 11))⟩,
  ⟨(.some 37), .none, (.load .none (.t 36))⟩,
  ⟨(.some 39), .none, (.load .none (.t 38))⟩,
  ⟨(.some 40), .none, (.minmax .true (.t 37) [(.t 39)])⟩,
  ⟨(.some 12), .none, (.mov (.t 40))⟩,
  ⟨(.some 42), .none, (.load .none (.t 41))⟩,
  ⟨(.some 44), .none, (.load .none (.t 43))⟩,
  ⟨(.some 45), .none, (.minmax .false (.t 42) [(.t 44)])⟩,
  ⟨(.some 13), .none, (.mov (.t 45))⟩]
abbrev c_line_Zip_int_int_int_r6 : List AO := [⟨(.some 46), .none, (.mov (.t 12))⟩,
  ⟨(.some 47), .none, (.mov (.t 13))⟩,
  ⟨(.some 48), .none, (.bin .leq (.t 46) (.t 47))⟩]
abbrev c_line_Zip_int_int_int_r7 : List AO := [⟨(.some 49), .none, (.mov (.t 12))⟩,
  ⟨(.some 50), .none, (.mov (.t 13))⟩,
  ⟨(.some 51), .none, (.mov (.t 2))⟩,
  ⟨(.some 52), .none, (.fieldAddr 2 (.t 10))⟩,
  ⟨(.some 53), .none, (.load .none (.t 52))⟩,
  ⟨(.some 54), .none, (.fieldAddr 2 (.t 11))⟩,
  ⟨(.some 55), .none, (.load .none (.t 54))⟩,
  ⟨(.some 56), .none, (.callv (.t 51) [(.t 53), (.t 55)])⟩,
  ⟨(.some 57), .none, (.build [(.d (.int .i64 0)), (.d (.int .i64 0)), (.d (.int .i64 0))] [⟨0, ⟨1, (.t 49)⟩⟩, ⟨1, ⟨1, (.t 50)⟩⟩, ⟨2, ⟨1, (.t 56)⟩⟩])⟩,
  ⟨(.some 58), .none, (.call 36 [(.t 7), (.t 57)])⟩]
abbrev c_line_Zip_int_int_int_r8 : List AO := [⟨(.some 59), .none, (.fieldAddr 1 (.t 10))⟩,
  ⟨(.some 60), .none, (.load .none (.t 59))⟩,
  ⟨(.some 61), .none, (.fieldAddr 1 (.t 11))⟩,
  ⟨(.some 62), .none, (.load .none (.t 61))⟩,
  ⟨(.some 63), .none, (.bin .leq (.t 60) (.t 62))⟩]
abbrev c_line_Zip_int_int_int_r9 : List AO := [⟨(.some 64), .none, (.mov (.t 8))⟩,
  ⟨(.some 65), .none, (.bin .add (.t 64) (.c (.d (.int .i64 1))))⟩,
  ⟨(.some 8), .none, (.mov (.t 65))⟩]
abbrev c_line_Zip_int_int_int_r10 : List AO := [⟨(.some 66), .none, (.fieldAddr 1 (.t 11))⟩,
  ⟨(.some 67), .none, (.load .none (.t 66))⟩,
  ⟨(.some 68), .none, (.fieldAddr 1 (.t 10))⟩,
  ⟨(.some 69), .none, (.load .none (.t 68))⟩,
  ⟨(.some 70), .none, (.bin .leq (.t 67) (.t 69))⟩]
abbrev c_line_Zip_int_int_int_r11 : List AO := [⟨(.some 71), .none, (.mov (.t 9))⟩,
  ⟨(.some 72), .none, (.bin .add (.t 71) (.c (.d (.int .i64 1))))⟩,
  ⟨(.some 9), .none, (.mov (.t 72))⟩]
abbrev c_line_Zip_int_int_int_l0 : ACode := (.seq (.seq (.ops c_line_Zip_int_int_int_r3) (.cond (.t 25) .skip (.exit 0))) (.block 1 (.seq (.dops c_line_Zip_int_int_int_r4) (.seq (.dops c_line_Zip_int_int_int_r5) (.seq (.seq (.ops c_line_Zip_int_int_int_r6) (.cond (.t 48) (.ops c_line_Zip_int_int_int_r7) .skip)) (.seq (.seq (.ops c_line_Zip_int_int_int_r8) (.cond (.t 63) (.ops c_line_Zip_int_int_int_r9) .skip)) (.seq (.ops c_line_Zip_int_int_int_r10) (.cond (.t 70) (.ops c_line_Zip_int_int_int_r11) .skip))))))))
abbrev c_line_Zip_int_int_int_r12 : List AO := [⟨(.some 73), .none, (.load (.some 1) (.t 7))⟩,
  ⟨.none, .none, (.store 1 (.t 6) (.t 73))⟩]
abbrev c_line_Zip_int_int_int : AFunc := ⟨74, [(.cell 6 (.some 1))], (.seq (.ops c_line_Zip_int_int_int_r0) (.seq (.ops c_line_Zip_int_int_int_r1) (.seq (.ops c_line_Zip_int_int_int_r2) (.seq (.block 0 (.loop c_line_Zip_int_int_int_l0)) (.seq (.ops c_line_Zip_int_int_int_r12) .ret)))))⟩
theorem comp_line_Zip_int_int_int : funcC Try.prog 23 = some c_line_Zip_int_int_int := by kernel_rfl
/-! function 24 : poundage poundageref14.Mix -/
abbrev f_poundageref14_Mix : FuncId := 24
abbrev c_poundageref14_Mix_r0 : List AO := [⟨(.some 4), .none, (.mov (.c (.d (.int .i64 0))))⟩]
abbrev c_poundageref14_Mix_r1 : List AO := [⟨(.some 5), .none, (.mov (.t 0))⟩,
  ⟨(.some 6), .none, (.bin .rem (.t 5) (.c (.d (.int .i64 1000))))⟩,
  ⟨(.some 7), .none, (.bin .mul (.c (.d (.int .i64 2))) (.t 6))⟩,
  ⟨(.some 8), .none, (.mov (.t 1))⟩,
  ⟨(.some 9), .none, (.bin .rem (.t 8) (.c (.d (.int .i64 1000))))⟩,
  ⟨(.some 10), .none, (.bin .mul (.c (.d (.int .i64 3))) (.t 9))⟩,
  ⟨(.some 11), .none, (.bin .add (.t 7) (.t 10))⟩,
  ⟨(.some 12), .none, (.bin .rem (.t 11) (.c (.d (.int .i64 5))))⟩,
  ⟨(.some 4), .none, (.mov (.t 12))⟩]
abbrev c_poundageref14_Mix : AFunc := ⟨13, [(.tmp 4)], (.seq (.ops c_poundageref14_Mix_r0) (.seq (.ops c_poundageref14_Mix_r1) .ret))⟩
theorem comp_poundageref14_Mix : funcC Try.prog 24 = some c_poundageref14_Mix := by kernel_rfl
/-! function 25 : poundage poundageref14.Zip -/
abbrev f_poundageref14_Zip : FuncId := 25
abbrev c_poundageref14_Zip_r0 : List AO := [⟨(.some 2), .none, (.box 42 (.t 0))⟩,
  ⟨(.some 3), .none, (.box 42 (.t 1))⟩,
  ⟨(.some 4), .none, (.alloc 42 [(.d (.int .i64 0)), (.nilsl 1)])⟩]
abbrev c_poundageref14_Zip_r1 : List AO := [⟨(.some 11), .none, (.fieldAddr 0 (.t 2))⟩,
  ⟨(.some 12), .none, (.load .none (.t 11))⟩,
  ⟨(.some 13), .none, (.fieldAddr 0 (.t 3))⟩,
  ⟨(.some 14), .none, (.load .none (.t 13))⟩,
  ⟨(.some 15), .none, (.minmax .true (.t 12) [(.t 14)])⟩,
  ⟨(.some 16), .none, (.build [(.d (.int .i64 0)), (.nilsl 1)] [⟨0, ⟨1, (.t 15)⟩⟩])⟩,
  ⟨(.some 5), .none, (.alloc 42 [(.d (.int .i64 0)), (.nilsl 1)])⟩,
  ⟨.none, .none, (.store 2 (.t 5) (.t 16))⟩]
abbrev c_poundageref14_Zip_r2 : List AO := [⟨(.some 17), .none, (.fieldAddr 0 (.t 5))⟩,
  ⟨(.some 18), .none, (.load .none (.t 17))⟩,
  ⟨(.some 6), .none, (.mov (.t 18))⟩]
abbrev c_poundageref14_Zip_r3 : List AO := [⟨(.some 22), .none, (.load (.some 2) (.t 2))⟩,
  ⟨(.some 23), .none, (.mov (.t 6))⟩,
  ⟨(.some 24), .none, (.call 43 [(.t 22), (.t 23)])⟩,
  ⟨(.some 21), .none, (.mov (.t 24))⟩,
  ⟨(.some 25), .none, (.extract (.t 21) 0)⟩,
  ⟨(.some 26), .none, (.extract (.t 21) 1)⟩,
  ⟨(.some 7), .none, (.mov (.t 25))⟩,
  ⟨(.some 8), .none, (.mov (.t 26))⟩]
abbrev c_poundageref14_Zip_r4 : List AO := [⟨(.some 28), .none, (.load (.some 2) (.t 3))⟩,
  ⟨(.some 29), .none, (.mov (.t 6))⟩,
  ⟨(.some 30), .none, (.call 43 [(.t 28), (.t 29)])⟩,
  ⟨(.some 27), .none, (.mov (.t 30))⟩,
  ⟨(.some 31), .none, (.extract (.t 27) 0)⟩,
  ⟨(.some 32), .none, (.extract (.t 27) 1)⟩,
  ⟨(.some 9), .none, (.mov (.t 31))⟩,
  ⟨(.some 10), .none, (.mov (.t 32))⟩]
abbrev c_poundageref14_Zip_r5 : List AO := [⟨(.some 33), .none, (.mov (.t 8))⟩,
  ⟨(.some 34), .none, (.un .not (.t 33))⟩,
  ⟨(.some 35), .none, (.mov (.t 34))⟩,
  ⟨(.some 36), (.some ⟨35, .false⟩), (.mov (.t 10))⟩,
  ⟨(.some 37), (.some ⟨35, .false⟩), (.un .not (.t 36))⟩,
  ⟨(.some 38), .none, (.pick (.t 35) (.c (.d (.bool .true))) (.t 37))⟩]
abbrev c_poundageref14_Zip_r6 : List AO := [⟨(.some 39), .none, (.load (.some 2) (.t 5))⟩,
  ⟨.none, .none, (.store 2 (.t 4) (.t 39))⟩]
abbrev c_poundageref14_Zip_r7 : List AO := [⟨(.some 40), .none, (.fieldAddr 1 (.t 5))⟩,
  ⟨(.some 42), .none, (.mov (.t 7))⟩,
  ⟨(.some 43), .none, (.mov (.t 9))⟩,
  ⟨(.some 41), .none, (.load .none (.t 40))⟩,
  ⟨(.some 44), .none, (.pcall 24 [(.t 42), (.t 43)])⟩,
  ⟨(.some 45), .none, (.buildSliceD 3 1 1 [(.d (.int .i64 0))] [⟨0, (.t 44)⟩])⟩,
  ⟨(.some 46), .none, (.append 3 1 8 [(.d (.int .i64 0))] (.t 41) (.t 45))⟩,
  ⟨(.some 47), .none, (.fieldAddr 1 (.t 5))⟩,
  ⟨.none, .none, (.store 1 (.t 47) (.t 46))⟩]
abbrev c_poundageref14_Zip_r8 : List AO := [⟨(.some 19), .none, (.mov (.t 6))⟩,
  ⟨(.some 20), .none, (.bin .add (.t 19) (.c (.d (.int .i64 1))))⟩,
  ⟨(.some 6), .none, (.mov (.t 20))⟩]
abbrev c_poundageref14_Zip_l0 : ACode := (.seq (.block 1 (.seq (.ops c_poundageref14_Zip_r3) (.seq (.ops c_poundageref14_Zip_r4) (.seq (.seq (.ops c_poundageref14_Zip_r5) (.cond (.t 38) (.seq (.ops c_poundageref14_Zip_r6) .ret) .skip)) (.dops c_poundageref14_Zip_r7))))) (.ops c_poundageref14_Zip_r8))
abbrev c_poundageref14_Zip : AFunc := ⟨48, [(.cell 4 (.some 2))], (.seq (.ops c_poundageref14_Zip_r0) (.seq (.ops c_poundageref14_Zip_r1) (.seq (.ops c_poundageref14_Zip_r2) (.block 0 (.loop c_poundageref14_Zip_l0)))))⟩
theorem comp_poundageref14_Zip : funcC Try.prog 25 = some c_poundageref14_Zip := by kernel_rfl
/-! function 26 : poundage line.Map int int  -/
abbrev f_line_Map_int_int : FuncId := 26
abbrev c_line_Map_int_int_r0 : List AO := [⟨(.some 2), .none, (.box 35 (.t 0))⟩,
  ⟨(.some 4), .none, (.alloc 35 [(.nilsl 3)])⟩]
abbrev c_line_Map_int_int_r1 : List AO := [⟨(.some 5), .none, (.alloc 35 [(.nilsl 3)])⟩]
abbrev c_line_Map_int_int_r2 : List AO := [⟨(.some 8), .none, (.fieldAddr 0 (.t 2))⟩,
  ⟨(.some 9), .none, (.load .none (.t 8))⟩,
  ⟨(.some 10), .none, (.len (.t 9))⟩,
  ⟨(.some 11), .none, (.mov (.c (.d (.int .i64 0))))⟩]
abbrev c_line_Map_int_int_r3 : List AO := [⟨(.some 12), .none, (.bin .lss (.t 11) (.t 10))⟩]
abbrev c_line_Map_int_int_r4 : List AO := [⟨(.some 13), .none, (.elemAddr 3 (.t 9) (.t 11))⟩,
  ⟨(.some 14), .none, (.load (.some 3) (.t 13))⟩,
  ⟨(.some 7), .none, (.alloc 69 [(.d (.int .i64 0)), (.d (.int .i64 0)), (.d (.int .i64 0))])⟩,
  ⟨.none, .none, (.store 3 (.t 7) (.t 14))⟩]
abbrev c_line_Map_int_int_r5 : List AO := [⟨(.some 15), .none, (.fieldAddr 0 (.t 7))⟩,
  ⟨(.some 17), .none, (.fieldAddr 1 (.t 7))⟩,
  ⟨(.some 19), .none, (.mov (.t 1))⟩,
  ⟨(.some 20), .none, (.fieldAddr 2 (.t 7))⟩,
  ⟨(.some 16), .none, (.load .none (.t 15))⟩,
  ⟨(.some 18), .none, (.load .none (.t 17))⟩,
  ⟨(.some 21), .none, (.load .none (.t 20))⟩,
  ⟨(.some 22), .none, (.pcallv (.t 19) [(.t 21)])⟩,
  ⟨(.some 23), .none, (.build [(.d (.int .i64 0)), (.d (.int .i64 0)), (.d (.int .i64 0))] [⟨0, ⟨1, (.t 16)⟩⟩, ⟨1, ⟨1, (.t 18)⟩⟩, ⟨2, ⟨1, (.t 22)⟩⟩])⟩,
  ⟨(.some 24), .none, (.call 36 [(.t 5), (.t 23)])⟩]
abbrev c_line_Map_int_int_r6 : List AO := [⟨(.some 25), .none, (.bin .add (.t 11) (.c (.d (.int .i64 1))))⟩,
  ⟨(.some 11), .none, (.mov (.t 25))⟩]
abbrev c_line_Map_int_int_l0 : ACode := (.seq (.ops c_line_Map_int_int_r3) (.seq (.cond (.t 12) .skip (.exit 0)) (.seq (.block 1 (.seq (.ops c_line_Map_int_int_r4) (.dops c_line_Map_int_int_r5))) (.ops c_line_Map_int_int_r6))))
abbrev c_line_Map_int_int_r7 : List AO := [⟨(.some 26), .none, (.load (.some 1) (.t 5))⟩,
  ⟨.none, .none, (.store 1 (.t 4) (.t 26))⟩]
abbrev c_line_Map_int_int : AFunc := ⟨27, [(.cell 4 (.some 1))], (.seq (.ops c_line_Map_int_int_r0) (.seq (.ops c_line_Map_int_int_r1) (.seq (.seq (.ops c_line_Map_int_int_r2) (.block 0 (.loop c_line_Map_int_int_l0))) (.seq (.ops c_line_Map_int_int_r7) .ret))))⟩
theorem comp_line_Map_int_int : funcC Try.prog 26 = some c_line_Map_int_int := by kernel_rfl
/-! function 27 : poundage poundagelaw14.LineMaps 1 -/
abbrev f_poundagelaw14_LineMaps_1 : FuncId := 27
abbrev c_poundagelaw14_LineMaps_1_r0 : List AO := [⟨(.some 2), .none, (.mov (.c (.d (.int .i64 0))))⟩]
abbrev c_poundagelaw14_LineMaps_1_r1 : List AO := [⟨(.some 3), .none, (.mov (.t 0))⟩,
  ⟨(.some 4), .none, (.bin .quo (.t 3) (.c (.d (.int .i64 2))))⟩,
  ⟨(.some 2), .none, (.mov (.t 4))⟩]
abbrev c_poundagelaw14_LineMaps_1 : AFunc := ⟨5, [(.tmp 2)], (.seq (.ops c_poundagelaw14_LineMaps_1_r0) (.seq (.ops c_poundagelaw14_LineMaps_1_r1) .ret))⟩
theorem comp_poundagelaw14_LineMaps_1 : funcC Try.prog 27 = some c_poundagelaw14_LineMaps_1 := by kernel_rfl
/-! function 28 :  poundage line.Line int .At -/
abbrev f_line_Line_int_At : FuncId := 28
abbrev c_line_Line_int_At_r0 : List AO := [⟨(.some 2), .none, (.box 35 (.t 0))⟩,
  ⟨(.some 4), .none, (.mov (.c (.d (.int .i64 0))))⟩,
  ⟨(.some 5), .none, (.mov (.c (.d (.bool .false))))⟩]
abbrev c_line_Line_int_At_r1 : List AO := [⟨(.some 10), .none, (.fieldAddr 0 (.t 2))⟩,
  ⟨(.some 11), .none, (.load .none (.t 10))⟩,
  ⟨(.some 12), .none, (.mov (.t 1))⟩,
  ⟨(.some 13), .none, (.call 44 [(.t 11), (.t 12), (.c (.fn 45 []))])⟩,
  ⟨(.some 9), .none, (.mov (.t 13))⟩,
  ⟨(.some 14), .none, (.extract (.t 9) 0)⟩,
  ⟨(.some 15), .none, (.extract (.t 9) 1)⟩,
  ⟨(.some 6), .none, (.mov (.t 14))⟩,
  ⟨(.some 7), .none, (.mov (.t 15))⟩]
abbrev c_line_Line_int_At_r2 : List AO := [⟨(.some 16), .none, (.mov (.t 6))⟩,
  ⟨(.some 17), .none, (.fieldAddr 0 (.t 2))⟩,
  ⟨(.some 18), .none, (.load .none (.t 17))⟩,
  ⟨(.some 19), .none, (.len (.t 18))⟩,
  ⟨(.some 20), .none, (.bin .lss (.t 16) (.t 19))⟩,
  ⟨(.some 21), .none, (.mov (.t 20))⟩,
  ⟨(.some 22), (.some ⟨21, .true⟩), (.fieldAddr 0 (.t 2))⟩,
  ⟨(.some 23), (.some ⟨21, .true⟩), (.load .none (.t 22))⟩,
  ⟨(.some 24), (.some ⟨21, .true⟩), (.mov (.t 6))⟩,
  ⟨(.some 25), (.some ⟨21, .true⟩), (.elemAddr 3 (.t 23) (.t 24))⟩,
  ⟨(.some 26), (.some ⟨21, .true⟩), (.fieldAddr 0 (.t 25))⟩,
  ⟨(.some 27), (.some ⟨21, .true⟩), (.load .none (.t 26))⟩,
  ⟨(.some 28), (.some ⟨21, .true⟩), (.mov (.t 1))⟩,
  ⟨(.some 29), (.some ⟨21, .true⟩), (.bin .leq (.t 27) (.t 28))⟩,
  ⟨(.some 30), .none, (.pick (.t 21) (.t 29) (.c (.d (.bool .false))))⟩]
abbrev c_line_Line_int_At_r3 : List AO := [⟨(.some 31), .none, (.fieldAddr 0 (.t 2))⟩,
  ⟨(.some 32), .none, (.load .none (.t 31))⟩,
  ⟨(.some 33), .none, (.mov (.t 6))⟩,
  ⟨(.some 34), .none, (.elemAddr 3 (.t 32) (.t 33))⟩,
  ⟨(.some 35), .none, (.fieldAddr 2 (.t 34))⟩,
  ⟨(.some 36), .none, (.load .none (.t 35))⟩,
  ⟨(.some 4), .none, (.mov (.t 36))⟩,
  ⟨(.some 5), .none, (.mov (.c (.d (.bool .true))))⟩]
abbrev c_line_Line_int_At_r4 : List AO := [⟨(.some 8), .none, (.mov (.c (.d (.int .i64 0))))⟩]
abbrev c_line_Line_int_At_r5 : List AO := [⟨(.some 37), .none, (.mov (.t 8))⟩,
  ⟨(.some 4), .none, (.mov (.t 37))⟩,
  ⟨(.some 5), .none, (.mov (.c (.d (.bool .false))))⟩]
abbrev c_line_Line_int_At : AFunc := ⟨38, [(.tmp 4), (.tmp 5)], (.seq (.ops c_line_Line_int_At_r0) (.seq (.ops c_line_Line_int_At_r1) (.seq (.seq (.ops c_line_Line_int_At_r2) (.cond (.t 30) (.seq (.ops c_line_Line_int_At_r3) .ret) .skip)) (.seq (.ops c_line_Line_int_At_r4) (.seq (.ops c_line_Line_int_At_r5) .ret)))))⟩
theorem comp_line_Line_int_At : funcC Try.prog 28 = some c_line_Line_int_At := by kernel_rfl
/-! function 29 : poundage poundagelaw14.LineAgain 1 -/
abbrev f_poundagelaw14_LineAgain_1 : FuncId := 29
abbrev c_poundagelaw14_LineAgain_1_r0 : List AO := [⟨(.some 2), .none, (.mov (.c (.d (.int .i64 0))))⟩]
abbrev c_poundagelaw14_LineAgain_1_r1 : List AO := [⟨(.some 3), .none, (.mov (.t 0))⟩,
  ⟨(.some 2), .none, (.mov (.t 3))⟩]
abbrev c_poundagelaw14_LineAgain_1 : AFunc := ⟨4, [(.tmp 2)], (.seq (.ops c_poundagelaw14_LineAgain_1_r0) (.seq (.ops c_poundagelaw14_LineAgain_1_r1) .ret))⟩
theorem comp_poundagelaw14_LineAgain_1 : funcC Try.prog 29 = some c_poundagelaw14_LineAgain_1 := by kernel_rfl
/-! function 30 : poundage poundagelaw14.LineAgain 2 -/
abbrev f_poundagelaw14_LineAgain_2 : FuncId := 30
abbrev c_poundagelaw14_LineAgain_2_r0 : List AO := [⟨(.some 4), .none, (.mov (.c (.d (.int .i64 0))))⟩]
abbrev c_poundagelaw14_LineAgain_2_r1 : List AO := [⟨(.some 5), .none, (.mov (.t 0))⟩,
  ⟨(.some 4), .none, (.mov (.t 5))⟩]
abbrev c_poundagelaw14_LineAgain_2 : AFunc := ⟨6, [(.tmp 4)], (.seq (.ops c_poundagelaw14_LineAgain_2_r0) (.seq (.ops c_poundagelaw14_LineAgain_2_r1) .ret))⟩
theorem comp_poundagelaw14_LineAgain_2 : funcC Try.prog 30 = some c_poundagelaw14_LineAgain_2 := by kernel_rfl
/-! function 31 : poundage line.Fill int  -/
abbrev f_line_Fill_int : FuncId := 31
abbrev c_line_Fill_int_r0 : List AO := [⟨(.some 4), .none, (.box 35 (.t 0))⟩,
  ⟨(.some 8), .none, (.alloc 35 [(.nilsl 3)])⟩]
abbrev c_line_Fill_int_r1 : List AO := [⟨(.some 9), .none, (.alloc 35 [(.nilsl 3)])⟩]
abbrev c_line_Fill_int_r2 : List AO := [⟨(.some 14), .none, (.fieldAddr 0 (.t 4))⟩,
  ⟨(.some 15), .none, (.load .none (.t 14))⟩,
  ⟨(.some 16), .none, (.len (.t 15))⟩,
  ⟨(.some 17), .none, (.mov (.c (.d (.int .i64 0))))⟩]
abbrev c_line_Fill_int_r3 : List AO := [⟨(.some 18), .none, (.bin .lss (.t 17) (.t 16))⟩]
abbrev c_line_Fill_int_r4 : List AO := [⟨(.some 19), .none, (.elemAddr 3 (.t 15) (.t 17))⟩,
  ⟨(.some 20), .none, (.load (.some 3) (.t 19))⟩,
  ⟨(.some 11), .none, (.alloc 69 [(.d (.int .i64 0)), (.d (.int .i64 0)), (.d (.int .i64 0))])⟩,
  ⟨.none, .none, (.store 3 (.t 11) (.t 20))⟩]
abbrev c_line_Fill_int_r5 : List AO := [⟨(.some 21), .none, (.fieldAddr 0 (.t 11))⟩,
  ⟨(.some 23), .none, (.mov (.t 1))⟩,
  ⟨(.some 25), .none, (.fieldAddr 1 (.t 11))⟩,
  ⟨(.some 27), .none, (.mov (.t 2))⟩,
  ⟨(.some 22), .none, (.load .none (.t 21))⟩,
  ⟨(.some 24), .none, (.minmax .true (.t 22) [(.t 23)])⟩,
  ⟨(.some 12), .none, (.mov (.t 24))⟩,
  ⟨(.some 26), .none, (.load .none (.t 25))⟩,
  ⟨(.some 28), .none, (.minmax .false (.t 26) [(.t 27)])⟩,
  ⟨(.some 13), .none, (.mov (.t 28))⟩]
abbrev c_line_Fill_int_r6 : List AO := [⟨(.some 29), .none, (.mov (.t 12))⟩,
  ⟨(.some 30), .none, (.mov (.t 13))⟩,
  ⟨(.some 31), .none, (.bin .gtr (.t 29) (.t 30))⟩]
abbrev c_line_Fill_int_r7 : List AO := [⟨(.some 32), .none, (.load (.some 3) (.t 11))⟩,
  ⟨(.some 33), .none, (.call 36 [(.t 9), (.t 32)])⟩]
abbrev c_line_Fill_int_r8 : List AO := [⟨(.some 34), .none, (.fieldAddr 0 (.t 11))⟩,
  ⟨(.some 35), .none, (.load .none (.t 34))⟩,
  ⟨(.some 36), .none, (.mov (.t 12))⟩,
  ⟨(.some 37), .none, (.bin .lss (.t 35) (.t 36))⟩]
abbrev c_line_Fill_int_r9 : List AO := [⟨(.some 38), .none, (.fieldAddr 0 (.t 11))⟩,
  ⟨(.some 39), .none, (.load .none (.t 38))⟩,
  ⟨(.some 40), .none, (.mov (.t 12))⟩,
  ⟨(.some 41), .none, (.bin .sub (.t 40) (.c (.d (.int .i64 1))))⟩,
  ⟨(.some 42), .none, (.fieldAddr 2 (.t 11))⟩,
  ⟨(.some 43), .none, (.load .none (.t 42))⟩,
  ⟨(.some 44), .none, (.build [(.d (.int .i64 0)), (.d (.int .i64 0)), (.d (.int .i64 0))] [⟨0, ⟨1, (.t 39)⟩⟩, ⟨1, ⟨1, (.t 41)⟩⟩, ⟨2, ⟨1, (.t 43)⟩⟩])⟩,
  ⟨(.some 45), .none, (.call 36 [(.t 9), (.t 44)])⟩]
abbrev c_line_Fill_int_r10 : List AO := [⟨(.some 46), .none, (.mov (.t 12))⟩,
  ⟨(.some 47), .none, (.mov (.t 13))⟩,
  ⟨(.some 48), .none, (.mov (.t 3))⟩,
  ⟨(.some 49), .none, (.build [(.d (.int .i64 0)), (.d (.int .i64 0)), (.d (.int .i64 0))] [⟨0, ⟨1, (.t 46)⟩⟩, ⟨1, ⟨1, (.t 47)⟩⟩, ⟨2, ⟨1, (.t 48)⟩⟩])⟩,
  ⟨(.some 50), .none, (.call 36 [(.t 9), (.t 49)])⟩]
abbrev c_line_Fill_int_r11 : List AO := [⟨(.some 51), .none, (.mov (.t 13))⟩,
  ⟨(.some 52), .none, (.fieldAddr 1 (.t 11))⟩,
  ⟨(.some 53), .none, (.load .none (.t 52))⟩,
  ⟨(.some 54), .none, (.bin .lss (.t 51) (.t 53))⟩]
abbrev c_line_Fill_int_r12 : List AO := [⟨(.some 55), .none, (.mov (.t 13))⟩,
  ⟨(.some 56), .none, (.bin .add (.t 55) (.c (.d (.int .i64 1))))⟩,
  ⟨(.some 57), .none, (.fieldAddr 1 (.t 11))⟩,
  ⟨(.some 58), .none, (.load .none (.t 57))⟩,
  ⟨(.some 59), .none, (.fieldAddr 2 (.t 11))⟩,
  ⟨(.some 60), .none, (.load .none (.t 59))⟩,
  ⟨(.some 61), .none, (.build [(.d (.int .i64 0)), (.d (.int .i64 0)), (.d (.int .i64 0))] [⟨0, ⟨1, (.t 56)⟩⟩, ⟨1, ⟨1, (.t 58)⟩⟩, ⟨2, ⟨1, (.t 60)⟩⟩])⟩,
  ⟨(.some 62), .none, (.call 36 [(.t 9), (.t 61)])⟩]
abbrev c_line_Fill_int_r13 : List AO := [⟨(.some 63), .none, (.bin .add (.t 17) (.c (.d (.int .i64 1))))⟩,
  ⟨(.some 17), .none, (.mov (.t 63))⟩]
abbrev c_line_Fill_int_l0 : ACode := (.seq (.ops c_line_Fill_int_r3) (.seq (.cond (.t 18) .skip (.exit 0)) (.seq (.block 1 (.seq (.ops c_line_Fill_int_r4) (.seq (.dops c_line_Fill_int_r5) (.seq (.seq (.ops c_line_Fill_int_r6) (.cond (.t 31) (.seq (.ops c_line_Fill_int_r7) (.exit 1)) .skip)) (.seq (.seq (.ops c_line_Fill_int_r8) (.cond (.t 37) (.ops c_line_Fill_int_r9) .skip)) (.seq (.ops c_line_Fill_int_r10) (.seq (.ops c_line_Fill_int_r11) (.cond (.t 54) (.ops c_line_Fill_int_r12) .skip)))))))) (.ops c_line_Fill_int_r13))))
abbrev c_line_Fill_int_r14 : List AO := [⟨(.some 64), .none, (.load (.some 1) (.t 9))⟩,
  ⟨.none, .none, (.store 1 (.t 8) (.t 64))⟩]
abbrev c_line_Fill_int : AFunc := ⟨65, [(.cell 8 (.some 1))], (.seq (.ops c_line_Fill_int_r0) (.seq (.ops c_line_Fill_int_r1) (.seq (.seq (.ops c_line_Fill_int_r2) (.block 0 (.loop c_line_Fill_int_l0))) (.seq (.ops c_line_Fill_int_r14) .ret))))⟩
theorem comp_line_Fill_int : funcC Try.prog 31 = some c_line_Fill_int := by kernel_rfl
/-! function 32 :  poundage poundageref14.Line .Fill -/
abbrev f_poundageref14_Line_Fill : FuncId := 32
abbrev c_poundageref14_Line_Fill_r0 : List AO := [⟨(.some 4), .none, (.box 42 (.t 0))⟩,
  ⟨(.some 8), .none, (.alloc 42 [(.d (.int .i64 0)), (.nilsl 1)])⟩]
abbrev c_poundageref14_Line_Fill_r1 : List AO := [⟨(.some 12), .none, (.fieldAddr 0 (.t 4))⟩,
  ⟨(.some 13), .none, (.load .none (.t 12))⟩,
  ⟨(.some 14), .none, (.build [(.d (.int .i64 0)), (.nilsl 1)] [⟨0, ⟨1, (.t 13)⟩⟩])⟩,
  ⟨(.some 9), .none, (.alloc 42 [(.d (.int .i64 0)), (.nilsl 1)])⟩,
  ⟨.none, .none, (.store 2 (.t 9) (.t 14))⟩]
abbrev c_poundageref14_Line_Fill_r2 : List AO := [⟨(.some 15), .none, (.fieldAddr 1 (.t 4))⟩,
  ⟨(.some 16), .none, (.load .none (.t 15))⟩,
  ⟨(.some 17), .none, (.len (.t 16))⟩,
  ⟨(.some 18), .none, (.mov (.c (.d (.int .i64 0))))⟩]
abbrev c_poundageref14_Line_Fill_r3 : List AO := [⟨(.some 19), .none, (.bin .lss (.t 18) (.t 17))⟩]
abbrev c_poundageref14_Line_Fill_r4 : List AO := [⟨(.some 20), .none, (.mov (.t 18))⟩,
  ⟨(.some 21), .none, (.elemAddr 1 (.t 16) (.t 18))⟩,
  ⟨(.some 22), .none, (.load .none (.t 21))⟩,
  ⟨(.some 10), .none, (.mov (.t 20))⟩,
  ⟨(.some 11), .none, (.mov (.t 22))⟩]
abbrev c_poundageref14_Line_Fill_r5 : List AO := [⟨(.some 23), .none, (.fieldAddr 0 (.t 4))⟩,
  ⟨(.some 24), .none, (.load .none (.t 23))⟩,
  ⟨(.some 25), .none, (.mov (.t 10))⟩,
  ⟨(.some 26), .none, (.bin .add (.t 24) (.t 25))⟩,
  ⟨(.some 27), .none, (.mov (.t 1))⟩,
  ⟨(.some 28), .none, (.bin .geq (.t 26) (.t 27))⟩,
  ⟨(.some 29), .none, (.mov (.t 28))⟩,
  ⟨(.some 30), (.some ⟨29, .true⟩), (.fieldAddr 0 (.t 4))⟩,
  ⟨(.some 31), (.some ⟨29, .true⟩), (.load .none (.t 30))⟩,
  ⟨(.some 32), (.some ⟨29, .true⟩), (.mov (.t 10))⟩,
  ⟨(.some 33), (.some ⟨29, .true⟩), (.bin .add (.t 31) (.t 32))⟩,
  ⟨(.some 34), (.some ⟨29, .true⟩), (.mov (.t 2))⟩,
  ⟨(.some 35), (.some ⟨29, .true⟩), (.bin .leq (.t 33) (.t 34))⟩,
  ⟨(.some 36), .none, (.pick (.t 29) (.t 35) (.c (.d (.bool .false))))⟩]
abbrev c_poundageref14_Line_Fill_r6 : List AO := [⟨(.some 37), .none, (.mov (.t 3))⟩,
  ⟨(.some 11), .none, (.mov (.t 37))⟩]
abbrev c_poundageref14_Line_Fill_r7 : List AO := [⟨(.some 38), .none, (.fieldAddr 1 (.t 9))⟩,
  ⟨(.some 39), .none, (.load .none (.t 38))⟩,
  ⟨(.some 40), .none, (.mov (.t 11))⟩,
  ⟨(.some 41), .none, (.buildSlice 3 1 1 [(.d (.int .i64 0))] [⟨0, (.t 40)⟩])⟩,
  ⟨(.some 42), .none, (.append 3 1 8 [(.d (.int .i64 0))] (.t 39) (.t 41))⟩,
  ⟨(.some 43), .none, (.fieldAddr 1 (.t 9))⟩,
  ⟨.none, .none, (.store 1 (.t 43) (.t 42))⟩]
abbrev c_poundageref14_Line_Fill_r8 : List AO := [⟨(.some 44), .none, (.bin .add (.t 18) (.c (.d (.int .i64 1))))⟩,
  ⟨(.some 18), .none, (.mov (.t 44))⟩]
abbrev c_poundageref14_Line_Fill_l0 : ACode := (.seq (.ops c_poundageref14_Line_Fill_r3) (.seq (.cond (.t 19) .skip (.exit 0)) (.seq (.block 1 (.seq (.ops c_poundageref14_Line_Fill_r4) (.seq (.seq (.ops c_poundageref14_Line_Fill_r5) (.cond (.t 36) (.ops c_poundageref14_Line_Fill_r6) .skip)) (.ops c_poundageref14_Line_Fill_r7)))) (.ops c_poundageref14_Line_Fill_r8))))
abbrev c_poundageref14_Line_Fill_r9 : List AO := [⟨(.some 45), .none, (.load (.some 2) (.t 9))⟩,
  ⟨.none, .none, (.store 2 (.t 8) (.t 45))⟩]
abbrev c_poundageref14_Line_Fill : AFunc := ⟨46, [(.cell 8 (.some 2))], (.seq (.ops c_poundageref14_Line_Fill_r0) (.seq (.ops c_poundageref14_Line_Fill_r1) (.seq (.seq (.ops c_poundageref14_Line_Fill_r2) (.block 0 (.loop c_poundageref14_Line_Fill_l0))) (.seq (.ops c_poundageref14_Line_Fill_r9) .ret))))⟩
theorem comp_poundageref14_Line_Fill : funcC Try.prog 32 = some c_poundageref14_Line_Fill := by kernel_rfl
/-! function 33 : poundage line.Flat int  -/
abbrev f_line_Flat_int : FuncId := 33
abbrev c_line_Flat_int_r0 : List AO := [⟨(.some 6), .none, (.alloc 35 [(.nilsl 3)])⟩]
abbrev c_line_Flat_int_r1 : List AO := [⟨(.some 7), .none, (.mov (.t 1))⟩,
  ⟨(.some 8), .none, (.mov (.t 0))⟩,
  ⟨(.some 9), .none, (.bin .lss (.t 7) (.t 8))⟩]
abbrev c_line_Flat_int_r2 : List AO := [⟨(.some 10), .none, (.build [(.nilsl 3)] [])⟩,
  ⟨.none, .none, (.store 1 (.t 6) (.t 10))⟩]
abbrev c_line_Flat_int_r3 : List AO := [⟨(.some 11), .none, (.mov (.t 0))⟩,
  ⟨(.some 12), .none, (.mov (.t 1))⟩,
  ⟨(.some 13), .none, (.mov (.t 2))⟩,
  ⟨(.some 14), .none, (.build [(.d (.int .i64 0)), (.d (.int .i64 0)), (.d (.int .i64 0))] [⟨0, ⟨1, (.t 11)⟩⟩, ⟨1, ⟨1, (.t 12)⟩⟩, ⟨2, ⟨1, (.t 13)⟩⟩])⟩,
  ⟨(.some 15), .none, (.buildSlice 69 3 1 [(.d (.int .i64 0)), (.d (.int .i64 0)), (.d (.int .i64 0))] [⟨0, (.t 14)⟩])⟩,
  ⟨(.some 16), .none, (.build [(.nilsl 3)] [⟨0, ⟨1, (.t 15)⟩⟩])⟩,
  ⟨.none, .none, (.store 1 (.t 6) (.t 16))⟩]
abbrev c_line_Flat_int : AFunc := ⟨17, [(.cell 6 (.some 1))], (.seq (.ops c_line_Flat_int_r0) (.seq (.seq (.ops c_line_Flat_int_r1) (.cond (.t 9) (.seq (.ops c_line_Flat_int_r2) .ret) .skip)) (.seq (.ops c_line_Flat_int_r3) .ret)))⟩
theorem comp_line_Flat_int : funcC Try.prog 33 = some c_line_Flat_int := by kernel_rfl
/-! function 34 :  poundage line.Line int .Span -/
abbrev f_line_Line_int_Span : FuncId := 34
abbrev c_line_Line_int_Span_r0 : List AO := [⟨(.some 1), .none, (.box 35 (.t 0))⟩,
  ⟨(.some 2), .none, (.mov (.c (.d (.int .i64 0))))⟩,
  ⟨(.some 3), .none, (.mov (.c (.d (.int .i64 0))))⟩,
  ⟨(.some 4), .none, (.mov (.c (.d (.bool .false))))⟩]
abbrev c_line_Line_int_Span_r1 : List AO := [⟨(.some 5), .none, (.fieldAddr 0 (.t 1))⟩,
  ⟨(.some 6), .none, (.load .none (.t 5))⟩,
  ⟨(.some 7), .none, (.len (.t 6))⟩,
  ⟨(.some 8), .none, (.bin .eql (.t 7) (.c (.d (.int .i64 0))))⟩]
abbrev c_line_Line_int_Span_r2 : List AO := [⟨(.some 2), .none, (.mov (.c (.d (.int .i64 0))))⟩,
  ⟨(.some 3), .none, (.mov (.c (.d (.int .i64 0))))⟩,
  ⟨(.some 4), .none, (.mov (.c (.d (.bool .false))))⟩]
abbrev c_line_Line_int_Span_r3 : List AO := [⟨(.some 9), .none, (.fieldAddr 0 (.t 1))⟩,
  ⟨(.some 14), .none, (.fieldAddr 0 (.t 1))⟩,
  ⟨(.some 16), .none, (.fieldAddr 0 (.t 1))⟩,
  ⟨(.some 10), .none, (.load .none (.t 9))⟩,
  ⟨(.some 11), .none, (.elemAddr 3 (.t 10) (.c (.d (.int .i64 0))))⟩,
  ⟨(.some 12), .none, (.fieldAddr 0 (.t 11))⟩,
  ⟨(.some 13), .none, (.load .none (.t 12))⟩,
  ⟨(.some 2), .none, (.mov (.t 13))⟩,
  ⟨(.some 15), .none, (.load .none (.t 14))⟩,
  ⟨(.some 17), .none, (.load .none (.t 16))⟩,
  ⟨(.some 18), .none, (.len (.t 17))⟩,
  ⟨(.some 19), .none, (.bin .sub (.t 18) (.c (.d (.int .i64 1))))⟩,
  ⟨(.some 20), .none, (.elemAddr 3 (.t 15) (.t 19))⟩,
  ⟨(.some 21), .none, (.fieldAddr 1 (.t 20))⟩,
  ⟨(.some 22), .none, (.load .none (.t 21))⟩,
  ⟨(.some 3), .none, (.mov (.t 22))⟩,
  ⟨(.some 4), .none, (.mov (.c (.d (.bool .true))))⟩]
abbrev c_line_Line_int_Span : AFunc := ⟨23, [(.tmp 2), (.tmp 3), (.tmp 4)], (.seq (.ops c_line_Line_int_Span_r0) (.seq (.seq (.ops c_line_Line_int_Span_r1) (.cond (.t 8) (.seq (.ops c_line_Line_int_Span_r2) .ret) .skip)) (.seq (.dops c_line_Line_int_Span_r3) .ret)))⟩
theorem comp_line_Line_int_Span : funcC Try.prog 34 = some c_line_Line_int_Span := by kernel_rfl
/-! function 35 :  poundage line.Line string .put -/
abbrev f_line_Line_string_put : FuncId := 35
abbrev c_line_Line_string_put_r0 : List AO := [⟨(.some 3), .none, (.box 67 (.t 1))⟩]
abbrev c_line_Line_string_put_r1 : List AO := [⟨(.some 5), .none, (.mov (.t 0))⟩,
  ⟨(.some 6), .none, (.nilCheck (.t 5))⟩,
  ⟨(.some 7), .none, (.fieldAddr 0 (.t 6))⟩,
  ⟨(.some 8), .none, (.load .none (.t 7))⟩,
  ⟨(.some 9), .none, (.len (.t 8))⟩,
  ⟨(.some 4), .none, (.mov (.t 9))⟩]
abbrev c_line_Line_string_put_r2 : List AO := [⟨(.some 10), .none, (.mov (.t 4))⟩,
  ⟨(.some 11), .none, (.bin .gtr (.t 10) (.c (.d (.int .i64 0))))⟩,
  ⟨(.some 12), .none, (.mov (.t 11))⟩,
  ⟨(.some 13), (.some ⟨12, .true⟩), (.mov (.t 0))⟩,
  ⟨(.some 14), (.some ⟨12, .true⟩), (.nilCheck (.t 13))⟩,
  ⟨(.some 15), (.some ⟨12, .true⟩), (.fieldAddr 0 (.t 14))⟩,
  ⟨(.some 17), (.some ⟨12, .true⟩), (.mov (.t 4))⟩,
  ⟨(.some 18), (.some ⟨12, .true⟩), (.bin .sub (.t 17) (.c (.d (.int .i64 1))))⟩,
  ⟨(.some 22), (.some ⟨12, .true⟩), (.fieldAddr 2 (.t 3))⟩,
  ⟨(.some 16), (.some ⟨12, .true⟩), (.load .none (.t 15))⟩,
  ⟨(.some 19), (.some ⟨12, .true⟩), (.elemAddr 3 (.t 16) (.t 18))⟩,
  ⟨(.some 20), (.some ⟨12, .true⟩), (.fieldAddr 2 (.t 19))⟩,
  ⟨(.some 21), (.some ⟨12, .true⟩), (.load .none (.t 20))⟩,
  ⟨(.some 23), (.some ⟨12, .true⟩), (.load .none (.t 22))⟩,
  ⟨(.some 24), (.some ⟨12, .true⟩), (.bin .eql (.t 21) (.t 23))⟩,
  ⟨(.some 25), .none, (.pick (.t 12) (.t 24) (.c (.d (.bool .false))))⟩]
abbrev c_line_Line_string_put_r3 : List AO := [⟨(.some 26), .none, (.mov (.t 0))⟩,
  ⟨(.some 27), .none, (.nilCheck (.t 26))⟩,
  ⟨(.some 28), .none, (.fieldAddr 0 (.t 27))⟩,
  ⟨(.some 30), .none, (.mov (.t 4))⟩,
  ⟨(.some 31), .none, (.bin .sub (.t 30) (.c (.d (.int .i64 1))))⟩,
  ⟨(.some 32), .none, (.fieldAddr 1 (.t 3))⟩,
  ⟨(.some 29), .none, (.load .none (.t 28))⟩,
  ⟨(.some 33), .none, (.load .none (.t 32))⟩,
  ⟨(.some 34), .none, (.elemAddr 3 (.t 29) (.t 31))⟩,
  ⟨(.some 35), .none, (.fieldAddr 1 (.t 34))⟩,
  ⟨.none, .none, (.store 1 (.t 35) (.t 33))⟩]
abbrev c_line_Line_string_put_r4 : List AO := [⟨(.some 36), .none, (.mov (.t 0))⟩,
  ⟨(.some 37), .none, (.mov (.t 0))⟩,
  ⟨(.some 38), .none, (.nilCheck (.t 37))⟩,
  ⟨(.some 39), .none, (.fieldAddr 0 (.t 38))⟩,
  ⟨(.some 40), .none, (.load .none (.t 39))⟩,
  ⟨(.some 41), .none, (.load (.some 3) (.t 3))⟩,
  ⟨(.some 42), .none, (.buildSliceD 67 3 1 [(.d (.int .i64 0)), (.d (.int .i64 0)), (.d (.str ⟨⟨[]⟩⟩))] [⟨0, (.t 41)⟩])⟩,
  ⟨(.some 43), .none, (.append 67 3 32 [(.d (.int .i64 0)), (.d (.int .i64 0)), (.d (.str ⟨⟨[]⟩⟩))] (.t 40) (.t 42))⟩,
  ⟨(.some 44), .none, (.nilCheck (.t 36))⟩,
  ⟨(.some 45), .none, (.fieldAddr 0 (.t 44))⟩,
  ⟨.none, .none, (.store 1 (.t 45) (.t 43))⟩]
abbrev c_line_Line_string_put : AFunc := ⟨46, [], (.seq (.ops c_line_Line_string_put_r0) (.seq (.seq (.ops c_line_Line_string_put_r1) (.seq (.dops c_line_Line_string_put_r2) (.cond (.t 25) (.seq (.dops c_line_Line_string_put_r3) .ret) .skip))) (.dops c_line_Line_string_put_r4)))⟩
theorem comp_line_Line_string_put : funcC Try.prog 35 = some c_line_Line_string_put := by kernel_rfl
/-! function 36 :  poundage line.Line int .put -/
abbrev f_line_Line_int_put : FuncId := 36
abbrev c_line_Line_int_put_r0 : List AO := [⟨(.some 3), .none, (.box 69 (.t 1))⟩]
abbrev c_line_Line_int_put_r1 : List AO := [⟨(.some 5), .none, (.mov (.t 0))⟩,
  ⟨(.some 6), .none, (.nilCheck (.t 5))⟩,
  ⟨(.some 7), .none, (.fieldAddr 0 (.t 6))⟩,
  ⟨(.some 8), .none, (.load .none (.t 7))⟩,
  ⟨(.some 9), .none, (.len (.t 8))⟩,
  ⟨(.some 4), .none, (.mov (.t 9))⟩]
abbrev c_line_Line_int_put_r2 : List AO := [⟨(.some 10), .none, (.mov (.t 4))⟩,
  ⟨(.some 11), .none, (.bin .gtr (.t 10) (.c (.d (.int .i64 0))))⟩,
  ⟨(.some 12), .none, (.mov (.t 11))⟩,
  ⟨(.some 13), (.some ⟨12, .true⟩), (.mov (.t 0))⟩,
  ⟨(.some 14), (.some ⟨12, .true⟩), (.nilCheck (.t 13))⟩,
  ⟨(.some 15), (.some ⟨12, .true⟩), (.fieldAddr 0 (.t 14))⟩,
  ⟨(.some 17), (.some ⟨12, .true⟩), (.mov (.t 4))⟩,
  ⟨(.some 18), (.some ⟨12, .true⟩), (.bin .sub (.t 17) (.c (.d (.int .i64 1))))⟩,
  ⟨(.some 22), (.some ⟨12, .true⟩), (.fieldAddr 2 (.t 3))⟩,
  ⟨(.some 16), (.some ⟨12, .true⟩), (.load .none (.t 15))⟩,
  ⟨(.some 19), (.some ⟨12, .true⟩), (.elemAddr 3 (.t 16) (.t 18))⟩,
  ⟨(.some 20), (.some ⟨12, .true⟩), (.fieldAddr 2 (.t 19))⟩,
  ⟨(.some 21), (.some ⟨12, .true⟩), (.load .none (.t 20))⟩,
  ⟨(.some 23), (.some ⟨12, .true⟩), (.load .none (.t 22))⟩,
  ⟨(.some 24), (.some ⟨12, .true⟩), (.bin .eql (.t 21) (.t 23))⟩,
  ⟨(.some 25), .none, (.pick (.t 12) (.t 24) (.c (.d (.bool .false))))⟩]
abbrev c_line_Line_int_put_r3 : List AO := [⟨(.some 26), .none, (.mov (.t 0))⟩,
  ⟨(.some 27), .none, (.nilCheck (.t 26))⟩,
  ⟨(.some 28), .none, (.fieldAddr 0 (.t 27))⟩,
  ⟨(.some 30), .none, (.mov (.t 4))⟩,
  ⟨(.some 31), .none, (.bin .sub (.t 30) (.c (.d (.int .i64 1))))⟩,
  ⟨(.some 32), .none, (.fieldAddr 1 (.t 3))⟩,
  ⟨(.some 29), .none, (.load .none (.t 28))⟩,
  ⟨(.some 33), .none, (.load .none (.t 32))⟩,
  ⟨(.some 34), .none, (.elemAddr 3 (.t 29) (.t 31))⟩,
  ⟨(.some 35), .none, (.fieldAddr 1 (.t 34))⟩,
  ⟨.none, .none, (.store 1 (.t 35) (.t 33))⟩]
abbrev c_line_Line_int_put_r4 : List AO := [⟨(.some 36), .none, (.mov (.t 0))⟩,
  ⟨(.some 37), .none, (.mov (.t 0))⟩,
  ⟨(.some 38), .none, (.nilCheck (.t 37))⟩,
  ⟨(.some 39), .none, (.fieldAddr 0 (.t 38))⟩,
  ⟨(.some 40), .none, (.load .none (.t 39))⟩,
  ⟨(.some 41), .none, (.load (.some 3) (.t 3))⟩,
  ⟨(.some 42), .none, (.buildSliceD 69 3 1 [(.d (.int .i64 0)), (.d (.int .i64 0)), (.d (.int .i64 0))] [⟨0, (.t 41)⟩])⟩,
  ⟨(.some 43), .none, (.append 69 3 24 [(.d (.int .i64 0)), (.d (.int .i64 0)), (.d (.int .i64 0))] (.t 40) (.t 42))⟩,
  ⟨(.some 44), .none, (.nilCheck (.t 36))⟩,
  ⟨(.some 45), .none, (.fieldAddr 0 (.t 44))⟩,
  ⟨.none, .none, (.store 1 (.t 45) (.t 43))⟩]
abbrev c_line_Line_int_put : AFunc := ⟨46, [], (.seq (.ops c_line_Line_int_put_r0) (.seq (.seq (.ops c_line_Line_int_put_r1) (.seq (.dops c_line_Line_int_put_r2) (.cond (.t 25) (.seq (.dops c_line_Line_int_put_r3) .ret) .skip))) (.dops c_line_Line_int_put_r4)))⟩
theorem comp_line_Line_int_put : funcC Try.prog 36 = some c_line_Line_int_put := by kernel_rfl
/-! function 37 : slices.Equal poundage line.Run string poundage line.Run string  -/
abbrev f_slices_Equal_line_Run_string_ : FuncId := 37
abbrev c_slices_Equal_line_Run_string__r0 : List AO := [⟨(.some 4), .none, (.mov (.c (.d (.bool .false))))⟩]
abbrev c_slices_Equal_line_Run_string__r1 : List AO := [⟨(.some 6), .none, (.mov (.t 0))⟩,
  ⟨(.some 7), .none, (.len (.t 6))⟩,
  ⟨(.some 8), .none, (.mov (.t 1))⟩,
  ⟨(.some 9), .none, (.len (.t 8))⟩,
  ⟨(.some 10), .none, (.bin .neq (.t 7) (.t 9))⟩]
abbrev c_slices_Equal_line_Run_string__r2 : List AO := [⟨(.some 4), .none, (.mov (.c (.d (.bool .false))))⟩]
abbrev c_slices_Equal_line_Run_string__r3 : List AO := [⟨(.some 11), .none, (.mov (.t 0))⟩,
  ⟨(.some 12), .none, (.len (.t 11))⟩,
  ⟨(.some 13), .none, (.mov (.c (.d (.int .i64 0))))⟩]
abbrev c_slices_Equal_line_Run_string__r4 : List AO := [⟨(.some 14), .none, (.bin .lss (.t 13) (.t 12))⟩]
abbrev c_slices_Equal_line_Run_string__r5 : List AO := [⟨(.some 15), .none, (.mov (.t 13))⟩,
  ⟨(.some 5), .none, (.mov (.t 15))⟩]
abbrev c_slices_Equal_line_Run_string__r6 : List AO := [⟨(.some 16), .none, (.mov (.t 0))⟩,
  ⟨(.some 17), .none, (.mov (.t 5))⟩,
  ⟨(.some 18), .none, (.elemAddr 3 (.t 16) (.t 17))⟩,
  ⟨(.some 20), .none, (.mov (.t 1))⟩,
  ⟨(.some 21), .none, (.mov (.t 5))⟩,
  ⟨(.some 22), .none, (.elemAddr 3 (.t 20) (.t 21))⟩,
  ⟨(.some 19), .none, (.load (.some 3) (.t 18))⟩,
  ⟨(.some 23), .none, (.load (.some 3) (.t 22))⟩,
  ⟨(.some 24), .none, (.eqAgg .true [0, 0, 2] (.t 19) (.t 23))⟩]
abbrev c_slices_Equal_line_Run_string__r7 : List AO := [⟨(.some 4), .none, (.mov (.c (.d (.bool .false))))⟩]
abbrev c_slices_Equal_line_Run_string__r8 : List AO := [⟨(.some 25), .none, (.bin .add (.t 13) (.c (.d (.int .i64 1))))⟩,
  ⟨(.some 13), .none, (.mov (.t 25))⟩]
abbrev c_slices_Equal_line_Run_string__l0 : ACode := (.seq (.ops c_slices_Equal_line_Run_string__r4) (.seq (.cond (.t 14) .skip (.exit 0)) (.seq (.block 1 (.seq (.ops c_slices_Equal_line_Run_string__r5) (.seq (.dops c_slices_Equal_line_Run_string__r6) (.cond (.t 24) (.seq (.ops c_slices_Equal_line_Run_string__r7) .ret) .skip)))) (.ops c_slices_Equal_line_Run_string__r8))))
abbrev c_slices_Equal_line_Run_string__r9 : List AO := [⟨(.some 4), .none, (.mov (.c (.d (.bool .true))))⟩]
abbrev c_slices_Equal_line_Run_string_ : AFunc := ⟨26, [(.tmp 4)], (.seq (.ops c_slices_Equal_line_Run_string__r0) (.seq (.seq (.ops c_slices_Equal_line_Run_string__r1) (.cond (.t 10) (.seq (.ops c_slices_Equal_line_Run_string__r2) .ret) .skip)) (.seq (.seq (.ops c_slices_Equal_line_Run_string__r3) (.block 0 (.loop c_slices_Equal_line_Run_string__l0))) (.seq (.ops c_slices_Equal_line_Run_string__r9) .ret))))⟩
theorem comp_slices_Equal_line_Run_string_ : funcC Try.prog 37 = some c_slices_Equal_line_Run_string_ := by kernel_rfl
/-! function 38 : slices.BinarySearchFunc poundage line.Run string poundage line.Run string int  -/
abbrev f_slices_BinarySearchFunc_line_Run_string_int : FuncId := 38
abbrev c_slices_BinarySearchFunc_line_Run_string_int_r0 : List AO := [⟨(.some 6), .none, (.mov (.c (.d (.int .i64 0))))⟩,
  ⟨(.some 7), .none, (.mov (.c (.d (.bool .false))))⟩]
abbrev c_slices_BinarySearchFunc_line_Run_string_int_r1 : List AO := [⟨(.some 12), .none, (.mov (.t 0))⟩,
  ⟨(.some 13), .none, (.len (.t 12))⟩,
  ⟨(.some 8), .none, (.mov (.t 13))⟩]
abbrev c_slices_BinarySearchFunc_line_Run_string_int_r2 : List AO := [⟨(.some 14), .none, (.mov (.t 8))⟩,
  ⟨(.some 9), .none, (.mov (.c (.d (.int .i64 0))))⟩,
  ⟨(.some 10), .none, (.mov (.t 14))⟩]
abbrev c_slices_BinarySearchFunc_line_Run_string_int_r3 : List AO := [⟨(.some 15), .none, (.mov (.t 9))⟩,
  ⟨(.some 16), .none, (.mov (.t 10))⟩,
  ⟨(.some 17), .none, (.bin .lss (.t 15) (.t 16))⟩]
abbrev c_slices_BinarySearchFunc_line_Run_string_int_r4 : List AO := [⟨(.some 18), .none, (.mov (.t 9))⟩,
  ⟨(.some 19), .none, (.mov (.t 10))⟩,
  ⟨(.some 20), .none, (.bin .add (.t 18) (.t 19))⟩,
  ⟨(.some 21), .none, (.conv .u64 (.t 20))⟩,
  ⟨(.some 22), .none, (.bin .shr (.t 21) (.c (.d (.int .u64 1))))⟩,
  ⟨(.some 23), .none, (.conv .i64 (.t 22))⟩,
  ⟨(.some 11), .none, (.mov (.t 23))⟩]
abbrev c_slices_BinarySearchFunc_line_Run_string_int_r5 : List AO := [⟨(.some 24), .none, (.mov (.t 2))⟩,
  ⟨(.some 25), .none, (.mov (.t 0))⟩,
  ⟨(.some 26), .none, (.mov (.t 11))⟩,
  ⟨(.some 27), .none, (.elemAddr 3 (.t 25) (.t 26))⟩,
  ⟨(.some 28), .none, (.load (.some 3) (.t 27))⟩,
  ⟨(.some 29), .none, (.mov (.t 1))⟩,
  ⟨(.some 30), .none, (.callv (.t 24) [(.t 28), (.t 29)])⟩,
  ⟨(.some 31), .none, (.bin .lss (.t 30) (.c (.d (.int .i64 0))))⟩]
abbrev c_slices_BinarySearchFunc_line_Run_string_int_r6 : List AO := [⟨(.some 32), .none, (.mov (.t 11))⟩,
  ⟨(.some 33), .none, (.bin .add (.t 32) (.c (.d (.int .i64 1))))⟩,
  ⟨(.some 9), .none, (.mov (.t 33))⟩]
abbrev c_slices_BinarySearchFunc_line_Run_string_int_r7 : List AO := [⟨(.some 34), .none, (.mov (.t 11))⟩,
  ⟨(.some 10), .none, (.mov (.t 34))⟩]
abbrev c_slices_BinarySearchFunc_line_Run_string_int_l0 : ACode := (.seq (.seq (.ops c_slices_BinarySearchFunc_line_Run_string_int_r3) (.cond (.t 17) .skip (.exit 0))) (.block 1 (.seq (.ops c_slices_BinarySearchFunc_line_Run_string_int_r4) (.seq (.ops c_slices_BinarySearchFunc_line_Run_string_int_r5) (.cond (.t 31) (.ops c_slices_BinarySearchFunc_line_Run_string_int_r6) (.ops c_slices_BinarySearchFunc_line_Run_string_int_r7))))))
abbrev c_slices_BinarySearchFunc_line_Run_string_int_r8 : List AO := [⟨(.some 35), .none, (.mov (.t 9))⟩,
  ⟨(.some 36), .none, (.mov (.t 9))⟩,
  ⟨(.some 37), .none, (.mov (.t 8))⟩,
  ⟨(.some 38), .none, (.bin .lss (.t 36) (.t 37))⟩,
  ⟨(.some 39), .none, (.mov (.t 38))⟩,
  ⟨(.some 40), (.some ⟨39, .true⟩), (.mov (.t 2))⟩,
  ⟨(.some 41), (.some ⟨39, .true⟩), (.mov (.t 0))⟩,
  ⟨(.some 42), (.some ⟨39, .true⟩), (.mov (.t 9))⟩,
  ⟨(.some 43), (.some ⟨39, .true⟩), (.elemAddr 3 (.t 41) (.t 42))⟩,
  ⟨(.some 44), (.some ⟨39, .true⟩), (.load (.some 3) (.t 43))⟩,
  ⟨(.some 45), (.some ⟨39, .true⟩), (.mov (.t 1))⟩,
  ⟨(.some 46), (.some ⟨39, .true⟩), (.callv (.t 40) [(.t 44), (.t 45)])⟩,
  ⟨(.some 47), (.some ⟨39, .true⟩), (.bin .eql (.t 46) (.c (.d (.int .i64 0))))⟩,
  ⟨(.some 48), .none, (.pick (.t 39) (.t 47) (.c (.d (.bool .false))))⟩,
  ⟨(.some 6), .none, (.mov (.t 35))⟩,
  ⟨(.some 7), .none, (.mov (.t 48))⟩]
abbrev c_slices_BinarySearchFunc_line_Run_string_int : AFunc := ⟨49, [(.tmp 6), (.tmp 7)], (.seq (.ops c_slices_BinarySearchFunc_line_Run_string_int_r0) (.seq (.ops c_slices_BinarySearchFunc_line_Run_string_int_r1) (.seq (.ops c_slices_BinarySearchFunc_line_Run_string_int_r2) (.seq (.block 0 (.loop c_slices_BinarySearchFunc_line_Run_string_int_l0)) (.seq (.ops c_slices_BinarySearchFunc_line_Run_string_int_r8) .ret)))))⟩
theorem comp_slices_BinarySearchFunc_line_Run_string_int : funcC Try.prog 38 = some c_slices_BinarySearchFunc_line_Run_string_int := by kernel_rfl
/-! function 39 :  poundage line.Line string .At 1 -/
abbrev f_line_Line_string_At_1 : FuncId := 39
abbrev c_line_Line_string_At_1_r0 : List AO := [⟨(.some 2), .none, (.box 67 (.t 0))⟩,
  ⟨(.some 4), .none, (.mov (.c (.d (.int .i64 0))))⟩]
abbrev c_line_Line_string_At_1_r1 : List AO := [⟨(.some 5), .none, (.fieldAddr 1 (.t 2))⟩,
  ⟨(.some 6), .none, (.load .none (.t 5))⟩,
  ⟨(.some 7), .none, (.mov (.t 1))⟩,
  ⟨(.some 8), .none, (.call 40 [(.t 6), (.t 7)])⟩,
  ⟨(.some 4), .none, (.mov (.t 8))⟩]
abbrev c_line_Line_string_At_1 : AFunc := ⟨9, [(.tmp 4)], (.seq (.ops c_line_Line_string_At_1_r0) (.seq (.ops c_line_Line_string_At_1_r1) .ret))⟩
theorem comp_line_Line_string_At_1 : funcC Try.prog 39 = some c_line_Line_string_At_1 := by kernel_rfl
/-! function 40 : cmp.Compare int  -/
abbrev f_cmp_Compare_int : FuncId := 40
abbrev c_cmp_Compare_int_r0 : List AO := [⟨(.some 4), .none, (.mov (.c (.d (.int .i64 0))))⟩]
abbrev c_cmp_Compare_int_r1 : List AO := [⟨(.some 7), .none, (.mov (.t 0))⟩,
  ⟨(.some 8), .none, (.call 46 [(.t 7)])⟩,
  ⟨(.some 5), .none, (.mov (.t 8))⟩]
abbrev c_cmp_Compare_int_r2 : List AO := [⟨(.some 9), .none, (.mov (.t 1))⟩,
  ⟨(.some 10), .none, (.call 46 [(.t 9)])⟩,
  ⟨(.some 6), .none, (.mov (.t 10))⟩]
abbrev c_cmp_Compare_int_r3 : List AO := [⟨(.some 11), .none, (.mov (.t 5))⟩]
abbrev c_cmp_Compare_int_r4 : List AO := [⟨(.some 12), .none, (.mov (.t 6))⟩]
abbrev c_cmp_Compare_int_r5 : List AO := [⟨(.some 4), .none, (.mov (.c (.d (.int .i64 0))))⟩]
abbrev c_cmp_Compare_int_r6 : List AO := [⟨(.some 4), .none, (.mov (.c (.d (.int .i64 (-1)))))⟩]
abbrev c_cmp_Compare_int_r7 : List AO := [⟨(.some 13), .none, (.mov (.t 6))⟩]
abbrev c_cmp_Compare_int_r8 : List AO := [⟨(.some 4), .none, (.mov (.c (.d (.int .i64 1))))⟩]
abbrev c_cmp_Compare_int_r9 : List AO := [⟨(.some 14), .none, (.mov (.t 0))⟩,
  ⟨(.some 15), .none, (.mov (.t 1))⟩,
  ⟨(.some 16), .none, (.bin .lss (.t 14) (.t 15))⟩]
abbrev c_cmp_Compare_int_r10 : List AO := [⟨(.some 4), .none, (.mov (.c (.d (.int .i64 (-1)))))⟩]
abbrev c_cmp_Compare_int_r11 : List AO := [⟨(.some 17), .none, (.mov (.t 0))⟩,
  ⟨(.some 18), .none, (.mov (.t 1))⟩,
  ⟨(.some 19), .none, (.bin .gtr (.t 17) (.t 18))⟩]
abbrev c_cmp_Compare_int_r12 : List AO := [⟨(.some 4), .none, (.mov (.c (.d (.int .i64 1))))⟩]
abbrev c_cmp_Compare_int_r13 : List AO := [⟨(.some 4), .none, (.mov (.c (.d (.int .i64 0))))⟩]
abbrev c_cmp_Compare_int : AFunc := ⟨20, [(.tmp 4)], (.seq (.ops c_cmp_Compare_int_r0) (.seq (.ops c_cmp_Compare_int_r1) (.seq (.ops c_cmp_Compare_int_r2) (.seq (.seq (.ops c_cmp_Compare_int_r3) (.cond (.t 11) (.seq (.seq (.ops c_cmp_Compare_int_r4) (.cond (.t 12) (.seq (.ops c_cmp_Compare_int_r5) .ret) .skip)) (.seq (.ops c_cmp_Compare_int_r6) .ret)) .skip)) (.seq (.seq (.ops c_cmp_Compare_int_r7) (.cond (.t 13) (.seq (.ops c_cmp_Compare_int_r8) .ret) .skip)) (.seq (.seq (.ops c_cmp_Compare_int_r9) (.cond (.t 16) (.seq (.ops c_cmp_Compare_int_r10) .ret) .skip)) (.seq (.seq (.ops c_cmp_Compare_int_r11) (.cond (.t 19) (.seq (.ops c_cmp_Compare_int_r12) .ret) .skip)) (.seq (.ops c_cmp_Compare_int_r13) .ret))))))))⟩
theorem comp_cmp_Compare_int : funcC Try.prog 40 = some c_cmp_Compare_int := by kernel_rfl
/-! function 41 :  poundage line.Line int .Runs -/
abbrev f_line_Line_int_Runs : FuncId := 41
abbrev c_line_Line_int_Runs_r0 : List AO := [⟨(.some 1), .none, (.box 35 (.t 0))⟩,
  ⟨(.some 2), .none, (.mov (.c .nilfn))⟩]
abbrev c_line_Line_int_Runs_r1 : List AO := [⟨(.some 3), .none, (.fieldAddr 0 (.t 1))⟩,
  ⟨(.some 4), .none, (.load .none (.t 3))⟩,
  ⟨(.some 5), .none, (.call 47 [(.t 4)])⟩,
  ⟨(.some 2), .none, (.mov (.t 5))⟩]
abbrev c_line_Line_int_Runs : AFunc := ⟨6, [(.tmp 2)], (.seq (.ops c_line_Line_int_Runs_r0) (.seq (.ops c_line_Line_int_Runs_r1) .ret))⟩
theorem comp_line_Line_int_Runs : funcC Try.prog 41 = some c_line_Line_int_Runs := by kernel_rfl
/-! function 42 : slices.Equal poundage line.Run int poundage line.Run int  -/
abbrev f_slices_Equal_line_Run_int_ : FuncId := 42
abbrev c_slices_Equal_line_Run_int__r0 : List AO := [⟨(.some 4), .none, (.mov (.c (.d (.bool .false))))⟩]
abbrev c_slices_Equal_line_Run_int__r1 : List AO := [⟨(.some 6), .none, (.mov (.t 0))⟩,
  ⟨(.some 7), .none, (.len (.t 6))⟩,
  ⟨(.some 8), .none, (.mov (.t 1))⟩,
  ⟨(.some 9), .none, (.len (.t 8))⟩,
  ⟨(.some 10), .none, (.bin .neq (.t 7) (.t 9))⟩]
abbrev c_slices_Equal_line_Run_int__r2 : List AO := [⟨(.some 4), .none, (.mov (.c (.d (.bool .false))))⟩]
abbrev c_slices_Equal_line_Run_int__r3 : List AO := [⟨(.some 11), .none, (.mov (.t 0))⟩,
  ⟨(.some 12), .none, (.len (.t 11))⟩,
  ⟨(.some 13), .none, (.mov (.c (.d (.int .i64 0))))⟩]
abbrev c_slices_Equal_line_Run_int__r4 : List AO := [⟨(.some 14), .none, (.bin .lss (.t 13) (.t 12))⟩]
abbrev c_slices_Equal_line_Run_int__r5 : List AO := [⟨(.some 15), .none, (.mov (.t 13))⟩,
  ⟨(.some 5), .none, (.mov (.t 15))⟩]
abbrev c_slices_Equal_line_Run_int__r6 : List AO := [⟨(.some 16), .none, (.mov (.t 0))⟩,
  ⟨(.some 17), .none, (.mov (.t 5))⟩,
  ⟨(.some 18), .none, (.elemAddr 3 (.t 16) (.t 17))⟩,
  ⟨(.some 20), .none, (.mov (.t 1))⟩,
  ⟨(.some 21), .none, (.mov (.t 5))⟩,
  ⟨(.some 22), .none, (.elemAddr 3 (.t 20) (.t 21))⟩,
  ⟨(.some 19), .none, (.load (.some 3) (.t 18))⟩,
  ⟨(.some 23), .none, (.load (.some 3) (.t 22))⟩,
  ⟨(.some 24), .none, (.eqAgg .true [0, 0, 0] (.t 19) (.t 23))⟩]
abbrev c_slices_Equal_line_Run_int__r7 : List AO := [⟨(.some 4), .none, (.mov (.c (.d (.bool .false))))⟩]
abbrev c_slices_Equal_line_Run_int__r8 : List AO := [⟨(.some 25), .none, (.bin .add (.t 13) (.c (.d (.int .i64 1))))⟩,
  ⟨(.some 13), .none, (.mov (.t 25))⟩]
abbrev c_slices_Equal_line_Run_int__l0 : ACode := (.seq (.ops c_slices_Equal_line_Run_int__r4) (.seq (.cond (.t 14) .skip (.exit 0)) (.seq (.block 1 (.seq (.ops c_slices_Equal_line_Run_int__r5) (.seq (.dops c_slices_Equal_line_Run_int__r6) (.cond (.t 24) (.seq (.ops c_slices_Equal_line_Run_int__r7) .ret) .skip)))) (.ops c_slices_Equal_line_Run_int__r8))))
abbrev c_slices_Equal_line_Run_int__r9 : List AO := [⟨(.some 4), .none, (.mov (.c (.d (.bool .true))))⟩]
abbrev c_slices_Equal_line_Run_int_ : AFunc := ⟨26, [(.tmp 4)], (.seq (.ops c_slices_Equal_line_Run_int__r0) (.seq (.seq (.ops c_slices_Equal_line_Run_int__r1) (.cond (.t 10) (.seq (.ops c_slices_Equal_line_Run_int__r2) .ret) .skip)) (.seq (.seq (.ops c_slices_Equal_line_Run_int__r3) (.block 0 (.loop c_slices_Equal_line_Run_int__l0))) (.seq (.ops c_slices_Equal_line_Run_int__r9) .ret))))⟩
theorem comp_slices_Equal_line_Run_int_ : funcC Try.prog 42 = some c_slices_Equal_line_Run_int_ := by kernel_rfl
/-! function 43 :  poundage poundageref14.Line .At -/
abbrev f_poundageref14_Line_At : FuncId := 43
abbrev c_poundageref14_Line_At_r0 : List AO := [⟨(.some 2), .none, (.box 42 (.t 0))⟩,
  ⟨(.some 4), .none, (.mov (.c (.d (.int .i64 0))))⟩,
  ⟨(.some 5), .none, (.mov (.c (.d (.bool .false))))⟩]
abbrev c_poundageref14_Line_At_r1 : List AO := [⟨(.some 6), .none, (.mov (.t 1))⟩,
  ⟨(.some 7), .none, (.fieldAddr 0 (.t 2))⟩,
  ⟨(.some 8), .none, (.load .none (.t 7))⟩,
  ⟨(.some 9), .none, (.bin .lss (.t 6) (.t 8))⟩,
  ⟨(.some 10), .none, (.mov (.t 9))⟩,
  ⟨(.some 11), (.some ⟨10, .false⟩), (.mov (.t 1))⟩,
  ⟨(.some 12), (.some ⟨10, .false⟩), (.fieldAddr 0 (.t 2))⟩,
  ⟨(.some 13), (.some ⟨10, .false⟩), (.load .none (.t 12))⟩,
  ⟨(.some 14), (.some ⟨10, .false⟩), (.bin .sub (.t 11) (.t 13))⟩,
  ⟨(.some 15), (.some ⟨10, .false⟩), (.fieldAddr 1 (.t 2))⟩,
  ⟨(.some 16), (.some ⟨10, .false⟩), (.load .none (.t 15))⟩,
  ⟨(.some 17), (.some ⟨10, .false⟩), (.len (.t 16))⟩,
  ⟨(.some 18), (.some ⟨10, .false⟩), (.bin .geq (.t 14) (.t 17))⟩,
  ⟨(.some 19), .none, (.pick (.t 10) (.c (.d (.bool .true))) (.t 18))⟩]
abbrev c_poundageref14_Line_At_r2 : List AO := [⟨(.some 4), .none, (.mov (.c (.d (.int .i64 0))))⟩,
  ⟨(.some 5), .none, (.mov (.c (.d (.bool .false))))⟩]
abbrev c_poundageref14_Line_At_r3 : List AO := [⟨(.some 20), .none, (.fieldAddr 1 (.t 2))⟩,
  ⟨(.some 21), .none, (.load .none (.t 20))⟩,
  ⟨(.some 22), .none, (.mov (.t 1))⟩,
  ⟨(.some 23), .none, (.fieldAddr 0 (.t 2))⟩,
  ⟨(.some 24), .none, (.load .none (.t 23))⟩,
  ⟨(.some 25), .none, (.bin .sub (.t 22) (.t 24))⟩,
  ⟨(.some 26), .none, (.elemAddr 1 (.t 21) (.t 25))⟩,
  ⟨(.some 27), .none, (.load .none (.t 26))⟩,
  ⟨(.some 4), .none, (.mov (.t 27))⟩,
  ⟨(.some 5), .none, (.mov (.c (.d (.bool .true))))⟩]
abbrev c_poundageref14_Line_At : AFunc := ⟨28, [(.tmp 4), (.tmp 5)], (.seq (.ops c_poundageref14_Line_At_r0) (.seq (.seq (.ops c_poundageref14_Line_At_r1) (.cond (.t 19) (.seq (.ops c_poundageref14_Line_At_r2) .ret) .skip)) (.seq (.ops c_poundageref14_Line_At_r3) .ret)))⟩
theorem comp_poundageref14_Line_At : funcC Try.prog 43 = some c_poundageref14_Line_At := by kernel_rfl
/-! function 44 : slices.BinarySearchFunc poundage line.Run int poundage line.Run int int  -/
abbrev f_slices_BinarySearchFunc_line_Run_int_int : FuncId := 44
abbrev c_slices_BinarySearchFunc_line_Run_int_int_r0 : List AO := [⟨(.some 6), .none, (.mov (.c (.d (.int .i64 0))))⟩,
  ⟨(.some 7), .none, (.mov (.c (.d (.bool .false))))⟩]
abbrev c_slices_BinarySearchFunc_line_Run_int_int_r1 : List AO := [⟨(.some 12), .none, (.mov (.t 0))⟩,
  ⟨(.some 13), .none, (.len (.t 12))⟩,
  ⟨(.some 8), .none, (.mov (.t 13))⟩]
abbrev c_slices_BinarySearchFunc_line_Run_int_int_r2 : List AO := [⟨(.some 14), .none, (.mov (.t 8))⟩,
  ⟨(.some 9), .none, (.mov (.c (.d (.int .i64 0))))⟩,
  ⟨(.some 10), .none, (.mov (.t 14))⟩]
abbrev c_slices_BinarySearchFunc_line_Run_int_int_r3 : List AO := [⟨(.some 15), .none, (.mov (.t 9))⟩,
  ⟨(.some 16), .none, (.mov (.t 10))⟩,
  ⟨(.some 17), .none, (.bin .lss (.t 15) (.t 16))⟩]
abbrev c_slices_BinarySearchFunc_line_Run_int_int_r4 : List AO := [⟨(.some 18), .none, (.mov (.t 9))⟩,
  ⟨(.some 19), .none, (.mov (.t 10))⟩,
  ⟨(.some 20), .none, (.bin .add (.t 18) (.t 19))⟩,
  ⟨(.some 21), .none, (.conv .u64 (.t 20))⟩,
  ⟨(.some 22), .none, (.bin .shr (.t 21) (.c (.d (.int .u64 1))))⟩,
  ⟨(.some 23), .none, (.conv .i64 (.t 22))⟩,
  ⟨(.some 11), .none, (.mov (.t 23))⟩]
abbrev c_slices_BinarySearchFunc_line_Run_int_int_r5 : List AO := [⟨(.some 24), .none, (.mov (.t 2))⟩,
  ⟨(.some 25), .none, (.mov (.t 0))⟩,
  ⟨(.some 26), .none, (.mov (.t 11))⟩,
  ⟨(.some 27), .none, (.elemAddr 3 (.t 25) (.t 26))⟩,
  ⟨(.some 28), .none, (.load (.some 3) (.t 27))⟩,
  ⟨(.some 29), .none, (.mov (.t 1))⟩,
  ⟨(.some 30), .none, (.callv (.t 24) [(.t 28), (.t 29)])⟩,
  ⟨(.some 31), .none, (.bin .lss (.t 30) (.c (.d (.int .i64 0))))⟩]
abbrev c_slices_BinarySearchFunc_line_Run_int_int_r6 : List AO := [⟨(.some 32), .none, (.mov (.t 11))⟩,
  ⟨(.some 33), .none, (.bin .add (.t 32) (.c (.d (.int .i64 1))))⟩,
  ⟨(.some 9), .none, (.mov (.t 33))⟩]
abbrev c_slices_BinarySearchFunc_line_Run_int_int_r7 : List AO := [⟨(.some 34), .none, (.mov (.t 11))⟩,
  ⟨(.some 10), .none, (.mov (.t 34))⟩]
abbrev c_slices_BinarySearchFunc_line_Run_int_int_l0 : ACode := (.seq (.seq (.ops c_slices_BinarySearchFunc_line_Run_int_int_r3) (.cond (.t 17) .skip (.exit 0))) (.block 1 (.seq (.ops c_slices_BinarySearchFunc_line_Run_int_int_r4) (.seq (.ops c_slices_BinarySearchFunc_line_Run_int_int_r5) (.cond (.t 31) (.ops c_slices_BinarySearchFunc_line_Run_int_int_r6) (.ops c_slices_BinarySearchFunc_line_Run_int_int_r7))))))
abbrev c_slices_BinarySearchFunc_line_Run_int_int_r8 : List AO := [⟨(.some 35), .none, (.mov (.t 9))⟩,
  ⟨(.some 36), .none, (.mov (.t 9))⟩,
  ⟨(.some 37), .none, (.mov (.t 8))⟩,
  ⟨(.some 38), .none, (.bin .lss (.t 36) (.t 37))⟩,
  ⟨(.some 39), .none, (.mov (.t 38))⟩,
  ⟨(.some 40), (.some ⟨39, .true⟩), (.mov (.t 2))⟩,
  ⟨(.some 41), (.some ⟨39, .true⟩), (.mov (.t 0))⟩,
  ⟨(.some 42), (.some ⟨39, .true⟩), (.mov (.t 9))⟩,
  ⟨(.some 43), (.some ⟨39, .true⟩), (.elemAddr 3 (.t 41) (.t 42))⟩,
  ⟨(.some 44), (.some ⟨39, .true⟩), (.load (.some 3) (.t 43))⟩,
  ⟨(.some 45), (.some ⟨39, .true⟩), (.mov (.t 1))⟩,
  ⟨(.some 46), (.some ⟨39, .true⟩), (.callv (.t 40) [(.t 44), (.t 45)])⟩,
  ⟨(.some 47), (.some ⟨39, .true⟩), (.bin .eql (.t 46) (.c (.d (.int .i64 0))))⟩,
  ⟨(.some 48), .none, (.pick (.t 39) (.t 47) (.c (.d (.bool .false))))⟩,
  ⟨(.some 6), .none, (.mov (.t 35))⟩,
  ⟨(.some 7), .none, (.mov (.t 48))⟩]
abbrev c_slices_BinarySearchFunc_line_Run_int_int : AFunc := ⟨49, [(.tmp 6), (.tmp 7)], (.seq (.ops c_slices_BinarySearchFunc_line_Run_int_int_r0) (.seq (.ops c_slices_BinarySearchFunc_line_Run_int_int_r1) (.seq (.ops c_slices_BinarySearchFunc_line_Run_int_int_r2) (.seq (.block 0 (.loop c_slices_BinarySearchFunc_line_Run_int_int_l0)) (.seq (.ops c_slices_BinarySearchFunc_line_Run_int_int_r8) .ret)))))⟩
theorem comp_slices_BinarySearchFunc_line_Run_int_int : funcC Try.prog 44 = some c_slices_BinarySearchFunc_line_Run_int_int := by kernel_rfl
/-! function 45 :  poundage line.Line int .At 1 -/
abbrev f_line_Line_int_At_1 : FuncId := 45
abbrev c_line_Line_int_At_1_r0 : List AO := [⟨(.some 2), .none, (.box 69 (.t 0))⟩,
  ⟨(.some 4), .none, (.mov (.c (.d (.int .i64 0))))⟩]
abbrev c_line_Line_int_At_1_r1 : List AO := [⟨(.some 5), .none, (.fieldAddr 1 (.t 2))⟩,
  ⟨(.some 6), .none, (.load .none (.t 5))⟩,
  ⟨(.some 7), .none, (.mov (.t 1))⟩,
  ⟨(.some 8), .none, (.call 40 [(.t 6), (.t 7)])⟩,
  ⟨(.some 4), .none, (.mov (.t 8))⟩]
abbrev c_line_Line_int_At_1 : AFunc := ⟨9, [(.tmp 4)], (.seq (.ops c_line_Line_int_At_1_r0) (.seq (.ops c_line_Line_int_At_1_r1) .ret))⟩
theorem comp_line_Line_int_At_1 : funcC Try.prog 45 = some c_line_Line_int_At_1 := by kernel_rfl
/-! function 46 : cmp.isNaN int  -/
abbrev f_cmp_isNaN_int : FuncId := 46
abbrev c_cmp_isNaN_int_r0 : List AO := [⟨(.some 2), .none, (.mov (.c (.d (.bool .false))))⟩]
abbrev c_cmp_isNaN_int_r1 : List AO := [⟨(.some 3), .none, (.mov (.t 0))⟩,
  ⟨(.some 4), .none, (.mov (.t 0))⟩,
  ⟨(.some 5), .none, (.bin .neq (.t 3) (.t 4))⟩,
  ⟨(.some 2), .none, (.mov (.t 5))⟩]
abbrev c_cmp_isNaN_int : AFunc := ⟨6, [(.tmp 2)], (.seq (.ops c_cmp_isNaN_int_r0) (.seq (.ops c_cmp_isNaN_int_r1) .ret))⟩
theorem comp_cmp_isNaN_int : funcC Try.prog 46 = some c_cmp_isNaN_int := by kernel_rfl
/-! function 47 : slices.Values poundage line.Run int poundage line.Run int  -/
abbrev f_slices_Values_line_Run_int_ : FuncId := 47
abbrev c_slices_Values_line_Run_int__r0 : List AO := [⟨(.some 1), .none, (.box 33 (.t 0))⟩,
  ⟨(.some 2), .none, (.mov (.c .nilfn))⟩]
abbrev c_slices_Values_line_Run_int__r1 : List AO := [⟨(.some 3), .none, (.mkfn 48 [(.t 1)])⟩,
  ⟨(.some 2), .none, (.mov (.t 3))⟩]
abbrev c_slices_Values_line_Run_int_ : AFunc := ⟨4, [(.tmp 2)], (.seq (.ops c_slices_Values_line_Run_int__r0) (.seq (.ops c_slices_Values_line_Run_int__r1) .ret))⟩
theorem comp_slices_Values_line_Run_int_ : funcC Try.prog 47 = some c_slices_Values_line_Run_int_ := by kernel_rfl
/-! function 48 : slices.Values poundage line.Run int poundage line.Run int 1 -/
abbrev f_slices_Values_line_Run_int_1 : FuncId := 48
abbrev c_slices_Values_line_Run_int_1_r0 : List AO := [⟨(.some 5), .none, (.load .none (.t 1))⟩,
  ⟨(.some 6), .none, (.len (.t 5))⟩,
  ⟨(.some 7), .none, (.mov (.c (.d (.int .i64 0))))⟩]
abbrev c_slices_Values_line_Run_int_1_r1 : List AO := [⟨(.some 8), .none, (.bin .lss (.t 7) (.t 6))⟩]
abbrev c_slices_Values_line_Run_int_1_r2 : List AO := [⟨(.some 9), .none, (.elemAddr 3 (.t 5) (.t 7))⟩,
  ⟨(.some 10), .none, (.load (.some 3) (.t 9))⟩,
  ⟨(.some 4), .none, (.alloc 69 [(.d (.int .i64 0)), (.d (.int .i64 0)), (.d (.int .i64 0))])⟩,
  ⟨.none, .none, (.store 3 (.t 4) (.t 10))⟩]
abbrev c_slices_Values_line_Run_int_1_r3 : List AO := [⟨(.some 11), .none, (.mov (.t 0))⟩,
  ⟨(.some 12), .none, (.load (.some 3) (.t 4))⟩,
  ⟨(.some 13), .none, (.callv (.t 11) [(.t 12)])⟩,
  ⟨(.some 14), .none, (.un .not (.t 13))⟩]
abbrev c_slices_Values_line_Run_int_1_r4 : List AO := [⟨(.some 15), .none, (.bin .add (.t 7) (.c (.d (.int .i64 1))))⟩,
  ⟨(.some 7), .none, (.mov (.t 15))⟩]
abbrev c_slices_Values_line_Run_int_1_l0 : ACode := (.seq (.ops c_slices_Values_line_Run_int_1_r1) (.seq (.cond (.t 8) .skip (.exit 0)) (.seq (.block 1 (.seq (.ops c_slices_Values_line_Run_int_1_r2) (.seq (.ops c_slices_Values_line_Run_int_1_r3) (.cond (.t 14) .ret .skip)))) (.ops c_slices_Values_line_Run_int_1_r4))))
abbrev c_slices_Values_line_Run_int_1 : AFunc := ⟨16, [], (.seq (.ops c_slices_Values_line_Run_int_1_r0) (.block 0 (.loop c_slices_Values_line_Run_int_1_l0)))⟩
theorem comp_slices_Values_line_Run_int_1 : funcC Try.prog 48 = some c_slices_Values_line_Run_int_1 := by kernel_rfl
/-! function 49 :  runtime.boundsError .Error -/
abbrev f__runtime_boundsError_Error : FuncId := 49
/-! function 50 :  runtime.boundsError .RuntimeError -/
abbrev f__runtime_boundsError_RuntimeError : FuncId := 50
/-! function 51 :  runtime.errorString .Error -/
abbrev f__runtime_errorString_Error : FuncId := 51
/-! function 52 :  runtime.errorString .RuntimeError -/
abbrev f__runtime_errorString_RuntimeError : FuncId := 52
/-! function 53 :  runtime.plainError .Error -/
abbrev f__runtime_plainError_Error : FuncId := 53
/-! function 54 :  runtime.plainError .RuntimeError -/
abbrev f__runtime_plainError_RuntimeError : FuncId := 54
/-! function 55 :  runtime.errorAddressString .Error -/
abbrev f__runtime_errorAddressString_Error : FuncId := 55
/-! function 56 :  runtime.errorAddressString .RuntimeError -/
abbrev f__runtime_errorAddressString_RuntimeError : FuncId := 56
/-! function 57 :  runtime.TypeAssertionError .Error -/
abbrev f__runtime_TypeAssertionError_Error : FuncId := 57
/-! function 58 :  runtime.TypeAssertionError .RuntimeError -/
abbrev f__runtime_TypeAssertionError_RuntimeError : FuncId := 58
/-! function 59 :  runtime.PanicNilError .Error -/
abbrev f__runtime_PanicNilError_Error : FuncId := 59
/-! function 60 :  runtime.PanicNilError .RuntimeError -/
abbrev f__runtime_PanicNilError_RuntimeError : FuncId := 60
/-! function 61 :  internal abi.Type .Align -/
abbrev f_abi_Type_Align : FuncId := 61
/-! function 62 :  internal runtime maps.unhashableTypeError .Error -/
abbrev f_maps_unhashableTypeError_Error : FuncId := 62
/-! function 63 :  internal runtime maps.unhashableTypeError .RuntimeError -/
abbrev f_maps_unhashableTypeError_RuntimeError : FuncId := 63
/-! function 64 :  poundage line.Line string .Runs -/
abbrev f_line_Line_string_Runs : FuncId := 64
/-! function 65 :  poundage line.Line string .Span -/
abbrev f_line_Line_string_Span : FuncId := 65
/-! function 66 :  internal abi.Kind .String -/
abbrev f_abi_Kind_String : FuncId := 66
end Go.Proofs.Ytgfimmaligcgjaa.Abs
