/- The given functions, as the abstract machine has them: printed by a program of this session. No claim stands here. -/
import Derived.Test.YtonlgniaoompaaaProg
import Derived.Test.YtonlgniaoompaaaAbs1
import Derived.KernelRfl
namespace Go.Proofs.Ytonlgniaoompaaa.Abs
open Go Go.RowKit Go.Proofs
/-! function 3 : poundage poundagelaw15.CurveIs -/
abbrev f_poundagelaw15_CurveIs : FuncId := 3
abbrev c_poundagelaw15_CurveIs_r0 : List AO := [⟨(.some 6), .none, (.mov (.c (.d (.bool .false))))⟩]
abbrev c_poundagelaw15_CurveIs_r1 : List AO := [⟨(.some 13), .none, (.call 8 [])⟩,
  ⟨(.some 14), .none, (.un .not (.t 13))⟩]
abbrev c_poundagelaw15_CurveIs_r2 : List AO := [⟨(.some 6), .none, (.mov (.c (.d (.bool .false))))⟩]
abbrev c_poundagelaw15_CurveIs_r3 : List AO := [⟨(.some 15), .none, (.mov (.t 1))⟩,
  ⟨(.some 16), .none, (.len (.t 15))⟩,
  ⟨(.some 17), .none, (.bin .gtr (.t 16) (.c (.d (.int .i64 3000))))⟩,
  ⟨(.some 18), .none, (.mov (.t 17))⟩,
  ⟨(.some 19), (.some ⟨18, .false⟩), (.mov (.t 0))⟩,
  ⟨(.some 20), (.some ⟨18, .false⟩), (.bin .gtr (.t 19) (.c (.d (.int .i64 1048576))))⟩,
  ⟨(.some 21), .none, (.pick (.t 18) (.c (.d (.bool .true))) (.t 20))⟩,
  ⟨(.some 22), .none, (.mov (.t 21))⟩,
  ⟨(.some 23), (.some ⟨22, .false⟩), (.mov (.t 0))⟩,
  ⟨(.some 24), (.some ⟨22, .false⟩), (.bin .lss (.t 23) (.c (.d (.int .i64 (-1048576)))))⟩,
  ⟨(.some 25), .none, (.pick (.t 22) (.c (.d (.bool .true))) (.t 24))⟩]
abbrev c_poundagelaw15_CurveIs_r4 : List AO := [⟨(.some 6), .none, (.mov (.c (.d (.bool .true))))⟩]
abbrev c_poundagelaw15_CurveIs_r5 : List AO := [⟨(.some 27), .none, (.mov (.t 0))⟩,
  ⟨(.some 28), .none, (.mov (.t 1))⟩,
  ⟨(.some 29), .none, (.call 10 [(.t 27), (.t 28)])⟩,
  ⟨(.some 30), .none, (.call 9 [(.t 29)])⟩,
  ⟨(.some 26), .none, (.mov (.t 30))⟩,
  ⟨(.some 31), .none, (.extract (.t 26) 0)⟩,
  ⟨(.some 32), .none, (.extract (.t 26) 1)⟩,
  ⟨(.some 7), .none, (.alloc 26 [(.d (.int .i64 0)), (.nilsl 5)])⟩,
  ⟨.none, .none, (.store 2 (.t 7) (.t 31))⟩,
  ⟨(.some 8), .none, (.mov (.t 32))⟩]
abbrev c_poundagelaw15_CurveIs_r6 : List AO := [⟨(.some 34), .none, (.mov (.t 1))⟩,
  ⟨(.some 35), .none, (.call 11 [(.t 34)])⟩,
  ⟨(.some 33), .none, (.mov (.t 35))⟩,
  ⟨(.some 36), .none, (.extract (.t 33) 0)⟩,
  ⟨(.some 37), .none, (.extract (.t 33) 1)⟩,
  ⟨(.some 9), .none, (.alloc 26 [(.d (.int .i64 0)), (.nilsl 5)])⟩,
  ⟨.none, .none, (.store 2 (.t 9) (.t 36))⟩,
  ⟨(.some 10), .none, (.mov (.t 37))⟩]
abbrev c_poundagelaw15_CurveIs_r7 : List AO := [⟨(.some 38), .none, (.mov (.t 0))⟩,
  ⟨(.some 39), .none, (.bin .neq (.t 38) (.c (.d (.int .i64 0))))⟩]
abbrev c_poundagelaw15_CurveIs_r8 : List AO := [⟨(.some 40), .none, (.mov (.t 8))⟩,
  ⟨(.some 41), .none, (.un .not (.t 40))⟩,
  ⟨(.some 42), .none, (.mov (.t 41))⟩,
  ⟨(.some 43), (.some ⟨42, .true⟩), (.fieldAddr 1 (.t 7))⟩,
  ⟨(.some 44), (.some ⟨42, .true⟩), (.load .none (.t 43))⟩,
  ⟨(.some 45), (.some ⟨42, .true⟩), (.len (.t 44))⟩,
  ⟨(.some 46), (.some ⟨42, .true⟩), (.bin .eql (.t 45) (.c (.d (.int .i64 0))))⟩,
  ⟨(.some 47), .none, (.pick (.t 42) (.t 46) (.c (.d (.bool .false))))⟩,
  ⟨(.some 48), .none, (.mov (.t 47))⟩,
  ⟨(.some 49), (.some ⟨48, .true⟩), (.fieldAddr 0 (.t 7))⟩,
  ⟨(.some 50), (.some ⟨48, .true⟩), (.load .none (.t 49))⟩,
  ⟨(.some 51), (.some ⟨48, .true⟩), (.bin .eql (.t 50) (.c (.d (.int .i64 0))))⟩,
  ⟨(.some 52), .none, (.pick (.t 48) (.t 51) (.c (.d (.bool .false))))⟩,
  ⟨(.some 6), .none, (.mov (.t 52))⟩]
abbrev c_poundagelaw15_CurveIs_r9 : List AO := [⟨(.some 53), .none, (.mov (.t 8))⟩,
  ⟨(.some 54), .none, (.mov (.t 10))⟩,
  ⟨(.some 55), .none, (.binb .true (.t 53) (.t 54))⟩,
  ⟨(.some 56), .none, (.mov (.t 55))⟩,
  ⟨(.some 57), (.some ⟨56, .false⟩), (.load (.some 2) (.t 7))⟩,
  ⟨(.some 58), (.some ⟨56, .false⟩), (.load (.some 2) (.t 9))⟩,
  ⟨(.some 59), (.some ⟨56, .false⟩), (.call 12 [(.t 57), (.t 58)])⟩,
  ⟨(.some 60), (.some ⟨56, .false⟩), (.un .not (.t 59))⟩,
  ⟨(.some 61), .none, (.pick (.t 56) (.c (.d (.bool .true))) (.t 60))⟩]
abbrev c_poundagelaw15_CurveIs_r10 : List AO := [⟨(.some 6), .none, (.mov (.c (.d (.bool .false))))⟩]
abbrev c_poundagelaw15_CurveIs_r11 : List AO := [⟨(.some 62), .none, (.mov (.t 8))⟩,
  ⟨(.some 63), .none, (.un .not (.t 62))⟩]
abbrev c_poundagelaw15_CurveIs_r12 : List AO := [⟨(.some 6), .none, (.mov (.c (.d (.bool .true))))⟩]
abbrev c_poundagelaw15_CurveIs_r13 : List AO := [⟨(.some 65), .none, (.load (.some 2) (.t 7))⟩,
  ⟨(.some 66), .none, (.mov (.t 2))⟩,
  ⟨(.some 67), .none, (.call 13 [(.t 65), (.t 66)])⟩,
  ⟨(.some 64), .none, (.mov (.t 67))⟩,
  ⟨(.some 68), .none, (.extract (.t 64) 0)⟩,
  ⟨(.some 69), .none, (.extract (.t 64) 1)⟩,
  ⟨(.some 11), .none, (.mov (.t 68))⟩,
  ⟨(.some 12), .none, (.mov (.t 69))⟩]
abbrev c_poundagelaw15_CurveIs_r14 : List AO := [⟨(.some 70), .none, (.mov (.t 2))⟩,
  ⟨(.some 71), .none, (.bin .lss (.t 70) (.c (.d (.int .i64 0))))⟩,
  ⟨(.some 72), .none, (.mov (.t 71))⟩,
  ⟨(.some 73), (.some ⟨72, .false⟩), (.mov (.t 2))⟩,
  ⟨(.some 74), (.some ⟨72, .false⟩), (.mov (.t 1))⟩,
  ⟨(.some 75), (.some ⟨72, .false⟩), (.len (.t 74))⟩,
  ⟨(.some 76), (.some ⟨72, .false⟩), (.bin .geq (.t 73) (.t 75))⟩,
  ⟨(.some 77), .none, (.pick (.t 72) (.c (.d (.bool .true))) (.t 76))⟩]
abbrev c_poundagelaw15_CurveIs_r15 : List AO := [⟨(.some 78), .none, (.mov (.t 11))⟩,
  ⟨(.some 79), .none, (.bin .eql (.t 78) (.c (.d (.int .i64 0))))⟩,
  ⟨(.some 80), .none, (.mov (.t 79))⟩,
  ⟨(.some 81), (.some ⟨80, .true⟩), (.mov (.t 12))⟩,
  ⟨(.some 82), (.some ⟨80, .true⟩), (.un .not (.t 81))⟩,
  ⟨(.some 83), .none, (.pick (.t 80) (.t 82) (.c (.d (.bool .false))))⟩,
  ⟨(.some 6), .none, (.mov (.t 83))⟩]
abbrev c_poundagelaw15_CurveIs_r16 : List AO := [⟨(.some 84), .none, (.mov (.t 11))⟩,
  ⟨(.some 85), .none, (.mov (.t 1))⟩,
  ⟨(.some 86), .none, (.mov (.t 2))⟩,
  ⟨(.some 87), .none, (.elemAddr 1 (.t 85) (.t 86))⟩,
  ⟨(.some 88), .none, (.load .none (.t 87))⟩,
  ⟨(.some 89), .none, (.bin .eql (.t 84) (.t 88))⟩,
  ⟨(.some 90), .none, (.mov (.t 89))⟩,
  ⟨(.some 91), (.some ⟨90, .true⟩), (.mov (.t 12))⟩,
  ⟨(.some 92), .none, (.pick (.t 90) (.t 91) (.c (.d (.bool .false))))⟩,
  ⟨(.some 6), .none, (.mov (.t 92))⟩]
abbrev c_poundagelaw15_CurveIs : AFunc := ⟨93, [(.tmp 6)], (.seq (.ops c_poundagelaw15_CurveIs_r0) (.seq (.seq (.ops c_poundagelaw15_CurveIs_r1) (.cond (.t 14) (.seq (.ops c_poundagelaw15_CurveIs_r2) .ret) .skip)) (.seq (.seq (.ops c_poundagelaw15_CurveIs_r3) (.cond (.t 25) (.seq (.ops c_poundagelaw15_CurveIs_r4) .ret) .skip)) (.seq (.ops c_poundagelaw15_CurveIs_r5) (.seq (.ops c_poundagelaw15_CurveIs_r6) (.seq (.seq (.ops c_poundagelaw15_CurveIs_r7) (.cond (.t 39) (.seq (.ops c_poundagelaw15_CurveIs_r8) .ret) .skip)) (.seq (.seq (.ops c_poundagelaw15_CurveIs_r9) (.cond (.t 61) (.seq (.ops c_poundagelaw15_CurveIs_r10) .ret) .skip)) (.seq (.seq (.ops c_poundagelaw15_CurveIs_r11) (.cond (.t 63) (.seq (.ops c_poundagelaw15_CurveIs_r12) .ret) .skip)) (.seq (.ops c_poundagelaw15_CurveIs_r13) (.seq (.seq (.ops c_poundagelaw15_CurveIs_r14) (.cond (.t 77) (.seq (.ops c_poundagelaw15_CurveIs_r15) .ret) .skip)) (.seq (.ops c_poundagelaw15_CurveIs_r16) .ret)))))))))))⟩
theorem comp_poundagelaw15_CurveIs : funcC Try.prog 3 = some c_poundagelaw15_CurveIs := by kernel_rfl
/-! function 4 : poundage poundagelaw15.CurveOne -/
abbrev f_poundagelaw15_CurveOne : FuncId := 4
abbrev c_poundagelaw15_CurveOne_r0 : List AO := [⟨(.some 4), .none, (.mov (.c (.d (.bool .false))))⟩]
abbrev c_poundagelaw15_CurveOne_r1 : List AO := [⟨(.some 11), .none, (.call 8 [])⟩,
  ⟨(.some 12), .none, (.un .not (.t 11))⟩]
abbrev c_poundagelaw15_CurveOne_r2 : List AO := [⟨(.some 4), .none, (.mov (.c (.d (.bool .false))))⟩]
abbrev c_poundagelaw15_CurveOne_r3 : List AO := [⟨(.some 13), .none, (.mov (.t 0))⟩,
  ⟨(.some 14), .none, (.len (.t 13))⟩,
  ⟨(.some 15), .none, (.bin .gtr (.t 14) (.c (.d (.int .i64 2001))))⟩,
  ⟨(.some 16), .none, (.mov (.t 15))⟩,
  ⟨(.some 17), (.some ⟨16, .false⟩), (.mov (.t 1))⟩,
  ⟨(.some 18), (.some ⟨16, .false⟩), (.len (.t 17))⟩,
  ⟨(.some 19), (.some ⟨16, .false⟩), (.bin .gtr (.t 18) (.c (.d (.int .i64 2001))))⟩,
  ⟨(.some 20), .none, (.pick (.t 16) (.c (.d (.bool .true))) (.t 19))⟩]
abbrev c_poundagelaw15_CurveOne_r4 : List AO := [⟨(.some 4), .none, (.mov (.c (.d (.bool .true))))⟩]
abbrev c_poundagelaw15_CurveOne_r5 : List AO := [⟨(.some 22), .none, (.mov (.t 0))⟩,
  ⟨(.some 23), .none, (.call 10 [(.c (.d (.int .i64 0))), (.t 22)])⟩,
  ⟨(.some 24), .none, (.call 9 [(.t 23)])⟩,
  ⟨(.some 21), .none, (.mov (.t 24))⟩,
  ⟨(.some 25), .none, (.extract (.t 21) 0)⟩,
  ⟨(.some 26), .none, (.extract (.t 21) 1)⟩,
  ⟨(.some 5), .none, (.alloc 26 [(.d (.int .i64 0)), (.nilsl 5)])⟩,
  ⟨.none, .none, (.store 2 (.t 5) (.t 25))⟩,
  ⟨(.some 6), .none, (.mov (.t 26))⟩]
abbrev c_poundagelaw15_CurveOne_r6 : List AO := [⟨(.some 28), .none, (.mov (.t 1))⟩,
  ⟨(.some 29), .none, (.call 10 [(.c (.d (.int .i64 0))), (.t 28)])⟩,
  ⟨(.some 30), .none, (.call 9 [(.t 29)])⟩,
  ⟨(.some 27), .none, (.mov (.t 30))⟩,
  ⟨(.some 31), .none, (.extract (.t 27) 0)⟩,
  ⟨(.some 32), .none, (.extract (.t 27) 1)⟩,
  ⟨(.some 7), .none, (.alloc 26 [(.d (.int .i64 0)), (.nilsl 5)])⟩,
  ⟨.none, .none, (.store 2 (.t 7) (.t 31))⟩,
  ⟨(.some 8), .none, (.mov (.t 32))⟩]
abbrev c_poundagelaw15_CurveOne_r7 : List AO := [⟨(.some 33), .none, (.mov (.t 6))⟩,
  ⟨(.some 34), .none, (.un .not (.t 33))⟩,
  ⟨(.some 35), .none, (.mov (.t 34))⟩,
  ⟨(.some 36), (.some ⟨35, .false⟩), (.mov (.t 8))⟩,
  ⟨(.some 37), (.some ⟨35, .false⟩), (.un .not (.t 36))⟩,
  ⟨(.some 38), .none, (.pick (.t 35) (.c (.d (.bool .true))) (.t 37))⟩]
abbrev c_poundagelaw15_CurveOne_r8 : List AO := [⟨(.some 4), .none, (.mov (.c (.d (.bool .true))))⟩]
abbrev c_poundagelaw15_CurveOne_r9 : List AO := [⟨(.some 39), .none, (.mov (.t 0))⟩,
  ⟨(.some 40), .none, (.len (.t 39))⟩,
  ⟨(.some 41), .none, (.mov (.t 1))⟩,
  ⟨(.some 42), .none, (.len (.t 41))⟩,
  ⟨(.some 43), .none, (.bin .eql (.t 40) (.t 42))⟩,
  ⟨(.some 9), .none, (.mov (.t 43))⟩]
abbrev c_poundagelaw15_CurveOne_r10 : List AO := [⟨(.some 44), .none, (.mov (.t 0))⟩,
  ⟨(.some 45), .none, (.len (.t 44))⟩,
  ⟨(.some 46), .none, (.mov (.c (.d (.int .i64 0))))⟩]
abbrev c_poundagelaw15_CurveOne_r11 : List AO := [⟨(.some 47), .none, (.bin .lss (.t 46) (.t 45))⟩]
abbrev c_poundagelaw15_CurveOne_r12 : List AO := [⟨(.some 48), .none, (.mov (.t 46))⟩,
  ⟨(.some 10), .none, (.mov (.t 48))⟩]
abbrev c_poundagelaw15_CurveOne_r13 : List AO := [⟨(.some 49), .none, (.mov (.t 9))⟩,
  ⟨(.some 50), .none, (.mov (.t 49))⟩,
  ⟨(.some 51), (.some ⟨50, .true⟩), (.mov (.t 10))⟩,
  ⟨(.some 52), (.some ⟨50, .true⟩), (.mov (.t 1))⟩,
  ⟨(.some 53), (.some ⟨50, .true⟩), (.len (.t 52))⟩,
  ⟨(.some 54), (.some ⟨50, .true⟩), (.bin .lss (.t 51) (.t 53))⟩,
  ⟨(.some 55), .none, (.pick (.t 50) (.t 54) (.c (.d (.bool .false))))⟩,
  ⟨(.some 56), .none, (.mov (.t 55))⟩,
  ⟨(.some 57), (.some ⟨56, .true⟩), (.mov (.t 0))⟩,
  ⟨(.some 58), (.some ⟨56, .true⟩), (.mov (.t 10))⟩,
  ⟨(.some 59), (.some ⟨56, .true⟩), (.elemAddr 1 (.t 57) (.t 58))⟩,
  ⟨(.some 61), (.some ⟨56, .true⟩), (.mov (.t 1))⟩,
  ⟨(.some 62), (.some ⟨56, .true⟩), (.mov (.t 10))⟩,
  ⟨(.some 63), (.some ⟨56, .true⟩), (.elemAddr 1 (.t 61) (.t 62))⟩,
  ⟨(.some 60), (.some ⟨56, .true⟩), (.load .none (.t 59))⟩,
  ⟨(.some 64), (.some ⟨56, .true⟩), (.load .none (.t 63))⟩,
  ⟨(.some 65), (.some ⟨56, .true⟩), (.bin .eql (.t 60) (.t 64))⟩,
  ⟨(.some 66), .none, (.pick (.t 56) (.t 65) (.c (.d (.bool .false))))⟩,
  ⟨(.some 9), .none, (.mov (.t 66))⟩]
abbrev c_poundagelaw15_CurveOne_r14 : List AO := [⟨(.some 67), .none, (.bin .add (.t 46) (.c (.d (.int .i64 1))))⟩,
  ⟨(.some 46), .none, (.mov (.t 67))⟩]
abbrev c_poundagelaw15_CurveOne_l0 : ACode := (.seq (.ops c_poundagelaw15_CurveOne_r11) (.seq (.cond (.t 47) .skip (.exit 0)) (.seq (.block 1 (.seq (.ops c_poundagelaw15_CurveOne_r12) (.dops c_poundagelaw15_CurveOne_r13))) (.ops c_poundagelaw15_CurveOne_r14))))
abbrev c_poundagelaw15_CurveOne_r15 : List AO := [⟨(.some 68), .none, (.load (.some 2) (.t 5))⟩,
  ⟨(.some 69), .none, (.load (.some 2) (.t 7))⟩,
  ⟨(.some 70), .none, (.call 14 [(.t 68), (.t 69)])⟩,
  ⟨(.some 71), .none, (.mov (.t 9))⟩,
  ⟨(.some 72), .none, (.binb .false (.t 70) (.t 71))⟩,
  ⟨(.some 73), .none, (.mov (.t 72))⟩,
  ⟨(.some 74), (.some ⟨73, .true⟩), (.load (.some 2) (.t 5))⟩,
  ⟨(.some 75), (.some ⟨73, .true⟩), (.load (.some 2) (.t 7))⟩,
  ⟨(.some 76), (.some ⟨73, .true⟩), (.call 12 [(.t 74), (.t 75)])⟩,
  ⟨(.some 77), (.some ⟨73, .true⟩), (.mov (.t 9))⟩,
  ⟨(.some 78), (.some ⟨73, .true⟩), (.binb .false (.t 76) (.t 77))⟩,
  ⟨(.some 79), .none, (.pick (.t 73) (.t 78) (.c (.d (.bool .false))))⟩,
  ⟨(.some 4), .none, (.mov (.t 79))⟩]
abbrev c_poundagelaw15_CurveOne : AFunc := ⟨80, [(.tmp 4)], (.seq (.ops c_poundagelaw15_CurveOne_r0) (.seq (.seq (.ops c_poundagelaw15_CurveOne_r1) (.cond (.t 12) (.seq (.ops c_poundagelaw15_CurveOne_r2) .ret) .skip)) (.seq (.seq (.ops c_poundagelaw15_CurveOne_r3) (.cond (.t 20) (.seq (.ops c_poundagelaw15_CurveOne_r4) .ret) .skip)) (.seq (.ops c_poundagelaw15_CurveOne_r5) (.seq (.ops c_poundagelaw15_CurveOne_r6) (.seq (.seq (.ops c_poundagelaw15_CurveOne_r7) (.cond (.t 38) (.seq (.ops c_poundagelaw15_CurveOne_r8) .ret) .skip)) (.seq (.ops c_poundagelaw15_CurveOne_r9) (.seq (.seq (.ops c_poundagelaw15_CurveOne_r10) (.block 0 (.loop c_poundagelaw15_CurveOne_l0))) (.seq (.ops c_poundagelaw15_CurveOne_r15) .ret)))))))))⟩
theorem comp_poundagelaw15_CurveOne : funcC Try.prog 4 = some c_poundagelaw15_CurveOne := by kernel_rfl
/-! function 5 : poundage poundagelaw15.CurveGroups -/
abbrev f_poundagelaw15_CurveGroups : FuncId := 5
abbrev c_poundagelaw15_CurveGroups_r0 : List AO := [⟨(.some 2), .none, (.mov (.c (.d (.bool .false))))⟩]
abbrev c_poundagelaw15_CurveGroups_r1 : List AO := [⟨(.some 10), .none, (.call 8 [])⟩,
  ⟨(.some 11), .none, (.un .not (.t 10))⟩]
abbrev c_poundagelaw15_CurveGroups_r2 : List AO := [⟨(.some 2), .none, (.mov (.c (.d (.bool .false))))⟩]
abbrev c_poundagelaw15_CurveGroups_r3 : List AO := [⟨(.some 12), .none, (.mov (.t 0))⟩,
  ⟨(.some 13), .none, (.len (.t 12))⟩,
  ⟨(.some 14), .none, (.bin .gtr (.t 13) (.c (.d (.int .i64 2001))))⟩]
abbrev c_poundagelaw15_CurveGroups_r4 : List AO := [⟨(.some 2), .none, (.mov (.c (.d (.bool .true))))⟩]
abbrev c_poundagelaw15_CurveGroups_r5 : List AO := [⟨(.some 16), .none, (.mov (.t 0))⟩,
  ⟨(.some 17), .none, (.call 10 [(.c (.d (.int .i64 0))), (.t 16)])⟩,
  ⟨(.some 18), .none, (.call 9 [(.t 17)])⟩,
  ⟨(.some 15), .none, (.mov (.t 18))⟩,
  ⟨(.some 19), .none, (.extract (.t 15) 0)⟩,
  ⟨(.some 20), .none, (.extract (.t 15) 1)⟩,
  ⟨(.some 3), .none, (.alloc 26 [(.d (.int .i64 0)), (.nilsl 5)])⟩,
  ⟨.none, .none, (.store 2 (.t 3) (.t 19))⟩,
  ⟨(.some 4), .none, (.mov (.t 20))⟩]
abbrev c_poundagelaw15_CurveGroups_r6 : List AO := [⟨(.some 21), .none, (.mov (.t 4))⟩,
  ⟨(.some 22), .none, (.un .not (.t 21))⟩]
abbrev c_poundagelaw15_CurveGroups_r7 : List AO := [⟨(.some 2), .none, (.mov (.c (.d (.bool .true))))⟩]
abbrev c_poundagelaw15_CurveGroups_r8 : List AO := [⟨(.some 5), .none, (.mov (.c (.d (.int .i64 0))))⟩]
abbrev c_poundagelaw15_CurveGroups_r9 : List AO := [⟨(.some 23), .none, (.fieldAddr 1 (.t 3))⟩,
  ⟨(.some 24), .none, (.load .none (.t 23))⟩,
  ⟨(.some 25), .none, (.len (.t 24))⟩,
  ⟨(.some 26), .none, (.mov (.c (.d (.int .i64 0))))⟩]
abbrev c_poundagelaw15_CurveGroups_r10 : List AO := [⟨(.some 27), .none, (.bin .lss (.t 26) (.t 25))⟩]
abbrev c_poundagelaw15_CurveGroups_r11 : List AO := [⟨(.some 28), .none, (.mov (.t 26))⟩,
  ⟨(.some 29), .none, (.elemAddr 5 (.t 24) (.t 26))⟩,
  ⟨(.some 30), .none, (.load (.some 5) (.t 29))⟩,
  ⟨(.some 7), .none, (.alloc 40 [(.d (.int .i64 0)), (.d (.int .i64 0)), (.d (.int .i64 0)), (.d (.int .i64 0)), (.d (.int .i64 0))])⟩,
  ⟨(.some 6), .none, (.mov (.t 28))⟩,
  ⟨.none, .none, (.store 5 (.t 7) (.t 30))⟩]
abbrev c_poundagelaw15_CurveGroups_r12 : List AO := [⟨(.some 31), .none, (.mov (.t 6))⟩,
  ⟨(.some 32), .none, (.bin .eql (.t 31) (.c (.d (.int .i64 0))))⟩,
  ⟨(.some 33), .none, (.mov (.t 32))⟩,
  ⟨(.some 34), (.some ⟨33, .true⟩), (.fieldAddr 0 (.t 7))⟩,
  ⟨(.some 35), (.some ⟨33, .true⟩), (.load .none (.t 34))⟩,
  ⟨(.some 36), (.some ⟨33, .true⟩), (.bin .neq (.t 35) (.c (.d (.int .i64 0))))⟩,
  ⟨(.some 37), .none, (.pick (.t 33) (.t 36) (.c (.d (.bool .false))))⟩,
  ⟨(.some 38), .none, (.mov (.t 37))⟩,
  ⟨(.some 39), (.some ⟨38, .false⟩), (.fieldAddr 0 (.t 7))⟩,
  ⟨(.some 40), (.some ⟨38, .false⟩), (.load .none (.t 39))⟩,
  ⟨(.some 41), (.some ⟨38, .false⟩), (.mov (.t 5))⟩,
  ⟨(.some 42), (.some ⟨38, .false⟩), (.bin .lss (.t 40) (.t 41))⟩,
  ⟨(.some 43), .none, (.pick (.t 38) (.c (.d (.bool .true))) (.t 42))⟩,
  ⟨(.some 44), .none, (.mov (.t 43))⟩,
  ⟨(.some 45), (.some ⟨44, .false⟩), (.fieldAddr 4 (.t 7))⟩,
  ⟨(.some 46), (.some ⟨44, .false⟩), (.load .none (.t 45))⟩,
  ⟨(.some 47), (.some ⟨44, .false⟩), (.bin .lss (.t 46) (.c (.d (.int .i64 2))))⟩,
  ⟨(.some 48), (.some ⟨44, .false⟩), (.mov (.t 47))⟩,
  ⟨(.some 49), (.some ⟨48, .true⟩), (.mov (.t 6))⟩,
  ⟨(.some 50), (.some ⟨48, .true⟩), (.bin .add (.t 49) (.c (.d (.int .i64 1))))⟩,
  ⟨(.some 51), (.some ⟨48, .true⟩), (.fieldAddr 1 (.t 3))⟩,
  ⟨(.some 52), (.some ⟨48, .true⟩), (.load .none (.t 51))⟩,
  ⟨(.some 53), (.some ⟨48, .true⟩), (.len (.t 52))⟩,
  ⟨(.some 54), (.some ⟨48, .true⟩), (.bin .lss (.t 50) (.t 53))⟩,
  ⟨(.some 55), (.some ⟨44, .false⟩), (.pick (.t 48) (.t 54) (.c (.d (.bool .false))))⟩,
  ⟨(.some 56), .none, (.pick (.t 44) (.c (.d (.bool .true))) (.t 55))⟩,
  ⟨(.some 57), .none, (.mov (.t 56))⟩,
  ⟨(.some 58), (.some ⟨57, .false⟩), (.fieldAddr 4 (.t 7))⟩,
  ⟨(.some 59), (.some ⟨57, .false⟩), (.load .none (.t 58))⟩,
  ⟨(.some 60), (.some ⟨57, .false⟩), (.bin .eql (.t 59) (.c (.d (.int .i64 1))))⟩,
  ⟨(.some 61), (.some ⟨57, .false⟩), (.mov (.t 60))⟩,
  ⟨(.some 62), (.some ⟨61, .true⟩), (.fieldAddr 2 (.t 7))⟩,
  ⟨(.some 63), (.some ⟨61, .true⟩), (.load .none (.t 62))⟩,
  ⟨(.some 64), (.some ⟨61, .true⟩), (.bin .neq (.t 63) (.c (.d (.int .i64 0))))⟩,
  ⟨(.some 65), (.some ⟨61, .true⟩), (.mov (.t 64))⟩,
  ⟨(.some 66), (.some ⟨65, .false⟩), (.fieldAddr 3 (.t 7))⟩,
  ⟨(.some 67), (.some ⟨65, .false⟩), (.load .none (.t 66))⟩,
  ⟨(.some 68), (.some ⟨65, .false⟩), (.bin .neq (.t 67) (.c (.d (.int .i64 0))))⟩,
  ⟨(.some 69), (.some ⟨61, .true⟩), (.pick (.t 65) (.c (.d (.bool .true))) (.t 68))⟩,
  ⟨(.some 70), (.some ⟨57, .false⟩), (.pick (.t 61) (.t 69) (.c (.d (.bool .false))))⟩,
  ⟨(.some 71), .none, (.pick (.t 57) (.c (.d (.bool .true))) (.t 70))⟩,
  ⟨(.some 72), .none, (.mov (.t 71))⟩,
  ⟨(.some 73), (.some ⟨72, .false⟩), (.fieldAddr 4 (.t 7))⟩,
  ⟨(.some 74), (.some ⟨72, .false⟩), (.load .none (.t 73))⟩,
  ⟨(.some 75), (.some ⟨72, .false⟩), (.bin .gtr (.t 74) (.c (.d (.int .i64 1))))⟩,
  ⟨(.some 76), (.some ⟨72, .false⟩), (.mov (.t 75))⟩,
  ⟨(.some 77), (.some ⟨76, .true⟩), (.fieldAddr 2 (.t 7))⟩,
  ⟨(.some 78), (.some ⟨76, .true⟩), (.load .none (.t 77))⟩,
  ⟨(.some 79), (.some ⟨76, .true⟩), (.bin .lss (.t 78) (.c (.d (.int .i64 1))))⟩,
  ⟨(.some 80), (.some ⟨76, .true⟩), (.mov (.t 79))⟩,
  ⟨(.some 81), (.some ⟨80, .false⟩), (.fieldAddr 3 (.t 7))⟩,
  ⟨(.some 82), (.some ⟨80, .false⟩), (.load .none (.t 81))⟩,
  ⟨(.some 83), (.some ⟨80, .false⟩), (.bin .eql (.t 82) (.c (.d (.int .i64 0))))⟩,
  ⟨(.some 84), (.some ⟨76, .true⟩), (.pick (.t 80) (.c (.d (.bool .true))) (.t 83))⟩,
  ⟨(.some 85), (.some ⟨72, .false⟩), (.pick (.t 76) (.t 84) (.c (.d (.bool .false))))⟩,
  ⟨(.some 86), .none, (.pick (.t 72) (.c (.d (.bool .true))) (.t 85))⟩]
abbrev c_poundagelaw15_CurveGroups_r13 : List AO := [⟨(.some 2), .none, (.mov (.c (.d (.bool .false))))⟩]
abbrev c_poundagelaw15_CurveGroups_r14 : List AO := [⟨(.some 8), .none, (.mov (.c (.d (.int .i64 0))))⟩]
abbrev c_poundagelaw15_CurveGroups_r15 : List AO := [⟨(.some 87), .none, (.mov (.t 8))⟩,
  ⟨(.some 88), .none, (.fieldAddr 4 (.t 7))⟩,
  ⟨(.some 89), .none, (.load .none (.t 88))⟩,
  ⟨(.some 90), .none, (.bin .lss (.t 87) (.t 89))⟩]
abbrev c_poundagelaw15_CurveGroups_r16 : List AO := [⟨(.some 93), .none, (.fieldAddr 0 (.t 7))⟩,
  ⟨(.some 94), .none, (.load .none (.t 93))⟩,
  ⟨(.some 95), .none, (.mov (.t 8))⟩,
  ⟨(.some 96), .none, (.fieldAddr 2 (.t 7))⟩,
  ⟨(.some 97), .none, (.load .none (.t 96))⟩,
  ⟨(.some 98), .none, (.bin .mul (.t 95) (.t 97))⟩,
  ⟨(.some 99), .none, (.bin .add (.t 94) (.t 98))⟩,
  ⟨(.some 9), .none, (.mov (.t 99))⟩]
abbrev c_poundagelaw15_CurveGroups_r17 : List AO := [⟨(.some 100), .none, (.mov (.t 9))⟩,
  ⟨(.some 101), .none, (.mov (.t 0))⟩,
  ⟨(.some 102), .none, (.len (.t 101))⟩,
  ⟨(.some 103), .none, (.bin .geq (.t 100) (.t 102))⟩,
  ⟨(.some 104), .none, (.mov (.t 103))⟩,
  ⟨(.some 105), (.some ⟨104, .false⟩), (.mov (.t 0))⟩,
  ⟨(.some 106), (.some ⟨104, .false⟩), (.mov (.t 9))⟩,
  ⟨(.some 107), (.some ⟨104, .false⟩), (.elemAddr 1 (.t 105) (.t 106))⟩,
  ⟨(.some 109), (.some ⟨104, .false⟩), (.fieldAddr 1 (.t 7))⟩,
  ⟨(.some 111), (.some ⟨104, .false⟩), (.mov (.t 8))⟩,
  ⟨(.some 112), (.some ⟨104, .false⟩), (.fieldAddr 3 (.t 7))⟩,
  ⟨(.some 108), (.some ⟨104, .false⟩), (.load .none (.t 107))⟩,
  ⟨(.some 110), (.some ⟨104, .false⟩), (.load .none (.t 109))⟩,
  ⟨(.some 113), (.some ⟨104, .false⟩), (.load .none (.t 112))⟩,
  ⟨(.some 114), (.some ⟨104, .false⟩), (.bin .mul (.t 111) (.t 113))⟩,
  ⟨(.some 115), (.some ⟨104, .false⟩), (.bin .add (.t 110) (.t 114))⟩,
  ⟨(.some 116), (.some ⟨104, .false⟩), (.bin .neq (.t 108) (.t 115))⟩,
  ⟨(.some 117), .none, (.pick (.t 104) (.c (.d (.bool .true))) (.t 116))⟩]
abbrev c_poundagelaw15_CurveGroups_r18 : List AO := [⟨(.some 2), .none, (.mov (.c (.d (.bool .false))))⟩]
abbrev c_poundagelaw15_CurveGroups_r19 : List AO := [⟨(.some 118), .none, (.mov (.t 9))⟩,
  ⟨(.some 119), .none, (.bin .add (.t 118) (.c (.d (.int .i64 1))))⟩,
  ⟨(.some 5), .none, (.mov (.t 119))⟩]
abbrev c_poundagelaw15_CurveGroups_r20 : List AO := [⟨(.some 91), .none, (.mov (.t 8))⟩,
  ⟨(.some 92), .none, (.bin .add (.t 91) (.c (.d (.int .i64 1))))⟩,
  ⟨(.some 8), .none, (.mov (.t 92))⟩]
abbrev c_poundagelaw15_CurveGroups_l0 : ACode := (.seq (.seq (.ops c_poundagelaw15_CurveGroups_r15) (.cond (.t 90) .skip (.exit 2))) (.seq (.block 3 (.seq (.ops c_poundagelaw15_CurveGroups_r16) (.seq (.seq (.dops c_poundagelaw15_CurveGroups_r17) (.cond (.t 117) (.seq (.ops c_poundagelaw15_CurveGroups_r18) .ret) .skip)) (.ops c_poundagelaw15_CurveGroups_r19)))) (.ops c_poundagelaw15_CurveGroups_r20)))
abbrev c_poundagelaw15_CurveGroups_r21 : List AO := [⟨(.some 120), .none, (.bin .add (.t 26) (.c (.d (.int .i64 1))))⟩,
  ⟨(.some 26), .none, (.mov (.t 120))⟩]
abbrev c_poundagelaw15_CurveGroups_l1 : ACode := (.seq (.ops c_poundagelaw15_CurveGroups_r10) (.seq (.cond (.t 27) .skip (.exit 0)) (.seq (.block 1 (.seq (.ops c_poundagelaw15_CurveGroups_r11) (.seq (.seq (.ops c_poundagelaw15_CurveGroups_r12) (.cond (.t 86) (.seq (.ops c_poundagelaw15_CurveGroups_r13) .ret) .skip)) (.seq (.ops c_poundagelaw15_CurveGroups_r14) (.block 2 (.loop c_poundagelaw15_CurveGroups_l0)))))) (.ops c_poundagelaw15_CurveGroups_r21))))
abbrev c_poundagelaw15_CurveGroups_r22 : List AO := [⟨(.some 121), .none, (.fieldAddr 0 (.t 3))⟩,
  ⟨(.some 122), .none, (.load .none (.t 121))⟩,
  ⟨(.some 123), .none, (.mov (.t 0))⟩,
  ⟨(.some 124), .none, (.len (.t 123))⟩,
  ⟨(.some 125), .none, (.bin .sub (.t 124) (.c (.d (.int .i64 1))))⟩,
  ⟨(.some 126), .none, (.bin .eql (.t 122) (.t 125))⟩,
  ⟨(.some 2), .none, (.mov (.t 126))⟩]
abbrev c_poundagelaw15_CurveGroups : AFunc := ⟨127, [(.tmp 2)], (.seq (.ops c_poundagelaw15_CurveGroups_r0) (.seq (.seq (.ops c_poundagelaw15_CurveGroups_r1) (.cond (.t 11) (.seq (.ops c_poundagelaw15_CurveGroups_r2) .ret) .skip)) (.seq (.seq (.ops c_poundagelaw15_CurveGroups_r3) (.cond (.t 14) (.seq (.ops c_poundagelaw15_CurveGroups_r4) .ret) .skip)) (.seq (.ops c_poundagelaw15_CurveGroups_r5) (.seq (.seq (.ops c_poundagelaw15_CurveGroups_r6) (.cond (.t 22) (.seq (.ops c_poundagelaw15_CurveGroups_r7) .ret) .skip)) (.seq (.ops c_poundagelaw15_CurveGroups_r8) (.seq (.seq (.ops c_poundagelaw15_CurveGroups_r9) (.block 0 (.loop c_poundagelaw15_CurveGroups_l1))) (.seq (.ops c_poundagelaw15_CurveGroups_r22) .ret))))))))⟩
theorem comp_poundagelaw15_CurveGroups : funcC Try.prog 5 = some c_poundagelaw15_CurveGroups := by kernel_rfl
/-! function 6 : poundage poundagelaw15.CurveSteps -/
abbrev f_poundagelaw15_CurveSteps : FuncId := 6
abbrev c_poundagelaw15_CurveSteps_r0 : List AO := [⟨(.some 8), .none, (.mov (.c (.d (.bool .false))))⟩]
abbrev c_poundagelaw15_CurveSteps_r1 : List AO := [⟨(.some 15), .none, (.call 8 [])⟩,
  ⟨(.some 16), .none, (.un .not (.t 15))⟩]
abbrev c_poundagelaw15_CurveSteps_r2 : List AO := [⟨(.some 8), .none, (.mov (.c (.d (.bool .false))))⟩]
abbrev c_poundagelaw15_CurveSteps_r3 : List AO := [⟨(.some 17), .none, (.mov (.t 0))⟩,
  ⟨(.some 18), .none, (.bin .lss (.t 17) (.c (.d (.int .i64 1))))⟩,
  ⟨(.some 19), .none, (.mov (.t 18))⟩,
  ⟨(.some 20), (.some ⟨19, .false⟩), (.mov (.t 0))⟩,
  ⟨(.some 21), (.some ⟨19, .false⟩), (.bin .gtr (.t 20) (.c (.d (.int .i64 50))))⟩,
  ⟨(.some 22), .none, (.pick (.t 19) (.c (.d (.bool .true))) (.t 21))⟩,
  ⟨(.some 23), .none, (.mov (.t 22))⟩,
  ⟨(.some 24), (.some ⟨23, .false⟩), (.mov (.t 2))⟩,
  ⟨(.some 25), (.some ⟨23, .false⟩), (.bin .lss (.t 24) (.c (.d (.int .i64 1))))⟩,
  ⟨(.some 26), .none, (.pick (.t 23) (.c (.d (.bool .true))) (.t 25))⟩,
  ⟨(.some 27), .none, (.mov (.t 26))⟩,
  ⟨(.some 28), (.some ⟨27, .false⟩), (.mov (.t 2))⟩,
  ⟨(.some 29), (.some ⟨27, .false⟩), (.bin .gtr (.t 28) (.c (.d (.int .i64 40))))⟩,
  ⟨(.some 30), .none, (.pick (.t 27) (.c (.d (.bool .true))) (.t 29))⟩,
  ⟨(.some 31), .none, (.mov (.t 30))⟩,
  ⟨(.some 32), (.some ⟨31, .false⟩), (.mov (.t 1))⟩,
  ⟨(.some 33), (.some ⟨31, .false⟩), (.bin .gtr (.t 32) (.c (.d (.int .i64 1000000))))⟩,
  ⟨(.some 34), .none, (.pick (.t 31) (.c (.d (.bool .true))) (.t 33))⟩,
  ⟨(.some 35), .none, (.mov (.t 34))⟩,
  ⟨(.some 36), (.some ⟨35, .false⟩), (.mov (.t 1))⟩,
  ⟨(.some 37), (.some ⟨35, .false⟩), (.bin .lss (.t 36) (.c (.d (.int .i64 (-1000000)))))⟩,
  ⟨(.some 38), .none, (.pick (.t 35) (.c (.d (.bool .true))) (.t 37))⟩,
  ⟨(.some 39), .none, (.mov (.t 38))⟩,
  ⟨(.some 40), (.some ⟨39, .false⟩), (.mov (.t 3))⟩,
  ⟨(.some 41), (.some ⟨39, .false⟩), (.bin .gtr (.t 40) (.c (.d (.int .i64 1000000))))⟩,
  ⟨(.some 42), .none, (.pick (.t 39) (.c (.d (.bool .true))) (.t 41))⟩,
  ⟨(.some 43), .none, (.mov (.t 42))⟩,
  ⟨(.some 44), (.some ⟨43, .false⟩), (.mov (.t 3))⟩,
  ⟨(.some 45), (.some ⟨43, .false⟩), (.bin .lss (.t 44) (.c (.d (.int .i64 (-1000000)))))⟩,
  ⟨(.some 46), .none, (.pick (.t 43) (.c (.d (.bool .true))) (.t 45))⟩]
abbrev c_poundagelaw15_CurveSteps_r4 : List AO := [⟨(.some 8), .none, (.mov (.c (.d (.bool .true))))⟩]
abbrev c_poundagelaw15_CurveSteps_r5 : List AO := [⟨(.some 9), .none, (.mov (.c (.nilsl 0)))⟩]
abbrev c_poundagelaw15_CurveSteps_r6 : List AO := [⟨(.some 10), .none, (.mov (.c (.d (.int .i64 0))))⟩]
abbrev c_poundagelaw15_CurveSteps_r7 : List AO := [⟨(.some 47), .none, (.mov (.t 10))⟩,
  ⟨(.some 48), .none, (.mov (.t 2))⟩,
  ⟨(.some 49), .none, (.bin .lss (.t 47) (.t 48))⟩]
abbrev c_poundagelaw15_CurveSteps_r8 : List AO := [⟨(.some 11), .none, (.mov (.c (.d (.int .i64 0))))⟩]
abbrev c_poundagelaw15_CurveSteps_r9 : List AO := [⟨(.some 52), .none, (.mov (.t 11))⟩,
  ⟨(.some 53), .none, (.mov (.t 0))⟩,
  ⟨(.some 54), .none, (.bin .lss (.t 52) (.t 53))⟩]
abbrev c_poundagelaw15_CurveSteps_r10 : List AO := [⟨(.some 57), .none, (.mov (.t 9))⟩,
  ⟨(.some 58), .none, (.mov (.t 3))⟩,
  ⟨(.some 59), .none, (.mov (.t 10))⟩,
  ⟨(.some 60), .none, (.mov (.t 1))⟩,
  ⟨(.some 61), .none, (.bin .mul (.t 59) (.t 60))⟩,
  ⟨(.some 62), .none, (.bin .add (.t 58) (.t 61))⟩,
  ⟨(.some 63), .none, (.buildSlice 3 1 1 [(.d (.int .i64 0))] [⟨0, (.t 62)⟩])⟩,
  ⟨(.some 64), .none, (.append 3 1 8 [(.d (.int .i64 0))] (.t 57) (.t 63))⟩,
  ⟨(.some 9), .none, (.mov (.t 64))⟩]
abbrev c_poundagelaw15_CurveSteps_r11 : List AO := [⟨(.some 55), .none, (.mov (.t 11))⟩,
  ⟨(.some 56), .none, (.bin .add (.t 55) (.c (.d (.int .i64 1))))⟩,
  ⟨(.some 11), .none, (.mov (.t 56))⟩]
abbrev c_poundagelaw15_CurveSteps_l0 : ACode := (.seq (.seq (.ops c_poundagelaw15_CurveSteps_r9) (.cond (.t 54) .skip (.exit 2))) (.seq (.block 3 (.ops c_poundagelaw15_CurveSteps_r10)) (.ops c_poundagelaw15_CurveSteps_r11)))
abbrev c_poundagelaw15_CurveSteps_r12 : List AO := [⟨(.some 50), .none, (.mov (.t 10))⟩,
  ⟨(.some 51), .none, (.bin .add (.t 50) (.c (.d (.int .i64 1))))⟩,
  ⟨(.some 10), .none, (.mov (.t 51))⟩]
abbrev c_poundagelaw15_CurveSteps_l1 : ACode := (.seq (.seq (.ops c_poundagelaw15_CurveSteps_r7) (.cond (.t 49) .skip (.exit 0))) (.seq (.block 1 (.seq (.ops c_poundagelaw15_CurveSteps_r8) (.block 2 (.loop c_poundagelaw15_CurveSteps_l0)))) (.ops c_poundagelaw15_CurveSteps_r12)))
abbrev c_poundagelaw15_CurveSteps_r13 : List AO := [⟨(.some 66), .none, (.mov (.t 9))⟩,
  ⟨(.some 67), .none, (.call 10 [(.c (.d (.int .i64 0))), (.t 66)])⟩,
  ⟨(.some 68), .none, (.call 9 [(.t 67)])⟩,
  ⟨(.some 65), .none, (.mov (.t 68))⟩,
  ⟨(.some 69), .none, (.extract (.t 65) 0)⟩,
  ⟨(.some 70), .none, (.extract (.t 65) 1)⟩,
  ⟨(.some 12), .none, (.alloc 26 [(.d (.int .i64 0)), (.nilsl 5)])⟩,
  ⟨.none, .none, (.store 2 (.t 12) (.t 69))⟩,
  ⟨(.some 13), .none, (.mov (.t 70))⟩]
abbrev c_poundagelaw15_CurveSteps_r14 : List AO := [⟨(.some 71), .none, (.mov (.t 3))⟩,
  ⟨(.some 72), .none, (.mov (.t 0))⟩,
  ⟨(.some 73), .none, (.mov (.t 1))⟩,
  ⟨(.some 74), .none, (.mov (.t 2))⟩,
  ⟨(.some 75), .none, (.build [(.d (.int .i64 0)), (.d (.int .i64 0)), (.d (.int .i64 0)), (.d (.int .i64 0)), (.d (.int .i64 0))] [⟨1, ⟨1, (.t 71)⟩⟩, ⟨2, ⟨1, (.t 72)⟩⟩, ⟨3, ⟨1, (.t 73)⟩⟩, ⟨4, ⟨1, (.t 74)⟩⟩])⟩,
  ⟨(.some 14), .none, (.alloc 40 [(.d (.int .i64 0)), (.d (.int .i64 0)), (.d (.int .i64 0)), (.d (.int .i64 0)), (.d (.int .i64 0))])⟩,
  ⟨.none, .none, (.store 5 (.t 14) (.t 75))⟩]
abbrev c_poundagelaw15_CurveSteps_r15 : List AO := [⟨(.some 76), .none, (.mov (.t 2))⟩,
  ⟨(.some 77), .none, (.bin .eql (.t 76) (.c (.d (.int .i64 1))))⟩,
  ⟨(.some 78), .none, (.mov (.t 77))⟩,
  ⟨(.some 79), (.some ⟨78, .false⟩), (.mov (.t 1))⟩,
  ⟨(.some 80), (.some ⟨78, .false⟩), (.bin .eql (.t 79) (.c (.d (.int .i64 0))))⟩,
  ⟨(.some 81), .none, (.pick (.t 78) (.c (.d (.bool .true))) (.t 80))⟩]
abbrev c_poundagelaw15_CurveSteps_r16 : List AO := [⟨(.some 82), .none, (.mov (.t 3))⟩,
  ⟨(.some 83), .none, (.build [(.d (.int .i64 0)), (.d (.int .i64 0)), (.d (.int .i64 0)), (.d (.int .i64 0)), (.d (.int .i64 0))] [⟨1, ⟨1, (.t 82)⟩⟩, ⟨4, ⟨1, (.c (.d (.int .i64 1)))⟩⟩])⟩,
  ⟨.none, .none, (.store 5 (.t 14) (.t 83))⟩]
abbrev c_poundagelaw15_CurveSteps_r17 : List AO := [⟨(.some 84), .none, (.mov (.t 13))⟩,
  ⟨(.some 85), .none, (.mov (.t 84))⟩,
  ⟨(.some 86), (.some ⟨85, .true⟩), (.fieldAddr 0 (.t 12))⟩,
  ⟨(.some 88), (.some ⟨85, .true⟩), (.mov (.t 0))⟩,
  ⟨(.some 89), (.some ⟨85, .true⟩), (.mov (.t 2))⟩,
  ⟨(.some 90), (.some ⟨85, .true⟩), (.bin .mul (.t 88) (.t 89))⟩,
  ⟨(.some 91), (.some ⟨85, .true⟩), (.bin .sub (.t 90) (.c (.d (.int .i64 1))))⟩,
  ⟨(.some 87), (.some ⟨85, .true⟩), (.load .none (.t 86))⟩,
  ⟨(.some 92), (.some ⟨85, .true⟩), (.bin .eql (.t 87) (.t 91))⟩,
  ⟨(.some 93), .none, (.pick (.t 85) (.t 92) (.c (.d (.bool .false))))⟩,
  ⟨(.some 94), .none, (.mov (.t 93))⟩,
  ⟨(.some 95), (.some ⟨94, .true⟩), (.fieldAddr 1 (.t 12))⟩,
  ⟨(.some 96), (.some ⟨94, .true⟩), (.load .none (.t 95))⟩,
  ⟨(.some 97), (.some ⟨94, .true⟩), (.len (.t 96))⟩,
  ⟨(.some 98), (.some ⟨94, .true⟩), (.bin .eql (.t 97) (.c (.d (.int .i64 1))))⟩,
  ⟨(.some 99), .none, (.pick (.t 94) (.t 98) (.c (.d (.bool .false))))⟩,
  ⟨(.some 100), .none, (.mov (.t 99))⟩,
  ⟨(.some 101), (.some ⟨100, .true⟩), (.fieldAddr 1 (.t 12))⟩,
  ⟨(.some 102), (.some ⟨100, .true⟩), (.load .none (.t 101))⟩,
  ⟨(.some 103), (.some ⟨100, .true⟩), (.elemAddr 5 (.t 102) (.c (.d (.int .i64 0))))⟩,
  ⟨(.some 104), (.some ⟨100, .true⟩), (.load (.some 5) (.t 103))⟩,
  ⟨(.some 105), (.some ⟨100, .true⟩), (.load (.some 5) (.t 14))⟩,
  ⟨(.some 106), (.some ⟨100, .true⟩), (.eqAgg .false [0, 0, 0, 0, 0] (.t 104) (.t 105))⟩,
  ⟨(.some 107), .none, (.pick (.t 100) (.t 106) (.c (.d (.bool .false))))⟩,
  ⟨(.some 8), .none, (.mov (.t 107))⟩]
abbrev c_poundagelaw15_CurveSteps : AFunc := ⟨108, [(.tmp 8)], (.seq (.ops c_poundagelaw15_CurveSteps_r0) (.seq (.seq (.ops c_poundagelaw15_CurveSteps_r1) (.cond (.t 16) (.seq (.ops c_poundagelaw15_CurveSteps_r2) .ret) .skip)) (.seq (.seq (.ops c_poundagelaw15_CurveSteps_r3) (.cond (.t 46) (.seq (.ops c_poundagelaw15_CurveSteps_r4) .ret) .skip)) (.seq (.ops c_poundagelaw15_CurveSteps_r5) (.seq (.seq (.ops c_poundagelaw15_CurveSteps_r6) (.block 0 (.loop c_poundagelaw15_CurveSteps_l1))) (.seq (.ops c_poundagelaw15_CurveSteps_r13) (.seq (.ops c_poundagelaw15_CurveSteps_r14) (.seq (.seq (.ops c_poundagelaw15_CurveSteps_r15) (.cond (.t 81) (.ops c_poundagelaw15_CurveSteps_r16) .skip)) (.seq (.dops c_poundagelaw15_CurveSteps_r17) .ret)))))))))⟩
theorem comp_poundagelaw15_CurveSteps : funcC Try.prog 6 = some c_poundagelaw15_CurveSteps := by kernel_rfl
/-! function 7 : poundage poundagelaw15.CurveBack -/
abbrev f_poundagelaw15_CurveBack : FuncId := 7
abbrev c_poundagelaw15_CurveBack_r0 : List AO := [⟨(.some 2), .none, (.mov (.c (.d (.bool .false))))⟩]
abbrev c_poundagelaw15_CurveBack_r1 : List AO := [⟨(.some 8), .none, (.call 8 [])⟩,
  ⟨(.some 9), .none, (.un .not (.t 8))⟩]
abbrev c_poundagelaw15_CurveBack_r2 : List AO := [⟨(.some 2), .none, (.mov (.c (.d (.bool .false))))⟩]
abbrev c_poundagelaw15_CurveBack_r3 : List AO := [⟨(.some 10), .none, (.mov (.t 0))⟩,
  ⟨(.some 11), .none, (.len (.t 10))⟩,
  ⟨(.some 12), .none, (.bin .gtr (.t 11) (.c (.d (.int .i64 2001))))⟩]
abbrev c_poundagelaw15_CurveBack_r4 : List AO := [⟨(.some 2), .none, (.mov (.c (.d (.bool .true))))⟩]
abbrev c_poundagelaw15_CurveBack_r5 : List AO := [⟨(.some 13), .none, (.mov (.t 0))⟩,
  ⟨(.some 14), .none, (.call 10 [(.c (.d (.int .i64 0))), (.t 13)])⟩,
  ⟨(.some 3), .none, (.alloc 31 [(.nilsl 3)])⟩,
  ⟨.none, .none, (.store 1 (.t 3) (.t 14))⟩]
abbrev c_poundagelaw15_CurveBack_r6 : List AO := [⟨(.some 16), .none, (.load (.some 1) (.t 3))⟩,
  ⟨(.some 17), .none, (.call 9 [(.t 16)])⟩,
  ⟨(.some 15), .none, (.mov (.t 17))⟩,
  ⟨(.some 18), .none, (.extract (.t 15) 0)⟩,
  ⟨(.some 19), .none, (.extract (.t 15) 1)⟩,
  ⟨(.some 4), .none, (.alloc 26 [(.d (.int .i64 0)), (.nilsl 5)])⟩,
  ⟨.none, .none, (.store 2 (.t 4) (.t 18))⟩,
  ⟨(.some 5), .none, (.mov (.t 19))⟩]
abbrev c_poundagelaw15_CurveBack_r7 : List AO := [⟨(.some 20), .none, (.mov (.t 5))⟩,
  ⟨(.some 21), .none, (.un .not (.t 20))⟩]
abbrev c_poundagelaw15_CurveBack_r8 : List AO := [⟨(.some 2), .none, (.mov (.c (.d (.bool .true))))⟩]
abbrev c_poundagelaw15_CurveBack_r9 : List AO := [⟨(.some 23), .none, (.load (.some 2) (.t 4))⟩,
  ⟨(.some 24), .none, (.call 15 [(.t 23)])⟩,
  ⟨(.some 22), .none, (.mov (.t 24))⟩,
  ⟨(.some 25), .none, (.extract (.t 22) 0)⟩,
  ⟨(.some 26), .none, (.extract (.t 22) 1)⟩,
  ⟨(.some 6), .none, (.alloc 31 [(.nilsl 3)])⟩,
  ⟨.none, .none, (.store 1 (.t 6) (.t 25))⟩,
  ⟨(.some 7), .none, (.mov (.t 26))⟩]
abbrev c_poundagelaw15_CurveBack_r10 : List AO := [⟨(.some 27), .none, (.mov (.t 7))⟩,
  ⟨(.some 28), .none, (.mov (.t 27))⟩,
  ⟨(.some 29), (.some ⟨28, .true⟩), (.load (.some 1) (.t 3))⟩,
  ⟨(.some 30), (.some ⟨28, .true⟩), (.load (.some 1) (.t 6))⟩,
  ⟨(.some 31), (.some ⟨28, .true⟩), (.call 16 [(.t 29), (.t 30)])⟩,
  ⟨(.some 32), .none, (.pick (.t 28) (.t 31) (.c (.d (.bool .false))))⟩,
  ⟨(.some 33), .none, (.mov (.t 32))⟩,
  ⟨(.some 34), (.some ⟨33, .true⟩), (.load (.some 2) (.t 4))⟩,
  ⟨(.some 35), (.some ⟨33, .true⟩), (.call 17 [(.t 34)])⟩,
  ⟨(.some 36), .none, (.pick (.t 33) (.t 35) (.c (.d (.bool .false))))⟩,
  ⟨(.some 37), .none, (.mov (.t 36))⟩,
  ⟨(.some 38), (.some ⟨37, .true⟩), (.load (.some 2) (.t 4))⟩,
  ⟨(.some 39), (.some ⟨37, .true⟩), (.call 18 [(.t 38)])⟩,
  ⟨(.some 40), .none, (.pick (.t 37) (.t 39) (.c (.d (.bool .false))))⟩,
  ⟨(.some 2), .none, (.mov (.t 40))⟩]
abbrev c_poundagelaw15_CurveBack : AFunc := ⟨41, [(.tmp 2)], (.seq (.ops c_poundagelaw15_CurveBack_r0) (.seq (.seq (.ops c_poundagelaw15_CurveBack_r1) (.cond (.t 9) (.seq (.ops c_poundagelaw15_CurveBack_r2) .ret) .skip)) (.seq (.seq (.ops c_poundagelaw15_CurveBack_r3) (.cond (.t 12) (.seq (.ops c_poundagelaw15_CurveBack_r4) .ret) .skip)) (.seq (.ops c_poundagelaw15_CurveBack_r5) (.seq (.ops c_poundagelaw15_CurveBack_r6) (.seq (.seq (.ops c_poundagelaw15_CurveBack_r7) (.cond (.t 21) (.seq (.ops c_poundagelaw15_CurveBack_r8) .ret) .skip)) (.seq (.ops c_poundagelaw15_CurveBack_r9) (.seq (.ops c_poundagelaw15_CurveBack_r10) .ret))))))))⟩
theorem comp_poundagelaw15_CurveBack : funcC Try.prog 7 = some c_poundagelaw15_CurveBack := by kernel_rfl
/-! function 8 : poundage poundagelaw15.alive -/
abbrev f_poundagelaw15_alive : FuncId := 8
abbrev c_poundagelaw15_alive_r0 : List AO := [⟨(.some 0), .none, (.mov (.c (.d (.bool .false))))⟩]
abbrev c_poundagelaw15_alive_r1 : List AO := [⟨(.some 6), .none, (.buildSlice 3 1 6 [(.d (.int .i64 0))] [⟨0, (.c (.d (.int .i64 0)))⟩, ⟨1, (.c (.d (.int .i64 0)))⟩, ⟨2, (.c (.d (.int .i64 3)))⟩, ⟨3, (.c (.d (.int .i64 3)))⟩, ⟨4, (.c (.d (.int .i64 6)))⟩, ⟨5, (.c (.d (.int .i64 6)))⟩])⟩,
  ⟨(.some 7), .none, (.call 10 [(.c (.d (.int .i64 0))), (.t 6)])⟩,
  ⟨(.some 8), .none, (.call 9 [(.t 7)])⟩,
  ⟨(.some 5), .none, (.mov (.t 8))⟩,
  ⟨(.some 9), .none, (.extract (.t 5) 0)⟩,
  ⟨(.some 10), .none, (.extract (.t 5) 1)⟩,
  ⟨(.some 1), .none, (.alloc 26 [(.d (.int .i64 0)), (.nilsl 5)])⟩,
  ⟨.none, .none, (.store 2 (.t 1) (.t 9))⟩,
  ⟨(.some 2), .none, (.mov (.t 10))⟩]
abbrev c_poundagelaw15_alive_r2 : List AO := [⟨(.some 12), .none, (.load (.some 2) (.t 1))⟩,
  ⟨(.some 13), .none, (.call 13 [(.t 12), (.c (.d (.int .i64 3)))])⟩,
  ⟨(.some 11), .none, (.mov (.t 13))⟩,
  ⟨(.some 14), .none, (.extract (.t 11) 0)⟩,
  ⟨(.some 15), .none, (.extract (.t 11) 1)⟩,
  ⟨(.some 3), .none, (.mov (.t 14))⟩,
  ⟨(.some 4), .none, (.mov (.t 15))⟩]
abbrev c_poundagelaw15_alive_r3 : List AO := [⟨(.some 16), .none, (.mov (.t 2))⟩,
  ⟨(.some 17), .none, (.mov (.t 16))⟩,
  ⟨(.some 18), (.some ⟨17, .true⟩), (.fieldAddr 0 (.t 1))⟩,
  ⟨(.some 19), (.some ⟨17, .true⟩), (.load .none (.t 18))⟩,
  ⟨(.some 20), (.some ⟨17, .true⟩), (.bin .eql (.t 19) (.c (.d (.int .i64 5))))⟩,
  ⟨(.some 21), .none, (.pick (.t 17) (.t 20) (.c (.d (.bool .false))))⟩,
  ⟨(.some 22), .none, (.mov (.t 21))⟩,
  ⟨(.some 23), (.some ⟨22, .true⟩), (.fieldAddr 1 (.t 1))⟩,
  ⟨(.some 24), (.some ⟨22, .true⟩), (.load .none (.t 23))⟩,
  ⟨(.some 25), (.some ⟨22, .true⟩), (.len (.t 24))⟩,
  ⟨(.some 26), (.some ⟨22, .true⟩), (.bin .eql (.t 25) (.c (.d (.int .i64 1))))⟩,
  ⟨(.some 27), .none, (.pick (.t 22) (.t 26) (.c (.d (.bool .false))))⟩,
  ⟨(.some 28), .none, (.mov (.t 27))⟩,
  ⟨(.some 29), (.some ⟨28, .true⟩), (.fieldAddr 1 (.t 1))⟩,
  ⟨(.some 30), (.some ⟨28, .true⟩), (.load .none (.t 29))⟩,
  ⟨(.some 31), (.some ⟨28, .true⟩), (.elemAddr 5 (.t 30) (.c (.d (.int .i64 0))))⟩,
  ⟨(.some 32), (.some ⟨28, .true⟩), (.load (.some 5) (.t 31))⟩,
  ⟨(.some 33), (.some ⟨28, .true⟩), (.build [(.d (.int .i64 0)), (.d (.int .i64 0)), (.d (.int .i64 0)), (.d (.int .i64 0)), (.d (.int .i64 0))] [⟨2, ⟨1, (.c (.d (.int .i64 2)))⟩⟩, ⟨3, ⟨1, (.c (.d (.int .i64 3)))⟩⟩, ⟨4, ⟨1, (.c (.d (.int .i64 3)))⟩⟩])⟩,
  ⟨(.some 34), (.some ⟨28, .true⟩), (.eqAgg .false [0, 0, 0, 0, 0] (.t 32) (.t 33))⟩,
  ⟨(.some 35), .none, (.pick (.t 28) (.t 34) (.c (.d (.bool .false))))⟩,
  ⟨(.some 36), .none, (.mov (.t 35))⟩,
  ⟨(.some 37), (.some ⟨36, .true⟩), (.mov (.t 3))⟩,
  ⟨(.some 38), (.some ⟨36, .true⟩), (.bin .eql (.t 37) (.c (.d (.int .i64 3))))⟩,
  ⟨(.some 39), .none, (.pick (.t 36) (.t 38) (.c (.d (.bool .false))))⟩,
  ⟨(.some 40), .none, (.mov (.t 39))⟩,
  ⟨(.some 41), (.some ⟨40, .true⟩), (.mov (.t 4))⟩,
  ⟨(.some 42), .none, (.pick (.t 40) (.t 41) (.c (.d (.bool .false))))⟩,
  ⟨(.some 43), .none, (.mov (.t 42))⟩,
  ⟨(.some 44), (.some ⟨43, .true⟩), (.load (.some 2) (.t 1))⟩,
  ⟨(.some 45), (.some ⟨43, .true⟩), (.call 17 [(.t 44)])⟩,
  ⟨(.some 46), .none, (.pick (.t 43) (.t 45) (.c (.d (.bool .false))))⟩,
  ⟨(.some 0), .none, (.mov (.t 46))⟩]
abbrev c_poundagelaw15_alive : AFunc := ⟨47, [(.tmp 0)], (.seq (.ops c_poundagelaw15_alive_r0) (.seq (.ops c_poundagelaw15_alive_r1) (.seq (.ops c_poundagelaw15_alive_r2) (.seq (.ops c_poundagelaw15_alive_r3) .ret))))⟩
theorem comp_poundagelaw15_alive : funcC Try.prog 8 = some c_poundagelaw15_alive := by kernel_rfl
/-! function 9 : poundage curve.Of -/
abbrev f_curve_Of : FuncId := 9
abbrev c_curve_Of_r0 : List AO := [⟨(.some 1), .none, (.box 31 (.t 0))⟩,
  ⟨(.some 2), .none, (.alloc 26 [(.d (.int .i64 0)), (.nilsl 5)])⟩,
  ⟨(.some 3), .none, (.mov (.c (.d (.bool .false))))⟩]
abbrev c_curve_Of_r1 : List AO := [⟨(.some 12), .none, (.load (.some 1) (.t 1))⟩,
  ⟨(.some 13), .none, (.call 19 [(.t 12)])⟩,
  ⟨(.some 11), .none, (.mov (.t 13))⟩,
  ⟨(.some 14), .none, (.extract (.t 11) 0)⟩,
  ⟨(.some 15), .none, (.extract (.t 11) 1)⟩,
  ⟨(.some 16), .none, (.extract (.t 11) 2)⟩,
  ⟨(.some 4), .none, (.mov (.t 14))⟩,
  ⟨(.some 5), .none, (.mov (.t 15))⟩,
  ⟨(.some 6), .none, (.mov (.t 16))⟩]
abbrev c_curve_Of_r2 : List AO := [⟨(.some 17), .none, (.mov (.t 6))⟩,
  ⟨(.some 18), .none, (.un .not (.t 17))⟩,
  ⟨(.some 19), .none, (.mov (.t 18))⟩,
  ⟨(.some 20), (.some ⟨19, .false⟩), (.mov (.t 4))⟩,
  ⟨(.some 21), (.some ⟨19, .false⟩), (.bin .neq (.t 20) (.c (.d (.int .i64 0))))⟩,
  ⟨(.some 22), .none, (.pick (.t 19) (.c (.d (.bool .true))) (.t 21))⟩,
  ⟨(.some 23), .none, (.mov (.t 22))⟩,
  ⟨(.some 24), (.some ⟨23, .false⟩), (.mov (.t 5))⟩,
  ⟨(.some 25), (.some ⟨23, .false⟩), (.bin .gtr (.t 24) (.c (.d (.int .i64 2000))))⟩,
  ⟨(.some 26), .none, (.pick (.t 23) (.c (.d (.bool .true))) (.t 25))⟩]
abbrev c_curve_Of_r3 : List AO := [⟨(.some 27), .none, (.build [(.d (.int .i64 0)), (.nilsl 5)] [])⟩,
  ⟨.none, .none, (.store 2 (.t 2) (.t 27))⟩,
  ⟨(.some 3), .none, (.mov (.c (.d (.bool .false))))⟩]
abbrev c_curve_Of_r4 : List AO := [⟨(.some 28), .none, (.load (.some 1) (.t 1))⟩,
  ⟨(.some 29), .none, (.call 21 [(.t 28)])⟩,
  ⟨(.some 30), .none, (.call 20 [(.t 29)])⟩,
  ⟨(.some 7), .none, (.mov (.t 30))⟩]
abbrev c_curve_Of_r5 : List AO := [⟨(.some 31), .none, (.mov (.t 7))⟩,
  ⟨(.some 32), .none, (.call 22 [(.t 31), (.c (.fn 23 []))])⟩]
abbrev c_curve_Of_r6 : List AO := [⟨(.some 33), .none, (.build [(.d (.int .i64 0)), (.nilsl 5)] [])⟩,
  ⟨.none, .none, (.store 2 (.t 2) (.t 33))⟩,
  ⟨(.some 3), .none, (.mov (.c (.d (.bool .false))))⟩]
abbrev c_curve_Of_r7 : List AO := [⟨(.some 34), .none, (.mov (.t 5))⟩,
  ⟨(.some 35), .none, (.build [(.d (.int .i64 0)), (.nilsl 5)] [⟨0, ⟨1, (.t 34)⟩⟩])⟩,
  ⟨(.some 8), .none, (.alloc 26 [(.d (.int .i64 0)), (.nilsl 5)])⟩,
  ⟨.none, .none, (.store 2 (.t 8) (.t 35))⟩]
abbrev c_curve_Of_r8 : List AO := [⟨(.some 36), .none, (.mov (.t 7))⟩,
  ⟨(.some 37), .none, (.len (.t 36))⟩,
  ⟨(.some 38), .none, (.bin .gtr (.t 37) (.c (.d (.int .i64 0))))⟩]
abbrev c_curve_Of_r9 : List AO := [⟨(.some 40), .none, (.mov (.t 7))⟩,
  ⟨(.some 41), .none, (.call 24 [(.t 40)])⟩,
  ⟨(.some 39), .none, (.mov (.t 41))⟩,
  ⟨(.some 42), .none, (.extract (.t 39) 0)⟩,
  ⟨(.some 43), .none, (.extract (.t 39) 1)⟩,
  ⟨(.some 9), .none, (.alloc 40 [(.d (.int .i64 0)), (.d (.int .i64 0)), (.d (.int .i64 0)), (.d (.int .i64 0)), (.d (.int .i64 0))])⟩,
  ⟨.none, .none, (.store 5 (.t 9) (.t 42))⟩,
  ⟨(.some 10), .none, (.mov (.t 43))⟩]
abbrev c_curve_Of_r10 : List AO := [⟨(.some 44), .none, (.fieldAddr 1 (.t 8))⟩,
  ⟨(.some 45), .none, (.load .none (.t 44))⟩,
  ⟨(.some 46), .none, (.load (.some 5) (.t 9))⟩,
  ⟨(.some 47), .none, (.buildSlice 40 5 1 [(.d (.int .i64 0)), (.d (.int .i64 0)), (.d (.int .i64 0)), (.d (.int .i64 0)), (.d (.int .i64 0))] [⟨0, (.t 46)⟩])⟩,
  ⟨(.some 48), .none, (.append 40 5 40 [(.d (.int .i64 0)), (.d (.int .i64 0)), (.d (.int .i64 0)), (.d (.int .i64 0)), (.d (.int .i64 0))] (.t 45) (.t 47))⟩,
  ⟨(.some 49), .none, (.fieldAddr 1 (.t 8))⟩,
  ⟨.none, .none, (.store 1 (.t 49) (.t 48))⟩]
abbrev c_curve_Of_r11 : List AO := [⟨(.some 50), .none, (.mov (.t 7))⟩,
  ⟨(.some 51), .none, (.mov (.t 10))⟩,
  ⟨(.some 52), .none, (.slice 3 (.t 50) (.some (.t 51)) .none)⟩,
  ⟨(.some 7), .none, (.mov (.t 52))⟩]
abbrev c_curve_Of_l0 : ACode := (.seq (.seq (.ops c_curve_Of_r8) (.cond (.t 38) .skip (.exit 0))) (.block 1 (.seq (.ops c_curve_Of_r9) (.seq (.ops c_curve_Of_r10) (.ops c_curve_Of_r11)))))
abbrev c_curve_Of_r12 : List AO := [⟨(.some 53), .none, (.load (.some 2) (.t 8))⟩,
  ⟨.none, .none, (.store 2 (.t 2) (.t 53))⟩,
  ⟨(.some 3), .none, (.mov (.c (.d (.bool .true))))⟩]
abbrev c_curve_Of : AFunc := ⟨54, [(.cell 2 (.some 2)), (.tmp 3)], (.seq (.ops c_curve_Of_r0) (.seq (.ops c_curve_Of_r1) (.seq (.seq (.ops c_curve_Of_r2) (.cond (.t 26) (.seq (.ops c_curve_Of_r3) .ret) .skip)) (.seq (.ops c_curve_Of_r4) (.seq (.seq (.ops c_curve_Of_r5) (.cond (.t 32) (.seq (.ops c_curve_Of_r6) .ret) .skip)) (.seq (.ops c_curve_Of_r7) (.seq (.block 0 (.loop c_curve_Of_l0)) (.seq (.ops c_curve_Of_r12) .ret))))))))⟩
theorem comp_curve_Of : funcC Try.prog 9 = some c_curve_Of := by kernel_rfl
/-! function 10 : poundage line.Of int  -/
abbrev f_line_Of_int : FuncId := 10
abbrev c_line_Of_int_r0 : List AO := [⟨(.some 4), .none, (.alloc 31 [(.nilsl 3)])⟩]
abbrev c_line_Of_int_r1 : List AO := [⟨(.some 5), .none, (.alloc 31 [(.nilsl 3)])⟩]
abbrev c_line_Of_int_r2 : List AO := [⟨(.some 8), .none, (.mov (.t 1))⟩,
  ⟨(.some 9), .none, (.len (.t 8))⟩,
  ⟨(.some 10), .none, (.mov (.c (.d (.int .i64 0))))⟩]
abbrev c_line_Of_int_r3 : List AO := [⟨(.some 11), .none, (.bin .lss (.t 10) (.t 9))⟩]
abbrev c_line_Of_int_r4 : List AO := [⟨(.some 12), .none, (.mov (.t 10))⟩,
  ⟨(.some 13), .none, (.elemAddr 1 (.t 8) (.t 10))⟩,
  ⟨(.some 14), .none, (.load .none (.t 13))⟩,
  ⟨(.some 6), .none, (.mov (.t 12))⟩,
  ⟨(.some 7), .none, (.mov (.t 14))⟩]
abbrev c_line_Of_int_r5 : List AO := [⟨(.some 15), .none, (.mov (.t 0))⟩,
  ⟨(.some 16), .none, (.mov (.t 6))⟩,
  ⟨(.some 17), .none, (.bin .add (.t 15) (.t 16))⟩,
  ⟨(.some 18), .none, (.mov (.t 0))⟩,
  ⟨(.some 19), .none, (.mov (.t 6))⟩,
  ⟨(.some 20), .none, (.bin .add (.t 18) (.t 19))⟩,
  ⟨(.some 21), .none, (.mov (.t 7))⟩,
  ⟨(.some 22), .none, (.build [(.d (.int .i64 0)), (.d (.int .i64 0)), (.d (.int .i64 0))] [⟨0, ⟨1, (.t 17)⟩⟩, ⟨1, ⟨1, (.t 20)⟩⟩, ⟨2, ⟨1, (.t 21)⟩⟩])⟩,
  ⟨(.some 23), .none, (.call 25 [(.t 5), (.t 22)])⟩]
abbrev c_line_Of_int_r6 : List AO := [⟨(.some 24), .none, (.bin .add (.t 10) (.c (.d (.int .i64 1))))⟩,
  ⟨(.some 10), .none, (.mov (.t 24))⟩]
abbrev c_line_Of_int_l0 : ACode := (.seq (.ops c_line_Of_int_r3) (.seq (.cond (.t 11) .skip (.exit 0)) (.seq (.block 1 (.seq (.ops c_line_Of_int_r4) (.ops c_line_Of_int_r5))) (.ops c_line_Of_int_r6))))
abbrev c_line_Of_int_r7 : List AO := [⟨(.some 25), .none, (.load (.some 1) (.t 5))⟩,
  ⟨.none, .none, (.store 1 (.t 4) (.t 25))⟩]
abbrev c_line_Of_int : AFunc := ⟨26, [(.cell 4 (.some 1))], (.seq (.ops c_line_Of_int_r0) (.seq (.ops c_line_Of_int_r1) (.seq (.seq (.ops c_line_Of_int_r2) (.block 0 (.loop c_line_Of_int_l0))) (.seq (.ops c_line_Of_int_r7) .ret))))⟩
theorem comp_line_Of_int : funcC Try.prog 10 = some c_line_Of_int := by kernel_rfl
/-! function 11 : poundage poundageref15.Of -/
abbrev f_poundageref15_Of : FuncId := 11
abbrev c_poundageref15_Of_r0 : List AO := [⟨(.some 2), .none, (.alloc 26 [(.d (.int .i64 0)), (.nilsl 5)])⟩,
  ⟨(.some 3), .none, (.mov (.c (.d (.bool .false))))⟩]
abbrev c_poundageref15_Of_r1 : List AO := [⟨(.some 10), .none, (.mov (.t 0))⟩,
  ⟨(.some 11), .none, (.len (.t 10))⟩,
  ⟨(.some 12), .none, (.bin .eql (.t 11) (.c (.d (.int .i64 0))))⟩,
  ⟨(.some 13), .none, (.mov (.t 12))⟩,
  ⟨(.some 14), (.some ⟨13, .false⟩), (.mov (.t 0))⟩,
  ⟨(.some 15), (.some ⟨13, .false⟩), (.len (.t 14))⟩,
  ⟨(.some 16), (.some ⟨13, .false⟩), (.bin .gtr (.t 15) (.c (.d (.int .i64 2001))))⟩,
  ⟨(.some 17), .none, (.pick (.t 13) (.c (.d (.bool .true))) (.t 16))⟩]
abbrev c_poundageref15_Of_r2 : List AO := [⟨(.some 18), .none, (.build [(.d (.int .i64 0)), (.nilsl 5)] [])⟩,
  ⟨.none, .none, (.store 2 (.t 2) (.t 18))⟩,
  ⟨(.some 3), .none, (.mov (.c (.d (.bool .false))))⟩]
abbrev c_poundageref15_Of_r3 : List AO := [⟨(.some 4), .none, (.mov (.c (.nilsl 0)))⟩]
abbrev c_poundageref15_Of_r4 : List AO := [⟨(.some 19), .none, (.mov (.t 0))⟩,
  ⟨(.some 20), .none, (.len (.t 19))⟩,
  ⟨(.some 21), .none, (.mov (.c (.d (.int .i64 0))))⟩]
abbrev c_poundageref15_Of_r5 : List AO := [⟨(.some 22), .none, (.bin .lss (.t 21) (.t 20))⟩]
abbrev c_poundageref15_Of_r6 : List AO := [⟨(.some 23), .none, (.mov (.t 21))⟩,
  ⟨(.some 24), .none, (.elemAddr 1 (.t 19) (.t 21))⟩,
  ⟨(.some 25), .none, (.load .none (.t 24))⟩,
  ⟨(.some 5), .none, (.mov (.t 23))⟩,
  ⟨(.some 6), .none, (.mov (.t 25))⟩]
abbrev c_poundageref15_Of_r7 : List AO := [⟨(.some 26), .none, (.mov (.t 6))⟩,
  ⟨(.some 27), .none, (.bin .gtr (.t 26) (.c (.d (.int .i64 2305843009213693952))))⟩,
  ⟨(.some 28), .none, (.mov (.t 27))⟩,
  ⟨(.some 29), (.some ⟨28, .false⟩), (.mov (.t 6))⟩,
  ⟨(.some 30), (.some ⟨28, .false⟩), (.bin .lss (.t 29) (.c (.d (.int .i64 (-2305843009213693952)))))⟩,
  ⟨(.some 31), .none, (.pick (.t 28) (.c (.d (.bool .true))) (.t 30))⟩]
abbrev c_poundageref15_Of_r8 : List AO := [⟨(.some 32), .none, (.build [(.d (.int .i64 0)), (.nilsl 5)] [])⟩,
  ⟨.none, .none, (.store 2 (.t 2) (.t 32))⟩,
  ⟨(.some 3), .none, (.mov (.c (.d (.bool .false))))⟩]
abbrev c_poundageref15_Of_r9 : List AO := [⟨(.some 33), .none, (.mov (.t 5))⟩,
  ⟨(.some 34), .none, (.bin .eql (.t 33) (.c (.d (.int .i64 0))))⟩,
  ⟨(.some 35), .none, (.mov (.t 34))⟩,
  ⟨(.some 36), (.some ⟨35, .false⟩), (.mov (.t 0))⟩,
  ⟨(.some 37), (.some ⟨35, .false⟩), (.mov (.t 5))⟩,
  ⟨(.some 38), (.some ⟨35, .false⟩), (.bin .sub (.t 37) (.c (.d (.int .i64 1))))⟩,
  ⟨(.some 39), (.some ⟨35, .false⟩), (.elemAddr 1 (.t 36) (.t 38))⟩,
  ⟨(.some 40), (.some ⟨35, .false⟩), (.load .none (.t 39))⟩,
  ⟨(.some 41), (.some ⟨35, .false⟩), (.mov (.t 6))⟩,
  ⟨(.some 42), (.some ⟨35, .false⟩), (.bin .neq (.t 40) (.t 41))⟩,
  ⟨(.some 43), .none, (.pick (.t 35) (.c (.d (.bool .true))) (.t 42))⟩]
abbrev c_poundageref15_Of_r10 : List AO := [⟨(.some 44), .none, (.mov (.t 4))⟩,
  ⟨(.some 45), .none, (.mov (.t 5))⟩,
  ⟨(.some 46), .none, (.buildSlice 3 1 1 [(.d (.int .i64 0))] [⟨0, (.t 45)⟩])⟩,
  ⟨(.some 47), .none, (.append 3 1 8 [(.d (.int .i64 0))] (.t 44) (.t 46))⟩,
  ⟨(.some 4), .none, (.mov (.t 47))⟩]
abbrev c_poundageref15_Of_r11 : List AO := [⟨(.some 48), .none, (.bin .add (.t 21) (.c (.d (.int .i64 1))))⟩,
  ⟨(.some 21), .none, (.mov (.t 48))⟩]
abbrev c_poundageref15_Of_l0 : ACode := (.seq (.ops c_poundageref15_Of_r5) (.seq (.cond (.t 22) .skip (.exit 0)) (.seq (.block 1 (.seq (.ops c_poundageref15_Of_r6) (.seq (.seq (.ops c_poundageref15_Of_r7) (.cond (.t 31) (.seq (.ops c_poundageref15_Of_r8) .ret) .skip)) (.seq (.ops c_poundageref15_Of_r9) (.cond (.t 43) (.ops c_poundageref15_Of_r10) .skip))))) (.ops c_poundageref15_Of_r11))))
abbrev c_poundageref15_Of_r12 : List AO := [⟨(.some 49), .none, (.mov (.t 0))⟩,
  ⟨(.some 50), .none, (.len (.t 49))⟩,
  ⟨(.some 51), .none, (.bin .sub (.t 50) (.c (.d (.int .i64 1))))⟩,
  ⟨(.some 52), .none, (.build [(.d (.int .i64 0)), (.nilsl 5)] [⟨0, ⟨1, (.t 51)⟩⟩])⟩,
  ⟨(.some 7), .none, (.alloc 26 [(.d (.int .i64 0)), (.nilsl 5)])⟩,
  ⟨.none, .none, (.store 2 (.t 7) (.t 52))⟩]
abbrev c_poundageref15_Of_r13 : List AO := [⟨(.some 8), .none, (.mov (.c (.d (.int .i64 0))))⟩]
abbrev c_poundageref15_Of_r14 : List AO := [⟨(.some 53), .none, (.mov (.t 8))⟩,
  ⟨(.some 54), .none, (.mov (.t 4))⟩,
  ⟨(.some 55), .none, (.len (.t 54))⟩,
  ⟨(.some 56), .none, (.bin .lss (.t 53) (.t 55))⟩]
abbrev c_poundageref15_Of_r15 : List AO := [⟨(.some 57), .none, (.mov (.t 4))⟩,
  ⟨(.some 58), .none, (.mov (.t 8))⟩,
  ⟨(.some 59), .none, (.elemAddr 1 (.t 57) (.t 58))⟩,
  ⟨(.some 61), .none, (.mov (.t 0))⟩,
  ⟨(.some 62), .none, (.mov (.t 4))⟩,
  ⟨(.some 63), .none, (.mov (.t 8))⟩,
  ⟨(.some 64), .none, (.elemAddr 1 (.t 62) (.t 63))⟩,
  ⟨(.some 60), .none, (.loadS .none (.t 59) [9])⟩,
  ⟨(.some 65), .none, (.loadS .none (.t 64) [9])⟩,
  ⟨(.some 66), .none, (.elemAddr 1 (.t 61) (.t 65))⟩,
  ⟨(.some 67), .none, (.loadS .none (.t 66) [9])⟩,
  ⟨(.some 68), .none, (.build [(.d (.int .i64 0)), (.d (.int .i64 0)), (.d (.int .i64 0)), (.d (.int .i64 0)), (.d (.int .i64 0))] [⟨0, ⟨1, (.t 60)⟩⟩, ⟨1, ⟨1, (.t 67)⟩⟩, ⟨4, ⟨1, (.c (.d (.int .i64 1)))⟩⟩])⟩,
  ⟨(.some 9), .none, (.alloc 40 [(.d (.int .i64 0)), (.d (.int .i64 0)), (.d (.int .i64 0)), (.d (.int .i64 0)), (.d (.int .i64 0))])⟩,
  ⟨.none, .none, (.storeS 5 9 (.t 68))⟩]
abbrev c_poundageref15_Of_r16 : List AO := [⟨(.some 69), .none, (.mov (.t 8))⟩,
  ⟨(.some 70), .none, (.bin .add (.t 69) (.c (.d (.int .i64 1))))⟩,
  ⟨(.some 71), .none, (.mov (.t 4))⟩,
  ⟨(.some 72), .none, (.len (.t 71))⟩,
  ⟨(.some 73), .none, (.bin .lss (.t 70) (.t 72))⟩]
abbrev c_poundageref15_Of_r17 : List AO := [⟨(.some 74), .none, (.mov (.t 4))⟩,
  ⟨(.some 75), .none, (.mov (.t 8))⟩,
  ⟨(.some 76), .none, (.bin .add (.t 75) (.c (.d (.int .i64 1))))⟩,
  ⟨(.some 77), .none, (.elemAddr 1 (.t 74) (.t 76))⟩,
  ⟨(.some 79), .none, (.mov (.t 4))⟩,
  ⟨(.some 80), .none, (.mov (.t 8))⟩,
  ⟨(.some 81), .none, (.elemAddr 1 (.t 79) (.t 80))⟩,
  ⟨(.some 78), .none, (.load .none (.t 77))⟩,
  ⟨(.some 82), .none, (.load .none (.t 81))⟩,
  ⟨(.some 83), .none, (.bin .sub (.t 78) (.t 82))⟩,
  ⟨(.some 84), .none, (.fieldAddr 2 (.t 9))⟩,
  ⟨.none, .none, (.store 1 (.t 84) (.t 83))⟩]
abbrev c_poundageref15_Of_r18 : List AO := [⟨(.some 85), .none, (.mov (.t 0))⟩,
  ⟨(.some 86), .none, (.mov (.t 4))⟩,
  ⟨(.some 87), .none, (.mov (.t 8))⟩,
  ⟨(.some 88), .none, (.bin .add (.t 87) (.c (.d (.int .i64 1))))⟩,
  ⟨(.some 89), .none, (.elemAddr 1 (.t 86) (.t 88))⟩,
  ⟨(.some 93), .none, (.fieldAddr 1 (.t 9))⟩,
  ⟨(.some 90), .none, (.load .none (.t 89))⟩,
  ⟨(.some 91), .none, (.elemAddr 1 (.t 85) (.t 90))⟩,
  ⟨(.some 92), .none, (.load .none (.t 91))⟩,
  ⟨(.some 94), .none, (.load .none (.t 93))⟩,
  ⟨(.some 95), .none, (.bin .sub (.t 92) (.t 94))⟩,
  ⟨(.some 96), .none, (.fieldAddr 3 (.t 9))⟩,
  ⟨.none, .none, (.store 1 (.t 96) (.t 95))⟩]
abbrev c_poundageref15_Of_r19 : List AO := [⟨(.some 97), .none, (.fieldAddr 4 (.t 9))⟩,
  ⟨.none, .none, (.store 1 (.t 97) (.c (.d (.int .i64 2))))⟩]
abbrev c_poundageref15_Of_r20 : List AO := [⟨(.some 98), .none, (.mov (.t 8))⟩,
  ⟨(.some 99), .none, (.fieldAddr 4 (.t 9))⟩,
  ⟨(.some 102), .none, (.mov (.t 4))⟩,
  ⟨(.some 103), .none, (.len (.t 102))⟩,
  ⟨(.some 100), .none, (.load .none (.t 99))⟩,
  ⟨(.some 101), .none, (.bin .add (.t 98) (.t 100))⟩,
  ⟨(.some 104), .none, (.bin .lss (.t 101) (.t 103))⟩,
  ⟨(.some 105), .none, (.mov (.t 104))⟩,
  ⟨(.some 106), (.some ⟨105, .true⟩), (.mov (.t 4))⟩,
  ⟨(.some 107), (.some ⟨105, .true⟩), (.mov (.t 8))⟩,
  ⟨(.some 108), (.some ⟨105, .true⟩), (.fieldAddr 4 (.t 9))⟩,
  ⟨(.some 113), (.some ⟨105, .true⟩), (.fieldAddr 0 (.t 9))⟩,
  ⟨(.some 115), (.some ⟨105, .true⟩), (.fieldAddr 4 (.t 9))⟩,
  ⟨(.some 117), (.some ⟨105, .true⟩), (.fieldAddr 2 (.t 9))⟩,
  ⟨(.some 109), (.some ⟨105, .true⟩), (.load .none (.t 108))⟩,
  ⟨(.some 110), (.some ⟨105, .true⟩), (.bin .add (.t 107) (.t 109))⟩,
  ⟨(.some 111), (.some ⟨105, .true⟩), (.elemAddr 1 (.t 106) (.t 110))⟩,
  ⟨(.some 112), (.some ⟨105, .true⟩), (.load .none (.t 111))⟩,
  ⟨(.some 114), (.some ⟨105, .true⟩), (.load .none (.t 113))⟩,
  ⟨(.some 116), (.some ⟨105, .true⟩), (.load .none (.t 115))⟩,
  ⟨(.some 118), (.some ⟨105, .true⟩), (.load .none (.t 117))⟩,
  ⟨(.some 119), (.some ⟨105, .true⟩), (.bin .mul (.t 116) (.t 118))⟩,
  ⟨(.some 120), (.some ⟨105, .true⟩), (.bin .add (.t 114) (.t 119))⟩,
  ⟨(.some 121), (.some ⟨105, .true⟩), (.bin .eql (.t 112) (.t 120))⟩,
  ⟨(.some 122), .none, (.pick (.t 105) (.t 121) (.c (.d (.bool .false))))⟩,
  ⟨(.some 123), .none, (.mov (.t 122))⟩,
  ⟨(.some 124), (.some ⟨123, .true⟩), (.mov (.t 0))⟩,
  ⟨(.some 125), (.some ⟨123, .true⟩), (.mov (.t 4))⟩,
  ⟨(.some 126), (.some ⟨123, .true⟩), (.mov (.t 8))⟩,
  ⟨(.some 127), (.some ⟨123, .true⟩), (.fieldAddr 4 (.t 9))⟩,
  ⟨(.some 134), (.some ⟨123, .true⟩), (.mov (.t 0))⟩,
  ⟨(.some 135), (.some ⟨123, .true⟩), (.mov (.t 4))⟩,
  ⟨(.some 136), (.some ⟨123, .true⟩), (.mov (.t 8))⟩,
  ⟨(.some 137), (.some ⟨123, .true⟩), (.fieldAddr 4 (.t 9))⟩,
  ⟨(.some 145), (.some ⟨123, .true⟩), (.fieldAddr 3 (.t 9))⟩,
  ⟨(.some 128), (.some ⟨123, .true⟩), (.load .none (.t 127))⟩,
  ⟨(.some 129), (.some ⟨123, .true⟩), (.bin .add (.t 126) (.t 128))⟩,
  ⟨(.some 130), (.some ⟨123, .true⟩), (.elemAddr 1 (.t 125) (.t 129))⟩,
  ⟨(.some 131), (.some ⟨123, .true⟩), (.load .none (.t 130))⟩,
  ⟨(.some 132), (.some ⟨123, .true⟩), (.elemAddr 1 (.t 124) (.t 131))⟩,
  ⟨(.some 133), (.some ⟨123, .true⟩), (.load .none (.t 132))⟩,
  ⟨(.some 138), (.some ⟨123, .true⟩), (.load .none (.t 137))⟩,
  ⟨(.some 139), (.some ⟨123, .true⟩), (.bin .add (.t 136) (.t 138))⟩,
  ⟨(.some 140), (.some ⟨123, .true⟩), (.bin .sub (.t 139) (.c (.d (.int .i64 1))))⟩,
  ⟨(.some 141), (.some ⟨123, .true⟩), (.elemAddr 1 (.t 135) (.t 140))⟩,
  ⟨(.some 142), (.some ⟨123, .true⟩), (.load .none (.t 141))⟩,
  ⟨(.some 143), (.some ⟨123, .true⟩), (.elemAddr 1 (.t 134) (.t 142))⟩,
  ⟨(.some 144), (.some ⟨123, .true⟩), (.load .none (.t 143))⟩,
  ⟨(.some 146), (.some ⟨123, .true⟩), (.load .none (.t 145))⟩,
  ⟨(.some 147), (.some ⟨123, .true⟩), (.bin .add (.t 144) (.t 146))⟩,
  ⟨(.some 148), (.some ⟨123, .true⟩), (.bin .eql (.t 133) (.t 147))⟩,
  ⟨(.some 149), .none, (.pick (.t 123) (.t 148) (.c (.d (.bool .false))))⟩]
abbrev c_poundageref15_Of_r21 : List AO := [⟨(.some 150), .none, (.fieldAddr 4 (.t 9))⟩,
  ⟨(.some 151), .none, (.load .none (.t 150))⟩,
  ⟨(.some 152), .none, (.bin .add (.t 151) (.c (.d (.int .i64 1))))⟩,
  ⟨(.some 153), .none, (.fieldAddr 4 (.t 9))⟩,
  ⟨.none, .none, (.store 1 (.t 153) (.t 152))⟩]
abbrev c_poundageref15_Of_l1 : ACode := (.seq (.seq (.dops c_poundageref15_Of_r20) (.cond (.t 149) .skip (.exit 4))) (.block 5 (.ops c_poundageref15_Of_r21)))
abbrev c_poundageref15_Of_r22 : List AO := [⟨(.some 154), .none, (.fieldAddr 1 (.t 7))⟩,
  ⟨(.some 155), .none, (.load .none (.t 154))⟩,
  ⟨(.some 156), .none, (.load (.some 5) (.t 9))⟩,
  ⟨(.some 157), .none, (.buildSlice 40 5 1 [(.d (.int .i64 0)), (.d (.int .i64 0)), (.d (.int .i64 0)), (.d (.int .i64 0)), (.d (.int .i64 0))] [⟨0, (.t 156)⟩])⟩,
  ⟨(.some 158), .none, (.append 40 5 40 [(.d (.int .i64 0)), (.d (.int .i64 0)), (.d (.int .i64 0)), (.d (.int .i64 0)), (.d (.int .i64 0))] (.t 155) (.t 157))⟩,
  ⟨(.some 159), .none, (.fieldAddr 1 (.t 7))⟩,
  ⟨.none, .none, (.store 1 (.t 159) (.t 158))⟩]
abbrev c_poundageref15_Of_r23 : List AO := [⟨(.some 160), .none, (.mov (.t 8))⟩,
  ⟨(.some 161), .none, (.fieldAddr 4 (.t 9))⟩,
  ⟨(.some 162), .none, (.load .none (.t 161))⟩,
  ⟨(.some 163), .none, (.bin .add (.t 160) (.t 162))⟩,
  ⟨(.some 8), .none, (.mov (.t 163))⟩]
abbrev c_poundageref15_Of_l2 : ACode := (.seq (.seq (.ops c_poundageref15_Of_r14) (.cond (.t 56) .skip (.exit 2))) (.block 3 (.seq (.dops c_poundageref15_Of_r15) (.seq (.seq (.ops c_poundageref15_Of_r16) (.cond (.t 73) (.seq (.dops c_poundageref15_Of_r17) (.seq (.dops c_poundageref15_Of_r18) (.seq (.ops c_poundageref15_Of_r19) (.block 4 (.loop c_poundageref15_Of_l1))))) .skip)) (.seq (.ops c_poundageref15_Of_r22) (.ops c_poundageref15_Of_r23))))))
abbrev c_poundageref15_Of_r24 : List AO := [⟨(.some 164), .none, (.load (.some 2) (.t 7))⟩,
  ⟨.none, .none, (.store 2 (.t 2) (.t 164))⟩,
  ⟨(.some 3), .none, (.mov (.c (.d (.bool .true))))⟩]
abbrev c_poundageref15_Of : AFunc := ⟨165, [(.cell 2 (.some 2)), (.tmp 3)], (.seq (.ops c_poundageref15_Of_r0) (.seq (.seq (.ops c_poundageref15_Of_r1) (.cond (.t 17) (.seq (.ops c_poundageref15_Of_r2) .ret) .skip)) (.seq (.ops c_poundageref15_Of_r3) (.seq (.seq (.ops c_poundageref15_Of_r4) (.block 0 (.loop c_poundageref15_Of_l0))) (.seq (.ops c_poundageref15_Of_r12) (.seq (.seq (.ops c_poundageref15_Of_r13) (.block 2 (.loop c_poundageref15_Of_l2))) (.seq (.ops c_poundageref15_Of_r24) .ret)))))))⟩
theorem comp_poundageref15_Of : funcC Try.prog 11 = some c_poundageref15_Of := by kernel_rfl
/-! function 12 : poundage poundageref15.Same -/
abbrev f_poundageref15_Same : FuncId := 12
abbrev c_poundageref15_Same_r0 : List AO := [⟨(.some 2), .none, (.box 26 (.t 0))⟩,
  ⟨(.some 3), .none, (.box 26 (.t 1))⟩,
  ⟨(.some 4), .none, (.mov (.c (.d (.bool .false))))⟩]
abbrev c_poundageref15_Same_r1 : List AO := [⟨(.some 6), .none, (.fieldAddr 0 (.t 2))⟩,
  ⟨(.some 7), .none, (.load .none (.t 6))⟩,
  ⟨(.some 8), .none, (.fieldAddr 0 (.t 3))⟩,
  ⟨(.some 9), .none, (.load .none (.t 8))⟩,
  ⟨(.some 10), .none, (.bin .neq (.t 7) (.t 9))⟩,
  ⟨(.some 11), .none, (.mov (.t 10))⟩,
  ⟨(.some 12), (.some ⟨11, .false⟩), (.fieldAddr 1 (.t 2))⟩,
  ⟨(.some 13), (.some ⟨11, .false⟩), (.load .none (.t 12))⟩,
  ⟨(.some 14), (.some ⟨11, .false⟩), (.len (.t 13))⟩,
  ⟨(.some 15), (.some ⟨11, .false⟩), (.fieldAddr 1 (.t 3))⟩,
  ⟨(.some 16), (.some ⟨11, .false⟩), (.load .none (.t 15))⟩,
  ⟨(.some 17), (.some ⟨11, .false⟩), (.len (.t 16))⟩,
  ⟨(.some 18), (.some ⟨11, .false⟩), (.bin .neq (.t 14) (.t 17))⟩,
  ⟨(.some 19), .none, (.pick (.t 11) (.c (.d (.bool .true))) (.t 18))⟩]
abbrev c_poundageref15_Same_r2 : List AO := [⟨(.some 4), .none, (.mov (.c (.d (.bool .false))))⟩]
abbrev c_poundageref15_Same_r3 : List AO := [⟨(.some 20), .none, (.fieldAddr 1 (.t 2))⟩,
  ⟨(.some 21), .none, (.load .none (.t 20))⟩,
  ⟨(.some 22), .none, (.len (.t 21))⟩,
  ⟨(.some 23), .none, (.mov (.c (.d (.int .i64 0))))⟩]
abbrev c_poundageref15_Same_r4 : List AO := [⟨(.some 24), .none, (.bin .lss (.t 23) (.t 22))⟩]
abbrev c_poundageref15_Same_r5 : List AO := [⟨(.some 25), .none, (.mov (.t 23))⟩,
  ⟨(.some 5), .none, (.mov (.t 25))⟩]
abbrev c_poundageref15_Same_r6 : List AO := [⟨(.some 26), .none, (.fieldAddr 1 (.t 2))⟩,
  ⟨(.some 28), .none, (.mov (.t 5))⟩,
  ⟨(.some 31), .none, (.fieldAddr 1 (.t 3))⟩,
  ⟨(.some 33), .none, (.mov (.t 5))⟩,
  ⟨(.some 27), .none, (.load .none (.t 26))⟩,
  ⟨(.some 29), .none, (.elemAddr 5 (.t 27) (.t 28))⟩,
  ⟨(.some 30), .none, (.load (.some 5) (.t 29))⟩,
  ⟨(.some 32), .none, (.load .none (.t 31))⟩,
  ⟨(.some 34), .none, (.elemAddr 5 (.t 32) (.t 33))⟩,
  ⟨(.some 35), .none, (.load (.some 5) (.t 34))⟩,
  ⟨(.some 36), .none, (.eqAgg .true [0, 0, 0, 0, 0] (.t 30) (.t 35))⟩]
abbrev c_poundageref15_Same_r7 : List AO := [⟨(.some 4), .none, (.mov (.c (.d (.bool .false))))⟩]
abbrev c_poundageref15_Same_r8 : List AO := [⟨(.some 37), .none, (.bin .add (.t 23) (.c (.d (.int .i64 1))))⟩,
  ⟨(.some 23), .none, (.mov (.t 37))⟩]
abbrev c_poundageref15_Same_l0 : ACode := (.seq (.ops c_poundageref15_Same_r4) (.seq (.cond (.t 24) .skip (.exit 0)) (.seq (.block 1 (.seq (.ops c_poundageref15_Same_r5) (.seq (.dops c_poundageref15_Same_r6) (.cond (.t 36) (.seq (.ops c_poundageref15_Same_r7) .ret) .skip)))) (.ops c_poundageref15_Same_r8))))
abbrev c_poundageref15_Same_r9 : List AO := [⟨(.some 4), .none, (.mov (.c (.d (.bool .true))))⟩]
abbrev c_poundageref15_Same : AFunc := ⟨38, [(.tmp 4)], (.seq (.ops c_poundageref15_Same_r0) (.seq (.seq (.ops c_poundageref15_Same_r1) (.cond (.t 19) (.seq (.ops c_poundageref15_Same_r2) .ret) .skip)) (.seq (.seq (.ops c_poundageref15_Same_r3) (.block 0 (.loop c_poundageref15_Same_l0))) (.seq (.ops c_poundageref15_Same_r9) .ret))))⟩
theorem comp_poundageref15_Same : funcC Try.prog 12 = some c_poundageref15_Same := by kernel_rfl
/-! function 13 : poundage curve.At -/
abbrev f_curve_At : FuncId := 13
abbrev c_curve_At_r0 : List AO := [⟨(.some 2), .none, (.box 26 (.t 0))⟩,
  ⟨(.some 4), .none, (.mov (.c (.d (.int .i64 0))))⟩,
  ⟨(.some 5), .none, (.mov (.c (.d (.bool .false))))⟩]
abbrev c_curve_At_r1 : List AO := [⟨(.some 8), .none, (.mov (.t 1))⟩,
  ⟨(.some 9), .none, (.bin .lss (.t 8) (.c (.d (.int .i64 0))))⟩,
  ⟨(.some 10), .none, (.mov (.t 9))⟩,
  ⟨(.some 11), (.some ⟨10, .false⟩), (.mov (.t 1))⟩,
  ⟨(.some 12), (.some ⟨10, .false⟩), (.fieldAddr 0 (.t 2))⟩,
  ⟨(.some 13), (.some ⟨10, .false⟩), (.load .none (.t 12))⟩,
  ⟨(.some 14), (.some ⟨10, .false⟩), (.bin .gtr (.t 11) (.t 13))⟩,
  ⟨(.some 15), .none, (.pick (.t 10) (.c (.d (.bool .true))) (.t 14))⟩]
abbrev c_curve_At_r2 : List AO := [⟨(.some 4), .none, (.mov (.c (.d (.int .i64 0))))⟩,
  ⟨(.some 5), .none, (.mov (.c (.d (.bool .false))))⟩]
abbrev c_curve_At_r3 : List AO := [⟨(.some 16), .none, (.fieldAddr 1 (.t 2))⟩,
  ⟨(.some 17), .none, (.load .none (.t 16))⟩,
  ⟨(.some 18), .none, (.len (.t 17))⟩,
  ⟨(.some 19), .none, (.bin .sub (.t 18) (.c (.d (.int .i64 1))))⟩,
  ⟨(.some 6), .none, (.mov (.t 19))⟩]
abbrev c_curve_At_r4 : List AO := [⟨(.some 20), .none, (.mov (.t 6))⟩,
  ⟨(.some 21), .none, (.bin .geq (.t 20) (.c (.d (.int .i64 0))))⟩,
  ⟨(.some 22), .none, (.mov (.t 21))⟩,
  ⟨(.some 23), (.some ⟨22, .true⟩), (.fieldAddr 1 (.t 2))⟩,
  ⟨(.some 24), (.some ⟨22, .true⟩), (.load .none (.t 23))⟩,
  ⟨(.some 25), (.some ⟨22, .true⟩), (.mov (.t 6))⟩,
  ⟨(.some 26), (.some ⟨22, .true⟩), (.elemAddr 5 (.t 24) (.t 25))⟩,
  ⟨(.some 27), (.some ⟨22, .true⟩), (.fieldAddr 0 (.t 26))⟩,
  ⟨(.some 28), (.some ⟨22, .true⟩), (.load .none (.t 27))⟩,
  ⟨(.some 29), (.some ⟨22, .true⟩), (.mov (.t 1))⟩,
  ⟨(.some 30), (.some ⟨22, .true⟩), (.bin .gtr (.t 28) (.t 29))⟩,
  ⟨(.some 31), .none, (.pick (.t 22) (.t 30) (.c (.d (.bool .false))))⟩]
abbrev c_curve_At_r5 : List AO := [⟨(.some 32), .none, (.mov (.t 6))⟩,
  ⟨(.some 33), .none, (.bin .sub (.t 32) (.c (.d (.int .i64 1))))⟩,
  ⟨(.some 6), .none, (.mov (.t 33))⟩]
abbrev c_curve_At_l0 : ACode := (.seq (.seq (.ops c_curve_At_r4) (.cond (.t 31) .skip (.exit 0))) (.block 1 (.ops c_curve_At_r5)))
abbrev c_curve_At_r6 : List AO := [⟨(.some 34), .none, (.mov (.t 6))⟩,
  ⟨(.some 35), .none, (.bin .lss (.t 34) (.c (.d (.int .i64 0))))⟩]
abbrev c_curve_At_r7 : List AO := [⟨(.some 4), .none, (.mov (.c (.d (.int .i64 0))))⟩,
  ⟨(.some 5), .none, (.mov (.c (.d (.bool .false))))⟩]
abbrev c_curve_At_r8 : List AO := [⟨(.some 36), .none, (.fieldAddr 1 (.t 2))⟩,
  ⟨(.some 37), .none, (.load .none (.t 36))⟩,
  ⟨(.some 38), .none, (.mov (.t 6))⟩,
  ⟨(.some 39), .none, (.elemAddr 5 (.t 37) (.t 38))⟩,
  ⟨(.some 40), .none, (.load (.some 5) (.t 39))⟩,
  ⟨(.some 7), .none, (.alloc 40 [(.d (.int .i64 0)), (.d (.int .i64 0)), (.d (.int .i64 0)), (.d (.int .i64 0)), (.d (.int .i64 0))])⟩,
  ⟨.none, .none, (.store 5 (.t 7) (.t 40))⟩]
abbrev c_curve_At_r9 : List AO := [⟨(.some 41), .none, (.fieldAddr 2 (.t 7))⟩,
  ⟨(.some 42), .none, (.load .none (.t 41))⟩,
  ⟨(.some 43), .none, (.bin .lss (.t 42) (.c (.d (.int .i64 1))))⟩]
abbrev c_curve_At_r10 : List AO := [⟨(.some 44), .none, (.fieldAddr 1 (.t 7))⟩,
  ⟨(.some 45), .none, (.load .none (.t 44))⟩,
  ⟨(.some 4), .none, (.mov (.t 45))⟩,
  ⟨(.some 5), .none, (.mov (.c (.d (.bool .true))))⟩]
abbrev c_curve_At_r11 : List AO := [⟨(.some 46), .none, (.fieldAddr 1 (.t 7))⟩,
  ⟨(.some 48), .none, (.mov (.t 1))⟩,
  ⟨(.some 49), .none, (.fieldAddr 0 (.t 7))⟩,
  ⟨(.some 52), .none, (.fieldAddr 2 (.t 7))⟩,
  ⟨(.some 55), .none, (.fieldAddr 4 (.t 7))⟩,
  ⟨(.some 59), .none, (.fieldAddr 3 (.t 7))⟩,
  ⟨(.some 47), .none, (.load .none (.t 46))⟩,
  ⟨(.some 50), .none, (.load .none (.t 49))⟩,
  ⟨(.some 51), .none, (.bin .sub (.t 48) (.t 50))⟩,
  ⟨(.some 53), .none, (.load .none (.t 52))⟩,
  ⟨(.some 54), .none, (.bin .quo (.t 51) (.t 53))⟩,
  ⟨(.some 56), .none, (.load .none (.t 55))⟩,
  ⟨(.some 57), .none, (.bin .sub (.t 56) (.c (.d (.int .i64 1))))⟩,
  ⟨(.some 58), .none, (.minmax .false (.t 54) [(.t 57)])⟩,
  ⟨(.some 60), .none, (.load .none (.t 59))⟩,
  ⟨(.some 61), .none, (.bin .mul (.t 58) (.t 60))⟩,
  ⟨(.some 62), .none, (.bin .add (.t 47) (.t 61))⟩,
  ⟨(.some 4), .none, (.mov (.t 62))⟩,
  ⟨(.some 5), .none, (.mov (.c (.d (.bool .true))))⟩]
abbrev c_curve_At : AFunc := ⟨63, [(.tmp 4), (.tmp 5)], (.seq (.ops c_curve_At_r0) (.seq (.seq (.ops c_curve_At_r1) (.cond (.t 15) (.seq (.ops c_curve_At_r2) .ret) .skip)) (.seq (.ops c_curve_At_r3) (.seq (.block 0 (.loop c_curve_At_l0)) (.seq (.seq (.ops c_curve_At_r6) (.cond (.t 35) (.seq (.ops c_curve_At_r7) .ret) .skip)) (.seq (.ops c_curve_At_r8) (.seq (.seq (.ops c_curve_At_r9) (.cond (.t 43) (.seq (.ops c_curve_At_r10) .ret) .skip)) (.seq (.dops c_curve_At_r11) .ret))))))))⟩
theorem comp_curve_At : funcC Try.prog 13 = some c_curve_At := by kernel_rfl
/-! function 14 : poundage curve.Same -/
abbrev f_curve_Same : FuncId := 14
abbrev c_curve_Same_r0 : List AO := [⟨(.some 2), .none, (.box 26 (.t 0))⟩,
  ⟨(.some 3), .none, (.box 26 (.t 1))⟩,
  ⟨(.some 4), .none, (.mov (.c (.d (.bool .false))))⟩]
abbrev c_curve_Same_r1 : List AO := [⟨(.some 5), .none, (.fieldAddr 0 (.t 2))⟩,
  ⟨(.some 6), .none, (.load .none (.t 5))⟩,
  ⟨(.some 7), .none, (.fieldAddr 0 (.t 3))⟩,
  ⟨(.some 8), .none, (.load .none (.t 7))⟩,
  ⟨(.some 9), .none, (.bin .eql (.t 6) (.t 8))⟩,
  ⟨(.some 10), .none, (.mov (.t 9))⟩,
  ⟨(.some 11), (.some ⟨10, .true⟩), (.fieldAddr 1 (.t 2))⟩,
  ⟨(.some 12), (.some ⟨10, .true⟩), (.load .none (.t 11))⟩,
  ⟨(.some 13), (.some ⟨10, .true⟩), (.fieldAddr 1 (.t 3))⟩,
  ⟨(.some 14), (.some ⟨10, .true⟩), (.load .none (.t 13))⟩,
  ⟨(.some 15), (.some ⟨10, .true⟩), (.call 26 [(.t 12), (.t 14)])⟩,
  ⟨(.some 16), .none, (.pick (.t 10) (.t 15) (.c (.d (.bool .false))))⟩,
  ⟨(.some 4), .none, (.mov (.t 16))⟩]
abbrev c_curve_Same : AFunc := ⟨17, [(.tmp 4)], (.seq (.ops c_curve_Same_r0) (.seq (.ops c_curve_Same_r1) .ret))⟩
theorem comp_curve_Same : funcC Try.prog 14 = some c_curve_Same := by kernel_rfl
/-! function 15 : poundage curve.Line -/
abbrev f_curve_Line : FuncId := 15
abbrev c_curve_Line_r0 : List AO := [⟨(.some 1), .none, (.box 26 (.t 0))⟩,
  ⟨(.some 2), .none, (.alloc 31 [(.nilsl 3)])⟩,
  ⟨(.some 3), .none, (.mov (.c (.d (.bool .false))))⟩]
abbrev c_curve_Line_r1 : List AO := [⟨(.some 8), .none, (.fieldAddr 0 (.t 1))⟩,
  ⟨(.some 9), .none, (.load .none (.t 8))⟩,
  ⟨(.some 10), .none, (.bin .lss (.t 9) (.c (.d (.int .i64 0))))⟩,
  ⟨(.some 11), .none, (.mov (.t 10))⟩,
  ⟨(.some 12), (.some ⟨11, .false⟩), (.fieldAddr 0 (.t 1))⟩,
  ⟨(.some 13), (.some ⟨11, .false⟩), (.load .none (.t 12))⟩,
  ⟨(.some 14), (.some ⟨11, .false⟩), (.bin .gtr (.t 13) (.c (.d (.int .i64 2000))))⟩,
  ⟨(.some 15), .none, (.pick (.t 11) (.c (.d (.bool .true))) (.t 14))⟩,
  ⟨(.some 16), .none, (.mov (.t 15))⟩,
  ⟨(.some 17), (.some ⟨16, .false⟩), (.fieldAddr 1 (.t 1))⟩,
  ⟨(.some 18), (.some ⟨16, .false⟩), (.load .none (.t 17))⟩,
  ⟨(.some 19), (.some ⟨16, .false⟩), (.len (.t 18))⟩,
  ⟨(.some 20), (.some ⟨16, .false⟩), (.bin .eql (.t 19) (.c (.d (.int .i64 0))))⟩,
  ⟨(.some 21), .none, (.pick (.t 16) (.c (.d (.bool .true))) (.t 20))⟩,
  ⟨(.some 22), .none, (.mov (.t 21))⟩,
  ⟨(.some 23), (.some ⟨22, .false⟩), (.fieldAddr 1 (.t 1))⟩,
  ⟨(.some 24), (.some ⟨22, .false⟩), (.load .none (.t 23))⟩,
  ⟨(.some 25), (.some ⟨22, .false⟩), (.len (.t 24))⟩,
  ⟨(.some 26), (.some ⟨22, .false⟩), (.fieldAddr 0 (.t 1))⟩,
  ⟨(.some 27), (.some ⟨22, .false⟩), (.load .none (.t 26))⟩,
  ⟨(.some 28), (.some ⟨22, .false⟩), (.bin .add (.t 27) (.c (.d (.int .i64 1))))⟩,
  ⟨(.some 29), (.some ⟨22, .false⟩), (.bin .gtr (.t 25) (.t 28))⟩,
  ⟨(.some 30), .none, (.pick (.t 22) (.c (.d (.bool .true))) (.t 29))⟩,
  ⟨(.some 31), .none, (.mov (.t 30))⟩,
  ⟨(.some 32), (.some ⟨31, .false⟩), (.fieldAddr 1 (.t 1))⟩,
  ⟨(.some 33), (.some ⟨31, .false⟩), (.load .none (.t 32))⟩,
  ⟨(.some 34), (.some ⟨31, .false⟩), (.elemAddr 5 (.t 33) (.c (.d (.int .i64 0))))⟩,
  ⟨(.some 35), (.some ⟨31, .false⟩), (.fieldAddr 0 (.t 34))⟩,
  ⟨(.some 36), (.some ⟨31, .false⟩), (.load .none (.t 35))⟩,
  ⟨(.some 37), (.some ⟨31, .false⟩), (.bin .neq (.t 36) (.c (.d (.int .i64 0))))⟩,
  ⟨(.some 38), .none, (.pick (.t 31) (.c (.d (.bool .true))) (.t 37))⟩]
abbrev c_curve_Line_r2 : List AO := [⟨(.some 39), .none, (.build [(.nilsl 3)] [])⟩,
  ⟨.none, .none, (.store 1 (.t 2) (.t 39))⟩,
  ⟨(.some 3), .none, (.mov (.c (.d (.bool .false))))⟩]
abbrev c_curve_Line_r3 : List AO := [⟨(.some 4), .none, (.mov (.c (.nilsl 0)))⟩]
abbrev c_curve_Line_r4 : List AO := [⟨(.some 40), .none, (.fieldAddr 0 (.t 1))⟩,
  ⟨(.some 41), .none, (.load .none (.t 40))⟩,
  ⟨(.some 42), .none, (.bin .add (.t 41) (.c (.d (.int .i64 1))))⟩,
  ⟨(.some 43), .none, (.mov (.c (.d (.int .i64 0))))⟩]
abbrev c_curve_Line_r5 : List AO := [⟨(.some 44), .none, (.bin .lss (.t 43) (.t 42))⟩]
abbrev c_curve_Line_r6 : List AO := [⟨(.some 45), .none, (.mov (.t 43))⟩,
  ⟨(.some 5), .none, (.mov (.t 45))⟩]
abbrev c_curve_Line_r7 : List AO := [⟨(.some 47), .none, (.load (.some 2) (.t 1))⟩,
  ⟨(.some 48), .none, (.mov (.t 5))⟩,
  ⟨(.some 49), .none, (.call 13 [(.t 47), (.t 48)])⟩,
  ⟨(.some 46), .none, (.mov (.t 49))⟩,
  ⟨(.some 50), .none, (.extract (.t 46) 0)⟩,
  ⟨(.some 51), .none, (.extract (.t 46) 1)⟩,
  ⟨(.some 6), .none, (.mov (.t 50))⟩,
  ⟨(.some 7), .none, (.mov (.t 51))⟩]
abbrev c_curve_Line_r8 : List AO := [⟨(.some 52), .none, (.mov (.t 4))⟩,
  ⟨(.some 53), .none, (.mov (.t 6))⟩,
  ⟨(.some 54), .none, (.buildSlice 3 1 1 [(.d (.int .i64 0))] [⟨0, (.t 53)⟩])⟩,
  ⟨(.some 55), .none, (.append 3 1 8 [(.d (.int .i64 0))] (.t 52) (.t 54))⟩,
  ⟨(.some 4), .none, (.mov (.t 55))⟩]
abbrev c_curve_Line_r9 : List AO := [⟨(.some 56), .none, (.bin .add (.t 43) (.c (.d (.int .i64 1))))⟩,
  ⟨(.some 43), .none, (.mov (.t 56))⟩]
abbrev c_curve_Line_l0 : ACode := (.seq (.ops c_curve_Line_r5) (.seq (.cond (.t 44) .skip (.exit 0)) (.seq (.block 1 (.seq (.ops c_curve_Line_r6) (.seq (.ops c_curve_Line_r7) (.ops c_curve_Line_r8)))) (.ops c_curve_Line_r9))))
abbrev c_curve_Line_r10 : List AO := [⟨(.some 57), .none, (.mov (.t 4))⟩,
  ⟨(.some 58), .none, (.call 10 [(.c (.d (.int .i64 0))), (.t 57)])⟩,
  ⟨.none, .none, (.store 1 (.t 2) (.t 58))⟩,
  ⟨(.some 3), .none, (.mov (.c (.d (.bool .true))))⟩]
abbrev c_curve_Line : AFunc := ⟨59, [(.cell 2 (.some 1)), (.tmp 3)], (.seq (.ops c_curve_Line_r0) (.seq (.seq (.ops c_curve_Line_r1) (.cond (.t 38) (.seq (.ops c_curve_Line_r2) .ret) .skip)) (.seq (.ops c_curve_Line_r3) (.seq (.seq (.ops c_curve_Line_r4) (.block 0 (.loop c_curve_Line_l0))) (.seq (.ops c_curve_Line_r10) .ret)))))⟩
theorem comp_curve_Line : funcC Try.prog 15 = some c_curve_Line := by kernel_rfl
/-! function 16 : poundage line.Equal int  -/
abbrev f_line_Equal_int : FuncId := 16
abbrev c_line_Equal_int_r0 : List AO := [⟨(.some 2), .none, (.box 31 (.t 0))⟩,
  ⟨(.some 3), .none, (.box 31 (.t 1))⟩,
  ⟨(.some 4), .none, (.mov (.c (.d (.bool .false))))⟩]
abbrev c_line_Equal_int_r1 : List AO := [⟨(.some 5), .none, (.fieldAddr 0 (.t 2))⟩,
  ⟨(.some 6), .none, (.load .none (.t 5))⟩,
  ⟨(.some 7), .none, (.fieldAddr 0 (.t 3))⟩,
  ⟨(.some 8), .none, (.load .none (.t 7))⟩,
  ⟨(.some 9), .none, (.call 27 [(.t 6), (.t 8)])⟩,
  ⟨(.some 4), .none, (.mov (.t 9))⟩]
abbrev c_line_Equal_int : AFunc := ⟨10, [(.tmp 4)], (.seq (.ops c_line_Equal_int_r0) (.seq (.ops c_line_Equal_int_r1) .ret))⟩
theorem comp_line_Equal_int : funcC Try.prog 16 = some c_line_Equal_int := by kernel_rfl
/-! function 17 : poundage curve.Good -/
abbrev f_curve_Good : FuncId := 17
abbrev c_curve_Good_r0 : List AO := [⟨(.some 1), .none, (.box 26 (.t 0))⟩,
  ⟨(.some 2), .none, (.mov (.c (.d (.bool .false))))⟩]
abbrev c_curve_Good_r1 : List AO := [⟨(.some 8), .none, (.load (.some 2) (.t 1))⟩,
  ⟨(.some 9), .none, (.call 15 [(.t 8)])⟩,
  ⟨(.some 7), .none, (.mov (.t 9))⟩,
  ⟨(.some 10), .none, (.extract (.t 7) 0)⟩,
  ⟨(.some 11), .none, (.extract (.t 7) 1)⟩,
  ⟨(.some 3), .none, (.alloc 31 [(.nilsl 3)])⟩,
  ⟨.none, .none, (.store 1 (.t 3) (.t 10))⟩,
  ⟨(.some 4), .none, (.mov (.t 11))⟩]
abbrev c_curve_Good_r2 : List AO := [⟨(.some 12), .none, (.mov (.t 4))⟩,
  ⟨(.some 13), .none, (.un .not (.t 12))⟩]
abbrev c_curve_Good_r3 : List AO := [⟨(.some 2), .none, (.mov (.c (.d (.bool .false))))⟩]
abbrev c_curve_Good_r4 : List AO := [⟨(.some 15), .none, (.load (.some 1) (.t 3))⟩,
  ⟨(.some 16), .none, (.call 9 [(.t 15)])⟩,
  ⟨(.some 14), .none, (.mov (.t 16))⟩,
  ⟨(.some 17), .none, (.extract (.t 14) 0)⟩,
  ⟨(.some 18), .none, (.extract (.t 14) 1)⟩,
  ⟨(.some 5), .none, (.alloc 26 [(.d (.int .i64 0)), (.nilsl 5)])⟩,
  ⟨.none, .none, (.store 2 (.t 5) (.t 17))⟩,
  ⟨(.some 6), .none, (.mov (.t 18))⟩]
abbrev c_curve_Good_r5 : List AO := [⟨(.some 19), .none, (.mov (.t 6))⟩,
  ⟨(.some 20), .none, (.mov (.t 19))⟩,
  ⟨(.some 21), (.some ⟨20, .true⟩), (.load (.some 2) (.t 1))⟩,
  ⟨(.some 22), (.some ⟨20, .true⟩), (.load (.some 2) (.t 5))⟩,
  ⟨(.some 23), (.some ⟨20, .true⟩), (.call 14 [(.t 21), (.t 22)])⟩,
  ⟨(.some 24), .none, (.pick (.t 20) (.t 23) (.c (.d (.bool .false))))⟩,
  ⟨(.some 2), .none, (.mov (.t 24))⟩]
abbrev c_curve_Good : AFunc := ⟨25, [(.tmp 2)], (.seq (.ops c_curve_Good_r0) (.seq (.ops c_curve_Good_r1) (.seq (.seq (.ops c_curve_Good_r2) (.cond (.t 13) (.seq (.ops c_curve_Good_r3) .ret) .skip)) (.seq (.ops c_curve_Good_r4) (.seq (.ops c_curve_Good_r5) .ret)))))⟩
theorem comp_curve_Good : funcC Try.prog 17 = some c_curve_Good := by kernel_rfl
/-! function 18 : poundage poundageref15.Good -/
abbrev f_poundageref15_Good : FuncId := 18
abbrev c_poundageref15_Good_r0 : List AO := [⟨(.some 1), .none, (.box 26 (.t 0))⟩,
  ⟨(.some 2), .none, (.mov (.c (.d (.bool .false))))⟩]
abbrev c_poundageref15_Good_r1 : List AO := [⟨(.some 5), .none, (.fieldAddr 0 (.t 1))⟩,
  ⟨(.some 6), .none, (.load .none (.t 5))⟩,
  ⟨(.some 7), .none, (.bin .lss (.t 6) (.c (.d (.int .i64 0))))⟩,
  ⟨(.some 8), .none, (.mov (.t 7))⟩,
  ⟨(.some 9), (.some ⟨8, .false⟩), (.fieldAddr 0 (.t 1))⟩,
  ⟨(.some 10), (.some ⟨8, .false⟩), (.load .none (.t 9))⟩,
  ⟨(.some 11), (.some ⟨8, .false⟩), (.bin .gtr (.t 10) (.c (.d (.int .i64 2000))))⟩,
  ⟨(.some 12), .none, (.pick (.t 8) (.c (.d (.bool .true))) (.t 11))⟩,
  ⟨(.some 13), .none, (.mov (.t 12))⟩,
  ⟨(.some 14), (.some ⟨13, .false⟩), (.fieldAddr 1 (.t 1))⟩,
  ⟨(.some 15), (.some ⟨13, .false⟩), (.load .none (.t 14))⟩,
  ⟨(.some 16), (.some ⟨13, .false⟩), (.len (.t 15))⟩,
  ⟨(.some 17), (.some ⟨13, .false⟩), (.bin .eql (.t 16) (.c (.d (.int .i64 0))))⟩,
  ⟨(.some 18), .none, (.pick (.t 13) (.c (.d (.bool .true))) (.t 17))⟩,
  ⟨(.some 19), .none, (.mov (.t 18))⟩,
  ⟨(.some 20), (.some ⟨19, .false⟩), (.fieldAddr 1 (.t 1))⟩,
  ⟨(.some 21), (.some ⟨19, .false⟩), (.load .none (.t 20))⟩,
  ⟨(.some 22), (.some ⟨19, .false⟩), (.len (.t 21))⟩,
  ⟨(.some 23), (.some ⟨19, .false⟩), (.fieldAddr 0 (.t 1))⟩,
  ⟨(.some 24), (.some ⟨19, .false⟩), (.load .none (.t 23))⟩,
  ⟨(.some 25), (.some ⟨19, .false⟩), (.bin .add (.t 24) (.c (.d (.int .i64 1))))⟩,
  ⟨(.some 26), (.some ⟨19, .false⟩), (.bin .gtr (.t 22) (.t 25))⟩,
  ⟨(.some 27), .none, (.pick (.t 19) (.c (.d (.bool .true))) (.t 26))⟩,
  ⟨(.some 28), .none, (.mov (.t 27))⟩,
  ⟨(.some 29), (.some ⟨28, .false⟩), (.fieldAddr 1 (.t 1))⟩,
  ⟨(.some 30), (.some ⟨28, .false⟩), (.load .none (.t 29))⟩,
  ⟨(.some 31), (.some ⟨28, .false⟩), (.elemAddr 5 (.t 30) (.c (.d (.int .i64 0))))⟩,
  ⟨(.some 32), (.some ⟨28, .false⟩), (.fieldAddr 0 (.t 31))⟩,
  ⟨(.some 33), (.some ⟨28, .false⟩), (.load .none (.t 32))⟩,
  ⟨(.some 34), (.some ⟨28, .false⟩), (.bin .neq (.t 33) (.c (.d (.int .i64 0))))⟩,
  ⟨(.some 35), .none, (.pick (.t 28) (.c (.d (.bool .true))) (.t 34))⟩]
abbrev c_poundageref15_Good_r2 : List AO := [⟨(.some 2), .none, (.mov (.c (.d (.bool .false))))⟩]
abbrev c_poundageref15_Good_r3 : List AO := [⟨(.some 37), .none, (.load (.some 2) (.t 1))⟩,
  ⟨(.some 38), .none, (.call 28 [(.t 37)])⟩,
  ⟨(.some 39), .none, (.call 11 [(.t 38)])⟩,
  ⟨(.some 36), .none, (.mov (.t 39))⟩,
  ⟨(.some 40), .none, (.extract (.t 36) 0)⟩,
  ⟨(.some 41), .none, (.extract (.t 36) 1)⟩,
  ⟨(.some 3), .none, (.alloc 26 [(.d (.int .i64 0)), (.nilsl 5)])⟩,
  ⟨.none, .none, (.store 2 (.t 3) (.t 40))⟩,
  ⟨(.some 4), .none, (.mov (.t 41))⟩]
abbrev c_poundageref15_Good_r4 : List AO := [⟨(.some 42), .none, (.mov (.t 4))⟩,
  ⟨(.some 43), .none, (.mov (.t 42))⟩,
  ⟨(.some 44), (.some ⟨43, .true⟩), (.load (.some 2) (.t 1))⟩,
  ⟨(.some 45), (.some ⟨43, .true⟩), (.load (.some 2) (.t 3))⟩,
  ⟨(.some 46), (.some ⟨43, .true⟩), (.call 12 [(.t 44), (.t 45)])⟩,
  ⟨(.some 47), .none, (.pick (.t 43) (.t 46) (.c (.d (.bool .false))))⟩,
  ⟨(.some 2), .none, (.mov (.t 47))⟩]
abbrev c_poundageref15_Good : AFunc := ⟨48, [(.tmp 2)], (.seq (.ops c_poundageref15_Good_r0) (.seq (.seq (.ops c_poundageref15_Good_r1) (.cond (.t 35) (.seq (.ops c_poundageref15_Good_r2) .ret) .skip)) (.seq (.ops c_poundageref15_Good_r3) (.seq (.ops c_poundageref15_Good_r4) .ret))))⟩
theorem comp_poundageref15_Good : funcC Try.prog 18 = some c_poundageref15_Good := by kernel_rfl
/-! function 19 :  poundage line.Line int .Span -/
abbrev f_line_Line_int_Span : FuncId := 19
abbrev c_line_Line_int_Span_r0 : List AO := [⟨(.some 1), .none, (.box 31 (.t 0))⟩,
  ⟨(.some 2), .none, (.mov (.c (.d (.int .i64 0))))⟩,
  ⟨(.some 3), .none, (.mov (.c (.d (.int .i64 0))))⟩,
  ⟨(.some 4), .none, (.mov (.c (.d (.bool .false))))⟩]
abbrev c_line_Line_int_Span_r1 : List AO := [⟨(.some 5), .none, (.fieldAddr 0 (.t 1))⟩,
  ⟨(.some 6), .none, (.load .none (.t 5))⟩,
  ⟨(.some 7), .none, (.len (.t 6))⟩,
  ⟨(.some 8), .none, (.bin .eql (.t 7) (.c (.d (.int .i64 0))))⟩]
abbrev c_line_Line_int_Span_r2 : List AO := [⟨(.some 2), .none, (.mov (.c (.d (.int .i64 0))))⟩,
  ⟨(.some 3), .none, (.mov (.c (.d (.int .i64 0))))⟩,
  ⟨(.some 4), .none, (.mov (.c (.d (.bool .false))))⟩]
abbrev c_line_Line_int_Span_r3 : List AO := [⟨(.some 9), .none, (.fieldAddr 0 (.t 1))⟩,
  ⟨(.some 14), .none, (.fieldAddr 0 (.t 1))⟩,
  ⟨(.some 16), .none, (.fieldAddr 0 (.t 1))⟩,
  ⟨(.some 10), .none, (.load .none (.t 9))⟩,
  ⟨(.some 11), .none, (.elemAddr 3 (.t 10) (.c (.d (.int .i64 0))))⟩,
  ⟨(.some 12), .none, (.fieldAddr 0 (.t 11))⟩,
  ⟨(.some 13), .none, (.load .none (.t 12))⟩,
  ⟨(.some 2), .none, (.mov (.t 13))⟩,
  ⟨(.some 15), .none, (.load .none (.t 14))⟩,
  ⟨(.some 17), .none, (.load .none (.t 16))⟩,
  ⟨(.some 18), .none, (.len (.t 17))⟩,
  ⟨(.some 19), .none, (.bin .sub (.t 18) (.c (.d (.int .i64 1))))⟩,
  ⟨(.some 20), .none, (.elemAddr 3 (.t 15) (.t 19))⟩,
  ⟨(.some 21), .none, (.fieldAddr 1 (.t 20))⟩,
  ⟨(.some 22), .none, (.load .none (.t 21))⟩,
  ⟨(.some 3), .none, (.mov (.t 22))⟩,
  ⟨(.some 4), .none, (.mov (.c (.d (.bool .true))))⟩]
abbrev c_line_Line_int_Span : AFunc := ⟨23, [(.tmp 2), (.tmp 3), (.tmp 4)], (.seq (.ops c_line_Line_int_Span_r0) (.seq (.seq (.ops c_line_Line_int_Span_r1) (.cond (.t 8) (.seq (.ops c_line_Line_int_Span_r2) .ret) .skip)) (.seq (.dops c_line_Line_int_Span_r3) .ret)))⟩
theorem comp_line_Line_int_Span : funcC Try.prog 19 = some c_line_Line_int_Span := by kernel_rfl
/-! function 20 : slices.Collect poundage line.Run int  -/
abbrev f_slices_Collect_line_Run_int_ : FuncId := 20
abbrev c_slices_Collect_line_Run_int__r0 : List AO := [⟨(.some 2), .none, (.mov (.c (.nilsl 0)))⟩]
abbrev c_slices_Collect_line_Run_int__r1 : List AO := [⟨(.some 3), .none, (.mov (.t 0))⟩,
  ⟨(.some 4), .none, (.call 29 [(.c (.nilsl 0)), (.t 3)])⟩,
  ⟨(.some 2), .none, (.mov (.t 4))⟩]
abbrev c_slices_Collect_line_Run_int_ : AFunc := ⟨5, [(.tmp 2)], (.seq (.ops c_slices_Collect_line_Run_int__r0) (.seq (.ops c_slices_Collect_line_Run_int__r1) .ret))⟩
theorem comp_slices_Collect_line_Run_int_ : funcC Try.prog 20 = some c_slices_Collect_line_Run_int_ := by kernel_rfl
/-! function 21 :  poundage line.Line int .Runs -/
abbrev f_line_Line_int_Runs : FuncId := 21
abbrev c_line_Line_int_Runs_r0 : List AO := [⟨(.some 1), .none, (.box 31 (.t 0))⟩,
  ⟨(.some 2), .none, (.mov (.c .nilfn))⟩]
abbrev c_line_Line_int_Runs_r1 : List AO := [⟨(.some 3), .none, (.fieldAddr 0 (.t 1))⟩,
  ⟨(.some 4), .none, (.load .none (.t 3))⟩,
  ⟨(.some 5), .none, (.call 30 [(.t 4)])⟩,
  ⟨(.some 2), .none, (.mov (.t 5))⟩]
abbrev c_line_Line_int_Runs : AFunc := ⟨6, [(.tmp 2)], (.seq (.ops c_line_Line_int_Runs_r0) (.seq (.ops c_line_Line_int_Runs_r1) .ret))⟩
theorem comp_line_Line_int_Runs : funcC Try.prog 21 = some c_line_Line_int_Runs := by kernel_rfl
/-! function 22 : slices.ContainsFunc poundage line.Run int poundage line.Run int  -/
abbrev f_slices_ContainsFunc_line_Run_int_ : FuncId := 22
abbrev c_slices_ContainsFunc_line_Run_int__r0 : List AO := [⟨(.some 4), .none, (.mov (.c (.d (.bool .false))))⟩]
abbrev c_slices_ContainsFunc_line_Run_int__r1 : List AO := [⟨(.some 5), .none, (.mov (.t 0))⟩,
  ⟨(.some 6), .none, (.mov (.t 1))⟩,
  ⟨(.some 7), .none, (.call 31 [(.t 5), (.t 6)])⟩,
  ⟨(.some 8), .none, (.bin .geq (.t 7) (.c (.d (.int .i64 0))))⟩,
  ⟨(.some 4), .none, (.mov (.t 8))⟩]
abbrev c_slices_ContainsFunc_line_Run_int_ : AFunc := ⟨9, [(.tmp 4)], (.seq (.ops c_slices_ContainsFunc_line_Run_int__r0) (.seq (.ops c_slices_ContainsFunc_line_Run_int__r1) .ret))⟩
theorem comp_slices_ContainsFunc_line_Run_int_ : funcC Try.prog 22 = some c_slices_ContainsFunc_line_Run_int_ := by kernel_rfl
/-! function 23 : poundage curve.Of 1 -/
abbrev f_curve_Of_1 : FuncId := 23
abbrev c_curve_Of_1_r0 : List AO := [⟨(.some 1), .none, (.box 51 (.t 0))⟩,
  ⟨(.some 2), .none, (.mov (.c (.d (.bool .false))))⟩]
abbrev c_curve_Of_1_r1 : List AO := [⟨(.some 3), .none, (.fieldAddr 2 (.t 1))⟩,
  ⟨(.some 4), .none, (.load .none (.t 3))⟩,
  ⟨(.some 5), .none, (.bin .lss (.t 4) (.c (.d (.int .i64 (-2305843009213693952)))))⟩,
  ⟨(.some 6), .none, (.mov (.t 5))⟩,
  ⟨(.some 7), (.some ⟨6, .false⟩), (.fieldAddr 2 (.t 1))⟩,
  ⟨(.some 8), (.some ⟨6, .false⟩), (.load .none (.t 7))⟩,
  ⟨(.some 9), (.some ⟨6, .false⟩), (.bin .gtr (.t 8) (.c (.d (.int .i64 2305843009213693952))))⟩,
  ⟨(.some 10), .none, (.pick (.t 6) (.c (.d (.bool .true))) (.t 9))⟩,
  ⟨(.some 2), .none, (.mov (.t 10))⟩]
abbrev c_curve_Of_1 : AFunc := ⟨11, [(.tmp 2)], (.seq (.ops c_curve_Of_1_r0) (.seq (.ops c_curve_Of_1_r1) .ret))⟩
theorem comp_curve_Of_1 : funcC Try.prog 23 = some c_curve_Of_1 := by kernel_rfl
/-! function 24 : poundage curve.group -/
abbrev f_curve_group : FuncId := 24
abbrev c_curve_group_r0 : List AO := [⟨(.some 2), .none, (.alloc 40 [(.d (.int .i64 0)), (.d (.int .i64 0)), (.d (.int .i64 0)), (.d (.int .i64 0)), (.d (.int .i64 0))])⟩,
  ⟨(.some 3), .none, (.mov (.c (.d (.int .i64 0))))⟩]
abbrev c_curve_group_r1 : List AO := [⟨(.some 7), .none, (.mov (.t 0))⟩,
  ⟨(.some 8), .none, (.elemAddr 3 (.t 7) (.c (.d (.int .i64 0))))⟩,
  ⟨(.some 9), .none, (.fieldAddr 0 (.t 8))⟩,
  ⟨(.some 11), .none, (.mov (.t 0))⟩,
  ⟨(.some 12), .none, (.elemAddr 3 (.t 11) (.c (.d (.int .i64 0))))⟩,
  ⟨(.some 13), .none, (.fieldAddr 2 (.t 12))⟩,
  ⟨(.some 10), .none, (.loadS .none (.t 9) [4])⟩,
  ⟨(.some 14), .none, (.loadS .none (.t 13) [4])⟩,
  ⟨(.some 15), .none, (.build [(.d (.int .i64 0)), (.d (.int .i64 0)), (.d (.int .i64 0)), (.d (.int .i64 0)), (.d (.int .i64 0))] [⟨0, ⟨1, (.t 10)⟩⟩, ⟨1, ⟨1, (.t 14)⟩⟩, ⟨4, ⟨1, (.c (.d (.int .i64 1)))⟩⟩])⟩,
  ⟨(.some 4), .none, (.alloc 40 [(.d (.int .i64 0)), (.d (.int .i64 0)), (.d (.int .i64 0)), (.d (.int .i64 0)), (.d (.int .i64 0))])⟩,
  ⟨.none, .none, (.storeS 5 4 (.t 15))⟩]
abbrev c_curve_group_r2 : List AO := [⟨(.some 16), .none, (.mov (.t 0))⟩,
  ⟨(.some 17), .none, (.len (.t 16))⟩,
  ⟨(.some 18), .none, (.bin .eql (.t 17) (.c (.d (.int .i64 1))))⟩]
abbrev c_curve_group_r3 : List AO := [⟨(.some 19), .none, (.load (.some 5) (.t 4))⟩,
  ⟨.none, .none, (.store 5 (.t 2) (.t 19))⟩,
  ⟨(.some 3), .none, (.mov (.c (.d (.int .i64 1))))⟩]
abbrev c_curve_group_r4 : List AO := [⟨(.some 20), .none, (.mov (.t 0))⟩,
  ⟨(.some 21), .none, (.elemAddr 3 (.t 20) (.c (.d (.int .i64 1))))⟩,
  ⟨(.some 22), .none, (.fieldAddr 0 (.t 21))⟩,
  ⟨(.some 24), .none, (.mov (.t 0))⟩,
  ⟨(.some 25), .none, (.elemAddr 3 (.t 24) (.c (.d (.int .i64 0))))⟩,
  ⟨(.some 26), .none, (.fieldAddr 0 (.t 25))⟩,
  ⟨(.some 29), .none, (.mov (.t 0))⟩,
  ⟨(.some 30), .none, (.elemAddr 3 (.t 29) (.c (.d (.int .i64 1))))⟩,
  ⟨(.some 31), .none, (.fieldAddr 2 (.t 30))⟩,
  ⟨(.some 32), .none, (.loadD .none (.t 31))⟩,
  ⟨(.some 33), .none, (.mov (.t 0))⟩,
  ⟨(.some 34), .none, (.elemAddr 3 (.t 33) (.c (.d (.int .i64 0))))⟩,
  ⟨(.some 35), .none, (.fieldAddr 2 (.t 34))⟩,
  ⟨(.some 36), .none, (.loadD .none (.t 35))⟩,
  ⟨(.some 37), .none, (.bin .sub (.t 32) (.t 36))⟩,
  ⟨(.some 23), .none, (.load .none (.t 22))⟩,
  ⟨(.some 27), .none, (.load .none (.t 26))⟩,
  ⟨(.some 28), .none, (.bin .sub (.t 23) (.t 27))⟩,
  ⟨(.some 38), .none, (.fieldAddr 2 (.t 4))⟩,
  ⟨.none, .none, (.store 1 (.t 38) (.t 28))⟩,
  ⟨(.some 39), .none, (.fieldAddr 3 (.t 4))⟩,
  ⟨.none, .none, (.store 1 (.t 39) (.t 37))⟩]
abbrev c_curve_group_r5 : List AO := [⟨(.some 40), .none, (.fieldAddr 4 (.t 4))⟩,
  ⟨(.some 41), .none, (.load .none (.t 40))⟩,
  ⟨(.some 42), .none, (.mov (.t 0))⟩,
  ⟨(.some 43), .none, (.len (.t 42))⟩,
  ⟨(.some 44), .none, (.bin .lss (.t 41) (.t 43))⟩]
abbrev c_curve_group_r6 : List AO := [⟨(.some 45), .none, (.mov (.t 0))⟩,
  ⟨(.some 46), .none, (.fieldAddr 4 (.t 4))⟩,
  ⟨(.some 51), .none, (.mov (.t 0))⟩,
  ⟨(.some 52), .none, (.fieldAddr 4 (.t 4))⟩,
  ⟨(.some 47), .none, (.loadS .none (.t 46) [5, 6])⟩,
  ⟨(.some 48), .none, (.bin .sub (.t 47) (.c (.d (.int .i64 1))))⟩,
  ⟨(.some 49), .none, (.elemAddr 3 (.t 45) (.t 48))⟩,
  ⟨(.some 50), .none, (.loadS (.some 3) (.t 49) [5, 6])⟩,
  ⟨(.some 53), .none, (.loadS .none (.t 52) [5, 6])⟩,
  ⟨(.some 54), .none, (.elemAddr 3 (.t 51) (.t 53))⟩,
  ⟨(.some 55), .none, (.loadS (.some 3) (.t 54) [5, 6])⟩,
  ⟨(.some 5), .none, (.alloc 51 [(.d (.int .i64 0)), (.d (.int .i64 0)), (.d (.int .i64 0))])⟩,
  ⟨(.some 6), .none, (.alloc 51 [(.d (.int .i64 0)), (.d (.int .i64 0)), (.d (.int .i64 0))])⟩,
  ⟨.none, .none, (.storeS 3 5 (.t 50))⟩,
  ⟨.none, .none, (.storeS 3 6 (.t 55))⟩]
abbrev c_curve_group_r7 : List AO := [⟨(.some 56), .none, (.fieldAddr 0 (.t 6))⟩,
  ⟨(.some 57), .none, (.load .none (.t 56))⟩,
  ⟨(.some 58), .none, (.fieldAddr 0 (.t 5))⟩,
  ⟨(.some 59), .none, (.load .none (.t 58))⟩,
  ⟨(.some 60), .none, (.bin .sub (.t 57) (.t 59))⟩,
  ⟨(.some 61), .none, (.fieldAddr 2 (.t 4))⟩,
  ⟨(.some 62), .none, (.load .none (.t 61))⟩,
  ⟨(.some 63), .none, (.bin .neq (.t 60) (.t 62))⟩,
  ⟨(.some 64), .none, (.mov (.t 63))⟩,
  ⟨(.some 65), (.some ⟨64, .false⟩), (.fieldAddr 2 (.t 6))⟩,
  ⟨(.some 66), (.some ⟨64, .false⟩), (.load .none (.t 65))⟩,
  ⟨(.some 67), (.some ⟨64, .false⟩), (.fieldAddr 2 (.t 5))⟩,
  ⟨(.some 68), (.some ⟨64, .false⟩), (.load .none (.t 67))⟩,
  ⟨(.some 69), (.some ⟨64, .false⟩), (.bin .sub (.t 66) (.t 68))⟩,
  ⟨(.some 70), (.some ⟨64, .false⟩), (.fieldAddr 3 (.t 4))⟩,
  ⟨(.some 71), (.some ⟨64, .false⟩), (.load .none (.t 70))⟩,
  ⟨(.some 72), (.some ⟨64, .false⟩), (.bin .neq (.t 69) (.t 71))⟩,
  ⟨(.some 73), .none, (.pick (.t 64) (.c (.d (.bool .true))) (.t 72))⟩]
abbrev c_curve_group_r8 : List AO := [⟨(.some 74), .none, (.fieldAddr 4 (.t 4))⟩,
  ⟨(.some 75), .none, (.load .none (.t 74))⟩,
  ⟨(.some 76), .none, (.bin .add (.t 75) (.c (.d (.int .i64 1))))⟩,
  ⟨(.some 77), .none, (.fieldAddr 4 (.t 4))⟩,
  ⟨.none, .none, (.store 1 (.t 77) (.t 76))⟩]
abbrev c_curve_group_l0 : ACode := (.seq (.seq (.ops c_curve_group_r5) (.cond (.t 44) .skip (.exit 0))) (.block 1 (.seq (.dops c_curve_group_r6) (.seq (.seq (.ops c_curve_group_r7) (.cond (.t 73) (.exit 0) .skip)) (.ops c_curve_group_r8)))))
abbrev c_curve_group_r9 : List AO := [⟨(.some 79), .none, (.fieldAddr 4 (.t 4))⟩,
  ⟨(.some 78), .none, (.loadS (.some 5) (.t 4) [2])⟩,
  ⟨(.some 80), .none, (.loadS .none (.t 79) [2])⟩,
  ⟨.none, .none, (.storeS 5 2 (.t 78))⟩,
  ⟨(.some 3), .none, (.mov (.t 80))⟩]
abbrev c_curve_group : AFunc := ⟨81, [(.cell 2 (.some 5)), (.tmp 3)], (.seq (.ops c_curve_group_r0) (.seq (.dops c_curve_group_r1) (.seq (.seq (.ops c_curve_group_r2) (.cond (.t 18) (.seq (.ops c_curve_group_r3) .ret) .skip)) (.seq (.dops c_curve_group_r4) (.seq (.block 0 (.loop c_curve_group_l0)) (.seq (.dops c_curve_group_r9) .ret))))))⟩
theorem comp_curve_group : funcC Try.prog 24 = some c_curve_group := by kernel_rfl
/-! function 25 :  poundage line.Line int .put -/
abbrev f_line_Line_int_put : FuncId := 25
abbrev c_line_Line_int_put_r0 : List AO := [⟨(.some 3), .none, (.box 51 (.t 1))⟩]
abbrev c_line_Line_int_put_r1 : List AO := [⟨(.some 5), .none, (.mov (.t 0))⟩,
  ⟨(.some 6), .none, (.nilCheck (.t 5))⟩,
  ⟨(.some 7), .none, (.fieldAddr 0 (.t 6))⟩,
  ⟨(.some 8), .none, (.load .none (.t 7))⟩,
  ⟨(.some 9), .none, (.len (.t 8))⟩,
  ⟨(.some 4), .none, (.mov (.t 9))⟩]
abbrev c_line_Line_int_put_r2 : List AO := [⟨(.some 10), .none, (.mov (.t 4))⟩,
  ⟨(.some 11), .none, (.bin .gtr (.t 10) (.c (.d (.int .i64 0))))⟩,
  ⟨(.some 12), .none, (.mov (.t 11))⟩,
  ⟨(.some 13), (.some ⟨12, .true⟩), (.mov (.t 0))⟩,
  ⟨(.some 14), (.some ⟨12, .true⟩), (.nilCheck (.t 13))⟩,
  ⟨(.some 15), (.some ⟨12, .true⟩), (.fieldAddr 0 (.t 14))⟩,
  ⟨(.some 17), (.some ⟨12, .true⟩), (.mov (.t 4))⟩,
  ⟨(.some 18), (.some ⟨12, .true⟩), (.bin .sub (.t 17) (.c (.d (.int .i64 1))))⟩,
  ⟨(.some 22), (.some ⟨12, .true⟩), (.fieldAddr 2 (.t 3))⟩,
  ⟨(.some 16), (.some ⟨12, .true⟩), (.load .none (.t 15))⟩,
  ⟨(.some 19), (.some ⟨12, .true⟩), (.elemAddr 3 (.t 16) (.t 18))⟩,
  ⟨(.some 20), (.some ⟨12, .true⟩), (.fieldAddr 2 (.t 19))⟩,
  ⟨(.some 21), (.some ⟨12, .true⟩), (.load .none (.t 20))⟩,
  ⟨(.some 23), (.some ⟨12, .true⟩), (.load .none (.t 22))⟩,
  ⟨(.some 24), (.some ⟨12, .true⟩), (.bin .eql (.t 21) (.t 23))⟩,
  ⟨(.some 25), .none, (.pick (.t 12) (.t 24) (.c (.d (.bool .false))))⟩]
abbrev c_line_Line_int_put_r3 : List AO := [⟨(.some 26), .none, (.mov (.t 0))⟩,
  ⟨(.some 27), .none, (.nilCheck (.t 26))⟩,
  ⟨(.some 28), .none, (.fieldAddr 0 (.t 27))⟩,
  ⟨(.some 30), .none, (.mov (.t 4))⟩,
  ⟨(.some 31), .none, (.bin .sub (.t 30) (.c (.d (.int .i64 1))))⟩,
  ⟨(.some 32), .none, (.fieldAddr 1 (.t 3))⟩,
  ⟨(.some 29), .none, (.load .none (.t 28))⟩,
  ⟨(.some 33), .none, (.load .none (.t 32))⟩,
  ⟨(.some 34), .none, (.elemAddr 3 (.t 29) (.t 31))⟩,
  ⟨(.some 35), .none, (.fieldAddr 1 (.t 34))⟩,
  ⟨.none, .none, (.store 1 (.t 35) (.t 33))⟩]
abbrev c_line_Line_int_put_r4 : List AO := [⟨(.some 36), .none, (.mov (.t 0))⟩,
  ⟨(.some 37), .none, (.mov (.t 0))⟩,
  ⟨(.some 38), .none, (.nilCheck (.t 37))⟩,
  ⟨(.some 39), .none, (.fieldAddr 0 (.t 38))⟩,
  ⟨(.some 40), .none, (.load .none (.t 39))⟩,
  ⟨(.some 41), .none, (.load (.some 3) (.t 3))⟩,
  ⟨(.some 42), .none, (.buildSliceD 51 3 1 [(.d (.int .i64 0)), (.d (.int .i64 0)), (.d (.int .i64 0))] [⟨0, (.t 41)⟩])⟩,
  ⟨(.some 43), .none, (.append 51 3 24 [(.d (.int .i64 0)), (.d (.int .i64 0)), (.d (.int .i64 0))] (.t 40) (.t 42))⟩,
  ⟨(.some 44), .none, (.nilCheck (.t 36))⟩,
  ⟨(.some 45), .none, (.fieldAddr 0 (.t 44))⟩,
  ⟨.none, .none, (.store 1 (.t 45) (.t 43))⟩]
abbrev c_line_Line_int_put : AFunc := ⟨46, [], (.seq (.ops c_line_Line_int_put_r0) (.seq (.seq (.ops c_line_Line_int_put_r1) (.seq (.dops c_line_Line_int_put_r2) (.cond (.t 25) (.seq (.dops c_line_Line_int_put_r3) .ret) .skip))) (.dops c_line_Line_int_put_r4)))⟩
theorem comp_line_Line_int_put : funcC Try.prog 25 = some c_line_Line_int_put := by kernel_rfl
/-! function 26 : slices.Equal poundage api.Group poundage api.Group  -/
abbrev f_slices_Equal_api_Group : FuncId := 26
abbrev c_slices_Equal_api_Group_r0 : List AO := [⟨(.some 4), .none, (.mov (.c (.d (.bool .false))))⟩]
abbrev c_slices_Equal_api_Group_r1 : List AO := [⟨(.some 6), .none, (.mov (.t 0))⟩,
  ⟨(.some 7), .none, (.len (.t 6))⟩,
  ⟨(.some 8), .none, (.mov (.t 1))⟩,
  ⟨(.some 9), .none, (.len (.t 8))⟩,
  ⟨(.some 10), .none, (.bin .neq (.t 7) (.t 9))⟩]
abbrev c_slices_Equal_api_Group_r2 : List AO := [⟨(.some 4), .none, (.mov (.c (.d (.bool .false))))⟩]
abbrev c_slices_Equal_api_Group_r3 : List AO := [⟨(.some 11), .none, (.mov (.t 0))⟩,
  ⟨(.some 12), .none, (.len (.t 11))⟩,
  ⟨(.some 13), .none, (.mov (.c (.d (.int .i64 0))))⟩]
abbrev c_slices_Equal_api_Group_r4 : List AO := [⟨(.some 14), .none, (.bin .lss (.t 13) (.t 12))⟩]
abbrev c_slices_Equal_api_Group_r5 : List AO := [⟨(.some 15), .none, (.mov (.t 13))⟩,
  ⟨(.some 5), .none, (.mov (.t 15))⟩]
abbrev c_slices_Equal_api_Group_r6 : List AO := [⟨(.some 16), .none, (.mov (.t 0))⟩,
  ⟨(.some 17), .none, (.mov (.t 5))⟩,
  ⟨(.some 18), .none, (.elemAddr 5 (.t 16) (.t 17))⟩,
  ⟨(.some 20), .none, (.mov (.t 1))⟩,
  ⟨(.some 21), .none, (.mov (.t 5))⟩,
  ⟨(.some 22), .none, (.elemAddr 5 (.t 20) (.t 21))⟩,
  ⟨(.some 19), .none, (.load (.some 5) (.t 18))⟩,
  ⟨(.some 23), .none, (.load (.some 5) (.t 22))⟩,
  ⟨(.some 24), .none, (.eqAgg .true [0, 0, 0, 0, 0] (.t 19) (.t 23))⟩]
abbrev c_slices_Equal_api_Group_r7 : List AO := [⟨(.some 4), .none, (.mov (.c (.d (.bool .false))))⟩]
abbrev c_slices_Equal_api_Group_r8 : List AO := [⟨(.some 25), .none, (.bin .add (.t 13) (.c (.d (.int .i64 1))))⟩,
  ⟨(.some 13), .none, (.mov (.t 25))⟩]
abbrev c_slices_Equal_api_Group_l0 : ACode := (.seq (.ops c_slices_Equal_api_Group_r4) (.seq (.cond (.t 14) .skip (.exit 0)) (.seq (.block 1 (.seq (.ops c_slices_Equal_api_Group_r5) (.seq (.dops c_slices_Equal_api_Group_r6) (.cond (.t 24) (.seq (.ops c_slices_Equal_api_Group_r7) .ret) .skip)))) (.ops c_slices_Equal_api_Group_r8))))
abbrev c_slices_Equal_api_Group_r9 : List AO := [⟨(.some 4), .none, (.mov (.c (.d (.bool .true))))⟩]
abbrev c_slices_Equal_api_Group : AFunc := ⟨26, [(.tmp 4)], (.seq (.ops c_slices_Equal_api_Group_r0) (.seq (.seq (.ops c_slices_Equal_api_Group_r1) (.cond (.t 10) (.seq (.ops c_slices_Equal_api_Group_r2) .ret) .skip)) (.seq (.seq (.ops c_slices_Equal_api_Group_r3) (.block 0 (.loop c_slices_Equal_api_Group_l0))) (.seq (.ops c_slices_Equal_api_Group_r9) .ret))))⟩
theorem comp_slices_Equal_api_Group : funcC Try.prog 26 = some c_slices_Equal_api_Group := by kernel_rfl
/-! function 27 : slices.Equal poundage line.Run int poundage line.Run int  -/
abbrev f_slices_Equal_line_Run_int_ : FuncId := 27
abbrev c_slices_Equal_line_Run_int__r0 : List AO := [⟨(.some 4), .none, (.mov (.c (.d (.bool .false))))⟩]
abbrev c_slices_Equal_line_Run_int__r1 : List AO := [⟨(.some 6), .none, (.mov (.t 0))⟩,
  ⟨(.some 7), .none, (.len (.t 6))⟩,
  ⟨(.some 8), .none, (.mov (.t 1))⟩,
  ⟨(.some 9), .none, (.len (.t 8))⟩,
  ⟨(.some 10), .none, (.bin .neq (.t 7) (.t 9))⟩]
abbrev c_slices_Equal_line_Run_int__r2 : List AO := [⟨(.some 4), .none, (.mov (.c (.d (.bool .false))))⟩]
abbrev c_slices_Equal_line_Run_int__r3 : List AO := [⟨(.some 11), .none, (.mov (.t 0))⟩,
  ⟨(.some 12), .none, (.len (.t 11))⟩,
  ⟨(.some 13), .none, (.mov (.c (.d (.int .i64 0))))⟩]
abbrev c_slices_Equal_line_Run_int__r4 : List AO := [⟨(.some 14), .none, (.bin .lss (.t 13) (.t 12))⟩]
abbrev c_slices_Equal_line_Run_int__r5 : List AO := [⟨(.some 15), .none, (.mov (.t 13))⟩,
  ⟨(.some 5), .none, (.mov (.t 15))⟩]
abbrev c_slices_Equal_line_Run_int__r6 : List AO := [⟨(.some 16), .none, (.mov (.t 0))⟩,
  ⟨(.some 17), .none, (.mov (.t 5))⟩,
  ⟨(.some 18), .none, (.elemAddr 3 (.t 16) (.t 17))⟩,
  ⟨(.some 20), .none, (.mov (.t 1))⟩,
  ⟨(.some 21), .none, (.mov (.t 5))⟩,
  ⟨(.some 22), .none, (.elemAddr 3 (.t 20) (.t 21))⟩,
  ⟨(.some 19), .none, (.load (.some 3) (.t 18))⟩,
  ⟨(.some 23), .none, (.load (.some 3) (.t 22))⟩,
  ⟨(.some 24), .none, (.eqAgg .true [0, 0, 0] (.t 19) (.t 23))⟩]
abbrev c_slices_Equal_line_Run_int__r7 : List AO := [⟨(.some 4), .none, (.mov (.c (.d (.bool .false))))⟩]
abbrev c_slices_Equal_line_Run_int__r8 : List AO := [⟨(.some 25), .none, (.bin .add (.t 13) (.c (.d (.int .i64 1))))⟩,
  ⟨(.some 13), .none, (.mov (.t 25))⟩]
abbrev c_slices_Equal_line_Run_int__l0 : ACode := (.seq (.ops c_slices_Equal_line_Run_int__r4) (.seq (.cond (.t 14) .skip (.exit 0)) (.seq (.block 1 (.seq (.ops c_slices_Equal_line_Run_int__r5) (.seq (.dops c_slices_Equal_line_Run_int__r6) (.cond (.t 24) (.seq (.ops c_slices_Equal_line_Run_int__r7) .ret) .skip)))) (.ops c_slices_Equal_line_Run_int__r8))))
abbrev c_slices_Equal_line_Run_int__r9 : List AO := [⟨(.some 4), .none, (.mov (.c (.d (.bool .true))))⟩]
abbrev c_slices_Equal_line_Run_int_ : AFunc := ⟨26, [(.tmp 4)], (.seq (.ops c_slices_Equal_line_Run_int__r0) (.seq (.seq (.ops c_slices_Equal_line_Run_int__r1) (.cond (.t 10) (.seq (.ops c_slices_Equal_line_Run_int__r2) .ret) .skip)) (.seq (.seq (.ops c_slices_Equal_line_Run_int__r3) (.block 0 (.loop c_slices_Equal_line_Run_int__l0))) (.seq (.ops c_slices_Equal_line_Run_int__r9) .ret))))⟩
theorem comp_slices_Equal_line_Run_int_ : funcC Try.prog 27 = some c_slices_Equal_line_Run_int_ := by kernel_rfl
/-! function 28 : poundage poundageref15.List -/
abbrev f_poundageref15_List : FuncId := 28
abbrev c_poundageref15_List_r0 : List AO := [⟨(.some 1), .none, (.box 26 (.t 0))⟩,
  ⟨(.some 2), .none, (.mov (.c (.nilsl 0)))⟩]
abbrev c_poundageref15_List_r1 : List AO := [⟨(.some 3), .none, (.mov (.c (.nilsl 0)))⟩]
abbrev c_poundageref15_List_r2 : List AO := [⟨(.some 4), .none, (.mov (.c (.d (.int .i64 0))))⟩]
abbrev c_poundageref15_List_r3 : List AO := [⟨(.some 7), .none, (.mov (.t 4))⟩,
  ⟨(.some 8), .none, (.fieldAddr 0 (.t 1))⟩,
  ⟨(.some 9), .none, (.load .none (.t 8))⟩,
  ⟨(.some 10), .none, (.bin .leq (.t 7) (.t 9))⟩]
abbrev c_poundageref15_List_r4 : List AO := [⟨(.some 14), .none, (.load (.some 2) (.t 1))⟩,
  ⟨(.some 15), .none, (.mov (.t 4))⟩,
  ⟨(.some 16), .none, (.call 32 [(.t 14), (.t 15)])⟩,
  ⟨(.some 13), .none, (.mov (.t 16))⟩,
  ⟨(.some 17), .none, (.extract (.t 13) 0)⟩,
  ⟨(.some 18), .none, (.extract (.t 13) 1)⟩,
  ⟨(.some 5), .none, (.mov (.t 17))⟩,
  ⟨(.some 6), .none, (.mov (.t 18))⟩]
abbrev c_poundageref15_List_r5 : List AO := [⟨(.some 19), .none, (.mov (.t 3))⟩,
  ⟨(.some 20), .none, (.mov (.t 5))⟩,
  ⟨(.some 21), .none, (.buildSlice 3 1 1 [(.d (.int .i64 0))] [⟨0, (.t 20)⟩])⟩,
  ⟨(.some 22), .none, (.append 3 1 8 [(.d (.int .i64 0))] (.t 19) (.t 21))⟩,
  ⟨(.some 3), .none, (.mov (.t 22))⟩]
abbrev c_poundageref15_List_r6 : List AO := [⟨(.some 11), .none, (.mov (.t 4))⟩,
  ⟨(.some 12), .none, (.bin .add (.t 11) (.c (.d (.int .i64 1))))⟩,
  ⟨(.some 4), .none, (.mov (.t 12))⟩]
abbrev c_poundageref15_List_l0 : ACode := (.seq (.seq (.ops c_poundageref15_List_r3) (.cond (.t 10) .skip (.exit 0))) (.seq (.block 1 (.seq (.ops c_poundageref15_List_r4) (.ops c_poundageref15_List_r5))) (.ops c_poundageref15_List_r6)))
abbrev c_poundageref15_List_r7 : List AO := [⟨(.some 23), .none, (.mov (.t 3))⟩,
  ⟨(.some 2), .none, (.mov (.t 23))⟩]
abbrev c_poundageref15_List : AFunc := ⟨24, [(.tmp 2)], (.seq (.ops c_poundageref15_List_r0) (.seq (.ops c_poundageref15_List_r1) (.seq (.seq (.ops c_poundageref15_List_r2) (.block 0 (.loop c_poundageref15_List_l0))) (.seq (.ops c_poundageref15_List_r7) .ret))))⟩
theorem comp_poundageref15_List : funcC Try.prog 28 = some c_poundageref15_List := by kernel_rfl
/-! function 29 : slices.AppendSeq poundage line.Run int poundage line.Run int  -/
abbrev f_slices_AppendSeq_line_Run_int_ : FuncId := 29
abbrev c_slices_AppendSeq_line_Run_int__r0 : List AO := [⟨(.some 2), .none, (.box 29 (.t 0))⟩,
  ⟨(.some 4), .none, (.mov (.c (.nilsl 0)))⟩]
abbrev c_slices_AppendSeq_line_Run_int__r1 : List AO := [⟨(.some 6), .none, (.mov (.t 1))⟩]
abbrev c_slices_AppendSeq_line_Run_int__r2 : List AO := [⟨(.some 5), .none, (.alloc 51 [(.d (.int .i64 0)), (.d (.int .i64 0)), (.d (.int .i64 0))])⟩,
  ⟨.none, .none, (.store 3 (.t 5) (.t 7))⟩]
abbrev c_slices_AppendSeq_line_Run_int__r3 : List AO := [⟨(.some 8), .none, (.load .none (.t 2))⟩,
  ⟨(.some 9), .none, (.load (.some 3) (.t 5))⟩,
  ⟨(.some 10), .none, (.buildSlice 51 3 1 [(.d (.int .i64 0)), (.d (.int .i64 0)), (.d (.int .i64 0))] [⟨0, (.t 9)⟩])⟩,
  ⟨(.some 11), .none, (.append 51 3 24 [(.d (.int .i64 0)), (.d (.int .i64 0)), (.d (.int .i64 0))] (.t 8) (.t 10))⟩,
  ⟨.none, .none, (.store 1 (.t 2) (.t 11))⟩]
abbrev c_slices_AppendSeq_line_Run_int__g0 : ACode := (.block 1 (.ops c_slices_AppendSeq_line_Run_int__r3))
abbrev c_slices_AppendSeq_line_Run_int__r4 : List AO := [⟨(.some 12), .none, (.load .none (.t 2))⟩,
  ⟨(.some 4), .none, (.mov (.t 12))⟩]
abbrev c_slices_AppendSeq_line_Run_int_ : AFunc := ⟨13, [(.tmp 4)], (.seq (.ops c_slices_AppendSeq_line_Run_int__r0) (.seq (.seq (.ops c_slices_AppendSeq_line_Run_int__r1) (.block 0 (.rangef (.t 6) [7] (.ops c_slices_AppendSeq_line_Run_int__r2) c_slices_AppendSeq_line_Run_int__g0))) (.seq (.ops c_slices_AppendSeq_line_Run_int__r4) .ret)))⟩
theorem comp_slices_AppendSeq_line_Run_int_ : funcC Try.prog 29 = some c_slices_AppendSeq_line_Run_int_ := by kernel_rfl
/-! function 30 : slices.Values poundage line.Run int poundage line.Run int  -/
abbrev f_slices_Values_line_Run_int_ : FuncId := 30
abbrev c_slices_Values_line_Run_int__r0 : List AO := [⟨(.some 1), .none, (.box 29 (.t 0))⟩,
  ⟨(.some 2), .none, (.mov (.c .nilfn))⟩]
abbrev c_slices_Values_line_Run_int__r1 : List AO := [⟨(.some 3), .none, (.mkfn 33 [(.t 1)])⟩,
  ⟨(.some 2), .none, (.mov (.t 3))⟩]
abbrev c_slices_Values_line_Run_int_ : AFunc := ⟨4, [(.tmp 2)], (.seq (.ops c_slices_Values_line_Run_int__r0) (.seq (.ops c_slices_Values_line_Run_int__r1) .ret))⟩
theorem comp_slices_Values_line_Run_int_ : funcC Try.prog 30 = some c_slices_Values_line_Run_int_ := by kernel_rfl
/-! function 31 : slices.IndexFunc poundage line.Run int poundage line.Run int  -/
abbrev f_slices_IndexFunc_line_Run_int_ : FuncId := 31
abbrev c_slices_IndexFunc_line_Run_int__r0 : List AO := [⟨(.some 4), .none, (.mov (.c (.d (.int .i64 0))))⟩]
abbrev c_slices_IndexFunc_line_Run_int__r1 : List AO := [⟨(.some 6), .none, (.mov (.t 0))⟩,
  ⟨(.some 7), .none, (.len (.t 6))⟩,
  ⟨(.some 8), .none, (.mov (.c (.d (.int .i64 0))))⟩]
abbrev c_slices_IndexFunc_line_Run_int__r2 : List AO := [⟨(.some 9), .none, (.bin .lss (.t 8) (.t 7))⟩]
abbrev c_slices_IndexFunc_line_Run_int__r3 : List AO := [⟨(.some 10), .none, (.mov (.t 8))⟩,
  ⟨(.some 5), .none, (.mov (.t 10))⟩]
abbrev c_slices_IndexFunc_line_Run_int__r4 : List AO := [⟨(.some 11), .none, (.mov (.t 1))⟩,
  ⟨(.some 12), .none, (.mov (.t 0))⟩,
  ⟨(.some 13), .none, (.mov (.t 5))⟩,
  ⟨(.some 14), .none, (.elemAddr 3 (.t 12) (.t 13))⟩,
  ⟨(.some 15), .none, (.load (.some 3) (.t 14))⟩,
  ⟨(.some 16), .none, (.callv (.t 11) [(.t 15)])⟩]
abbrev c_slices_IndexFunc_line_Run_int__r5 : List AO := [⟨(.some 17), .none, (.mov (.t 5))⟩,
  ⟨(.some 4), .none, (.mov (.t 17))⟩]
abbrev c_slices_IndexFunc_line_Run_int__r6 : List AO := [⟨(.some 18), .none, (.bin .add (.t 8) (.c (.d (.int .i64 1))))⟩,
  ⟨(.some 8), .none, (.mov (.t 18))⟩]
abbrev c_slices_IndexFunc_line_Run_int__l0 : ACode := (.seq (.ops c_slices_IndexFunc_line_Run_int__r2) (.seq (.cond (.t 9) .skip (.exit 0)) (.seq (.block 1 (.seq (.ops c_slices_IndexFunc_line_Run_int__r3) (.seq (.ops c_slices_IndexFunc_line_Run_int__r4) (.cond (.t 16) (.seq (.ops c_slices_IndexFunc_line_Run_int__r5) .ret) .skip)))) (.ops c_slices_IndexFunc_line_Run_int__r6))))
abbrev c_slices_IndexFunc_line_Run_int__r7 : List AO := [⟨(.some 4), .none, (.mov (.c (.d (.int .i64 (-1)))))⟩]
abbrev c_slices_IndexFunc_line_Run_int_ : AFunc := ⟨19, [(.tmp 4)], (.seq (.ops c_slices_IndexFunc_line_Run_int__r0) (.seq (.seq (.ops c_slices_IndexFunc_line_Run_int__r1) (.block 0 (.loop c_slices_IndexFunc_line_Run_int__l0))) (.seq (.ops c_slices_IndexFunc_line_Run_int__r7) .ret)))⟩
theorem comp_slices_IndexFunc_line_Run_int_ : funcC Try.prog 31 = some c_slices_IndexFunc_line_Run_int_ := by kernel_rfl
/-! function 32 : poundage poundageref15.At -/
abbrev f_poundageref15_At : FuncId := 32
abbrev c_poundageref15_At_r0 : List AO := [⟨(.some 2), .none, (.box 26 (.t 0))⟩,
  ⟨(.some 4), .none, (.mov (.c (.d (.int .i64 0))))⟩,
  ⟨(.some 5), .none, (.mov (.c (.d (.bool .false))))⟩]
abbrev c_poundageref15_At_r1 : List AO := [⟨(.some 11), .none, (.mov (.t 1))⟩,
  ⟨(.some 12), .none, (.bin .lss (.t 11) (.c (.d (.int .i64 0))))⟩,
  ⟨(.some 13), .none, (.mov (.t 12))⟩,
  ⟨(.some 14), (.some ⟨13, .false⟩), (.mov (.t 1))⟩,
  ⟨(.some 15), (.some ⟨13, .false⟩), (.fieldAddr 0 (.t 2))⟩,
  ⟨(.some 16), (.some ⟨13, .false⟩), (.load .none (.t 15))⟩,
  ⟨(.some 17), (.some ⟨13, .false⟩), (.bin .gtr (.t 14) (.t 16))⟩,
  ⟨(.some 18), .none, (.pick (.t 13) (.c (.d (.bool .true))) (.t 17))⟩]
abbrev c_poundageref15_At_r2 : List AO := [⟨(.some 4), .none, (.mov (.c (.d (.int .i64 0))))⟩,
  ⟨(.some 5), .none, (.mov (.c (.d (.bool .false))))⟩]
abbrev c_poundageref15_At_r3 : List AO := [⟨(.some 6), .none, (.mov (.c (.d (.int .i64 0))))⟩,
  ⟨(.some 7), .none, (.mov (.c (.d (.bool .false))))⟩]
abbrev c_poundageref15_At_r4 : List AO := [⟨(.some 19), .none, (.fieldAddr 1 (.t 2))⟩,
  ⟨(.some 20), .none, (.load .none (.t 19))⟩,
  ⟨(.some 21), .none, (.len (.t 20))⟩,
  ⟨(.some 22), .none, (.mov (.c (.d (.int .i64 0))))⟩]
abbrev c_poundageref15_At_r5 : List AO := [⟨(.some 23), .none, (.bin .lss (.t 22) (.t 21))⟩]
abbrev c_poundageref15_At_r6 : List AO := [⟨(.some 24), .none, (.elemAddr 5 (.t 20) (.t 22))⟩,
  ⟨(.some 25), .none, (.load (.some 5) (.t 24))⟩,
  ⟨(.some 9), .none, (.alloc 40 [(.d (.int .i64 0)), (.d (.int .i64 0)), (.d (.int .i64 0)), (.d (.int .i64 0)), (.d (.int .i64 0))])⟩,
  ⟨.none, .none, (.store 5 (.t 9) (.t 25))⟩]
abbrev c_poundageref15_At_r7 : List AO := [⟨(.some 26), .none, (.fieldAddr 0 (.t 9))⟩,
  ⟨(.some 27), .none, (.load .none (.t 26))⟩,
  ⟨(.some 28), .none, (.mov (.t 1))⟩,
  ⟨(.some 29), .none, (.bin .gtr (.t 27) (.t 28))⟩]
abbrev c_poundageref15_At_r8 : List AO := [⟨(.some 7), .none, (.mov (.c (.d (.bool .true))))⟩]
abbrev c_poundageref15_At_r9 : List AO := [⟨(.some 30), .none, (.fieldAddr 1 (.t 9))⟩,
  ⟨(.some 31), .none, (.load .none (.t 30))⟩,
  ⟨(.some 6), .none, (.mov (.t 31))⟩]
abbrev c_poundageref15_At_r10 : List AO := [⟨(.some 10), .none, (.mov (.c (.d (.int .i64 1))))⟩]
abbrev c_poundageref15_At_r11 : List AO := [⟨(.some 32), .none, (.fieldAddr 2 (.t 9))⟩,
  ⟨(.some 33), .none, (.load .none (.t 32))⟩,
  ⟨(.some 34), .none, (.bin .gtr (.t 33) (.c (.d (.int .i64 0))))⟩,
  ⟨(.some 35), .none, (.mov (.t 34))⟩,
  ⟨(.some 36), (.some ⟨35, .true⟩), (.mov (.t 10))⟩,
  ⟨(.some 37), (.some ⟨35, .true⟩), (.fieldAddr 4 (.t 9))⟩,
  ⟨(.some 38), (.some ⟨35, .true⟩), (.load .none (.t 37))⟩,
  ⟨(.some 39), (.some ⟨35, .true⟩), (.bin .lss (.t 36) (.t 38))⟩,
  ⟨(.some 40), .none, (.pick (.t 35) (.t 39) (.c (.d (.bool .false))))⟩,
  ⟨(.some 41), .none, (.mov (.t 40))⟩,
  ⟨(.some 42), (.some ⟨41, .true⟩), (.mov (.t 10))⟩,
  ⟨(.some 43), (.some ⟨41, .true⟩), (.mov (.t 1))⟩,
  ⟨(.some 44), (.some ⟨41, .true⟩), (.fieldAddr 0 (.t 9))⟩,
  ⟨(.some 45), (.some ⟨41, .true⟩), (.load .none (.t 44))⟩,
  ⟨(.some 46), (.some ⟨41, .true⟩), (.bin .sub (.t 43) (.t 45))⟩,
  ⟨(.some 47), (.some ⟨41, .true⟩), (.fieldAddr 2 (.t 9))⟩,
  ⟨(.some 48), (.some ⟨41, .true⟩), (.load .none (.t 47))⟩,
  ⟨(.some 49), (.some ⟨41, .true⟩), (.bin .quo (.t 46) (.t 48))⟩,
  ⟨(.some 50), (.some ⟨41, .true⟩), (.bin .leq (.t 42) (.t 49))⟩,
  ⟨(.some 51), .none, (.pick (.t 41) (.t 50) (.c (.d (.bool .false))))⟩]
abbrev c_poundageref15_At_r12 : List AO := [⟨(.some 54), .none, (.mov (.t 6))⟩,
  ⟨(.some 55), .none, (.fieldAddr 3 (.t 9))⟩,
  ⟨(.some 56), .none, (.load .none (.t 55))⟩,
  ⟨(.some 57), .none, (.bin .add (.t 54) (.t 56))⟩,
  ⟨(.some 6), .none, (.mov (.t 57))⟩]
abbrev c_poundageref15_At_r13 : List AO := [⟨(.some 52), .none, (.mov (.t 10))⟩,
  ⟨(.some 53), .none, (.bin .add (.t 52) (.c (.d (.int .i64 1))))⟩,
  ⟨(.some 10), .none, (.mov (.t 53))⟩]
abbrev c_poundageref15_At_l0 : ACode := (.seq (.seq (.ops c_poundageref15_At_r11) (.cond (.t 51) .skip (.exit 2))) (.seq (.block 3 (.ops c_poundageref15_At_r12)) (.ops c_poundageref15_At_r13)))
abbrev c_poundageref15_At_r14 : List AO := [⟨(.some 58), .none, (.bin .add (.t 22) (.c (.d (.int .i64 1))))⟩,
  ⟨(.some 22), .none, (.mov (.t 58))⟩]
abbrev c_poundageref15_At_l1 : ACode := (.seq (.ops c_poundageref15_At_r5) (.seq (.cond (.t 23) .skip (.exit 0)) (.seq (.block 1 (.seq (.ops c_poundageref15_At_r6) (.seq (.seq (.ops c_poundageref15_At_r7) (.cond (.t 29) (.exit 1) .skip)) (.seq (.ops c_poundageref15_At_r8) (.seq (.ops c_poundageref15_At_r9) (.seq (.ops c_poundageref15_At_r10) (.block 2 (.loop c_poundageref15_At_l0)))))))) (.ops c_poundageref15_At_r14))))
abbrev c_poundageref15_At_r15 : List AO := [⟨(.some 59), .none, (.mov (.t 6))⟩,
  ⟨(.some 60), .none, (.mov (.t 7))⟩,
  ⟨(.some 4), .none, (.mov (.t 59))⟩,
  ⟨(.some 5), .none, (.mov (.t 60))⟩]
abbrev c_poundageref15_At : AFunc := ⟨61, [(.tmp 4), (.tmp 5)], (.seq (.ops c_poundageref15_At_r0) (.seq (.seq (.ops c_poundageref15_At_r1) (.cond (.t 18) (.seq (.ops c_poundageref15_At_r2) .ret) .skip)) (.seq (.ops c_poundageref15_At_r3) (.seq (.seq (.ops c_poundageref15_At_r4) (.block 0 (.loop c_poundageref15_At_l1))) (.seq (.ops c_poundageref15_At_r15) .ret)))))⟩
theorem comp_poundageref15_At : funcC Try.prog 32 = some c_poundageref15_At := by kernel_rfl
/-! function 33 : slices.Values poundage line.Run int poundage line.Run int 1 -/
abbrev f_slices_Values_line_Run_int_1 : FuncId := 33
abbrev c_slices_Values_line_Run_int_1_r0 : List AO := [⟨(.some 5), .none, (.load .none (.t 1))⟩,
  ⟨(.some 6), .none, (.len (.t 5))⟩,
  ⟨(.some 7), .none, (.mov (.c (.d (.int .i64 0))))⟩]
abbrev c_slices_Values_line_Run_int_1_r1 : List AO := [⟨(.some 8), .none, (.bin .lss (.t 7) (.t 6))⟩]
abbrev c_slices_Values_line_Run_int_1_r2 : List AO := [⟨(.some 9), .none, (.elemAddr 3 (.t 5) (.t 7))⟩,
  ⟨(.some 10), .none, (.load (.some 3) (.t 9))⟩,
  ⟨(.some 4), .none, (.alloc 51 [(.d (.int .i64 0)), (.d (.int .i64 0)), (.d (.int .i64 0))])⟩,
  ⟨.none, .none, (.store 3 (.t 4) (.t 10))⟩]
abbrev c_slices_Values_line_Run_int_1_r3 : List AO := [⟨(.some 11), .none, (.mov (.t 0))⟩,
  ⟨(.some 12), .none, (.load (.some 3) (.t 4))⟩,
  ⟨(.some 13), .none, (.callv (.t 11) [(.t 12)])⟩,
  ⟨(.some 14), .none, (.un .not (.t 13))⟩]
abbrev c_slices_Values_line_Run_int_1_r4 : List AO := [⟨(.some 15), .none, (.bin .add (.t 7) (.c (.d (.int .i64 1))))⟩,
  ⟨(.some 7), .none, (.mov (.t 15))⟩]
abbrev c_slices_Values_line_Run_int_1_l0 : ACode := (.seq (.ops c_slices_Values_line_Run_int_1_r1) (.seq (.cond (.t 8) .skip (.exit 0)) (.seq (.block 1 (.seq (.ops c_slices_Values_line_Run_int_1_r2) (.seq (.ops c_slices_Values_line_Run_int_1_r3) (.cond (.t 14) .ret .skip)))) (.ops c_slices_Values_line_Run_int_1_r4))))
abbrev c_slices_Values_line_Run_int_1 : AFunc := ⟨16, [], (.seq (.ops c_slices_Values_line_Run_int_1_r0) (.block 0 (.loop c_slices_Values_line_Run_int_1_l0)))⟩
theorem comp_slices_Values_line_Run_int_1 : funcC Try.prog 33 = some c_slices_Values_line_Run_int_1 := by kernel_rfl
/-! function 34 :  runtime.boundsError .Error -/
abbrev f__runtime_boundsError_Error : FuncId := 34
/-! function 35 :  runtime.boundsError .RuntimeError -/
abbrev f__runtime_boundsError_RuntimeError : FuncId := 35
/-! function 36 :  runtime.errorString .Error -/
abbrev f__runtime_errorString_Error : FuncId := 36
/-! function 37 :  runtime.errorString .RuntimeError -/
abbrev f__runtime_errorString_RuntimeError : FuncId := 37
/-! function 38 :  runtime.plainError .Error -/
abbrev f__runtime_plainError_Error : FuncId := 38
/-! function 39 :  runtime.plainError .RuntimeError -/
abbrev f__runtime_plainError_RuntimeError : FuncId := 39
/-! function 40 :  runtime.errorAddressString .Error -/
abbrev f__runtime_errorAddressString_Error : FuncId := 40
/-! function 41 :  runtime.errorAddressString .RuntimeError -/
abbrev f__runtime_errorAddressString_RuntimeError : FuncId := 41
/-! function 42 :  runtime.TypeAssertionError .Error -/
abbrev f__runtime_TypeAssertionError_Error : FuncId := 42
/-! function 43 :  runtime.TypeAssertionError .RuntimeError -/
abbrev f__runtime_TypeAssertionError_RuntimeError : FuncId := 43
/-! function 44 :  runtime.PanicNilError .Error -/
abbrev f__runtime_PanicNilError_Error : FuncId := 44
/-! function 45 :  runtime.PanicNilError .RuntimeError -/
abbrev f__runtime_PanicNilError_RuntimeError : FuncId := 45
/-! function 46 :  internal abi.Type .Align -/
abbrev f_abi_Type_Align : FuncId := 46
/-! function 47 :  internal runtime maps.unhashableTypeError .Error -/
abbrev f_maps_unhashableTypeError_Error : FuncId := 47
/-! function 48 :  internal runtime maps.unhashableTypeError .RuntimeError -/
abbrev f_maps_unhashableTypeError_RuntimeError : FuncId := 48
/-! function 49 :  poundage line.Line int .Count -/
abbrev f_line_Line_int_Count : FuncId := 49
/-! function 50 :  internal abi.Kind .String -/
abbrev f_abi_Kind_String : FuncId := 50
end Go.Proofs.Ytonlgniaoompaaa.Abs
