/- The given functions, as the abstract machine has them: printed by a program of this session. No claim stands here. -/
import Derived.Test.YthamjpioodlckaaProg
import Derived.Test.YthamjpioodlckaaAbs1
import Derived.KernelRfl
namespace Go.Proofs.Ythamjpioodlckaa.Abs
open Go Go.RowKit Go.Proofs
/-! function 3 : poundage poundagelaw20.ExtremeTurned -/
abbrev f_poundagelaw20_ExtremeTurned : FuncId := 3
abbrev c_poundagelaw20_ExtremeTurned_r0 : List AO := [⟨(.some 4), .none, (.mov (.c (.d (.bool .false))))⟩]
abbrev c_poundagelaw20_ExtremeTurned_r1 : List AO := [⟨(.some 21), .none, (.call 5 [])⟩,
  ⟨(.some 22), .none, (.un .not (.t 21))⟩]
abbrev c_poundagelaw20_ExtremeTurned_r2 : List AO := [⟨(.some 4), .none, (.mov (.c (.d (.bool .false))))⟩]
abbrev c_poundagelaw20_ExtremeTurned_r3 : List AO := [⟨(.some 23), .none, (.mov (.t 0))⟩,
  ⟨(.some 24), .none, (.len (.t 23))⟩,
  ⟨(.some 25), .none, (.bin .eql (.t 24) (.c (.d (.int .i64 0))))⟩,
  ⟨(.some 26), .none, (.mov (.t 25))⟩,
  ⟨(.some 27), (.some ⟨26, .false⟩), (.mov (.t 0))⟩,
  ⟨(.some 28), (.some ⟨26, .false⟩), (.len (.t 27))⟩,
  ⟨(.some 29), (.some ⟨26, .false⟩), (.bin .gtr (.t 28) (.c (.d (.int .i64 400))))⟩,
  ⟨(.some 30), .none, (.pick (.t 26) (.c (.d (.bool .true))) (.t 29))⟩,
  ⟨(.some 31), .none, (.mov (.t 30))⟩,
  ⟨(.some 32), (.some ⟨31, .false⟩), (.mov (.t 1))⟩,
  ⟨(.some 33), (.some ⟨31, .false⟩), (.bin .gtr (.t 32) (.c (.d (.int .i64 288230376151711744))))⟩,
  ⟨(.some 34), .none, (.pick (.t 31) (.c (.d (.bool .true))) (.t 33))⟩,
  ⟨(.some 35), .none, (.mov (.t 34))⟩,
  ⟨(.some 36), (.some ⟨35, .false⟩), (.mov (.t 1))⟩,
  ⟨(.some 37), (.some ⟨35, .false⟩), (.bin .lss (.t 36) (.c (.d (.int .i64 (-288230376151711744)))))⟩,
  ⟨(.some 38), .none, (.pick (.t 35) (.c (.d (.bool .true))) (.t 37))⟩]
abbrev c_poundagelaw20_ExtremeTurned_r4 : List AO := [⟨(.some 4), .none, (.mov (.c (.d (.bool .true))))⟩]
abbrev c_poundagelaw20_ExtremeTurned_r5 : List AO := [⟨(.some 5), .none, (.mov (.c (.nilsl 0)))⟩,
  ⟨(.some 6), .none, (.mov (.c (.nilsl 0)))⟩]
abbrev c_poundagelaw20_ExtremeTurned_r6 : List AO := [⟨(.some 39), .none, (.mov (.t 0))⟩,
  ⟨(.some 40), .none, (.len (.t 39))⟩,
  ⟨(.some 41), .none, (.mov (.c (.d (.int .i64 0))))⟩]
abbrev c_poundagelaw20_ExtremeTurned_r7 : List AO := [⟨(.some 42), .none, (.bin .lss (.t 41) (.t 40))⟩]
abbrev c_poundagelaw20_ExtremeTurned_r8 : List AO := [⟨(.some 43), .none, (.elemAddr 1 (.t 39) (.t 41))⟩,
  ⟨(.some 44), .none, (.load .none (.t 43))⟩,
  ⟨(.some 8), .none, (.mov (.t 44))⟩]
abbrev c_poundagelaw20_ExtremeTurned_r9 : List AO := [⟨(.some 45), .none, (.mov (.t 8))⟩,
  ⟨(.some 46), .none, (.bin .gtr (.t 45) (.c (.d (.int .i64 288230376151711744))))⟩,
  ⟨(.some 47), .none, (.mov (.t 46))⟩,
  ⟨(.some 48), (.some ⟨47, .false⟩), (.mov (.t 8))⟩,
  ⟨(.some 49), (.some ⟨47, .false⟩), (.bin .lss (.t 48) (.c (.d (.int .i64 (-288230376151711744)))))⟩,
  ⟨(.some 50), .none, (.pick (.t 47) (.c (.d (.bool .true))) (.t 49))⟩]
abbrev c_poundagelaw20_ExtremeTurned_r10 : List AO := [⟨(.some 4), .none, (.mov (.c (.d (.bool .true))))⟩]
abbrev c_poundagelaw20_ExtremeTurned_r11 : List AO := [⟨(.some 51), .none, (.mov (.t 5))⟩,
  ⟨(.some 52), .none, (.mov (.t 8))⟩,
  ⟨(.some 53), .none, (.un .neg (.t 52))⟩,
  ⟨(.some 54), .none, (.buildSlice 3 1 1 [(.d (.int .i64 0))] [⟨0, (.t 53)⟩])⟩,
  ⟨(.some 55), .none, (.append 3 1 8 [(.d (.int .i64 0))] (.t 51) (.t 54))⟩,
  ⟨(.some 5), .none, (.mov (.t 55))⟩]
abbrev c_poundagelaw20_ExtremeTurned_r12 : List AO := [⟨(.some 56), .none, (.mov (.t 6))⟩,
  ⟨(.some 57), .none, (.mov (.t 8))⟩,
  ⟨(.some 58), .none, (.mov (.t 1))⟩,
  ⟨(.some 59), .none, (.bin .add (.t 57) (.t 58))⟩,
  ⟨(.some 60), .none, (.buildSlice 3 1 1 [(.d (.int .i64 0))] [⟨0, (.t 59)⟩])⟩,
  ⟨(.some 61), .none, (.append 3 1 8 [(.d (.int .i64 0))] (.t 56) (.t 60))⟩,
  ⟨(.some 6), .none, (.mov (.t 61))⟩]
abbrev c_poundagelaw20_ExtremeTurned_r13 : List AO := [⟨(.some 62), .none, (.bin .add (.t 41) (.c (.d (.int .i64 1))))⟩,
  ⟨(.some 41), .none, (.mov (.t 62))⟩]
abbrev c_poundagelaw20_ExtremeTurned_l0 : ACode := (.seq (.ops c_poundagelaw20_ExtremeTurned_r7) (.seq (.cond (.t 42) .skip (.exit 0)) (.seq (.block 1 (.seq (.ops c_poundagelaw20_ExtremeTurned_r8) (.seq (.seq (.ops c_poundagelaw20_ExtremeTurned_r9) (.cond (.t 50) (.seq (.ops c_poundagelaw20_ExtremeTurned_r10) .ret) .skip)) (.seq (.ops c_poundagelaw20_ExtremeTurned_r11) (.ops c_poundagelaw20_ExtremeTurned_r12))))) (.ops c_poundagelaw20_ExtremeTurned_r13))))
abbrev c_poundagelaw20_ExtremeTurned_r14 : List AO := [⟨(.some 64), .none, (.mov (.t 0))⟩,
  ⟨(.some 65), .none, (.call 6 [(.t 64)])⟩,
  ⟨(.some 63), .none, (.mov (.t 65))⟩,
  ⟨(.some 66), .none, (.extract (.t 63) 0)⟩,
  ⟨(.some 67), .none, (.extract (.t 63) 1)⟩,
  ⟨(.some 9), .none, (.alloc 26 [(.d (.int .i64 0)), (.nilsl 5)])⟩,
  ⟨.none, .none, (.store 2 (.t 9) (.t 66))⟩,
  ⟨(.some 10), .none, (.mov (.t 67))⟩]
abbrev c_poundagelaw20_ExtremeTurned_r15 : List AO := [⟨(.some 69), .none, (.mov (.t 5))⟩,
  ⟨(.some 70), .none, (.call 6 [(.t 69)])⟩,
  ⟨(.some 68), .none, (.mov (.t 70))⟩,
  ⟨(.some 71), .none, (.extract (.t 68) 0)⟩,
  ⟨(.some 72), .none, (.extract (.t 68) 1)⟩,
  ⟨(.some 11), .none, (.alloc 26 [(.d (.int .i64 0)), (.nilsl 5)])⟩,
  ⟨.none, .none, (.store 2 (.t 11) (.t 71))⟩,
  ⟨(.some 12), .none, (.mov (.t 72))⟩]
abbrev c_poundagelaw20_ExtremeTurned_r16 : List AO := [⟨(.some 74), .none, (.mov (.t 6))⟩,
  ⟨(.some 75), .none, (.call 6 [(.t 74)])⟩,
  ⟨(.some 73), .none, (.mov (.t 75))⟩,
  ⟨(.some 76), .none, (.extract (.t 73) 0)⟩,
  ⟨(.some 77), .none, (.extract (.t 73) 1)⟩,
  ⟨(.some 13), .none, (.alloc 26 [(.d (.int .i64 0)), (.nilsl 5)])⟩,
  ⟨.none, .none, (.store 2 (.t 13) (.t 76))⟩,
  ⟨(.some 14), .none, (.mov (.t 77))⟩]
abbrev c_poundagelaw20_ExtremeTurned_r17 : List AO := [⟨(.some 79), .none, (.load (.some 2) (.t 9))⟩,
  ⟨(.some 80), .none, (.call 7 [(.t 79)])⟩,
  ⟨(.some 78), .none, (.mov (.t 80))⟩,
  ⟨(.some 81), .none, (.extract (.t 78) 0)⟩,
  ⟨(.some 82), .none, (.extract (.t 78) 1)⟩,
  ⟨(.some 15), .none, (.alloc 30 [(.d (.int .i64 0)), (.d (.int .i64 0))])⟩,
  ⟨.none, .none, (.store 2 (.t 15) (.t 81))⟩,
  ⟨(.some 16), .none, (.mov (.t 82))⟩]
abbrev c_poundagelaw20_ExtremeTurned_r18 : List AO := [⟨(.some 84), .none, (.load (.some 2) (.t 11))⟩,
  ⟨(.some 85), .none, (.call 8 [(.t 84)])⟩,
  ⟨(.some 83), .none, (.mov (.t 85))⟩,
  ⟨(.some 86), .none, (.extract (.t 83) 0)⟩,
  ⟨(.some 87), .none, (.extract (.t 83) 1)⟩,
  ⟨(.some 17), .none, (.alloc 30 [(.d (.int .i64 0)), (.d (.int .i64 0))])⟩,
  ⟨.none, .none, (.store 2 (.t 17) (.t 86))⟩,
  ⟨(.some 18), .none, (.mov (.t 87))⟩]
abbrev c_poundagelaw20_ExtremeTurned_r19 : List AO := [⟨(.some 89), .none, (.load (.some 2) (.t 13))⟩,
  ⟨(.some 90), .none, (.call 7 [(.t 89)])⟩,
  ⟨(.some 88), .none, (.mov (.t 90))⟩,
  ⟨(.some 91), .none, (.extract (.t 88) 0)⟩,
  ⟨(.some 92), .none, (.extract (.t 88) 1)⟩,
  ⟨(.some 19), .none, (.alloc 30 [(.d (.int .i64 0)), (.d (.int .i64 0))])⟩,
  ⟨.none, .none, (.store 2 (.t 19) (.t 91))⟩,
  ⟨(.some 20), .none, (.mov (.t 92))⟩]
abbrev c_poundagelaw20_ExtremeTurned_r20 : List AO := [⟨(.some 93), .none, (.mov (.t 16))⟩,
  ⟨(.some 94), .none, (.mov (.t 93))⟩,
  ⟨(.some 95), (.some ⟨94, .true⟩), (.mov (.t 18))⟩,
  ⟨(.some 96), .none, (.pick (.t 94) (.t 95) (.c (.d (.bool .false))))⟩,
  ⟨(.some 97), .none, (.mov (.t 96))⟩,
  ⟨(.some 98), (.some ⟨97, .true⟩), (.mov (.t 20))⟩,
  ⟨(.some 99), .none, (.pick (.t 97) (.t 98) (.c (.d (.bool .false))))⟩,
  ⟨(.some 100), .none, (.mov (.t 99))⟩,
  ⟨(.some 101), (.some ⟨100, .true⟩), (.fieldAddr 0 (.t 15))⟩,
  ⟨(.some 102), (.some ⟨100, .true⟩), (.load .none (.t 101))⟩,
  ⟨(.some 103), (.some ⟨100, .true⟩), (.fieldAddr 0 (.t 17))⟩,
  ⟨(.some 104), (.some ⟨100, .true⟩), (.load .none (.t 103))⟩,
  ⟨(.some 105), (.some ⟨100, .true⟩), (.un .neg (.t 104))⟩,
  ⟨(.some 106), (.some ⟨100, .true⟩), (.bin .eql (.t 102) (.t 105))⟩,
  ⟨(.some 107), .none, (.pick (.t 100) (.t 106) (.c (.d (.bool .false))))⟩,
  ⟨(.some 108), .none, (.mov (.t 107))⟩,
  ⟨(.some 109), (.some ⟨108, .true⟩), (.fieldAddr 1 (.t 15))⟩,
  ⟨(.some 110), (.some ⟨108, .true⟩), (.load .none (.t 109))⟩,
  ⟨(.some 111), (.some ⟨108, .true⟩), (.fieldAddr 1 (.t 17))⟩,
  ⟨(.some 112), (.some ⟨108, .true⟩), (.load .none (.t 111))⟩,
  ⟨(.some 113), (.some ⟨108, .true⟩), (.bin .eql (.t 110) (.t 112))⟩,
  ⟨(.some 114), .none, (.pick (.t 108) (.t 113) (.c (.d (.bool .false))))⟩,
  ⟨(.some 115), .none, (.mov (.t 114))⟩,
  ⟨(.some 116), (.some ⟨115, .true⟩), (.fieldAddr 0 (.t 19))⟩,
  ⟨(.some 117), (.some ⟨115, .true⟩), (.load .none (.t 116))⟩,
  ⟨(.some 118), (.some ⟨115, .true⟩), (.fieldAddr 0 (.t 15))⟩,
  ⟨(.some 119), (.some ⟨115, .true⟩), (.load .none (.t 118))⟩,
  ⟨(.some 120), (.some ⟨115, .true⟩), (.mov (.t 1))⟩,
  ⟨(.some 121), (.some ⟨115, .true⟩), (.bin .add (.t 119) (.t 120))⟩,
  ⟨(.some 122), (.some ⟨115, .true⟩), (.bin .eql (.t 117) (.t 121))⟩,
  ⟨(.some 123), .none, (.pick (.t 115) (.t 122) (.c (.d (.bool .false))))⟩,
  ⟨(.some 124), .none, (.mov (.t 123))⟩,
  ⟨(.some 125), (.some ⟨124, .true⟩), (.fieldAddr 1 (.t 19))⟩,
  ⟨(.some 126), (.some ⟨124, .true⟩), (.load .none (.t 125))⟩,
  ⟨(.some 127), (.some ⟨124, .true⟩), (.fieldAddr 1 (.t 15))⟩,
  ⟨(.some 128), (.some ⟨124, .true⟩), (.load .none (.t 127))⟩,
  ⟨(.some 129), (.some ⟨124, .true⟩), (.bin .eql (.t 126) (.t 128))⟩,
  ⟨(.some 130), .none, (.pick (.t 124) (.t 129) (.c (.d (.bool .false))))⟩,
  ⟨(.some 4), .none, (.mov (.t 130))⟩]
abbrev c_poundagelaw20_ExtremeTurned : AFunc := ⟨131, [(.tmp 4)], (.seq (.ops c_poundagelaw20_ExtremeTurned_r0) (.seq (.seq (.ops c_poundagelaw20_ExtremeTurned_r1) (.cond (.t 22) (.seq (.ops c_poundagelaw20_ExtremeTurned_r2) .ret) .skip)) (.seq (.seq (.ops c_poundagelaw20_ExtremeTurned_r3) (.cond (.t 38) (.seq (.ops c_poundagelaw20_ExtremeTurned_r4) .ret) .skip)) (.seq (.ops c_poundagelaw20_ExtremeTurned_r5) (.seq (.seq (.ops c_poundagelaw20_ExtremeTurned_r6) (.block 0 (.loop c_poundagelaw20_ExtremeTurned_l0))) (.seq (.ops c_poundagelaw20_ExtremeTurned_r14) (.seq (.ops c_poundagelaw20_ExtremeTurned_r15) (.seq (.ops c_poundagelaw20_ExtremeTurned_r16) (.seq (.ops c_poundagelaw20_ExtremeTurned_r17) (.seq (.ops c_poundagelaw20_ExtremeTurned_r18) (.seq (.ops c_poundagelaw20_ExtremeTurned_r19) (.seq (.ops c_poundagelaw20_ExtremeTurned_r20) .ret))))))))))))⟩
theorem comp_poundagelaw20_ExtremeTurned : funcC Try.prog 3 = some c_poundagelaw20_ExtremeTurned := by kernel_rfl
/-! function 4 : poundage poundagelaw20.ExtremeSums -/
abbrev f_poundagelaw20_ExtremeSums : FuncId := 4
abbrev c_poundagelaw20_ExtremeSums_r0 : List AO := [⟨(.some 4), .none, (.mov (.c (.d (.bool .false))))⟩]
abbrev c_poundagelaw20_ExtremeSums_r1 : List AO := [⟨(.some 23), .none, (.call 5 [])⟩,
  ⟨(.some 24), .none, (.un .not (.t 23))⟩]
abbrev c_poundagelaw20_ExtremeSums_r2 : List AO := [⟨(.some 4), .none, (.mov (.c (.d (.bool .false))))⟩]
abbrev c_poundagelaw20_ExtremeSums_r3 : List AO := [⟨(.some 25), .none, (.mov (.t 0))⟩,
  ⟨(.some 26), .none, (.len (.t 25))⟩,
  ⟨(.some 27), .none, (.bin .gtr (.t 26) (.c (.d (.int .i64 6))))⟩,
  ⟨(.some 28), .none, (.mov (.t 27))⟩,
  ⟨(.some 29), (.some ⟨28, .false⟩), (.mov (.t 1))⟩,
  ⟨(.some 30), (.some ⟨28, .false⟩), (.len (.t 29))⟩,
  ⟨(.some 31), (.some ⟨28, .false⟩), (.mov (.t 0))⟩,
  ⟨(.some 32), (.some ⟨28, .false⟩), (.len (.t 31))⟩,
  ⟨(.some 33), (.some ⟨28, .false⟩), (.bin .lss (.t 30) (.t 32))⟩,
  ⟨(.some 34), .none, (.pick (.t 28) (.c (.d (.bool .true))) (.t 33))⟩]
abbrev c_poundagelaw20_ExtremeSums_r4 : List AO := [⟨(.some 4), .none, (.mov (.c (.d (.bool .true))))⟩]
abbrev c_poundagelaw20_ExtremeSums_r5 : List AO := [⟨(.some 5), .none, (.mov (.c (.nilsl 0)))⟩]
abbrev c_poundagelaw20_ExtremeSums_r6 : List AO := [⟨(.some 6), .none, (.mov (.c (.d (.int .i64 0))))⟩,
  ⟨(.some 7), .none, (.mov (.c (.d (.int .i64 0))))⟩,
  ⟨(.some 8), .none, (.mov (.c (.d (.int .i64 0))))⟩]
abbrev c_poundagelaw20_ExtremeSums_r7 : List AO := [⟨(.some 35), .none, (.mov (.t 0))⟩,
  ⟨(.some 36), .none, (.len (.t 35))⟩,
  ⟨(.some 37), .none, (.mov (.c (.d (.int .i64 0))))⟩]
abbrev c_poundagelaw20_ExtremeSums_r8 : List AO := [⟨(.some 38), .none, (.bin .lss (.t 37) (.t 36))⟩]
abbrev c_poundagelaw20_ExtremeSums_r9 : List AO := [⟨(.some 39), .none, (.mov (.t 37))⟩,
  ⟨(.some 40), .none, (.elemAddr 1 (.t 35) (.t 37))⟩,
  ⟨(.some 41), .none, (.load .none (.t 40))⟩,
  ⟨(.some 9), .none, (.mov (.t 39))⟩,
  ⟨(.some 10), .none, (.mov (.t 41))⟩]
abbrev c_poundagelaw20_ExtremeSums_r10 : List AO := [⟨(.some 42), .none, (.mov (.t 10))⟩,
  ⟨(.some 43), .none, (.len (.t 42))⟩,
  ⟨(.some 44), .none, (.bin .eql (.t 43) (.c (.d (.int .i64 0))))⟩,
  ⟨(.some 45), .none, (.mov (.t 44))⟩,
  ⟨(.some 46), (.some ⟨45, .false⟩), (.mov (.t 10))⟩,
  ⟨(.some 47), (.some ⟨45, .false⟩), (.len (.t 46))⟩,
  ⟨(.some 48), (.some ⟨45, .false⟩), (.bin .gtr (.t 47) (.c (.d (.int .i64 400))))⟩,
  ⟨(.some 49), .none, (.pick (.t 45) (.c (.d (.bool .true))) (.t 48))⟩]
abbrev c_poundagelaw20_ExtremeSums_r11 : List AO := [⟨(.some 4), .none, (.mov (.c (.d (.bool .true))))⟩]
abbrev c_poundagelaw20_ExtremeSums_r12 : List AO := [⟨(.some 50), .none, (.mov (.t 10))⟩,
  ⟨(.some 51), .none, (.len (.t 50))⟩,
  ⟨(.some 52), .none, (.mov (.c (.d (.int .i64 0))))⟩]
abbrev c_poundagelaw20_ExtremeSums_r13 : List AO := [⟨(.some 53), .none, (.bin .lss (.t 52) (.t 51))⟩]
abbrev c_poundagelaw20_ExtremeSums_r14 : List AO := [⟨(.some 54), .none, (.elemAddr 1 (.t 50) (.t 52))⟩,
  ⟨(.some 55), .none, (.load .none (.t 54))⟩,
  ⟨(.some 12), .none, (.mov (.t 55))⟩]
abbrev c_poundagelaw20_ExtremeSums_r15 : List AO := [⟨(.some 56), .none, (.mov (.t 12))⟩,
  ⟨(.some 57), .none, (.bin .gtr (.t 56) (.c (.d (.int .i64 288230376151711744))))⟩,
  ⟨(.some 58), .none, (.mov (.t 57))⟩,
  ⟨(.some 59), (.some ⟨58, .false⟩), (.mov (.t 12))⟩,
  ⟨(.some 60), (.some ⟨58, .false⟩), (.bin .lss (.t 59) (.c (.d (.int .i64 (-288230376151711744)))))⟩,
  ⟨(.some 61), .none, (.pick (.t 58) (.c (.d (.bool .true))) (.t 60))⟩]
abbrev c_poundagelaw20_ExtremeSums_r16 : List AO := [⟨(.some 4), .none, (.mov (.c (.d (.bool .true))))⟩]
abbrev c_poundagelaw20_ExtremeSums_r17 : List AO := [⟨(.some 62), .none, (.bin .add (.t 52) (.c (.d (.int .i64 1))))⟩,
  ⟨(.some 52), .none, (.mov (.t 62))⟩]
abbrev c_poundagelaw20_ExtremeSums_l0 : ACode := (.seq (.ops c_poundagelaw20_ExtremeSums_r13) (.seq (.cond (.t 53) .skip (.exit 2)) (.seq (.block 3 (.seq (.ops c_poundagelaw20_ExtremeSums_r14) (.seq (.ops c_poundagelaw20_ExtremeSums_r15) (.cond (.t 61) (.seq (.ops c_poundagelaw20_ExtremeSums_r16) .ret) .skip)))) (.ops c_poundagelaw20_ExtremeSums_r17))))
abbrev c_poundagelaw20_ExtremeSums_r18 : List AO := [⟨(.some 64), .none, (.mov (.t 10))⟩,
  ⟨(.some 65), .none, (.call 6 [(.t 64)])⟩,
  ⟨(.some 63), .none, (.mov (.t 65))⟩,
  ⟨(.some 66), .none, (.extract (.t 63) 0)⟩,
  ⟨(.some 67), .none, (.extract (.t 63) 1)⟩,
  ⟨(.some 13), .none, (.alloc 26 [(.d (.int .i64 0)), (.nilsl 5)])⟩,
  ⟨.none, .none, (.store 2 (.t 13) (.t 66))⟩,
  ⟨(.some 14), .none, (.mov (.t 67))⟩]
abbrev c_poundagelaw20_ExtremeSums_r19 : List AO := [⟨(.some 68), .none, (.mov (.t 5))⟩,
  ⟨(.some 69), .none, (.load (.some 2) (.t 13))⟩,
  ⟨(.some 70), .none, (.buildSlice 26 2 1 [(.d (.int .i64 0)), (.nilsl 5)] [⟨0, (.t 69)⟩])⟩,
  ⟨(.some 71), .none, (.append 26 2 32 [(.d (.int .i64 0)), (.nilsl 5)] (.t 68) (.t 70))⟩,
  ⟨(.some 5), .none, (.mov (.t 71))⟩]
abbrev c_poundagelaw20_ExtremeSums_r20 : List AO := [⟨(.some 72), .none, (.mov (.t 6))⟩,
  ⟨(.some 73), .none, (.mov (.t 10))⟩,
  ⟨(.some 74), .none, (.mov (.t 1))⟩,
  ⟨(.some 75), .none, (.mov (.t 9))⟩,
  ⟨(.some 76), .none, (.elemAddr 1 (.t 74) (.t 75))⟩,
  ⟨(.some 77), .none, (.load .none (.t 76))⟩,
  ⟨(.some 78), .none, (.conv .u64 (.t 77))⟩,
  ⟨(.some 79), .none, (.mov (.t 10))⟩,
  ⟨(.some 80), .none, (.len (.t 79))⟩,
  ⟨(.some 81), .none, (.conv .u64 (.t 80))⟩,
  ⟨(.some 82), .none, (.bin .rem (.t 78) (.t 81))⟩,
  ⟨(.some 83), .none, (.conv .i64 (.t 82))⟩,
  ⟨(.some 84), .none, (.elemAddr 1 (.t 73) (.t 83))⟩,
  ⟨(.some 85), .none, (.load .none (.t 84))⟩,
  ⟨(.some 86), .none, (.bin .add (.t 72) (.t 85))⟩,
  ⟨(.some 6), .none, (.mov (.t 86))⟩]
abbrev c_poundagelaw20_ExtremeSums_r21 : List AO := [⟨(.some 88), .none, (.load (.some 2) (.t 13))⟩,
  ⟨(.some 89), .none, (.call 7 [(.t 88)])⟩,
  ⟨(.some 87), .none, (.mov (.t 89))⟩,
  ⟨(.some 90), .none, (.extract (.t 87) 0)⟩,
  ⟨(.some 91), .none, (.extract (.t 87) 1)⟩,
  ⟨(.some 15), .none, (.alloc 30 [(.d (.int .i64 0)), (.d (.int .i64 0))])⟩,
  ⟨.none, .none, (.store 2 (.t 15) (.t 90))⟩,
  ⟨(.some 16), .none, (.mov (.t 91))⟩]
abbrev c_poundagelaw20_ExtremeSums_r22 : List AO := [⟨(.some 93), .none, (.load (.some 2) (.t 13))⟩,
  ⟨(.some 94), .none, (.call 8 [(.t 93)])⟩,
  ⟨(.some 92), .none, (.mov (.t 94))⟩,
  ⟨(.some 95), .none, (.extract (.t 92) 0)⟩,
  ⟨(.some 96), .none, (.extract (.t 92) 1)⟩,
  ⟨(.some 17), .none, (.alloc 30 [(.d (.int .i64 0)), (.d (.int .i64 0))])⟩,
  ⟨.none, .none, (.store 2 (.t 17) (.t 95))⟩,
  ⟨(.some 18), .none, (.mov (.t 96))⟩]
abbrev c_poundagelaw20_ExtremeSums_r23 : List AO := [⟨(.some 97), .none, (.mov (.t 16))⟩,
  ⟨(.some 98), .none, (.un .not (.t 97))⟩,
  ⟨(.some 99), .none, (.mov (.t 98))⟩,
  ⟨(.some 100), (.some ⟨99, .false⟩), (.mov (.t 18))⟩,
  ⟨(.some 101), (.some ⟨99, .false⟩), (.un .not (.t 100))⟩,
  ⟨(.some 102), .none, (.pick (.t 99) (.c (.d (.bool .true))) (.t 101))⟩,
  ⟨(.some 103), .none, (.mov (.t 102))⟩,
  ⟨(.some 104), (.some ⟨103, .false⟩), (.fieldAddr 1 (.t 15))⟩,
  ⟨(.some 105), (.some ⟨103, .false⟩), (.load .none (.t 104))⟩,
  ⟨(.some 106), (.some ⟨103, .false⟩), (.bin .lss (.t 105) (.c (.d (.int .i64 0))))⟩,
  ⟨(.some 107), .none, (.pick (.t 103) (.c (.d (.bool .true))) (.t 106))⟩,
  ⟨(.some 108), .none, (.mov (.t 107))⟩,
  ⟨(.some 109), (.some ⟨108, .false⟩), (.fieldAddr 1 (.t 15))⟩,
  ⟨(.some 110), (.some ⟨108, .false⟩), (.load .none (.t 109))⟩,
  ⟨(.some 111), (.some ⟨108, .false⟩), (.mov (.t 10))⟩,
  ⟨(.some 112), (.some ⟨108, .false⟩), (.len (.t 111))⟩,
  ⟨(.some 113), (.some ⟨108, .false⟩), (.bin .geq (.t 110) (.t 112))⟩,
  ⟨(.some 114), .none, (.pick (.t 108) (.c (.d (.bool .true))) (.t 113))⟩,
  ⟨(.some 115), .none, (.mov (.t 114))⟩,
  ⟨(.some 116), (.some ⟨115, .false⟩), (.fieldAddr 1 (.t 17))⟩,
  ⟨(.some 117), (.some ⟨115, .false⟩), (.load .none (.t 116))⟩,
  ⟨(.some 118), (.some ⟨115, .false⟩), (.bin .lss (.t 117) (.c (.d (.int .i64 0))))⟩,
  ⟨(.some 119), .none, (.pick (.t 115) (.c (.d (.bool .true))) (.t 118))⟩,
  ⟨(.some 120), .none, (.mov (.t 119))⟩,
  ⟨(.some 121), (.some ⟨120, .false⟩), (.fieldAddr 1 (.t 17))⟩,
  ⟨(.some 122), (.some ⟨120, .false⟩), (.load .none (.t 121))⟩,
  ⟨(.some 123), (.some ⟨120, .false⟩), (.mov (.t 10))⟩,
  ⟨(.some 124), (.some ⟨120, .false⟩), (.len (.t 123))⟩,
  ⟨(.some 125), (.some ⟨120, .false⟩), (.bin .geq (.t 122) (.t 124))⟩,
  ⟨(.some 126), .none, (.pick (.t 120) (.c (.d (.bool .true))) (.t 125))⟩]
abbrev c_poundagelaw20_ExtremeSums_r24 : List AO := [⟨(.some 4), .none, (.mov (.c (.d (.bool .false))))⟩]
abbrev c_poundagelaw20_ExtremeSums_r25 : List AO := [⟨(.some 127), .none, (.mov (.t 7))⟩,
  ⟨(.some 128), .none, (.mov (.t 10))⟩,
  ⟨(.some 129), .none, (.fieldAddr 1 (.t 15))⟩,
  ⟨(.some 130), .none, (.load .none (.t 129))⟩,
  ⟨(.some 131), .none, (.elemAddr 1 (.t 128) (.t 130))⟩,
  ⟨(.some 132), .none, (.load .none (.t 131))⟩,
  ⟨(.some 133), .none, (.bin .add (.t 127) (.t 132))⟩,
  ⟨(.some 7), .none, (.mov (.t 133))⟩]
abbrev c_poundagelaw20_ExtremeSums_r26 : List AO := [⟨(.some 134), .none, (.mov (.t 8))⟩,
  ⟨(.some 135), .none, (.mov (.t 10))⟩,
  ⟨(.some 136), .none, (.fieldAddr 1 (.t 17))⟩,
  ⟨(.some 137), .none, (.load .none (.t 136))⟩,
  ⟨(.some 138), .none, (.elemAddr 1 (.t 135) (.t 137))⟩,
  ⟨(.some 139), .none, (.load .none (.t 138))⟩,
  ⟨(.some 140), .none, (.bin .add (.t 134) (.t 139))⟩,
  ⟨(.some 8), .none, (.mov (.t 140))⟩]
abbrev c_poundagelaw20_ExtremeSums_r27 : List AO := [⟨(.some 141), .none, (.bin .add (.t 37) (.c (.d (.int .i64 1))))⟩,
  ⟨(.some 37), .none, (.mov (.t 141))⟩]
abbrev c_poundagelaw20_ExtremeSums_l1 : ACode := (.seq (.ops c_poundagelaw20_ExtremeSums_r8) (.seq (.cond (.t 38) .skip (.exit 0)) (.seq (.block 1 (.seq (.ops c_poundagelaw20_ExtremeSums_r9) (.seq (.seq (.ops c_poundagelaw20_ExtremeSums_r10) (.cond (.t 49) (.seq (.ops c_poundagelaw20_ExtremeSums_r11) .ret) .skip)) (.seq (.seq (.ops c_poundagelaw20_ExtremeSums_r12) (.block 2 (.loop c_poundagelaw20_ExtremeSums_l0))) (.seq (.ops c_poundagelaw20_ExtremeSums_r18) (.seq (.ops c_poundagelaw20_ExtremeSums_r19) (.seq (.ops c_poundagelaw20_ExtremeSums_r20) (.seq (.ops c_poundagelaw20_ExtremeSums_r21) (.seq (.ops c_poundagelaw20_ExtremeSums_r22) (.seq (.seq (.ops c_poundagelaw20_ExtremeSums_r23) (.cond (.t 126) (.seq (.ops c_poundagelaw20_ExtremeSums_r24) .ret) .skip)) (.seq (.ops c_poundagelaw20_ExtremeSums_r25) (.ops c_poundagelaw20_ExtremeSums_r26)))))))))))) (.ops c_poundagelaw20_ExtremeSums_r27))))
abbrev c_poundagelaw20_ExtremeSums_r28 : List AO := [⟨(.some 143), .none, (.mov (.t 5))⟩,
  ⟨(.some 144), .none, (.call 9 [(.t 143), (.c (.fn 7 []))])⟩,
  ⟨(.some 142), .none, (.mov (.t 144))⟩,
  ⟨(.some 145), .none, (.extract (.t 142) 0)⟩,
  ⟨(.some 146), .none, (.extract (.t 142) 1)⟩,
  ⟨(.some 19), .none, (.mov (.t 145))⟩,
  ⟨(.some 20), .none, (.mov (.t 146))⟩]
abbrev c_poundagelaw20_ExtremeSums_r29 : List AO := [⟨(.some 148), .none, (.mov (.t 5))⟩,
  ⟨(.some 149), .none, (.call 9 [(.t 148), (.c (.fn 8 []))])⟩,
  ⟨(.some 147), .none, (.mov (.t 149))⟩,
  ⟨(.some 150), .none, (.extract (.t 147) 0)⟩,
  ⟨(.some 151), .none, (.extract (.t 147) 1)⟩,
  ⟨(.some 21), .none, (.mov (.t 150))⟩,
  ⟨(.some 22), .none, (.mov (.t 151))⟩]
abbrev c_poundagelaw20_ExtremeSums_r30 : List AO := [⟨(.some 152), .none, (.mov (.t 20))⟩,
  ⟨(.some 153), .none, (.mov (.t 152))⟩,
  ⟨(.some 154), (.some ⟨153, .true⟩), (.mov (.t 22))⟩,
  ⟨(.some 155), .none, (.pick (.t 153) (.t 154) (.c (.d (.bool .false))))⟩,
  ⟨(.some 156), .none, (.mov (.t 155))⟩,
  ⟨(.some 157), (.some ⟨156, .true⟩), (.mov (.t 19))⟩,
  ⟨(.some 158), (.some ⟨156, .true⟩), (.mov (.t 7))⟩,
  ⟨(.some 159), (.some ⟨156, .true⟩), (.bin .eql (.t 157) (.t 158))⟩,
  ⟨(.some 160), .none, (.pick (.t 156) (.t 159) (.c (.d (.bool .false))))⟩,
  ⟨(.some 161), .none, (.mov (.t 160))⟩,
  ⟨(.some 162), (.some ⟨161, .true⟩), (.mov (.t 21))⟩,
  ⟨(.some 163), (.some ⟨161, .true⟩), (.mov (.t 8))⟩,
  ⟨(.some 164), (.some ⟨161, .true⟩), (.bin .eql (.t 162) (.t 163))⟩,
  ⟨(.some 165), .none, (.pick (.t 161) (.t 164) (.c (.d (.bool .false))))⟩,
  ⟨(.some 166), .none, (.mov (.t 165))⟩,
  ⟨(.some 167), (.some ⟨166, .true⟩), (.mov (.t 6))⟩,
  ⟨(.some 168), (.some ⟨166, .true⟩), (.mov (.t 19))⟩,
  ⟨(.some 169), (.some ⟨166, .true⟩), (.bin .leq (.t 167) (.t 168))⟩,
  ⟨(.some 170), .none, (.pick (.t 166) (.t 169) (.c (.d (.bool .false))))⟩,
  ⟨(.some 171), .none, (.mov (.t 170))⟩,
  ⟨(.some 172), (.some ⟨171, .true⟩), (.mov (.t 6))⟩,
  ⟨(.some 173), (.some ⟨171, .true⟩), (.mov (.t 21))⟩,
  ⟨(.some 174), (.some ⟨171, .true⟩), (.bin .geq (.t 172) (.t 173))⟩,
  ⟨(.some 175), .none, (.pick (.t 171) (.t 174) (.c (.d (.bool .false))))⟩,
  ⟨(.some 4), .none, (.mov (.t 175))⟩]
abbrev c_poundagelaw20_ExtremeSums : AFunc := ⟨176, [(.tmp 4)], (.seq (.ops c_poundagelaw20_ExtremeSums_r0) (.seq (.seq (.ops c_poundagelaw20_ExtremeSums_r1) (.cond (.t 24) (.seq (.ops c_poundagelaw20_ExtremeSums_r2) .ret) .skip)) (.seq (.seq (.ops c_poundagelaw20_ExtremeSums_r3) (.cond (.t 34) (.seq (.ops c_poundagelaw20_ExtremeSums_r4) .ret) .skip)) (.seq (.ops c_poundagelaw20_ExtremeSums_r5) (.seq (.ops c_poundagelaw20_ExtremeSums_r6) (.seq (.seq (.ops c_poundagelaw20_ExtremeSums_r7) (.block 0 (.loop c_poundagelaw20_ExtremeSums_l1))) (.seq (.ops c_poundagelaw20_ExtremeSums_r28) (.seq (.ops c_poundagelaw20_ExtremeSums_r29) (.seq (.ops c_poundagelaw20_ExtremeSums_r30) .ret)))))))))⟩
theorem comp_poundagelaw20_ExtremeSums : funcC Try.prog 4 = some c_poundagelaw20_ExtremeSums := by kernel_rfl
/-! function 5 : poundage poundagelaw20.alive -/
abbrev f_poundagelaw20_alive : FuncId := 5
abbrev c_poundagelaw20_alive_r0 : List AO := [⟨(.some 0), .none, (.mov (.c (.d (.bool .false))))⟩]
abbrev c_poundagelaw20_alive_r1 : List AO := [⟨(.some 8), .none, (.buildSlice 3 1 4 [(.d (.int .i64 0))] [⟨0, (.c (.d (.int .i64 0)))⟩, ⟨1, (.c (.d (.int .i64 3)))⟩, ⟨2, (.c (.d (.int .i64 3)))⟩, ⟨3, (.c (.d (.int .i64 1)))⟩])⟩,
  ⟨(.some 9), .none, (.call 6 [(.t 8)])⟩,
  ⟨(.some 7), .none, (.mov (.t 9))⟩,
  ⟨(.some 10), .none, (.extract (.t 7) 0)⟩,
  ⟨(.some 11), .none, (.extract (.t 7) 1)⟩,
  ⟨(.some 1), .none, (.alloc 26 [(.d (.int .i64 0)), (.nilsl 5)])⟩,
  ⟨.none, .none, (.store 2 (.t 1) (.t 10))⟩,
  ⟨(.some 2), .none, (.mov (.t 11))⟩]
abbrev c_poundagelaw20_alive_r2 : List AO := [⟨(.some 13), .none, (.load (.some 2) (.t 1))⟩,
  ⟨(.some 14), .none, (.call 7 [(.t 13)])⟩,
  ⟨(.some 12), .none, (.mov (.t 14))⟩,
  ⟨(.some 15), .none, (.extract (.t 12) 0)⟩,
  ⟨(.some 16), .none, (.extract (.t 12) 1)⟩,
  ⟨(.some 3), .none, (.alloc 30 [(.d (.int .i64 0)), (.d (.int .i64 0))])⟩,
  ⟨.none, .none, (.store 2 (.t 3) (.t 15))⟩,
  ⟨(.some 4), .none, (.mov (.t 16))⟩]
abbrev c_poundagelaw20_alive_r3 : List AO := [⟨(.some 18), .none, (.load (.some 2) (.t 1))⟩,
  ⟨(.some 19), .none, (.call 10 [(.t 18), (.c (.d (.int .i64 0)))])⟩,
  ⟨(.some 17), .none, (.mov (.t 19))⟩,
  ⟨(.some 20), .none, (.extract (.t 17) 0)⟩,
  ⟨(.some 21), .none, (.extract (.t 17) 1)⟩,
  ⟨(.some 5), .none, (.mov (.t 20))⟩,
  ⟨(.some 6), .none, (.mov (.t 21))⟩]
abbrev c_poundagelaw20_alive_r4 : List AO := [⟨(.some 22), .none, (.load (.some 2) (.t 3))⟩,
  ⟨(.some 23), .none, (.build [(.d (.int .i64 0)), (.d (.int .i64 0))] [⟨0, ⟨1, (.c (.d (.int .i64 3)))⟩⟩, ⟨1, ⟨1, (.c (.d (.int .i64 1)))⟩⟩])⟩,
  ⟨(.some 24), .none, (.eqAgg .false [0, 0] (.t 22) (.t 23))⟩,
  ⟨(.some 25), .none, (.mov (.t 24))⟩,
  ⟨(.some 26), (.some ⟨25, .true⟩), (.mov (.t 4))⟩,
  ⟨(.some 27), .none, (.pick (.t 25) (.t 26) (.c (.d (.bool .false))))⟩,
  ⟨(.some 28), .none, (.mov (.t 27))⟩,
  ⟨(.some 29), (.some ⟨28, .true⟩), (.mov (.t 5))⟩,
  ⟨(.some 30), (.some ⟨28, .true⟩), (.bin .eql (.t 29) (.c (.d (.int .i64 1))))⟩,
  ⟨(.some 31), .none, (.pick (.t 28) (.t 30) (.c (.d (.bool .false))))⟩,
  ⟨(.some 32), .none, (.mov (.t 31))⟩,
  ⟨(.some 33), (.some ⟨32, .true⟩), (.mov (.t 6))⟩,
  ⟨(.some 34), .none, (.pick (.t 32) (.t 33) (.c (.d (.bool .false))))⟩,
  ⟨(.some 0), .none, (.mov (.t 34))⟩]
abbrev c_poundagelaw20_alive : AFunc := ⟨35, [(.tmp 0)], (.seq (.ops c_poundagelaw20_alive_r0) (.seq (.ops c_poundagelaw20_alive_r1) (.seq (.ops c_poundagelaw20_alive_r2) (.seq (.ops c_poundagelaw20_alive_r3) (.seq (.ops c_poundagelaw20_alive_r4) .ret)))))⟩
theorem comp_poundagelaw20_alive : funcC Try.prog 5 = some c_poundagelaw20_alive := by kernel_rfl
/-! function 6 : poundage poundageref15.Of -/
abbrev f_poundageref15_Of : FuncId := 6
abbrev c_poundageref15_Of_r0 : List AO := [⟨(.some 2), .none, (.alloc 26 [(.d (.int .i64 0)), (.nilsl 5)])⟩,
  ⟨(.some 3), .none, (.mov (.c (.d (.bool .false))))⟩]
abbrev c_poundageref15_Of_r1 : List AO := [⟨(.some 10), .none, (.mov (.t 0))⟩,
  ⟨(.some 11), .none, (.len (.t 10))⟩,
  ⟨(.some 12), .none, (.bin .eql (.t 11) (.c (.d (.int .i64 0))))⟩,
  ⟨(.some 13), .none, (.mov (.t 12))⟩,
  ⟨(.some 14), (.some ⟨13, .false⟩), (.mov (.t 0))⟩,
  ⟨(.some 15), (.some ⟨13, .false⟩), (.len (.t 14))⟩,
  ⟨(.some 16), (.some ⟨13, .false⟩), (.bin .gtr (.t 15) (.c (.d (.int .i64 2001))))⟩,
  ⟨(.some 17), .none, (.pick (.t 13) (.c (.d (.bool .true))) (.t 16))⟩]
abbrev c_poundageref15_Of_r2 : List AO := [⟨(.some 18), .none, (.build [(.d (.int .i64 0)), (.nilsl 5)] [])⟩,
  ⟨.none, .none, (.store 2 (.t 2) (.t 18))⟩,
  ⟨(.some 3), .none, (.mov (.c (.d (.bool .false))))⟩]
abbrev c_poundageref15_Of_r3 : List AO := [⟨(.some 4), .none, (.mov (.c (.nilsl 0)))⟩]
abbrev c_poundageref15_Of_r4 : List AO := [⟨(.some 19), .none, (.mov (.t 0))⟩,
  ⟨(.some 20), .none, (.len (.t 19))⟩,
  ⟨(.some 21), .none, (.mov (.c (.d (.int .i64 0))))⟩]
abbrev c_poundageref15_Of_r5 : List AO := [⟨(.some 22), .none, (.bin .lss (.t 21) (.t 20))⟩]
abbrev c_poundageref15_Of_r6 : List AO := [⟨(.some 23), .none, (.mov (.t 21))⟩,
  ⟨(.some 24), .none, (.elemAddr 1 (.t 19) (.t 21))⟩,
  ⟨(.some 25), .none, (.load .none (.t 24))⟩,
  ⟨(.some 5), .none, (.mov (.t 23))⟩,
  ⟨(.some 6), .none, (.mov (.t 25))⟩]
abbrev c_poundageref15_Of_r7 : List AO := [⟨(.some 26), .none, (.mov (.t 6))⟩,
  ⟨(.some 27), .none, (.bin .gtr (.t 26) (.c (.d (.int .i64 2305843009213693952))))⟩,
  ⟨(.some 28), .none, (.mov (.t 27))⟩,
  ⟨(.some 29), (.some ⟨28, .false⟩), (.mov (.t 6))⟩,
  ⟨(.some 30), (.some ⟨28, .false⟩), (.bin .lss (.t 29) (.c (.d (.int .i64 (-2305843009213693952)))))⟩,
  ⟨(.some 31), .none, (.pick (.t 28) (.c (.d (.bool .true))) (.t 30))⟩]
abbrev c_poundageref15_Of_r8 : List AO := [⟨(.some 32), .none, (.build [(.d (.int .i64 0)), (.nilsl 5)] [])⟩,
  ⟨.none, .none, (.store 2 (.t 2) (.t 32))⟩,
  ⟨(.some 3), .none, (.mov (.c (.d (.bool .false))))⟩]
abbrev c_poundageref15_Of_r9 : List AO := [⟨(.some 33), .none, (.mov (.t 5))⟩,
  ⟨(.some 34), .none, (.bin .eql (.t 33) (.c (.d (.int .i64 0))))⟩,
  ⟨(.some 35), .none, (.mov (.t 34))⟩,
  ⟨(.some 36), (.some ⟨35, .false⟩), (.mov (.t 0))⟩,
  ⟨(.some 37), (.some ⟨35, .false⟩), (.mov (.t 5))⟩,
  ⟨(.some 38), (.some ⟨35, .false⟩), (.bin .sub (.t 37) (.c (.d (.int .i64 1))))⟩,
  ⟨(.some 39), (.some ⟨35, .false⟩), (.elemAddr 1 (.t 36) (.t 38))⟩,
  ⟨(.some 40), (.some ⟨35, .false⟩), (.load .none (.t 39))⟩,
  ⟨(.some 41), (.some ⟨35, .false⟩), (.mov (.t 6))⟩,
  ⟨(.some 42), (.some ⟨35, .false⟩), (.bin .neq (.t 40) (.t 41))⟩,
  ⟨(.some 43), .none, (.pick (.t 35) (.c (.d (.bool .true))) (.t 42))⟩]
abbrev c_poundageref15_Of_r10 : List AO := [⟨(.some 44), .none, (.mov (.t 4))⟩,
  ⟨(.some 45), .none, (.mov (.t 5))⟩,
  ⟨(.some 46), .none, (.buildSlice 3 1 1 [(.d (.int .i64 0))] [⟨0, (.t 45)⟩])⟩,
  ⟨(.some 47), .none, (.append 3 1 8 [(.d (.int .i64 0))] (.t 44) (.t 46))⟩,
  ⟨(.some 4), .none, (.mov (.t 47))⟩]
abbrev c_poundageref15_Of_r11 : List AO := [⟨(.some 48), .none, (.bin .add (.t 21) (.c (.d (.int .i64 1))))⟩,
  ⟨(.some 21), .none, (.mov (.t 48))⟩]
abbrev c_poundageref15_Of_l0 : ACode := (.seq (.ops c_poundageref15_Of_r5) (.seq (.cond (.t 22) .skip (.exit 0)) (.seq (.block 1 (.seq (.ops c_poundageref15_Of_r6) (.seq (.seq (.ops c_poundageref15_Of_r7) (.cond (.t 31) (.seq (.ops c_poundageref15_Of_r8) .ret) .skip)) (.seq (.ops c_poundageref15_Of_r9) (.cond (.t 43) (.ops c_poundageref15_Of_r10) .skip))))) (.ops c_poundageref15_Of_r11))))
abbrev c_poundageref15_Of_r12 : List AO := [⟨(.some 49), .none, (.mov (.t 0))⟩,
  ⟨(.some 50), .none, (.len (.t 49))⟩,
  ⟨(.some 51), .none, (.bin .sub (.t 50) (.c (.d (.int .i64 1))))⟩,
  ⟨(.some 52), .none, (.build [(.d (.int .i64 0)), (.nilsl 5)] [⟨0, ⟨1, (.t 51)⟩⟩])⟩,
  ⟨(.some 7), .none, (.alloc 26 [(.d (.int .i64 0)), (.nilsl 5)])⟩,
  ⟨.none, .none, (.store 2 (.t 7) (.t 52))⟩]
abbrev c_poundageref15_Of_r13 : List AO := [⟨(.some 8), .none, (.mov (.c (.d (.int .i64 0))))⟩]
abbrev c_poundageref15_Of_r14 : List AO := [⟨(.some 53), .none, (.mov (.t 8))⟩,
  ⟨(.some 54), .none, (.mov (.t 4))⟩,
  ⟨(.some 55), .none, (.len (.t 54))⟩,
  ⟨(.some 56), .none, (.bin .lss (.t 53) (.t 55))⟩]
abbrev c_poundageref15_Of_r15 : List AO := [⟨(.some 57), .none, (.mov (.t 4))⟩,
  ⟨(.some 58), .none, (.mov (.t 8))⟩,
  ⟨(.some 59), .none, (.elemAddr 1 (.t 57) (.t 58))⟩,
  ⟨(.some 61), .none, (.mov (.t 0))⟩,
  ⟨(.some 62), .none, (.mov (.t 4))⟩,
  ⟨(.some 63), .none, (.mov (.t 8))⟩,
  ⟨(.some 64), .none, (.elemAddr 1 (.t 62) (.t 63))⟩,
  ⟨(.some 60), .none, (.loadS .none (.t 59) [9])⟩,
  ⟨(.some 65), .none, (.loadS .none (.t 64) [9])⟩,
  ⟨(.some 66), .none, (.elemAddr 1 (.t 61) (.t 65))⟩,
  ⟨(.some 67), .none, (.loadS .none (.t 66) [9])⟩,
  ⟨(.some 68), .none, (.build [(.d (.int .i64 0)), (.d (.int .i64 0)), (.d (.int .i64 0)), (.d (.int .i64 0)), (.d (.int .i64 0))] [⟨0, ⟨1, (.t 60)⟩⟩, ⟨1, ⟨1, (.t 67)⟩⟩, ⟨4, ⟨1, (.c (.d (.int .i64 1)))⟩⟩])⟩,
  ⟨(.some 9), .none, (.alloc 42 [(.d (.int .i64 0)), (.d (.int .i64 0)), (.d (.int .i64 0)), (.d (.int .i64 0)), (.d (.int .i64 0))])⟩,
  ⟨.none, .none, (.storeS 5 9 (.t 68))⟩]
abbrev c_poundageref15_Of_r16 : List AO := [⟨(.some 69), .none, (.mov (.t 8))⟩,
  ⟨(.some 70), .none, (.bin .add (.t 69) (.c (.d (.int .i64 1))))⟩,
  ⟨(.some 71), .none, (.mov (.t 4))⟩,
  ⟨(.some 72), .none, (.len (.t 71))⟩,
  ⟨(.some 73), .none, (.bin .lss (.t 70) (.t 72))⟩]
abbrev c_poundageref15_Of_r17 : List AO := [⟨(.some 74), .none, (.mov (.t 4))⟩,
  ⟨(.some 75), .none, (.mov (.t 8))⟩,
  ⟨(.some 76), .none, (.bin .add (.t 75) (.c (.d (.int .i64 1))))⟩,
  ⟨(.some 77), .none, (.elemAddr 1 (.t 74) (.t 76))⟩,
  ⟨(.some 79), .none, (.mov (.t 4))⟩,
  ⟨(.some 80), .none, (.mov (.t 8))⟩,
  ⟨(.some 81), .none, (.elemAddr 1 (.t 79) (.t 80))⟩,
  ⟨(.some 78), .none, (.load .none (.t 77))⟩,
  ⟨(.some 82), .none, (.load .none (.t 81))⟩,
  ⟨(.some 83), .none, (.bin .sub (.t 78) (.t 82))⟩,
  ⟨(.some 84), .none, (.fieldAddr 2 (.t 9))⟩,
  ⟨.none, .none, (.store 1 (.t 84) (.t 83))⟩]
abbrev c_poundageref15_Of_r18 : List AO := [⟨(.some 85), .none, (.mov (.t 0))⟩,
  ⟨(.some 86), .none, (.mov (.t 4))⟩,
  ⟨(.some 87), .none, (.mov (.t 8))⟩,
  ⟨(.some 88), .none, (.bin .add (.t 87) (.c (.d (.int .i64 1))))⟩,
  ⟨(.some 89), .none, (.elemAddr 1 (.t 86) (.t 88))⟩,
  ⟨(.some 93), .none, (.fieldAddr 1 (.t 9))⟩,
  ⟨(.some 90), .none, (.load .none (.t 89))⟩,
  ⟨(.some 91), .none, (.elemAddr 1 (.t 85) (.t 90))⟩,
  ⟨(.some 92), .none, (.load .none (.t 91))⟩,
  ⟨(.some 94), .none, (.load .none (.t 93))⟩,
  ⟨(.some 95), .none, (.bin .sub (.t 92) (.t 94))⟩,
  ⟨(.some 96), .none, (.fieldAddr 3 (.t 9))⟩,
  ⟨.none, .none, (.store 1 (.t 96) (.t 95))⟩]
abbrev c_poundageref15_Of_r19 : List AO := [⟨(.some 97), .none, (.fieldAddr 4 (.t 9))⟩,
  ⟨.none, .none, (.store 1 (.t 97) (.c (.d (.int .i64 2))))⟩]
abbrev c_poundageref15_Of_r20 : List AO := [⟨(.some 98), .none, (.mov (.t 8))⟩,
  ⟨(.some 99), .none, (.fieldAddr 4 (.t 9))⟩,
  ⟨(.some 102), .none, (.mov (.t 4))⟩,
  ⟨(.some 103), .none, (.len (.t 102))⟩,
  ⟨(.some 100), .none, (.load .none (.t 99))⟩,
  ⟨(.some 101), .none, (.bin .add (.t 98) (.t 100))⟩,
  ⟨(.some 104), .none, (.bin .lss (.t 101) (.t 103))⟩,
  ⟨(.some 105), .none, (.mov (.t 104))⟩,
  ⟨(.some 106), (.some ⟨105, .true⟩), (.mov (.t 4))⟩,
  ⟨(.some 107), (.some ⟨105, .true⟩), (.mov (.t 8))⟩,
  ⟨(.some 108), (.some ⟨105, .true⟩), (.fieldAddr 4 (.t 9))⟩,
  ⟨(.some 113), (.some ⟨105, .true⟩), (.fieldAddr 0 (.t 9))⟩,
  ⟨(.some 115), (.some ⟨105, .true⟩), (.fieldAddr 4 (.t 9))⟩,
  ⟨(.some 117), (.some ⟨105, .true⟩), (.fieldAddr 2 (.t 9))⟩,
  ⟨(.some 109), (.some ⟨105, .true⟩), (.load .none (.t 108))⟩,
  ⟨(.some 110), (.some ⟨105, .true⟩), (.bin .add (.t 107) (.t 109))⟩,
  ⟨(.some 111), (.some ⟨105, .true⟩), (.elemAddr 1 (.t 106) (.t 110))⟩,
  ⟨(.some 112), (.some ⟨105, .true⟩), (.load .none (.t 111))⟩,
  ⟨(.some 114), (.some ⟨105, .true⟩), (.load .none (.t 113))⟩,
  ⟨(.some 116), (.some ⟨105, .true⟩), (.load .none (.t 115))⟩,
  ⟨(.some 118), (.some ⟨105, .true⟩), (.load .none (.t 117))⟩,
  ⟨(.some 119), (.some ⟨105, .true⟩), (.bin .mul (.t 116) (.t 118))⟩,
  ⟨(.some 120), (.some ⟨105, .true⟩), (.bin .add (.t 114) (.t 119))⟩,
  ⟨(.some 121), (.some ⟨105, .true⟩), (.bin .eql (.t 112) (.t 120))⟩,
  ⟨(.some 122), .none, (.pick (.t 105) (.t 121) (.c (.d (.bool .false))))⟩,
  ⟨(.some 123), .none, (.mov (.t 122))⟩,
  ⟨(.some 124), (.some ⟨123, .true⟩), (.mov (.t 0))⟩,
  ⟨(.some 125), (.some ⟨123, .true⟩), (.mov (.t 4))⟩,
  ⟨(.some 126), (.some ⟨123, .true⟩), (.mov (.t 8))⟩,
  ⟨(.some 127), (.some ⟨123, .true⟩), (.fieldAddr 4 (.t 9))⟩,
  ⟨(.some 134), (.some ⟨123, .true⟩), (.mov (.t 0))⟩,
  ⟨(.some 135), (.some ⟨123, .true⟩), (.mov (.t 4))⟩,
  ⟨(.some 136), (.some ⟨123, .true⟩), (.mov (.t 8))⟩,
  ⟨(.some 137), (.some ⟨123, .true⟩), (.fieldAddr 4 (.t 9))⟩,
  ⟨(.some 145), (.some ⟨123, .true⟩), (.fieldAddr 3 (.t 9))⟩,
  ⟨(.some 128), (.some ⟨123, .true⟩), (.load .none (.t 127))⟩,
  ⟨(.some 129), (.some ⟨123, .true⟩), (.bin .add (.t 126) (.t 128))⟩,
  ⟨(.some 130), (.some ⟨123, .true⟩), (.elemAddr 1 (.t 125) (.t 129))⟩,
  ⟨(.some 131), (.some ⟨123, .true⟩), (.load .none (.t 130))⟩,
  ⟨(.some 132), (.some ⟨123, .true⟩), (.elemAddr 1 (.t 124) (.t 131))⟩,
  ⟨(.some 133), (.some ⟨123, .true⟩), (.load .none (.t 132))⟩,
  ⟨(.some 138), (.some ⟨123, .true⟩), (.load .none (.t 137))⟩,
  ⟨(.some 139), (.some ⟨123, .true⟩), (.bin .add (.t 136) (.t 138))⟩,
  ⟨(.some 140), (.some ⟨123, .true⟩), (.bin .sub (.t 139) (.c (.d (.int .i64 1))))⟩,
  ⟨(.some 141), (.some ⟨123, .true⟩), (.elemAddr 1 (.t 135) (.t 140))⟩,
  ⟨(.some 142), (.some ⟨123, .true⟩), (.load .none (.t 141))⟩,
  ⟨(.some 143), (.some ⟨123, .true⟩), (.elemAddr 1 (.t 134) (.t 142))⟩,
  ⟨(.some 144), (.some ⟨123, .true⟩), (.load .none (.t 143))⟩,
  ⟨(.some 146), (.some ⟨123, .true⟩), (.load .none (.t 145))⟩,
  ⟨(.some 147), (.some ⟨123, .true⟩), (.bin .add (.t 144) (.t 146))⟩,
  ⟨(.some 148), (.some ⟨123, .true⟩), (.bin .eql (.t 133) (.t 147))⟩,
  ⟨(.some 149), .none, (.pick (.t 123) (.t 148) (.c (.d (.bool .false))))⟩]
abbrev c_poundageref15_Of_r21 : List AO := [⟨(.some 150), .none, (.fieldAddr 4 (.t 9))⟩,
  ⟨(.some 151), .none, (.load .none (.t 150))⟩,
  ⟨(.some 152), .none, (.bin .add (.t 151) (.c (.d (.int .i64 1))))⟩,
  ⟨(.some 153), .none, (.fieldAddr 4 (.t 9))⟩,
  ⟨.none, .none, (.store 1 (.t 153) (.t 152))⟩]
abbrev c_poundageref15_Of_l1 : ACode := (.seq (.seq (.dops c_poundageref15_Of_r20) (.cond (.t 149) .skip (.exit 4))) (.block 5 (.ops c_poundageref15_Of_r21)))
abbrev c_poundageref15_Of_r22 : List AO := [⟨(.some 154), .none, (.fieldAddr 1 (.t 7))⟩,
  ⟨(.some 155), .none, (.load .none (.t 154))⟩,
  ⟨(.some 156), .none, (.load (.some 5) (.t 9))⟩,
  ⟨(.some 157), .none, (.buildSlice 42 5 1 [(.d (.int .i64 0)), (.d (.int .i64 0)), (.d (.int .i64 0)), (.d (.int .i64 0)), (.d (.int .i64 0))] [⟨0, (.t 156)⟩])⟩,
  ⟨(.some 158), .none, (.append 42 5 40 [(.d (.int .i64 0)), (.d (.int .i64 0)), (.d (.int .i64 0)), (.d (.int .i64 0)), (.d (.int .i64 0))] (.t 155) (.t 157))⟩,
  ⟨(.some 159), .none, (.fieldAddr 1 (.t 7))⟩,
  ⟨.none, .none, (.store 1 (.t 159) (.t 158))⟩]
abbrev c_poundageref15_Of_r23 : List AO := [⟨(.some 160), .none, (.mov (.t 8))⟩,
  ⟨(.some 161), .none, (.fieldAddr 4 (.t 9))⟩,
  ⟨(.some 162), .none, (.load .none (.t 161))⟩,
  ⟨(.some 163), .none, (.bin .add (.t 160) (.t 162))⟩,
  ⟨(.some 8), .none, (.mov (.t 163))⟩]
abbrev c_poundageref15_Of_l2 : ACode := (.seq (.seq (.ops c_poundageref15_Of_r14) (.cond (.t 56) .skip (.exit 2))) (.block 3 (.seq (.dops c_poundageref15_Of_r15) (.seq (.seq (.ops c_poundageref15_Of_r16) (.cond (.t 73) (.seq (.dops c_poundageref15_Of_r17) (.seq (.dops c_poundageref15_Of_r18) (.seq (.ops c_poundageref15_Of_r19) (.block 4 (.loop c_poundageref15_Of_l1))))) .skip)) (.seq (.ops c_poundageref15_Of_r22) (.ops c_poundageref15_Of_r23))))))
abbrev c_poundageref15_Of_r24 : List AO := [⟨(.some 164), .none, (.load (.some 2) (.t 7))⟩,
  ⟨.none, .none, (.store 2 (.t 2) (.t 164))⟩,
  ⟨(.some 3), .none, (.mov (.c (.d (.bool .true))))⟩]
abbrev c_poundageref15_Of : AFunc := ⟨165, [(.cell 2 (.some 2)), (.tmp 3)], (.seq (.ops c_poundageref15_Of_r0) (.seq (.seq (.ops c_poundageref15_Of_r1) (.cond (.t 17) (.seq (.ops c_poundageref15_Of_r2) .ret) .skip)) (.seq (.ops c_poundageref15_Of_r3) (.seq (.seq (.ops c_poundageref15_Of_r4) (.block 0 (.loop c_poundageref15_Of_l0))) (.seq (.ops c_poundageref15_Of_r12) (.seq (.seq (.ops c_poundageref15_Of_r13) (.block 2 (.loop c_poundageref15_Of_l2))) (.seq (.ops c_poundageref15_Of_r24) .ret)))))))⟩
theorem comp_poundageref15_Of : funcC Try.prog 6 = some c_poundageref15_Of := by kernel_rfl
/-! function 7 : poundage extreme.Most -/
abbrev f_extreme_Most : FuncId := 7
abbrev c_extreme_Most_r0 : List AO := [⟨(.some 1), .none, (.box 26 (.t 0))⟩,
  ⟨(.some 2), .none, (.alloc 30 [(.d (.int .i64 0)), (.d (.int .i64 0))])⟩,
  ⟨(.some 3), .none, (.mov (.c (.d (.bool .false))))⟩]
abbrev c_extreme_Most_r1 : List AO := [⟨(.some 4), .none, (.load (.some 2) (.t 1))⟩,
  ⟨(.some 5), .none, (.call 11 [(.t 4), (.c (.fn 12 []))])⟩,
  ⟨(.some 6), .none, (.extract (.t 5) 0)⟩,
  ⟨(.some 7), .none, (.extract (.t 5) 1)⟩,
  ⟨.none, .none, (.store 2 (.t 2) (.t 6))⟩,
  ⟨(.some 3), .none, (.mov (.t 7))⟩]
abbrev c_extreme_Most : AFunc := ⟨8, [(.cell 2 (.some 2)), (.tmp 3)], (.seq (.ops c_extreme_Most_r0) (.seq (.ops c_extreme_Most_r1) .ret))⟩
theorem comp_extreme_Most : funcC Try.prog 7 = some c_extreme_Most := by kernel_rfl
/-! function 8 : poundage extreme.Least -/
abbrev f_extreme_Least : FuncId := 8
abbrev c_extreme_Least_r0 : List AO := [⟨(.some 1), .none, (.box 26 (.t 0))⟩,
  ⟨(.some 2), .none, (.alloc 30 [(.d (.int .i64 0)), (.d (.int .i64 0))])⟩,
  ⟨(.some 3), .none, (.mov (.c (.d (.bool .false))))⟩]
abbrev c_extreme_Least_r1 : List AO := [⟨(.some 4), .none, (.load (.some 2) (.t 1))⟩,
  ⟨(.some 5), .none, (.call 11 [(.t 4), (.c (.fn 13 []))])⟩,
  ⟨(.some 6), .none, (.extract (.t 5) 0)⟩,
  ⟨(.some 7), .none, (.extract (.t 5) 1)⟩,
  ⟨.none, .none, (.store 2 (.t 2) (.t 6))⟩,
  ⟨(.some 3), .none, (.mov (.t 7))⟩]
abbrev c_extreme_Least : AFunc := ⟨8, [(.cell 2 (.some 2)), (.tmp 3)], (.seq (.ops c_extreme_Least_r0) (.seq (.ops c_extreme_Least_r1) .ret))⟩
theorem comp_extreme_Least : funcC Try.prog 8 = some c_extreme_Least := by kernel_rfl
/-! function 9 : poundage extreme.Sum -/
abbrev f_extreme_Sum : FuncId := 9
abbrev c_extreme_Sum_r0 : List AO := [⟨(.some 4), .none, (.mov (.c (.d (.int .i64 0))))⟩,
  ⟨(.some 5), .none, (.mov (.c (.d (.bool .false))))⟩]
abbrev c_extreme_Sum_r1 : List AO := [⟨(.some 6), .none, (.mov (.c (.nilsl 0)))⟩]
abbrev c_extreme_Sum_r2 : List AO := [⟨(.some 11), .none, (.mov (.t 0))⟩,
  ⟨(.some 12), .none, (.len (.t 11))⟩,
  ⟨(.some 13), .none, (.mov (.c (.d (.int .i64 0))))⟩]
abbrev c_extreme_Sum_r3 : List AO := [⟨(.some 14), .none, (.bin .lss (.t 13) (.t 12))⟩]
abbrev c_extreme_Sum_r4 : List AO := [⟨(.some 15), .none, (.elemAddr 2 (.t 11) (.t 13))⟩,
  ⟨(.some 16), .none, (.load (.some 2) (.t 15))⟩,
  ⟨(.some 8), .none, (.alloc 26 [(.d (.int .i64 0)), (.nilsl 5)])⟩,
  ⟨.none, .none, (.store 2 (.t 8) (.t 16))⟩]
abbrev c_extreme_Sum_r5 : List AO := [⟨(.some 18), .none, (.mov (.t 1))⟩,
  ⟨(.some 19), .none, (.load (.some 2) (.t 8))⟩,
  ⟨(.some 20), .none, (.callv (.t 18) [(.t 19)])⟩,
  ⟨(.some 17), .none, (.mov (.t 20))⟩,
  ⟨(.some 21), .none, (.extract (.t 17) 0)⟩,
  ⟨(.some 22), .none, (.extract (.t 17) 1)⟩,
  ⟨(.some 9), .none, (.alloc 30 [(.d (.int .i64 0)), (.d (.int .i64 0))])⟩,
  ⟨.none, .none, (.store 2 (.t 9) (.t 21))⟩,
  ⟨(.some 10), .none, (.mov (.t 22))⟩]
abbrev c_extreme_Sum_r6 : List AO := [⟨(.some 23), .none, (.mov (.t 10))⟩,
  ⟨(.some 24), .none, (.un .not (.t 23))⟩]
abbrev c_extreme_Sum_r7 : List AO := [⟨(.some 4), .none, (.mov (.c (.d (.int .i64 0))))⟩,
  ⟨(.some 5), .none, (.mov (.c (.d (.bool .false))))⟩]
abbrev c_extreme_Sum_r8 : List AO := [⟨(.some 25), .none, (.mov (.t 6))⟩,
  ⟨(.some 26), .none, (.fieldAddr 0 (.t 9))⟩,
  ⟨(.some 27), .none, (.load .none (.t 26))⟩,
  ⟨(.some 28), .none, (.buildSlice 3 1 1 [(.d (.int .i64 0))] [⟨0, (.t 27)⟩])⟩,
  ⟨(.some 29), .none, (.append 3 1 8 [(.d (.int .i64 0))] (.t 25) (.t 28))⟩,
  ⟨(.some 6), .none, (.mov (.t 29))⟩]
abbrev c_extreme_Sum_r9 : List AO := [⟨(.some 30), .none, (.bin .add (.t 13) (.c (.d (.int .i64 1))))⟩,
  ⟨(.some 13), .none, (.mov (.t 30))⟩]
abbrev c_extreme_Sum_l0 : ACode := (.seq (.ops c_extreme_Sum_r3) (.seq (.cond (.t 14) .skip (.exit 0)) (.seq (.block 1 (.seq (.ops c_extreme_Sum_r4) (.seq (.ops c_extreme_Sum_r5) (.seq (.seq (.ops c_extreme_Sum_r6) (.cond (.t 24) (.seq (.ops c_extreme_Sum_r7) .ret) .skip)) (.ops c_extreme_Sum_r8))))) (.ops c_extreme_Sum_r9))))
abbrev c_extreme_Sum_r10 : List AO := [⟨(.some 31), .none, (.mov (.t 6))⟩,
  ⟨(.some 32), .none, (.call 14 [(.t 31)])⟩,
  ⟨(.some 33), .none, (.extract (.t 32) 0)⟩,
  ⟨(.some 34), .none, (.extract (.t 32) 1)⟩,
  ⟨(.some 4), .none, (.mov (.t 33))⟩,
  ⟨(.some 5), .none, (.mov (.t 34))⟩]
abbrev c_extreme_Sum : AFunc := ⟨35, [(.tmp 4), (.tmp 5)], (.seq (.ops c_extreme_Sum_r0) (.seq (.ops c_extreme_Sum_r1) (.seq (.seq (.ops c_extreme_Sum_r2) (.block 0 (.loop c_extreme_Sum_l0))) (.seq (.ops c_extreme_Sum_r10) .ret))))⟩
theorem comp_extreme_Sum : funcC Try.prog 9 = some c_extreme_Sum := by kernel_rfl
/-! function 10 : poundage extreme.First -/
abbrev f_extreme_First : FuncId := 10
abbrev c_extreme_First_r0 : List AO := [⟨(.some 2), .none, (.box 26 (.t 0))⟩,
  ⟨(.some 4), .none, (.mov (.c (.d (.int .i64 0))))⟩,
  ⟨(.some 5), .none, (.mov (.c (.d (.bool .false))))⟩]
abbrev c_extreme_First_r1 : List AO := [⟨(.some 9), .none, (.load (.some 2) (.t 2))⟩,
  ⟨(.some 10), .none, (.call 15 [(.t 9)])⟩,
  ⟨(.some 11), .none, (.un .not (.t 10))⟩]
abbrev c_extreme_First_r2 : List AO := [⟨(.some 4), .none, (.mov (.c (.d (.int .i64 0))))⟩,
  ⟨(.some 5), .none, (.mov (.c (.d (.bool .false))))⟩]
abbrev c_extreme_First_r3 : List AO := [⟨(.some 12), .none, (.fieldAddr 1 (.t 2))⟩,
  ⟨(.some 13), .none, (.load .none (.t 12))⟩,
  ⟨(.some 14), .none, (.len (.t 13))⟩,
  ⟨(.some 15), .none, (.mov (.c (.d (.int .i64 0))))⟩]
abbrev c_extreme_First_r4 : List AO := [⟨(.some 16), .none, (.bin .lss (.t 15) (.t 14))⟩]
abbrev c_extreme_First_r5 : List AO := [⟨(.some 17), .none, (.elemAddr 5 (.t 13) (.t 15))⟩,
  ⟨(.some 18), .none, (.load (.some 5) (.t 17))⟩,
  ⟨(.some 7), .none, (.alloc 42 [(.d (.int .i64 0)), (.d (.int .i64 0)), (.d (.int .i64 0)), (.d (.int .i64 0)), (.d (.int .i64 0))])⟩,
  ⟨.none, .none, (.store 5 (.t 7) (.t 18))⟩]
abbrev c_extreme_First_r6 : List AO := [⟨(.some 19), .none, (.fieldAddr 1 (.t 7))⟩,
  ⟨(.some 20), .none, (.load .none (.t 19))⟩,
  ⟨(.some 21), .none, (.mov (.t 1))⟩,
  ⟨(.some 22), .none, (.bin .gtr (.t 20) (.t 21))⟩]
abbrev c_extreme_First_r7 : List AO := [⟨(.some 23), .none, (.fieldAddr 0 (.t 7))⟩,
  ⟨(.some 24), .none, (.load .none (.t 23))⟩,
  ⟨(.some 4), .none, (.mov (.t 24))⟩,
  ⟨(.some 5), .none, (.mov (.c (.d (.bool .true))))⟩]
abbrev c_extreme_First_r8 : List AO := [⟨(.some 25), .none, (.fieldAddr 3 (.t 7))⟩,
  ⟨(.some 26), .none, (.load .none (.t 25))⟩,
  ⟨(.some 27), .none, (.bin .leq (.t 26) (.c (.d (.int .i64 0))))⟩]
abbrev c_extreme_First_r9 : List AO := [⟨(.some 28), .none, (.mov (.t 1))⟩,
  ⟨(.some 29), .none, (.fieldAddr 1 (.t 7))⟩,
  ⟨(.some 30), .none, (.load .none (.t 29))⟩,
  ⟨(.some 31), .none, (.bin .sub (.t 28) (.t 30))⟩,
  ⟨(.some 32), .none, (.fieldAddr 3 (.t 7))⟩,
  ⟨(.some 33), .none, (.load .none (.t 32))⟩,
  ⟨(.some 34), .none, (.bin .quo (.t 31) (.t 33))⟩,
  ⟨(.some 35), .none, (.bin .add (.t 34) (.c (.d (.int .i64 1))))⟩,
  ⟨(.some 8), .none, (.mov (.t 35))⟩]
abbrev c_extreme_First_r10 : List AO := [⟨(.some 36), .none, (.mov (.t 8))⟩,
  ⟨(.some 37), .none, (.fieldAddr 4 (.t 7))⟩,
  ⟨(.some 38), .none, (.load .none (.t 37))⟩,
  ⟨(.some 39), .none, (.bin .lss (.t 36) (.t 38))⟩]
abbrev c_extreme_First_r11 : List AO := [⟨(.some 40), .none, (.fieldAddr 0 (.t 7))⟩,
  ⟨(.some 41), .none, (.load .none (.t 40))⟩,
  ⟨(.some 42), .none, (.mov (.t 8))⟩,
  ⟨(.some 43), .none, (.fieldAddr 2 (.t 7))⟩,
  ⟨(.some 44), .none, (.load .none (.t 43))⟩,
  ⟨(.some 45), .none, (.bin .mul (.t 42) (.t 44))⟩,
  ⟨(.some 46), .none, (.bin .add (.t 41) (.t 45))⟩,
  ⟨(.some 4), .none, (.mov (.t 46))⟩,
  ⟨(.some 5), .none, (.mov (.c (.d (.bool .true))))⟩]
abbrev c_extreme_First_r12 : List AO := [⟨(.some 47), .none, (.bin .add (.t 15) (.c (.d (.int .i64 1))))⟩,
  ⟨(.some 15), .none, (.mov (.t 47))⟩]
abbrev c_extreme_First_l0 : ACode := (.seq (.ops c_extreme_First_r4) (.seq (.cond (.t 16) .skip (.exit 0)) (.seq (.block 1 (.seq (.ops c_extreme_First_r5) (.seq (.seq (.ops c_extreme_First_r6) (.cond (.t 22) (.seq (.ops c_extreme_First_r7) .ret) .skip)) (.seq (.seq (.ops c_extreme_First_r8) (.cond (.t 27) (.exit 1) .skip)) (.seq (.ops c_extreme_First_r9) (.seq (.ops c_extreme_First_r10) (.cond (.t 39) (.seq (.ops c_extreme_First_r11) .ret) .skip))))))) (.ops c_extreme_First_r12))))
abbrev c_extreme_First_r13 : List AO := [⟨(.some 4), .none, (.mov (.c (.d (.int .i64 0))))⟩,
  ⟨(.some 5), .none, (.mov (.c (.d (.bool .false))))⟩]
abbrev c_extreme_First : AFunc := ⟨48, [(.tmp 4), (.tmp 5)], (.seq (.ops c_extreme_First_r0) (.seq (.seq (.ops c_extreme_First_r1) (.cond (.t 11) (.seq (.ops c_extreme_First_r2) .ret) .skip)) (.seq (.seq (.ops c_extreme_First_r3) (.block 0 (.loop c_extreme_First_l0))) (.seq (.ops c_extreme_First_r13) .ret))))⟩
theorem comp_extreme_First : funcC Try.prog 10 = some c_extreme_First := by kernel_rfl
/-! function 11 : poundage extreme.find -/
abbrev f_extreme_find : FuncId := 11
abbrev c_extreme_find_r0 : List AO := [⟨(.some 2), .none, (.box 26 (.t 0))⟩,
  ⟨(.some 4), .none, (.alloc 30 [(.d (.int .i64 0)), (.d (.int .i64 0))])⟩,
  ⟨(.some 5), .none, (.mov (.c (.d (.bool .false))))⟩]
abbrev c_extreme_find_r1 : List AO := [⟨(.some 11), .none, (.load (.some 2) (.t 2))⟩,
  ⟨(.some 12), .none, (.call 15 [(.t 11)])⟩,
  ⟨(.some 13), .none, (.un .not (.t 12))⟩]
abbrev c_extreme_find_r2 : List AO := [⟨(.some 14), .none, (.build [(.d (.int .i64 0)), (.d (.int .i64 0))] [])⟩,
  ⟨.none, .none, (.store 2 (.t 4) (.t 14))⟩,
  ⟨(.some 5), .none, (.mov (.c (.d (.bool .false))))⟩]
abbrev c_extreme_find_r3 : List AO := [⟨(.some 15), .none, (.fieldAddr 1 (.t 2))⟩,
  ⟨(.some 16), .none, (.load .none (.t 15))⟩,
  ⟨(.some 17), .none, (.elemAddr 5 (.t 16) (.c (.d (.int .i64 0))))⟩,
  ⟨(.some 18), .none, (.load (.some 5) (.t 17))⟩,
  ⟨(.some 19), .none, (.call 16 [(.t 18)])⟩,
  ⟨(.some 20), .none, (.idxArr 2 2 (.some 2) (.t 19) (.c (.d (.int .i64 0))))⟩,
  ⟨(.some 6), .none, (.alloc 30 [(.d (.int .i64 0)), (.d (.int .i64 0))])⟩,
  ⟨.none, .none, (.store 2 (.t 6) (.t 20))⟩]
abbrev c_extreme_find_r4 : List AO := [⟨(.some 21), .none, (.fieldAddr 1 (.t 2))⟩,
  ⟨(.some 22), .none, (.load .none (.t 21))⟩,
  ⟨(.some 23), .none, (.len (.t 22))⟩,
  ⟨(.some 24), .none, (.mov (.c (.d (.int .i64 0))))⟩]
abbrev c_extreme_find_r5 : List AO := [⟨(.some 25), .none, (.bin .lss (.t 24) (.t 23))⟩]
abbrev c_extreme_find_r6 : List AO := [⟨(.some 26), .none, (.elemAddr 5 (.t 22) (.t 24))⟩,
  ⟨(.some 27), .none, (.load (.some 5) (.t 26))⟩,
  ⟨(.some 8), .none, (.alloc 42 [(.d (.int .i64 0)), (.d (.int .i64 0)), (.d (.int .i64 0)), (.d (.int .i64 0)), (.d (.int .i64 0))])⟩,
  ⟨.none, .none, (.store 5 (.t 8) (.t 27))⟩]
abbrev c_extreme_find_r7 : List AO := [⟨(.some 28), .none, (.load (.some 5) (.t 8))⟩,
  ⟨(.some 29), .none, (.call 16 [(.t 28)])⟩,
  ⟨(.some 30), .none, (.mov (.c (.d (.int .i64 0))))⟩]
abbrev c_extreme_find_r8 : List AO := [⟨(.some 31), .none, (.bin .lss (.t 30) (.c (.d (.int .i64 2))))⟩]
abbrev c_extreme_find_r9 : List AO := [⟨(.some 32), .none, (.idxArr 2 2 (.some 2) (.t 29) (.t 30))⟩,
  ⟨(.some 10), .none, (.alloc 30 [(.d (.int .i64 0)), (.d (.int .i64 0))])⟩,
  ⟨.none, .none, (.store 2 (.t 10) (.t 32))⟩]
abbrev c_extreme_find_r10 : List AO := [⟨(.some 33), .none, (.mov (.t 1))⟩,
  ⟨(.some 34), .none, (.fieldAddr 0 (.t 10))⟩,
  ⟨(.some 35), .none, (.load .none (.t 34))⟩,
  ⟨(.some 36), .none, (.fieldAddr 0 (.t 6))⟩,
  ⟨(.some 37), .none, (.load .none (.t 36))⟩,
  ⟨(.some 38), .none, (.callv (.t 33) [(.t 35), (.t 37)])⟩]
abbrev c_extreme_find_r11 : List AO := [⟨(.some 39), .none, (.load (.some 2) (.t 10))⟩,
  ⟨.none, .none, (.store 2 (.t 6) (.t 39))⟩]
abbrev c_extreme_find_r12 : List AO := [⟨(.some 40), .none, (.bin .add (.t 30) (.c (.d (.int .i64 1))))⟩,
  ⟨(.some 30), .none, (.mov (.t 40))⟩]
abbrev c_extreme_find_l0 : ACode := (.seq (.ops c_extreme_find_r8) (.seq (.cond (.t 31) .skip (.exit 2)) (.seq (.block 3 (.seq (.ops c_extreme_find_r9) (.seq (.ops c_extreme_find_r10) (.cond (.t 38) (.ops c_extreme_find_r11) .skip)))) (.ops c_extreme_find_r12))))
abbrev c_extreme_find_r13 : List AO := [⟨(.some 41), .none, (.bin .add (.t 24) (.c (.d (.int .i64 1))))⟩,
  ⟨(.some 24), .none, (.mov (.t 41))⟩]
abbrev c_extreme_find_l1 : ACode := (.seq (.ops c_extreme_find_r5) (.seq (.cond (.t 25) .skip (.exit 0)) (.seq (.block 1 (.seq (.ops c_extreme_find_r6) (.seq (.ops c_extreme_find_r7) (.block 2 (.loop c_extreme_find_l0))))) (.ops c_extreme_find_r13))))
abbrev c_extreme_find_r14 : List AO := [⟨(.some 42), .none, (.load (.some 2) (.t 6))⟩,
  ⟨.none, .none, (.store 2 (.t 4) (.t 42))⟩,
  ⟨(.some 5), .none, (.mov (.c (.d (.bool .true))))⟩]
abbrev c_extreme_find : AFunc := ⟨43, [(.cell 4 (.some 2)), (.tmp 5)], (.seq (.ops c_extreme_find_r0) (.seq (.seq (.ops c_extreme_find_r1) (.cond (.t 13) (.seq (.ops c_extreme_find_r2) .ret) .skip)) (.seq (.ops c_extreme_find_r3) (.seq (.seq (.ops c_extreme_find_r4) (.block 0 (.loop c_extreme_find_l1))) (.seq (.ops c_extreme_find_r14) .ret)))))⟩
theorem comp_extreme_find : funcC Try.prog 11 = some c_extreme_find := by kernel_rfl
/-! function 12 : poundage extreme.Most 1 -/
abbrev f_extreme_Most_1 : FuncId := 12
abbrev c_extreme_Most_1_r0 : List AO := [⟨(.some 4), .none, (.mov (.c (.d (.bool .false))))⟩]
abbrev c_extreme_Most_1_r1 : List AO := [⟨(.some 5), .none, (.mov (.t 0))⟩,
  ⟨(.some 6), .none, (.mov (.t 1))⟩,
  ⟨(.some 7), .none, (.bin .gtr (.t 5) (.t 6))⟩,
  ⟨(.some 4), .none, (.mov (.t 7))⟩]
abbrev c_extreme_Most_1 : AFunc := ⟨8, [(.tmp 4)], (.seq (.ops c_extreme_Most_1_r0) (.seq (.ops c_extreme_Most_1_r1) .ret))⟩
theorem comp_extreme_Most_1 : funcC Try.prog 12 = some c_extreme_Most_1 := by kernel_rfl
/-! function 13 : poundage extreme.Least 1 -/
abbrev f_extreme_Least_1 : FuncId := 13
abbrev c_extreme_Least_1_r0 : List AO := [⟨(.some 4), .none, (.mov (.c (.d (.bool .false))))⟩]
abbrev c_extreme_Least_1_r1 : List AO := [⟨(.some 5), .none, (.mov (.t 0))⟩,
  ⟨(.some 6), .none, (.mov (.t 1))⟩,
  ⟨(.some 7), .none, (.bin .lss (.t 5) (.t 6))⟩,
  ⟨(.some 4), .none, (.mov (.t 7))⟩]
abbrev c_extreme_Least_1 : AFunc := ⟨8, [(.tmp 4)], (.seq (.ops c_extreme_Least_1_r0) (.seq (.ops c_extreme_Least_1_r1) .ret))⟩
theorem comp_extreme_Least_1 : funcC Try.prog 13 = some c_extreme_Least_1 := by kernel_rfl
/-! function 14 : poundage exact.Sum -/
abbrev f_exact_Sum : FuncId := 14
abbrev c_exact_Sum_r0 : List AO := [⟨(.some 2), .none, (.mov (.c (.d (.int .i64 0))))⟩,
  ⟨(.some 3), .none, (.mov (.c (.d (.bool .false))))⟩]
abbrev c_exact_Sum_r1 : List AO := [⟨(.some 4), .none, (.mov (.c (.d (.int .i64 0))))⟩,
  ⟨(.some 5), .none, (.mov (.c (.d (.bool .true))))⟩]
abbrev c_exact_Sum_r2 : List AO := [⟨(.some 8), .none, (.mov (.t 0))⟩,
  ⟨(.some 9), .none, (.len (.t 8))⟩,
  ⟨(.some 10), .none, (.mov (.c (.d (.int .i64 0))))⟩]
abbrev c_exact_Sum_r3 : List AO := [⟨(.some 11), .none, (.bin .lss (.t 10) (.t 9))⟩]
abbrev c_exact_Sum_r4 : List AO := [⟨(.some 12), .none, (.elemAddr 1 (.t 8) (.t 10))⟩,
  ⟨(.some 13), .none, (.load .none (.t 12))⟩,
  ⟨(.some 7), .none, (.mov (.t 13))⟩]
abbrev c_exact_Sum_r5 : List AO := [⟨(.some 15), .none, (.mov (.t 4))⟩,
  ⟨(.some 16), .none, (.mov (.t 7))⟩,
  ⟨(.some 17), .none, (.call 17 [(.t 15), (.t 16)])⟩,
  ⟨(.some 14), .none, (.mov (.t 17))⟩,
  ⟨(.some 18), .none, (.extract (.t 14) 0)⟩,
  ⟨(.some 19), .none, (.extract (.t 14) 1)⟩,
  ⟨(.some 4), .none, (.mov (.t 18))⟩,
  ⟨(.some 5), .none, (.mov (.t 19))⟩]
abbrev c_exact_Sum_r6 : List AO := [⟨(.some 20), .none, (.mov (.t 5))⟩,
  ⟨(.some 21), .none, (.un .not (.t 20))⟩]
abbrev c_exact_Sum_r7 : List AO := [⟨(.some 2), .none, (.mov (.c (.d (.int .i64 0))))⟩,
  ⟨(.some 3), .none, (.mov (.c (.d (.bool .false))))⟩]
abbrev c_exact_Sum_r8 : List AO := [⟨(.some 22), .none, (.bin .add (.t 10) (.c (.d (.int .i64 1))))⟩,
  ⟨(.some 10), .none, (.mov (.t 22))⟩]
abbrev c_exact_Sum_l0 : ACode := (.seq (.ops c_exact_Sum_r3) (.seq (.cond (.t 11) .skip (.exit 0)) (.seq (.block 1 (.seq (.ops c_exact_Sum_r4) (.seq (.ops c_exact_Sum_r5) (.seq (.ops c_exact_Sum_r6) (.cond (.t 21) (.seq (.ops c_exact_Sum_r7) .ret) .skip))))) (.ops c_exact_Sum_r8))))
abbrev c_exact_Sum_r9 : List AO := [⟨(.some 23), .none, (.mov (.t 4))⟩,
  ⟨(.some 2), .none, (.mov (.t 23))⟩,
  ⟨(.some 3), .none, (.mov (.c (.d (.bool .true))))⟩]
abbrev c_exact_Sum : AFunc := ⟨24, [(.tmp 2), (.tmp 3)], (.seq (.ops c_exact_Sum_r0) (.seq (.ops c_exact_Sum_r1) (.seq (.seq (.ops c_exact_Sum_r2) (.block 0 (.loop c_exact_Sum_l0))) (.seq (.ops c_exact_Sum_r9) .ret))))⟩
theorem comp_exact_Sum : funcC Try.prog 14 = some c_exact_Sum := by kernel_rfl
/-! function 15 : poundage curve.Good -/
abbrev f_curve_Good : FuncId := 15
abbrev c_curve_Good_r0 : List AO := [⟨(.some 1), .none, (.box 26 (.t 0))⟩,
  ⟨(.some 2), .none, (.mov (.c (.d (.bool .false))))⟩]
abbrev c_curve_Good_r1 : List AO := [⟨(.some 8), .none, (.load (.some 2) (.t 1))⟩,
  ⟨(.some 9), .none, (.call 18 [(.t 8)])⟩,
  ⟨(.some 7), .none, (.mov (.t 9))⟩,
  ⟨(.some 10), .none, (.extract (.t 7) 0)⟩,
  ⟨(.some 11), .none, (.extract (.t 7) 1)⟩,
  ⟨(.some 3), .none, (.alloc 52 [(.nilsl 3)])⟩,
  ⟨.none, .none, (.store 1 (.t 3) (.t 10))⟩,
  ⟨(.some 4), .none, (.mov (.t 11))⟩]
abbrev c_curve_Good_r2 : List AO := [⟨(.some 12), .none, (.mov (.t 4))⟩,
  ⟨(.some 13), .none, (.un .not (.t 12))⟩]
abbrev c_curve_Good_r3 : List AO := [⟨(.some 2), .none, (.mov (.c (.d (.bool .false))))⟩]
abbrev c_curve_Good_r4 : List AO := [⟨(.some 15), .none, (.load (.some 1) (.t 3))⟩,
  ⟨(.some 16), .none, (.call 19 [(.t 15)])⟩,
  ⟨(.some 14), .none, (.mov (.t 16))⟩,
  ⟨(.some 17), .none, (.extract (.t 14) 0)⟩,
  ⟨(.some 18), .none, (.extract (.t 14) 1)⟩,
  ⟨(.some 5), .none, (.alloc 26 [(.d (.int .i64 0)), (.nilsl 5)])⟩,
  ⟨.none, .none, (.store 2 (.t 5) (.t 17))⟩,
  ⟨(.some 6), .none, (.mov (.t 18))⟩]
abbrev c_curve_Good_r5 : List AO := [⟨(.some 19), .none, (.mov (.t 6))⟩,
  ⟨(.some 20), .none, (.mov (.t 19))⟩,
  ⟨(.some 21), (.some ⟨20, .true⟩), (.load (.some 2) (.t 1))⟩,
  ⟨(.some 22), (.some ⟨20, .true⟩), (.load (.some 2) (.t 5))⟩,
  ⟨(.some 23), (.some ⟨20, .true⟩), (.call 20 [(.t 21), (.t 22)])⟩,
  ⟨(.some 24), .none, (.pick (.t 20) (.t 23) (.c (.d (.bool .false))))⟩,
  ⟨(.some 2), .none, (.mov (.t 24))⟩]
abbrev c_curve_Good : AFunc := ⟨25, [(.tmp 2)], (.seq (.ops c_curve_Good_r0) (.seq (.ops c_curve_Good_r1) (.seq (.seq (.ops c_curve_Good_r2) (.cond (.t 13) (.seq (.ops c_curve_Good_r3) .ret) .skip)) (.seq (.ops c_curve_Good_r4) (.seq (.ops c_curve_Good_r5) .ret)))))⟩
theorem comp_curve_Good : funcC Try.prog 15 = some c_curve_Good := by kernel_rfl
/-! function 16 : poundage extreme.ends -/
abbrev f_extreme_ends : FuncId := 16
abbrev c_extreme_ends_r0 : List AO := [⟨(.some 1), .none, (.box 42 (.t 0))⟩,
  ⟨(.some 2), .none, (.alloc 47 [(.d (.int .i64 0)), (.d (.int .i64 0)), (.d (.int .i64 0)), (.d (.int .i64 0))])⟩]
abbrev c_extreme_ends_r1 : List AO := [⟨(.some 3), .none, (.fieldAddr 1 (.t 1))⟩,
  ⟨(.some 4), .none, (.load .none (.t 3))⟩,
  ⟨(.some 5), .none, (.fieldAddr 0 (.t 1))⟩,
  ⟨(.some 6), .none, (.load .none (.t 5))⟩,
  ⟨(.some 7), .none, (.build [(.d (.int .i64 0)), (.d (.int .i64 0))] [⟨0, ⟨1, (.t 4)⟩⟩, ⟨1, ⟨1, (.t 6)⟩⟩])⟩,
  ⟨(.some 8), .none, (.fieldAddr 1 (.t 1))⟩,
  ⟨(.some 9), .none, (.load .none (.t 8))⟩,
  ⟨(.some 10), .none, (.fieldAddr 4 (.t 1))⟩,
  ⟨(.some 11), .none, (.load .none (.t 10))⟩,
  ⟨(.some 12), .none, (.bin .sub (.t 11) (.c (.d (.int .i64 1))))⟩,
  ⟨(.some 13), .none, (.fieldAddr 3 (.t 1))⟩,
  ⟨(.some 14), .none, (.load .none (.t 13))⟩,
  ⟨(.some 15), .none, (.bin .mul (.t 12) (.t 14))⟩,
  ⟨(.some 16), .none, (.bin .add (.t 9) (.t 15))⟩,
  ⟨(.some 17), .none, (.fieldAddr 0 (.t 1))⟩,
  ⟨(.some 18), .none, (.load .none (.t 17))⟩,
  ⟨(.some 19), .none, (.fieldAddr 4 (.t 1))⟩,
  ⟨(.some 20), .none, (.load .none (.t 19))⟩,
  ⟨(.some 21), .none, (.bin .sub (.t 20) (.c (.d (.int .i64 1))))⟩,
  ⟨(.some 22), .none, (.fieldAddr 2 (.t 1))⟩,
  ⟨(.some 23), .none, (.load .none (.t 22))⟩,
  ⟨(.some 24), .none, (.bin .mul (.t 21) (.t 23))⟩,
  ⟨(.some 25), .none, (.bin .add (.t 18) (.t 24))⟩,
  ⟨(.some 26), .none, (.build [(.d (.int .i64 0)), (.d (.int .i64 0))] [⟨0, ⟨1, (.t 16)⟩⟩, ⟨1, ⟨1, (.t 25)⟩⟩])⟩,
  ⟨(.some 27), .none, (.build [(.d (.int .i64 0)), (.d (.int .i64 0)), (.d (.int .i64 0)), (.d (.int .i64 0))] [⟨0, ⟨2, (.t 7)⟩⟩, ⟨2, ⟨2, (.t 26)⟩⟩])⟩,
  ⟨.none, .none, (.store 4 (.t 2) (.t 27))⟩]
abbrev c_extreme_ends : AFunc := ⟨28, [(.cell 2 (.some 4))], (.seq (.ops c_extreme_ends_r0) (.seq (.ops c_extreme_ends_r1) .ret))⟩
theorem comp_extreme_ends : funcC Try.prog 16 = some c_extreme_ends := by kernel_rfl
/-! function 17 : poundage exact.Add -/
abbrev f_exact_Add : FuncId := 17
abbrev c_exact_Add_r0 : List AO := [⟨(.some 4), .none, (.mov (.c (.d (.int .i64 0))))⟩,
  ⟨(.some 5), .none, (.mov (.c (.d (.bool .false))))⟩]
abbrev c_exact_Add_r1 : List AO := [⟨(.some 6), .none, (.mov (.t 1))⟩,
  ⟨(.some 7), .none, (.bin .gtr (.t 6) (.c (.d (.int .i64 0))))⟩,
  ⟨(.some 8), .none, (.mov (.t 7))⟩,
  ⟨(.some 9), (.some ⟨8, .true⟩), (.mov (.t 0))⟩,
  ⟨(.some 10), (.some ⟨8, .true⟩), (.mov (.t 1))⟩,
  ⟨(.some 11), (.some ⟨8, .true⟩), (.bin .sub (.c (.d (.int .i64 9223372036854775807))) (.t 10))⟩,
  ⟨(.some 12), (.some ⟨8, .true⟩), (.bin .gtr (.t 9) (.t 11))⟩,
  ⟨(.some 13), .none, (.pick (.t 8) (.t 12) (.c (.d (.bool .false))))⟩,
  ⟨(.some 14), .none, (.mov (.t 13))⟩,
  ⟨(.some 15), (.some ⟨14, .false⟩), (.mov (.t 1))⟩,
  ⟨(.some 16), (.some ⟨14, .false⟩), (.bin .lss (.t 15) (.c (.d (.int .i64 0))))⟩,
  ⟨(.some 17), (.some ⟨14, .false⟩), (.mov (.t 16))⟩,
  ⟨(.some 18), (.some ⟨17, .true⟩), (.mov (.t 0))⟩,
  ⟨(.some 19), (.some ⟨17, .true⟩), (.mov (.t 1))⟩,
  ⟨(.some 20), (.some ⟨17, .true⟩), (.bin .sub (.c (.d (.int .i64 (-9223372036854775808)))) (.t 19))⟩,
  ⟨(.some 21), (.some ⟨17, .true⟩), (.bin .lss (.t 18) (.t 20))⟩,
  ⟨(.some 22), (.some ⟨14, .false⟩), (.pick (.t 17) (.t 21) (.c (.d (.bool .false))))⟩,
  ⟨(.some 23), .none, (.pick (.t 14) (.c (.d (.bool .true))) (.t 22))⟩]
abbrev c_exact_Add_r2 : List AO := [⟨(.some 4), .none, (.mov (.c (.d (.int .i64 0))))⟩,
  ⟨(.some 5), .none, (.mov (.c (.d (.bool .false))))⟩]
abbrev c_exact_Add_r3 : List AO := [⟨(.some 24), .none, (.mov (.t 0))⟩,
  ⟨(.some 25), .none, (.mov (.t 1))⟩,
  ⟨(.some 26), .none, (.bin .add (.t 24) (.t 25))⟩,
  ⟨(.some 4), .none, (.mov (.t 26))⟩,
  ⟨(.some 5), .none, (.mov (.c (.d (.bool .true))))⟩]
abbrev c_exact_Add : AFunc := ⟨27, [(.tmp 4), (.tmp 5)], (.seq (.ops c_exact_Add_r0) (.seq (.seq (.ops c_exact_Add_r1) (.cond (.t 23) (.seq (.ops c_exact_Add_r2) .ret) .skip)) (.seq (.ops c_exact_Add_r3) .ret)))⟩
theorem comp_exact_Add : funcC Try.prog 17 = some c_exact_Add := by kernel_rfl
/-! function 18 : poundage curve.Line -/
abbrev f_curve_Line : FuncId := 18
abbrev c_curve_Line_r0 : List AO := [⟨(.some 1), .none, (.box 26 (.t 0))⟩,
  ⟨(.some 2), .none, (.alloc 52 [(.nilsl 3)])⟩,
  ⟨(.some 3), .none, (.mov (.c (.d (.bool .false))))⟩]
abbrev c_curve_Line_r1 : List AO := [⟨(.some 8), .none, (.fieldAddr 0 (.t 1))⟩,
  ⟨(.some 9), .none, (.load .none (.t 8))⟩,
  ⟨(.some 10), .none, (.bin .lss (.t 9) (.c (.d (.int .i64 0))))⟩,
  ⟨(.some 11), .none, (.mov (.t 10))⟩,
  ⟨(.some 12), (.some ⟨11, .false⟩), (.fieldAddr 0 (.t 1))⟩,
  ⟨(.some 13), (.some ⟨11, .false⟩), (.load .none (.t 12))⟩,
  ⟨(.some 14), (.some ⟨11, .false⟩), (.bin .gtr (.t 13) (.c (.d (.int .i64 2000))))⟩,
  ⟨(.some 15), .none, (.pick (.t 11) (.c (.d (.bool .true))) (.t 14))⟩,
  ⟨(.some 16), .none, (.mov (.t 15))⟩,
  ⟨(.some 17), (.some ⟨16, .false⟩), (.fieldAddr 1 (.t 1))⟩,
  ⟨(.some 18), (.some ⟨16, .false⟩), (.load .none (.t 17))⟩,
  ⟨(.some 19), (.some ⟨16, .false⟩), (.len (.t 18))⟩,
  ⟨(.some 20), (.some ⟨16, .false⟩), (.bin .eql (.t 19) (.c (.d (.int .i64 0))))⟩,
  ⟨(.some 21), .none, (.pick (.t 16) (.c (.d (.bool .true))) (.t 20))⟩,
  ⟨(.some 22), .none, (.mov (.t 21))⟩,
  ⟨(.some 23), (.some ⟨22, .false⟩), (.fieldAddr 1 (.t 1))⟩,
  ⟨(.some 24), (.some ⟨22, .false⟩), (.load .none (.t 23))⟩,
  ⟨(.some 25), (.some ⟨22, .false⟩), (.len (.t 24))⟩,
  ⟨(.some 26), (.some ⟨22, .false⟩), (.fieldAddr 0 (.t 1))⟩,
  ⟨(.some 27), (.some ⟨22, .false⟩), (.load .none (.t 26))⟩,
  ⟨(.some 28), (.some ⟨22, .false⟩), (.bin .add (.t 27) (.c (.d (.int .i64 1))))⟩,
  ⟨(.some 29), (.some ⟨22, .false⟩), (.bin .gtr (.t 25) (.t 28))⟩,
  ⟨(.some 30), .none, (.pick (.t 22) (.c (.d (.bool .true))) (.t 29))⟩,
  ⟨(.some 31), .none, (.mov (.t 30))⟩,
  ⟨(.some 32), (.some ⟨31, .false⟩), (.fieldAddr 1 (.t 1))⟩,
  ⟨(.some 33), (.some ⟨31, .false⟩), (.load .none (.t 32))⟩,
  ⟨(.some 34), (.some ⟨31, .false⟩), (.elemAddr 5 (.t 33) (.c (.d (.int .i64 0))))⟩,
  ⟨(.some 35), (.some ⟨31, .false⟩), (.fieldAddr 0 (.t 34))⟩,
  ⟨(.some 36), (.some ⟨31, .false⟩), (.load .none (.t 35))⟩,
  ⟨(.some 37), (.some ⟨31, .false⟩), (.bin .neq (.t 36) (.c (.d (.int .i64 0))))⟩,
  ⟨(.some 38), .none, (.pick (.t 31) (.c (.d (.bool .true))) (.t 37))⟩]
abbrev c_curve_Line_r2 : List AO := [⟨(.some 39), .none, (.build [(.nilsl 3)] [])⟩,
  ⟨.none, .none, (.store 1 (.t 2) (.t 39))⟩,
  ⟨(.some 3), .none, (.mov (.c (.d (.bool .false))))⟩]
abbrev c_curve_Line_r3 : List AO := [⟨(.some 4), .none, (.mov (.c (.nilsl 0)))⟩]
abbrev c_curve_Line_r4 : List AO := [⟨(.some 40), .none, (.fieldAddr 0 (.t 1))⟩,
  ⟨(.some 41), .none, (.load .none (.t 40))⟩,
  ⟨(.some 42), .none, (.bin .add (.t 41) (.c (.d (.int .i64 1))))⟩,
  ⟨(.some 43), .none, (.mov (.c (.d (.int .i64 0))))⟩]
abbrev c_curve_Line_r5 : List AO := [⟨(.some 44), .none, (.bin .lss (.t 43) (.t 42))⟩]
abbrev c_curve_Line_r6 : List AO := [⟨(.some 45), .none, (.mov (.t 43))⟩,
  ⟨(.some 5), .none, (.mov (.t 45))⟩]
abbrev c_curve_Line_r7 : List AO := [⟨(.some 47), .none, (.load (.some 2) (.t 1))⟩,
  ⟨(.some 48), .none, (.mov (.t 5))⟩,
  ⟨(.some 49), .none, (.call 21 [(.t 47), (.t 48)])⟩,
  ⟨(.some 46), .none, (.mov (.t 49))⟩,
  ⟨(.some 50), .none, (.extract (.t 46) 0)⟩,
  ⟨(.some 51), .none, (.extract (.t 46) 1)⟩,
  ⟨(.some 6), .none, (.mov (.t 50))⟩,
  ⟨(.some 7), .none, (.mov (.t 51))⟩]
abbrev c_curve_Line_r8 : List AO := [⟨(.some 52), .none, (.mov (.t 4))⟩,
  ⟨(.some 53), .none, (.mov (.t 6))⟩,
  ⟨(.some 54), .none, (.buildSlice 3 1 1 [(.d (.int .i64 0))] [⟨0, (.t 53)⟩])⟩,
  ⟨(.some 55), .none, (.append 3 1 8 [(.d (.int .i64 0))] (.t 52) (.t 54))⟩,
  ⟨(.some 4), .none, (.mov (.t 55))⟩]
abbrev c_curve_Line_r9 : List AO := [⟨(.some 56), .none, (.bin .add (.t 43) (.c (.d (.int .i64 1))))⟩,
  ⟨(.some 43), .none, (.mov (.t 56))⟩]
abbrev c_curve_Line_l0 : ACode := (.seq (.ops c_curve_Line_r5) (.seq (.cond (.t 44) .skip (.exit 0)) (.seq (.block 1 (.seq (.ops c_curve_Line_r6) (.seq (.ops c_curve_Line_r7) (.ops c_curve_Line_r8)))) (.ops c_curve_Line_r9))))
abbrev c_curve_Line_r10 : List AO := [⟨(.some 57), .none, (.mov (.t 4))⟩,
  ⟨(.some 58), .none, (.call 22 [(.c (.d (.int .i64 0))), (.t 57)])⟩,
  ⟨.none, .none, (.store 1 (.t 2) (.t 58))⟩,
  ⟨(.some 3), .none, (.mov (.c (.d (.bool .true))))⟩]
abbrev c_curve_Line : AFunc := ⟨59, [(.cell 2 (.some 1)), (.tmp 3)], (.seq (.ops c_curve_Line_r0) (.seq (.seq (.ops c_curve_Line_r1) (.cond (.t 38) (.seq (.ops c_curve_Line_r2) .ret) .skip)) (.seq (.ops c_curve_Line_r3) (.seq (.seq (.ops c_curve_Line_r4) (.block 0 (.loop c_curve_Line_l0))) (.seq (.ops c_curve_Line_r10) .ret)))))⟩
theorem comp_curve_Line : funcC Try.prog 18 = some c_curve_Line := by kernel_rfl
/-! function 19 : poundage curve.Of -/
abbrev f_curve_Of : FuncId := 19
abbrev c_curve_Of_r0 : List AO := [⟨(.some 1), .none, (.box 52 (.t 0))⟩,
  ⟨(.some 2), .none, (.alloc 26 [(.d (.int .i64 0)), (.nilsl 5)])⟩,
  ⟨(.some 3), .none, (.mov (.c (.d (.bool .false))))⟩]
abbrev c_curve_Of_r1 : List AO := [⟨(.some 12), .none, (.load (.some 1) (.t 1))⟩,
  ⟨(.some 13), .none, (.call 23 [(.t 12)])⟩,
  ⟨(.some 11), .none, (.mov (.t 13))⟩,
  ⟨(.some 14), .none, (.extract (.t 11) 0)⟩,
  ⟨(.some 15), .none, (.extract (.t 11) 1)⟩,
  ⟨(.some 16), .none, (.extract (.t 11) 2)⟩,
  ⟨(.some 4), .none, (.mov (.t 14))⟩,
  ⟨(.some 5), .none, (.mov (.t 15))⟩,
  ⟨(.some 6), .none, (.mov (.t 16))⟩]
abbrev c_curve_Of_r2 : List AO := [⟨(.some 17), .none, (.mov (.t 6))⟩,
  ⟨(.some 18), .none, (.un .not (.t 17))⟩,
  ⟨(.some 19), .none, (.mov (.t 18))⟩,
  ⟨(.some 20), (.some ⟨19, .false⟩), (.mov (.t 4))⟩,
  ⟨(.some 21), (.some ⟨19, .false⟩), (.bin .neq (.t 20) (.c (.d (.int .i64 0))))⟩,
  ⟨(.some 22), .none, (.pick (.t 19) (.c (.d (.bool .true))) (.t 21))⟩,
  ⟨(.some 23), .none, (.mov (.t 22))⟩,
  ⟨(.some 24), (.some ⟨23, .false⟩), (.mov (.t 5))⟩,
  ⟨(.some 25), (.some ⟨23, .false⟩), (.bin .gtr (.t 24) (.c (.d (.int .i64 2000))))⟩,
  ⟨(.some 26), .none, (.pick (.t 23) (.c (.d (.bool .true))) (.t 25))⟩]
abbrev c_curve_Of_r3 : List AO := [⟨(.some 27), .none, (.build [(.d (.int .i64 0)), (.nilsl 5)] [])⟩,
  ⟨.none, .none, (.store 2 (.t 2) (.t 27))⟩,
  ⟨(.some 3), .none, (.mov (.c (.d (.bool .false))))⟩]
abbrev c_curve_Of_r4 : List AO := [⟨(.some 28), .none, (.load (.some 1) (.t 1))⟩,
  ⟨(.some 29), .none, (.call 25 [(.t 28)])⟩,
  ⟨(.some 30), .none, (.call 24 [(.t 29)])⟩,
  ⟨(.some 7), .none, (.mov (.t 30))⟩]
abbrev c_curve_Of_r5 : List AO := [⟨(.some 31), .none, (.mov (.t 7))⟩,
  ⟨(.some 32), .none, (.call 26 [(.t 31), (.c (.fn 27 []))])⟩]
abbrev c_curve_Of_r6 : List AO := [⟨(.some 33), .none, (.build [(.d (.int .i64 0)), (.nilsl 5)] [])⟩,
  ⟨.none, .none, (.store 2 (.t 2) (.t 33))⟩,
  ⟨(.some 3), .none, (.mov (.c (.d (.bool .false))))⟩]
abbrev c_curve_Of_r7 : List AO := [⟨(.some 34), .none, (.mov (.t 5))⟩,
  ⟨(.some 35), .none, (.build [(.d (.int .i64 0)), (.nilsl 5)] [⟨0, ⟨1, (.t 34)⟩⟩])⟩,
  ⟨(.some 8), .none, (.alloc 26 [(.d (.int .i64 0)), (.nilsl 5)])⟩,
  ⟨.none, .none, (.store 2 (.t 8) (.t 35))⟩]
abbrev c_curve_Of_r8 : List AO := [⟨(.some 36), .none, (.mov (.t 7))⟩,
  ⟨(.some 37), .none, (.len (.t 36))⟩,
  ⟨(.some 38), .none, (.bin .gtr (.t 37) (.c (.d (.int .i64 0))))⟩]
abbrev c_curve_Of_r9 : List AO := [⟨(.some 40), .none, (.mov (.t 7))⟩,
  ⟨(.some 41), .none, (.call 28 [(.t 40)])⟩,
  ⟨(.some 39), .none, (.mov (.t 41))⟩,
  ⟨(.some 42), .none, (.extract (.t 39) 0)⟩,
  ⟨(.some 43), .none, (.extract (.t 39) 1)⟩,
  ⟨(.some 9), .none, (.alloc 42 [(.d (.int .i64 0)), (.d (.int .i64 0)), (.d (.int .i64 0)), (.d (.int .i64 0)), (.d (.int .i64 0))])⟩,
  ⟨.none, .none, (.store 5 (.t 9) (.t 42))⟩,
  ⟨(.some 10), .none, (.mov (.t 43))⟩]
abbrev c_curve_Of_r10 : List AO := [⟨(.some 44), .none, (.fieldAddr 1 (.t 8))⟩,
  ⟨(.some 45), .none, (.load .none (.t 44))⟩,
  ⟨(.some 46), .none, (.load (.some 5) (.t 9))⟩,
  ⟨(.some 47), .none, (.buildSlice 42 5 1 [(.d (.int .i64 0)), (.d (.int .i64 0)), (.d (.int .i64 0)), (.d (.int .i64 0)), (.d (.int .i64 0))] [⟨0, (.t 46)⟩])⟩,
  ⟨(.some 48), .none, (.append 42 5 40 [(.d (.int .i64 0)), (.d (.int .i64 0)), (.d (.int .i64 0)), (.d (.int .i64 0)), (.d (.int .i64 0))] (.t 45) (.t 47))⟩,
  ⟨(.some 49), .none, (.fieldAddr 1 (.t 8))⟩,
  ⟨.none, .none, (.store 1 (.t 49) (.t 48))⟩]
abbrev c_curve_Of_r11 : List AO := [⟨(.some 50), .none, (.mov (.t 7))⟩,
  ⟨(.some 51), .none, (.mov (.t 10))⟩,
  ⟨(.some 52), .none, (.slice 3 (.t 50) (.some (.t 51)) .none)⟩,
  ⟨(.some 7), .none, (.mov (.t 52))⟩]
abbrev c_curve_Of_l0 : ACode := (.seq (.seq (.ops c_curve_Of_r8) (.cond (.t 38) .skip (.exit 0))) (.block 1 (.seq (.ops c_curve_Of_r9) (.seq (.ops c_curve_Of_r10) (.ops c_curve_Of_r11)))))
abbrev c_curve_Of_r12 : List AO := [⟨(.some 53), .none, (.load (.some 2) (.t 8))⟩,
  ⟨.none, .none, (.store 2 (.t 2) (.t 53))⟩,
  ⟨(.some 3), .none, (.mov (.c (.d (.bool .true))))⟩]
abbrev c_curve_Of : AFunc := ⟨54, [(.cell 2 (.some 2)), (.tmp 3)], (.seq (.ops c_curve_Of_r0) (.seq (.ops c_curve_Of_r1) (.seq (.seq (.ops c_curve_Of_r2) (.cond (.t 26) (.seq (.ops c_curve_Of_r3) .ret) .skip)) (.seq (.ops c_curve_Of_r4) (.seq (.seq (.ops c_curve_Of_r5) (.cond (.t 32) (.seq (.ops c_curve_Of_r6) .ret) .skip)) (.seq (.ops c_curve_Of_r7) (.seq (.block 0 (.loop c_curve_Of_l0)) (.seq (.ops c_curve_Of_r12) .ret))))))))⟩
theorem comp_curve_Of : funcC Try.prog 19 = some c_curve_Of := by kernel_rfl
/-! function 20 : poundage curve.Same -/
abbrev f_curve_Same : FuncId := 20
abbrev c_curve_Same_r0 : List AO := [⟨(.some 2), .none, (.box 26 (.t 0))⟩,
  ⟨(.some 3), .none, (.box 26 (.t 1))⟩,
  ⟨(.some 4), .none, (.mov (.c (.d (.bool .false))))⟩]
abbrev c_curve_Same_r1 : List AO := [⟨(.some 5), .none, (.fieldAddr 0 (.t 2))⟩,
  ⟨(.some 6), .none, (.load .none (.t 5))⟩,
  ⟨(.some 7), .none, (.fieldAddr 0 (.t 3))⟩,
  ⟨(.some 8), .none, (.load .none (.t 7))⟩,
  ⟨(.some 9), .none, (.bin .eql (.t 6) (.t 8))⟩,
  ⟨(.some 10), .none, (.mov (.t 9))⟩,
  ⟨(.some 11), (.some ⟨10, .true⟩), (.fieldAddr 1 (.t 2))⟩,
  ⟨(.some 12), (.some ⟨10, .true⟩), (.load .none (.t 11))⟩,
  ⟨(.some 13), (.some ⟨10, .true⟩), (.fieldAddr 1 (.t 3))⟩,
  ⟨(.some 14), (.some ⟨10, .true⟩), (.load .none (.t 13))⟩,
  ⟨(.some 15), (.some ⟨10, .true⟩), (.call 29 [(.t 12), (.t 14)])⟩,
  ⟨(.some 16), .none, (.pick (.t 10) (.t 15) (.c (.d (.bool .false))))⟩,
  ⟨(.some 4), .none, (.mov (.t 16))⟩]
abbrev c_curve_Same : AFunc := ⟨17, [(.tmp 4)], (.seq (.ops c_curve_Same_r0) (.seq (.ops c_curve_Same_r1) .ret))⟩
theorem comp_curve_Same : funcC Try.prog 20 = some c_curve_Same := by kernel_rfl
/-! function 21 : poundage curve.At -/
abbrev f_curve_At : FuncId := 21
abbrev c_curve_At_r0 : List AO := [⟨(.some 2), .none, (.box 26 (.t 0))⟩,
  ⟨(.some 4), .none, (.mov (.c (.d (.int .i64 0))))⟩,
  ⟨(.some 5), .none, (.mov (.c (.d (.bool .false))))⟩]
abbrev c_curve_At_r1 : List AO := [⟨(.some 8), .none, (.mov (.t 1))⟩,
  ⟨(.some 9), .none, (.bin .lss (.t 8) (.c (.d (.int .i64 0))))⟩,
  ⟨(.some 10), .none, (.mov (.t 9))⟩,
  ⟨(.some 11), (.some ⟨10, .false⟩), (.mov (.t 1))⟩,
  ⟨(.some 12), (.some ⟨10, .false⟩), (.fieldAddr 0 (.t 2))⟩,
  ⟨(.some 13), (.some ⟨10, .false⟩), (.load .none (.t 12))⟩,
  ⟨(.some 14), (.some ⟨10, .false⟩), (.bin .gtr (.t 11) (.t 13))⟩,
  ⟨(.some 15), .none, (.pick (.t 10) (.c (.d (.bool .true))) (.t 14))⟩]
abbrev c_curve_At_r2 : List AO := [⟨(.some 4), .none, (.mov (.c (.d (.int .i64 0))))⟩,
  ⟨(.some 5), .none, (.mov (.c (.d (.bool .false))))⟩]
abbrev c_curve_At_r3 : List AO := [⟨(.some 16), .none, (.fieldAddr 1 (.t 2))⟩,
  ⟨(.some 17), .none, (.load .none (.t 16))⟩,
  ⟨(.some 18), .none, (.len (.t 17))⟩,
  ⟨(.some 19), .none, (.bin .sub (.t 18) (.c (.d (.int .i64 1))))⟩,
  ⟨(.some 6), .none, (.mov (.t 19))⟩]
abbrev c_curve_At_r4 : List AO := [⟨(.some 20), .none, (.mov (.t 6))⟩,
  ⟨(.some 21), .none, (.bin .geq (.t 20) (.c (.d (.int .i64 0))))⟩,
  ⟨(.some 22), .none, (.mov (.t 21))⟩,
  ⟨(.some 23), (.some ⟨22, .true⟩), (.fieldAddr 1 (.t 2))⟩,
  ⟨(.some 24), (.some ⟨22, .true⟩), (.load .none (.t 23))⟩,
  ⟨(.some 25), (.some ⟨22, .true⟩), (.mov (.t 6))⟩,
  ⟨(.some 26), (.some ⟨22, .true⟩), (.elemAddr 5 (.t 24) (.t 25))⟩,
  ⟨(.some 27), (.some ⟨22, .true⟩), (.fieldAddr 0 (.t 26))⟩,
  ⟨(.some 28), (.some ⟨22, .true⟩), (.load .none (.t 27))⟩,
  ⟨(.some 29), (.some ⟨22, .true⟩), (.mov (.t 1))⟩,
  ⟨(.some 30), (.some ⟨22, .true⟩), (.bin .gtr (.t 28) (.t 29))⟩,
  ⟨(.some 31), .none, (.pick (.t 22) (.t 30) (.c (.d (.bool .false))))⟩]
abbrev c_curve_At_r5 : List AO := [⟨(.some 32), .none, (.mov (.t 6))⟩,
  ⟨(.some 33), .none, (.bin .sub (.t 32) (.c (.d (.int .i64 1))))⟩,
  ⟨(.some 6), .none, (.mov (.t 33))⟩]
abbrev c_curve_At_l0 : ACode := (.seq (.seq (.ops c_curve_At_r4) (.cond (.t 31) .skip (.exit 0))) (.block 1 (.ops c_curve_At_r5)))
abbrev c_curve_At_r6 : List AO := [⟨(.some 34), .none, (.mov (.t 6))⟩,
  ⟨(.some 35), .none, (.bin .lss (.t 34) (.c (.d (.int .i64 0))))⟩]
abbrev c_curve_At_r7 : List AO := [⟨(.some 4), .none, (.mov (.c (.d (.int .i64 0))))⟩,
  ⟨(.some 5), .none, (.mov (.c (.d (.bool .false))))⟩]
abbrev c_curve_At_r8 : List AO := [⟨(.some 36), .none, (.fieldAddr 1 (.t 2))⟩,
  ⟨(.some 37), .none, (.load .none (.t 36))⟩,
  ⟨(.some 38), .none, (.mov (.t 6))⟩,
  ⟨(.some 39), .none, (.elemAddr 5 (.t 37) (.t 38))⟩,
  ⟨(.some 40), .none, (.load (.some 5) (.t 39))⟩,
  ⟨(.some 7), .none, (.alloc 42 [(.d (.int .i64 0)), (.d (.int .i64 0)), (.d (.int .i64 0)), (.d (.int .i64 0)), (.d (.int .i64 0))])⟩,
  ⟨.none, .none, (.store 5 (.t 7) (.t 40))⟩]
abbrev c_curve_At_r9 : List AO := [⟨(.some 41), .none, (.fieldAddr 2 (.t 7))⟩,
  ⟨(.some 42), .none, (.load .none (.t 41))⟩,
  ⟨(.some 43), .none, (.bin .lss (.t 42) (.c (.d (.int .i64 1))))⟩]
abbrev c_curve_At_r10 : List AO := [⟨(.some 44), .none, (.fieldAddr 1 (.t 7))⟩,
  ⟨(.some 45), .none, (.load .none (.t 44))⟩,
  ⟨(.some 4), .none, (.mov (.t 45))⟩,
  ⟨(.some 5), .none, (.mov (.c (.d (.bool .true))))⟩]
abbrev c_curve_At_r11 : List AO := [⟨(.some 46), .none, (.fieldAddr 1 (.t 7))⟩,
  ⟨(.some 48), .none, (.mov (.t 1))⟩,
  ⟨(.some 49), .none, (.fieldAddr 0 (.t 7))⟩,
  ⟨(.some 52), .none, (.fieldAddr 2 (.t 7))⟩,
  ⟨(.some 55), .none, (.fieldAddr 4 (.t 7))⟩,
  ⟨(.some 59), .none, (.fieldAddr 3 (.t 7))⟩,
  ⟨(.some 47), .none, (.load .none (.t 46))⟩,
  ⟨(.some 50), .none, (.load .none (.t 49))⟩,
  ⟨(.some 51), .none, (.bin .sub (.t 48) (.t 50))⟩,
  ⟨(.some 53), .none, (.load .none (.t 52))⟩,
  ⟨(.some 54), .none, (.bin .quo (.t 51) (.t 53))⟩,
  ⟨(.some 56), .none, (.load .none (.t 55))⟩,
  ⟨(.some 57), .none, (.bin .sub (.t 56) (.c (.d (.int .i64 1))))⟩,
  ⟨(.some 58), .none, (.minmax .false (.t 54) [(.t 57)])⟩,
  ⟨(.some 60), .none, (.load .none (.t 59))⟩,
  ⟨(.some 61), .none, (.bin .mul (.t 58) (.t 60))⟩,
  ⟨(.some 62), .none, (.bin .add (.t 47) (.t 61))⟩,
  ⟨(.some 4), .none, (.mov (.t 62))⟩,
  ⟨(.some 5), .none, (.mov (.c (.d (.bool .true))))⟩]
abbrev c_curve_At : AFunc := ⟨63, [(.tmp 4), (.tmp 5)], (.seq (.ops c_curve_At_r0) (.seq (.seq (.ops c_curve_At_r1) (.cond (.t 15) (.seq (.ops c_curve_At_r2) .ret) .skip)) (.seq (.ops c_curve_At_r3) (.seq (.block 0 (.loop c_curve_At_l0)) (.seq (.seq (.ops c_curve_At_r6) (.cond (.t 35) (.seq (.ops c_curve_At_r7) .ret) .skip)) (.seq (.ops c_curve_At_r8) (.seq (.seq (.ops c_curve_At_r9) (.cond (.t 43) (.seq (.ops c_curve_At_r10) .ret) .skip)) (.seq (.dops c_curve_At_r11) .ret))))))))⟩
theorem comp_curve_At : funcC Try.prog 21 = some c_curve_At := by kernel_rfl
/-! function 22 : poundage line.Of int  -/
abbrev f_line_Of_int : FuncId := 22
abbrev c_line_Of_int_r0 : List AO := [⟨(.some 4), .none, (.alloc 52 [(.nilsl 3)])⟩]
abbrev c_line_Of_int_r1 : List AO := [⟨(.some 5), .none, (.alloc 52 [(.nilsl 3)])⟩]
abbrev c_line_Of_int_r2 : List AO := [⟨(.some 8), .none, (.mov (.t 1))⟩,
  ⟨(.some 9), .none, (.len (.t 8))⟩,
  ⟨(.some 10), .none, (.mov (.c (.d (.int .i64 0))))⟩]
abbrev c_line_Of_int_r3 : List AO := [⟨(.some 11), .none, (.bin .lss (.t 10) (.t 9))⟩]
abbrev c_line_Of_int_r4 : List AO := [⟨(.some 12), .none, (.mov (.t 10))⟩,
  ⟨(.some 13), .none, (.elemAddr 1 (.t 8) (.t 10))⟩,
  ⟨(.some 14), .none, (.load .none (.t 13))⟩,
  ⟨(.some 6), .none, (.mov (.t 12))⟩,
  ⟨(.some 7), .none, (.mov (.t 14))⟩]
abbrev c_line_Of_int_r5 : List AO := [⟨(.some 15), .none, (.mov (.t 0))⟩,
  ⟨(.some 16), .none, (.mov (.t 6))⟩,
  ⟨(.some 17), .none, (.bin .add (.t 15) (.t 16))⟩,
  ⟨(.some 18), .none, (.mov (.t 0))⟩,
  ⟨(.some 19), .none, (.mov (.t 6))⟩,
  ⟨(.some 20), .none, (.bin .add (.t 18) (.t 19))⟩,
  ⟨(.some 21), .none, (.mov (.t 7))⟩,
  ⟨(.some 22), .none, (.build [(.d (.int .i64 0)), (.d (.int .i64 0)), (.d (.int .i64 0))] [⟨0, ⟨1, (.t 17)⟩⟩, ⟨1, ⟨1, (.t 20)⟩⟩, ⟨2, ⟨1, (.t 21)⟩⟩])⟩,
  ⟨(.some 23), .none, (.call 30 [(.t 5), (.t 22)])⟩]
abbrev c_line_Of_int_r6 : List AO := [⟨(.some 24), .none, (.bin .add (.t 10) (.c (.d (.int .i64 1))))⟩,
  ⟨(.some 10), .none, (.mov (.t 24))⟩]
abbrev c_line_Of_int_l0 : ACode := (.seq (.ops c_line_Of_int_r3) (.seq (.cond (.t 11) .skip (.exit 0)) (.seq (.block 1 (.seq (.ops c_line_Of_int_r4) (.ops c_line_Of_int_r5))) (.ops c_line_Of_int_r6))))
abbrev c_line_Of_int_r7 : List AO := [⟨(.some 25), .none, (.load (.some 1) (.t 5))⟩,
  ⟨.none, .none, (.store 1 (.t 4) (.t 25))⟩]
abbrev c_line_Of_int : AFunc := ⟨26, [(.cell 4 (.some 1))], (.seq (.ops c_line_Of_int_r0) (.seq (.ops c_line_Of_int_r1) (.seq (.seq (.ops c_line_Of_int_r2) (.block 0 (.loop c_line_Of_int_l0))) (.seq (.ops c_line_Of_int_r7) .ret))))⟩
theorem comp_line_Of_int : funcC Try.prog 22 = some c_line_Of_int := by kernel_rfl
/-! function 23 :  poundage line.Line int .Span -/
abbrev f_line_Line_int_Span : FuncId := 23
abbrev c_line_Line_int_Span_r0 : List AO := [⟨(.some 1), .none, (.box 52 (.t 0))⟩,
  ⟨(.some 2), .none, (.mov (.c (.d (.int .i64 0))))⟩,
  ⟨(.some 3), .none, (.mov (.c (.d (.int .i64 0))))⟩,
  ⟨(.some 4), .none, (.mov (.c (.d (.bool .false))))⟩]
abbrev c_line_Line_int_Span_r1 : List AO := [⟨(.some 5), .none, (.fieldAddr 0 (.t 1))⟩,
  ⟨(.some 6), .none, (.load .none (.t 5))⟩,
  ⟨(.some 7), .none, (.len (.t 6))⟩,
  ⟨(.some 8), .none, (.bin .eql (.t 7) (.c (.d (.int .i64 0))))⟩]
abbrev c_line_Line_int_Span_r2 : List AO := [⟨(.some 2), .none, (.mov (.c (.d (.int .i64 0))))⟩,
  ⟨(.some 3), .none, (.mov (.c (.d (.int .i64 0))))⟩,
  ⟨(.some 4), .none, (.mov (.c (.d (.bool .false))))⟩]
abbrev c_line_Line_int_Span_r3 : List AO := [⟨(.some 9), .none, (.fieldAddr 0 (.t 1))⟩,
  ⟨(.some 14), .none, (.fieldAddr 0 (.t 1))⟩,
  ⟨(.some 16), .none, (.fieldAddr 0 (.t 1))⟩,
  ⟨(.some 10), .none, (.load .none (.t 9))⟩,
  ⟨(.some 11), .none, (.elemAddr 3 (.t 10) (.c (.d (.int .i64 0))))⟩,
  ⟨(.some 12), .none, (.fieldAddr 0 (.t 11))⟩,
  ⟨(.some 13), .none, (.load .none (.t 12))⟩,
  ⟨(.some 2), .none, (.mov (.t 13))⟩,
  ⟨(.some 15), .none, (.load .none (.t 14))⟩,
  ⟨(.some 17), .none, (.load .none (.t 16))⟩,
  ⟨(.some 18), .none, (.len (.t 17))⟩,
  ⟨(.some 19), .none, (.bin .sub (.t 18) (.c (.d (.int .i64 1))))⟩,
  ⟨(.some 20), .none, (.elemAddr 3 (.t 15) (.t 19))⟩,
  ⟨(.some 21), .none, (.fieldAddr 1 (.t 20))⟩,
  ⟨(.some 22), .none, (.load .none (.t 21))⟩,
  ⟨(.some 3), .none, (.mov (.t 22))⟩,
  ⟨(.some 4), .none, (.mov (.c (.d (.bool .true))))⟩]
abbrev c_line_Line_int_Span : AFunc := ⟨23, [(.tmp 2), (.tmp 3), (.tmp 4)], (.seq (.ops c_line_Line_int_Span_r0) (.seq (.seq (.ops c_line_Line_int_Span_r1) (.cond (.t 8) (.seq (.ops c_line_Line_int_Span_r2) .ret) .skip)) (.seq (.dops c_line_Line_int_Span_r3) .ret)))⟩
theorem comp_line_Line_int_Span : funcC Try.prog 23 = some c_line_Line_int_Span := by kernel_rfl
/-! function 24 : slices.Collect poundage line.Run int  -/
abbrev f_slices_Collect_line_Run_int_ : FuncId := 24
abbrev c_slices_Collect_line_Run_int__r0 : List AO := [⟨(.some 2), .none, (.mov (.c (.nilsl 0)))⟩]
abbrev c_slices_Collect_line_Run_int__r1 : List AO := [⟨(.some 3), .none, (.mov (.t 0))⟩,
  ⟨(.some 4), .none, (.call 31 [(.c (.nilsl 0)), (.t 3)])⟩,
  ⟨(.some 2), .none, (.mov (.t 4))⟩]
abbrev c_slices_Collect_line_Run_int_ : AFunc := ⟨5, [(.tmp 2)], (.seq (.ops c_slices_Collect_line_Run_int__r0) (.seq (.ops c_slices_Collect_line_Run_int__r1) .ret))⟩
theorem comp_slices_Collect_line_Run_int_ : funcC Try.prog 24 = some c_slices_Collect_line_Run_int_ := by kernel_rfl
/-! function 25 :  poundage line.Line int .Runs -/
abbrev f_line_Line_int_Runs : FuncId := 25
abbrev c_line_Line_int_Runs_r0 : List AO := [⟨(.some 1), .none, (.box 52 (.t 0))⟩,
  ⟨(.some 2), .none, (.mov (.c .nilfn))⟩]
abbrev c_line_Line_int_Runs_r1 : List AO := [⟨(.some 3), .none, (.fieldAddr 0 (.t 1))⟩,
  ⟨(.some 4), .none, (.load .none (.t 3))⟩,
  ⟨(.some 5), .none, (.call 32 [(.t 4)])⟩,
  ⟨(.some 2), .none, (.mov (.t 5))⟩]
abbrev c_line_Line_int_Runs : AFunc := ⟨6, [(.tmp 2)], (.seq (.ops c_line_Line_int_Runs_r0) (.seq (.ops c_line_Line_int_Runs_r1) .ret))⟩
theorem comp_line_Line_int_Runs : funcC Try.prog 25 = some c_line_Line_int_Runs := by kernel_rfl
/-! function 26 : slices.ContainsFunc poundage line.Run int poundage line.Run int  -/
abbrev f_slices_ContainsFunc_line_Run_int_ : FuncId := 26
abbrev c_slices_ContainsFunc_line_Run_int__r0 : List AO := [⟨(.some 4), .none, (.mov (.c (.d (.bool .false))))⟩]
abbrev c_slices_ContainsFunc_line_Run_int__r1 : List AO := [⟨(.some 5), .none, (.mov (.t 0))⟩,
  ⟨(.some 6), .none, (.mov (.t 1))⟩,
  ⟨(.some 7), .none, (.call 33 [(.t 5), (.t 6)])⟩,
  ⟨(.some 8), .none, (.bin .geq (.t 7) (.c (.d (.int .i64 0))))⟩,
  ⟨(.some 4), .none, (.mov (.t 8))⟩]
abbrev c_slices_ContainsFunc_line_Run_int_ : AFunc := ⟨9, [(.tmp 4)], (.seq (.ops c_slices_ContainsFunc_line_Run_int__r0) (.seq (.ops c_slices_ContainsFunc_line_Run_int__r1) .ret))⟩
theorem comp_slices_ContainsFunc_line_Run_int_ : funcC Try.prog 26 = some c_slices_ContainsFunc_line_Run_int_ := by kernel_rfl
/-! function 27 : poundage curve.Of 1 -/
abbrev f_curve_Of_1 : FuncId := 27
abbrev c_curve_Of_1_r0 : List AO := [⟨(.some 1), .none, (.box 62 (.t 0))⟩,
  ⟨(.some 2), .none, (.mov (.c (.d (.bool .false))))⟩]
abbrev c_curve_Of_1_r1 : List AO := [⟨(.some 3), .none, (.fieldAddr 2 (.t 1))⟩,
  ⟨(.some 4), .none, (.load .none (.t 3))⟩,
  ⟨(.some 5), .none, (.bin .lss (.t 4) (.c (.d (.int .i64 (-2305843009213693952)))))⟩,
  ⟨(.some 6), .none, (.mov (.t 5))⟩,
  ⟨(.some 7), (.some ⟨6, .false⟩), (.fieldAddr 2 (.t 1))⟩,
  ⟨(.some 8), (.some ⟨6, .false⟩), (.load .none (.t 7))⟩,
  ⟨(.some 9), (.some ⟨6, .false⟩), (.bin .gtr (.t 8) (.c (.d (.int .i64 2305843009213693952))))⟩,
  ⟨(.some 10), .none, (.pick (.t 6) (.c (.d (.bool .true))) (.t 9))⟩,
  ⟨(.some 2), .none, (.mov (.t 10))⟩]
abbrev c_curve_Of_1 : AFunc := ⟨11, [(.tmp 2)], (.seq (.ops c_curve_Of_1_r0) (.seq (.ops c_curve_Of_1_r1) .ret))⟩
theorem comp_curve_Of_1 : funcC Try.prog 27 = some c_curve_Of_1 := by kernel_rfl
/-! function 28 : poundage curve.group -/
abbrev f_curve_group : FuncId := 28
abbrev c_curve_group_r0 : List AO := [⟨(.some 2), .none, (.alloc 42 [(.d (.int .i64 0)), (.d (.int .i64 0)), (.d (.int .i64 0)), (.d (.int .i64 0)), (.d (.int .i64 0))])⟩,
  ⟨(.some 3), .none, (.mov (.c (.d (.int .i64 0))))⟩]
abbrev c_curve_group_r1 : List AO := [⟨(.some 7), .none, (.mov (.t 0))⟩,
  ⟨(.some 8), .none, (.elemAddr 3 (.t 7) (.c (.d (.int .i64 0))))⟩,
  ⟨(.some 9), .none, (.fieldAddr 0 (.t 8))⟩,
  ⟨(.some 11), .none, (.mov (.t 0))⟩,
  ⟨(.some 12), .none, (.elemAddr 3 (.t 11) (.c (.d (.int .i64 0))))⟩,
  ⟨(.some 13), .none, (.fieldAddr 2 (.t 12))⟩,
  ⟨(.some 10), .none, (.loadS .none (.t 9) [4])⟩,
  ⟨(.some 14), .none, (.loadS .none (.t 13) [4])⟩,
  ⟨(.some 15), .none, (.build [(.d (.int .i64 0)), (.d (.int .i64 0)), (.d (.int .i64 0)), (.d (.int .i64 0)), (.d (.int .i64 0))] [⟨0, ⟨1, (.t 10)⟩⟩, ⟨1, ⟨1, (.t 14)⟩⟩, ⟨4, ⟨1, (.c (.d (.int .i64 1)))⟩⟩])⟩,
  ⟨(.some 4), .none, (.alloc 42 [(.d (.int .i64 0)), (.d (.int .i64 0)), (.d (.int .i64 0)), (.d (.int .i64 0)), (.d (.int .i64 0))])⟩,
  ⟨.none, .none, (.storeS 5 4 (.t 15))⟩]
abbrev c_curve_group_r2 : List AO := [⟨(.some 16), .none, (.mov (.t 0))⟩,
  ⟨(.some 17), .none, (.len (.t 16))⟩,
  ⟨(.some 18), .none, (.bin .eql (.t 17) (.c (.d (.int .i64 1))))⟩]
abbrev c_curve_group_r3 : List AO := [⟨(.some 19), .none, (.load (.some 5) (.t 4))⟩,
  ⟨.none, .none, (.store 5 (.t 2) (.t 19))⟩,
  ⟨(.some 3), .none, (.mov (.c (.d (.int .i64 1))))⟩]
abbrev c_curve_group_r4 : List AO := [⟨(.some 20), .none, (.mov (.t 0))⟩,
  ⟨(.some 21), .none, (.elemAddr 3 (.t 20) (.c (.d (.int .i64 1))))⟩,
  ⟨(.some 22), .none, (.fieldAddr 0 (.t 21))⟩,
  ⟨(.some 24), .none, (.mov (.t 0))⟩,
  ⟨(.some 25), .none, (.elemAddr 3 (.t 24) (.c (.d (.int .i64 0))))⟩,
  ⟨(.some 26), .none, (.fieldAddr 0 (.t 25))⟩,
  ⟨(.some 29), .none, (.mov (.t 0))⟩,
  ⟨(.some 30), .none, (.elemAddr 3 (.t 29) (.c (.d (.int .i64 1))))⟩,
  ⟨(.some 31), .none, (.fieldAddr 2 (.t 30))⟩,
  ⟨(.some 32), .none, (.loadD .none (.t 31))⟩,
  ⟨(.some 33), .none, (.mov (.t 0))⟩,
  ⟨(.some 34), .none, (.elemAddr 3 (.t 33) (.c (.d (.int .i64 0))))⟩,
  ⟨(.some 35), .none, (.fieldAddr 2 (.t 34))⟩,
  ⟨(.some 36), .none, (.loadD .none (.t 35))⟩,
  ⟨(.some 37), .none, (.bin .sub (.t 32) (.t 36))⟩,
  ⟨(.some 23), .none, (.load .none (.t 22))⟩,
  ⟨(.some 27), .none, (.load .none (.t 26))⟩,
  ⟨(.some 28), .none, (.bin .sub (.t 23) (.t 27))⟩,
  ⟨(.some 38), .none, (.fieldAddr 2 (.t 4))⟩,
  ⟨.none, .none, (.store 1 (.t 38) (.t 28))⟩,
  ⟨(.some 39), .none, (.fieldAddr 3 (.t 4))⟩,
  ⟨.none, .none, (.store 1 (.t 39) (.t 37))⟩]
abbrev c_curve_group_r5 : List AO := [⟨(.some 40), .none, (.fieldAddr 4 (.t 4))⟩,
  ⟨(.some 41), .none, (.load .none (.t 40))⟩,
  ⟨(.some 42), .none, (.mov (.t 0))⟩,
  ⟨(.some 43), .none, (.len (.t 42))⟩,
  ⟨(.some 44), .none, (.bin .lss (.t 41) (.t 43))⟩]
abbrev c_curve_group_r6 : List AO := [⟨(.some 45), .none, (.mov (.t 0))⟩,
  ⟨(.some 46), .none, (.fieldAddr 4 (.t 4))⟩,
  ⟨(.some 51), .none, (.mov (.t 0))⟩,
  ⟨(.some 52), .none, (.fieldAddr 4 (.t 4))⟩,
  ⟨(.some 47), .none, (.loadS .none (.t 46) [5, 6])⟩,
  ⟨(.some 48), .none, (.bin .sub (.t 47) (.c (.d (.int .i64 1))))⟩,
  ⟨(.some 49), .none, (.elemAddr 3 (.t 45) (.t 48))⟩,
  ⟨(.some 50), .none, (.loadS (.some 3) (.t 49) [5, 6])⟩,
  ⟨(.some 53), .none, (.loadS .none (.t 52) [5, 6])⟩,
  ⟨(.some 54), .none, (.elemAddr 3 (.t 51) (.t 53))⟩,
  ⟨(.some 55), .none, (.loadS (.some 3) (.t 54) [5, 6])⟩,
  ⟨(.some 5), .none, (.alloc 62 [(.d (.int .i64 0)), (.d (.int .i64 0)), (.d (.int .i64 0))])⟩,
  ⟨(.some 6), .none, (.alloc 62 [(.d (.int .i64 0)), (.d (.int .i64 0)), (.d (.int .i64 0))])⟩,
  ⟨.none, .none, (.storeS 3 5 (.t 50))⟩,
  ⟨.none, .none, (.storeS 3 6 (.t 55))⟩]
abbrev c_curve_group_r7 : List AO := [⟨(.some 56), .none, (.fieldAddr 0 (.t 6))⟩,
  ⟨(.some 57), .none, (.load .none (.t 56))⟩,
  ⟨(.some 58), .none, (.fieldAddr 0 (.t 5))⟩,
  ⟨(.some 59), .none, (.load .none (.t 58))⟩,
  ⟨(.some 60), .none, (.bin .sub (.t 57) (.t 59))⟩,
  ⟨(.some 61), .none, (.fieldAddr 2 (.t 4))⟩,
  ⟨(.some 62), .none, (.load .none (.t 61))⟩,
  ⟨(.some 63), .none, (.bin .neq (.t 60) (.t 62))⟩,
  ⟨(.some 64), .none, (.mov (.t 63))⟩,
  ⟨(.some 65), (.some ⟨64, .false⟩), (.fieldAddr 2 (.t 6))⟩,
  ⟨(.some 66), (.some ⟨64, .false⟩), (.load .none (.t 65))⟩,
  ⟨(.some 67), (.some ⟨64, .false⟩), (.fieldAddr 2 (.t 5))⟩,
  ⟨(.some 68), (.some ⟨64, .false⟩), (.load .none (.t 67))⟩,
  ⟨(.some 69), (.some ⟨64, .false⟩), (.bin .sub (.t 66) (.t 68))⟩,
  ⟨(.some 70), (.some ⟨64, .false⟩), (.fieldAddr 3 (.t 4))⟩,
  ⟨(.some 71), (.some ⟨64, .false⟩), (.load .none (.t 70))⟩,
  ⟨(.some 72), (.some ⟨64, .false⟩), (.bin .neq (.t 69) (.t 71))⟩,
  ⟨(.some 73), .none, (.pick (.t 64) (.c (.d (.bool .true))) (.t 72))⟩]
abbrev c_curve_group_r8 : List AO := [⟨(.some 74), .none, (.fieldAddr 4 (.t 4))⟩,
  ⟨(.some 75), .none, (.load .none (.t 74))⟩,
  ⟨(.some 76), .none, (.bin .add (.t 75) (.c (.d (.int .i64 1))))⟩,
  ⟨(.some 77), .none, (.fieldAddr 4 (.t 4))⟩,
  ⟨.none, .none, (.store 1 (.t 77) (.t 76))⟩]
abbrev c_curve_group_l0 : ACode := (.seq (.seq (.ops c_curve_group_r5) (.cond (.t 44) .skip (.exit 0))) (.block 1 (.seq (.dops c_curve_group_r6) (.seq (.seq (.ops c_curve_group_r7) (.cond (.t 73) (.exit 0) .skip)) (.ops c_curve_group_r8)))))
abbrev c_curve_group_r9 : List AO := [⟨(.some 79), .none, (.fieldAddr 4 (.t 4))⟩,
  ⟨(.some 78), .none, (.loadS (.some 5) (.t 4) [2])⟩,
  ⟨(.some 80), .none, (.loadS .none (.t 79) [2])⟩,
  ⟨.none, .none, (.storeS 5 2 (.t 78))⟩,
  ⟨(.some 3), .none, (.mov (.t 80))⟩]
abbrev c_curve_group : AFunc := ⟨81, [(.cell 2 (.some 5)), (.tmp 3)], (.seq (.ops c_curve_group_r0) (.seq (.dops c_curve_group_r1) (.seq (.seq (.ops c_curve_group_r2) (.cond (.t 18) (.seq (.ops c_curve_group_r3) .ret) .skip)) (.seq (.dops c_curve_group_r4) (.seq (.block 0 (.loop c_curve_group_l0)) (.seq (.dops c_curve_group_r9) .ret))))))⟩
theorem comp_curve_group : funcC Try.prog 28 = some c_curve_group := by kernel_rfl
/-! function 29 : slices.Equal poundage api.Group poundage api.Group  -/
abbrev f_slices_Equal_api_Group : FuncId := 29
abbrev c_slices_Equal_api_Group_r0 : List AO := [⟨(.some 4), .none, (.mov (.c (.d (.bool .false))))⟩]
abbrev c_slices_Equal_api_Group_r1 : List AO := [⟨(.some 6), .none, (.mov (.t 0))⟩,
  ⟨(.some 7), .none, (.len (.t 6))⟩,
  ⟨(.some 8), .none, (.mov (.t 1))⟩,
  ⟨(.some 9), .none, (.len (.t 8))⟩,
  ⟨(.some 10), .none, (.bin .neq (.t 7) (.t 9))⟩]
abbrev c_slices_Equal_api_Group_r2 : List AO := [⟨(.some 4), .none, (.mov (.c (.d (.bool .false))))⟩]
abbrev c_slices_Equal_api_Group_r3 : List AO := [⟨(.some 11), .none, (.mov (.t 0))⟩,
  ⟨(.some 12), .none, (.len (.t 11))⟩,
  ⟨(.some 13), .none, (.mov (.c (.d (.int .i64 0))))⟩]
abbrev c_slices_Equal_api_Group_r4 : List AO := [⟨(.some 14), .none, (.bin .lss (.t 13) (.t 12))⟩]
abbrev c_slices_Equal_api_Group_r5 : List AO := [⟨(.some 15), .none, (.mov (.t 13))⟩,
  ⟨(.some 5), .none, (.mov (.t 15))⟩]
abbrev c_slices_Equal_api_Group_r6 : List AO := [⟨(.some 16), .none, (.mov (.t 0))⟩,
  ⟨(.some 17), .none, (.mov (.t 5))⟩,
  ⟨(.some 18), .none, (.elemAddr 5 (.t 16) (.t 17))⟩,
  ⟨(.some 20), .none, (.mov (.t 1))⟩,
  ⟨(.some 21), .none, (.mov (.t 5))⟩,
  ⟨(.some 22), .none, (.elemAddr 5 (.t 20) (.t 21))⟩,
  ⟨(.some 19), .none, (.load (.some 5) (.t 18))⟩,
  ⟨(.some 23), .none, (.load (.some 5) (.t 22))⟩,
  ⟨(.some 24), .none, (.eqAgg .true [0, 0, 0, 0, 0] (.t 19) (.t 23))⟩]
abbrev c_slices_Equal_api_Group_r7 : List AO := [⟨(.some 4), .none, (.mov (.c (.d (.bool .false))))⟩]
abbrev c_slices_Equal_api_Group_r8 : List AO := [⟨(.some 25), .none, (.bin .add (.t 13) (.c (.d (.int .i64 1))))⟩,
  ⟨(.some 13), .none, (.mov (.t 25))⟩]
abbrev c_slices_Equal_api_Group_l0 : ACode := (.seq (.ops c_slices_Equal_api_Group_r4) (.seq (.cond (.t 14) .skip (.exit 0)) (.seq (.block 1 (.seq (.ops c_slices_Equal_api_Group_r5) (.seq (.dops c_slices_Equal_api_Group_r6) (.cond (.t 24) (.seq (.ops c_slices_Equal_api_Group_r7) .ret) .skip)))) (.ops c_slices_Equal_api_Group_r8))))
abbrev c_slices_Equal_api_Group_r9 : List AO := [⟨(.some 4), .none, (.mov (.c (.d (.bool .true))))⟩]
abbrev c_slices_Equal_api_Group : AFunc := ⟨26, [(.tmp 4)], (.seq (.ops c_slices_Equal_api_Group_r0) (.seq (.seq (.ops c_slices_Equal_api_Group_r1) (.cond (.t 10) (.seq (.ops c_slices_Equal_api_Group_r2) .ret) .skip)) (.seq (.seq (.ops c_slices_Equal_api_Group_r3) (.block 0 (.loop c_slices_Equal_api_Group_l0))) (.seq (.ops c_slices_Equal_api_Group_r9) .ret))))⟩
theorem comp_slices_Equal_api_Group : funcC Try.prog 29 = some c_slices_Equal_api_Group := by kernel_rfl
/-! function 30 :  poundage line.Line int .put -/
abbrev f_line_Line_int_put : FuncId := 30
abbrev c_line_Line_int_put_r0 : List AO := [⟨(.some 3), .none, (.box 62 (.t 1))⟩]
abbrev c_line_Line_int_put_r1 : List AO := [⟨(.some 5), .none, (.mov (.t 0))⟩,
  ⟨(.some 6), .none, (.nilCheck (.t 5))⟩,
  ⟨(.some 7), .none, (.fieldAddr 0 (.t 6))⟩,
  ⟨(.some 8), .none, (.load .none (.t 7))⟩,
  ⟨(.some 9), .none, (.len (.t 8))⟩,
  ⟨(.some 4), .none, (.mov (.t 9))⟩]
abbrev c_line_Line_int_put_r2 : List AO := [⟨(.some 10), .none, (.mov (.t 4))⟩,
  ⟨(.some 11), .none, (.bin .gtr (.t 10) (.c (.d (.int .i64 0))))⟩,
  ⟨(.some 12), .none, (.mov (.t 11))⟩,
  ⟨(.some 13), (.some ⟨12, .true⟩), (.mov (.t 0))⟩,
  ⟨(.some 14), (.some ⟨12, .true⟩), (.nilCheck (.t 13))⟩,
  ⟨(.some 15), (.some ⟨12, .true⟩), (.fieldAddr 0 (.t 14))⟩,
  ⟨(.some 17), (.some ⟨12, .true⟩), (.mov (.t 4))⟩,
  ⟨(.some 18), (.some ⟨12, .true⟩), (.bin .sub (.t 17) (.c (.d (.int .i64 1))))⟩,
  ⟨(.some 22), (.some ⟨12, .true⟩), (.fieldAddr 2 (.t 3))⟩,
  ⟨(.some 16), (.some ⟨12, .true⟩), (.load .none (.t 15))⟩,
  ⟨(.some 19), (.some ⟨12, .true⟩), (.elemAddr 3 (.t 16) (.t 18))⟩,
  ⟨(.some 20), (.some ⟨12, .true⟩), (.fieldAddr 2 (.t 19))⟩,
  ⟨(.some 21), (.some ⟨12, .true⟩), (.load .none (.t 20))⟩,
  ⟨(.some 23), (.some ⟨12, .true⟩), (.load .none (.t 22))⟩,
  ⟨(.some 24), (.some ⟨12, .true⟩), (.bin .eql (.t 21) (.t 23))⟩,
  ⟨(.some 25), .none, (.pick (.t 12) (.t 24) (.c (.d (.bool .false))))⟩]
abbrev c_line_Line_int_put_r3 : List AO := [⟨(.some 26), .none, (.mov (.t 0))⟩,
  ⟨(.some 27), .none, (.nilCheck (.t 26))⟩,
  ⟨(.some 28), .none, (.fieldAddr 0 (.t 27))⟩,
  ⟨(.some 30), .none, (.mov (.t 4))⟩,
  ⟨(.some 31), .none, (.bin .sub (.t 30) (.c (.d (.int .i64 1))))⟩,
  ⟨(.some 32), .none, (.fieldAddr 1 (.t 3))⟩,
  ⟨(.some 29), .none, (.load .none (.t 28))⟩,
  ⟨(.some 33), .none, (.load .none (.t 32))⟩,
  ⟨(.some 34), .none, (.elemAddr 3 (.t 29) (.t 31))⟩,
  ⟨(.some 35), .none, (.fieldAddr 1 (.t 34))⟩,
  ⟨.none, .none, (.store 1 (.t 35) (.t 33))⟩]
abbrev c_line_Line_int_put_r4 : List AO := [⟨(.some 36), .none, (.mov (.t 0))⟩,
  ⟨(.some 37), .none, (.mov (.t 0))⟩,
  ⟨(.some 38), .none, (.nilCheck (.t 37))⟩,
  ⟨(.some 39), .none, (.fieldAddr 0 (.t 38))⟩,
  ⟨(.some 40), .none, (.load .none (.t 39))⟩,
  ⟨(.some 41), .none, (.load (.some 3) (.t 3))⟩,
  ⟨(.some 42), .none, (.buildSliceD 62 3 1 [(.d (.int .i64 0)), (.d (.int .i64 0)), (.d (.int .i64 0))] [⟨0, (.t 41)⟩])⟩,
  ⟨(.some 43), .none, (.append 62 3 24 [(.d (.int .i64 0)), (.d (.int .i64 0)), (.d (.int .i64 0))] (.t 40) (.t 42))⟩,
  ⟨(.some 44), .none, (.nilCheck (.t 36))⟩,
  ⟨(.some 45), .none, (.fieldAddr 0 (.t 44))⟩,
  ⟨.none, .none, (.store 1 (.t 45) (.t 43))⟩]
abbrev c_line_Line_int_put : AFunc := ⟨46, [], (.seq (.ops c_line_Line_int_put_r0) (.seq (.seq (.ops c_line_Line_int_put_r1) (.seq (.dops c_line_Line_int_put_r2) (.cond (.t 25) (.seq (.dops c_line_Line_int_put_r3) .ret) .skip))) (.dops c_line_Line_int_put_r4)))⟩
theorem comp_line_Line_int_put : funcC Try.prog 30 = some c_line_Line_int_put := by kernel_rfl
/-! function 31 : slices.AppendSeq poundage line.Run int poundage line.Run int  -/
abbrev f_slices_AppendSeq_line_Run_int_ : FuncId := 31
abbrev c_slices_AppendSeq_line_Run_int__r0 : List AO := [⟨(.some 2), .none, (.box 50 (.t 0))⟩,
  ⟨(.some 4), .none, (.mov (.c (.nilsl 0)))⟩]
abbrev c_slices_AppendSeq_line_Run_int__r1 : List AO := [⟨(.some 6), .none, (.mov (.t 1))⟩]
abbrev c_slices_AppendSeq_line_Run_int__r2 : List AO := [⟨(.some 5), .none, (.alloc 62 [(.d (.int .i64 0)), (.d (.int .i64 0)), (.d (.int .i64 0))])⟩,
  ⟨.none, .none, (.store 3 (.t 5) (.t 7))⟩]
abbrev c_slices_AppendSeq_line_Run_int__r3 : List AO := [⟨(.some 8), .none, (.load .none (.t 2))⟩,
  ⟨(.some 9), .none, (.load (.some 3) (.t 5))⟩,
  ⟨(.some 10), .none, (.buildSlice 62 3 1 [(.d (.int .i64 0)), (.d (.int .i64 0)), (.d (.int .i64 0))] [⟨0, (.t 9)⟩])⟩,
  ⟨(.some 11), .none, (.append 62 3 24 [(.d (.int .i64 0)), (.d (.int .i64 0)), (.d (.int .i64 0))] (.t 8) (.t 10))⟩,
  ⟨.none, .none, (.store 1 (.t 2) (.t 11))⟩]
abbrev c_slices_AppendSeq_line_Run_int__g0 : ACode := (.block 1 (.ops c_slices_AppendSeq_line_Run_int__r3))
abbrev c_slices_AppendSeq_line_Run_int__r4 : List AO := [⟨(.some 12), .none, (.load .none (.t 2))⟩,
  ⟨(.some 4), .none, (.mov (.t 12))⟩]
abbrev c_slices_AppendSeq_line_Run_int_ : AFunc := ⟨13, [(.tmp 4)], (.seq (.ops c_slices_AppendSeq_line_Run_int__r0) (.seq (.seq (.ops c_slices_AppendSeq_line_Run_int__r1) (.block 0 (.rangef (.t 6) [7] (.ops c_slices_AppendSeq_line_Run_int__r2) c_slices_AppendSeq_line_Run_int__g0))) (.seq (.ops c_slices_AppendSeq_line_Run_int__r4) .ret)))⟩
theorem comp_slices_AppendSeq_line_Run_int_ : funcC Try.prog 31 = some c_slices_AppendSeq_line_Run_int_ := by kernel_rfl
/-! function 32 : slices.Values poundage line.Run int poundage line.Run int  -/
abbrev f_slices_Values_line_Run_int_ : FuncId := 32
abbrev c_slices_Values_line_Run_int__r0 : List AO := [⟨(.some 1), .none, (.box 50 (.t 0))⟩,
  ⟨(.some 2), .none, (.mov (.c .nilfn))⟩]
abbrev c_slices_Values_line_Run_int__r1 : List AO := [⟨(.some 3), .none, (.mkfn 34 [(.t 1)])⟩,
  ⟨(.some 2), .none, (.mov (.t 3))⟩]
abbrev c_slices_Values_line_Run_int_ : AFunc := ⟨4, [(.tmp 2)], (.seq (.ops c_slices_Values_line_Run_int__r0) (.seq (.ops c_slices_Values_line_Run_int__r1) .ret))⟩
theorem comp_slices_Values_line_Run_int_ : funcC Try.prog 32 = some c_slices_Values_line_Run_int_ := by kernel_rfl
/-! function 33 : slices.IndexFunc poundage line.Run int poundage line.Run int  -/
abbrev f_slices_IndexFunc_line_Run_int_ : FuncId := 33
abbrev c_slices_IndexFunc_line_Run_int__r0 : List AO := [⟨(.some 4), .none, (.mov (.c (.d (.int .i64 0))))⟩]
abbrev c_slices_IndexFunc_line_Run_int__r1 : List AO := [⟨(.some 6), .none, (.mov (.t 0))⟩,
  ⟨(.some 7), .none, (.len (.t 6))⟩,
  ⟨(.some 8), .none, (.mov (.c (.d (.int .i64 0))))⟩]
abbrev c_slices_IndexFunc_line_Run_int__r2 : List AO := [⟨(.some 9), .none, (.bin .lss (.t 8) (.t 7))⟩]
abbrev c_slices_IndexFunc_line_Run_int__r3 : List AO := [⟨(.some 10), .none, (.mov (.t 8))⟩,
  ⟨(.some 5), .none, (.mov (.t 10))⟩]
abbrev c_slices_IndexFunc_line_Run_int__r4 : List AO := [⟨(.some 11), .none, (.mov (.t 1))⟩,
  ⟨(.some 12), .none, (.mov (.t 0))⟩,
  ⟨(.some 13), .none, (.mov (.t 5))⟩,
  ⟨(.some 14), .none, (.elemAddr 3 (.t 12) (.t 13))⟩,
  ⟨(.some 15), .none, (.load (.some 3) (.t 14))⟩,
  ⟨(.some 16), .none, (.callv (.t 11) [(.t 15)])⟩]
abbrev c_slices_IndexFunc_line_Run_int__r5 : List AO := [⟨(.some 17), .none, (.mov (.t 5))⟩,
  ⟨(.some 4), .none, (.mov (.t 17))⟩]
abbrev c_slices_IndexFunc_line_Run_int__r6 : List AO := [⟨(.some 18), .none, (.bin .add (.t 8) (.c (.d (.int .i64 1))))⟩,
  ⟨(.some 8), .none, (.mov (.t 18))⟩]
abbrev c_slices_IndexFunc_line_Run_int__l0 : ACode := (.seq (.ops c_slices_IndexFunc_line_Run_int__r2) (.seq (.cond (.t 9) .skip (.exit 0)) (.seq (.block 1 (.seq (.ops c_slices_IndexFunc_line_Run_int__r3) (.seq (.ops c_slices_IndexFunc_line_Run_int__r4) (.cond (.t 16) (.seq (.ops c_slices_IndexFunc_line_Run_int__r5) .ret) .skip)))) (.ops c_slices_IndexFunc_line_Run_int__r6))))
abbrev c_slices_IndexFunc_line_Run_int__r7 : List AO := [⟨(.some 4), .none, (.mov (.c (.d (.int .i64 (-1)))))⟩]
abbrev c_slices_IndexFunc_line_Run_int_ : AFunc := ⟨19, [(.tmp 4)], (.seq (.ops c_slices_IndexFunc_line_Run_int__r0) (.seq (.seq (.ops c_slices_IndexFunc_line_Run_int__r1) (.block 0 (.loop c_slices_IndexFunc_line_Run_int__l0))) (.seq (.ops c_slices_IndexFunc_line_Run_int__r7) .ret)))⟩
theorem comp_slices_IndexFunc_line_Run_int_ : funcC Try.prog 33 = some c_slices_IndexFunc_line_Run_int_ := by kernel_rfl
/-! function 34 : slices.Values poundage line.Run int poundage line.Run int 1 -/
abbrev f_slices_Values_line_Run_int_1 : FuncId := 34
abbrev c_slices_Values_line_Run_int_1_r0 : List AO := [⟨(.some 5), .none, (.load .none (.t 1))⟩,
  ⟨(.some 6), .none, (.len (.t 5))⟩,
  ⟨(.some 7), .none, (.mov (.c (.d (.int .i64 0))))⟩]
abbrev c_slices_Values_line_Run_int_1_r1 : List AO := [⟨(.some 8), .none, (.bin .lss (.t 7) (.t 6))⟩]
abbrev c_slices_Values_line_Run_int_1_r2 : List AO := [⟨(.some 9), .none, (.elemAddr 3 (.t 5) (.t 7))⟩,
  ⟨(.some 10), .none, (.load (.some 3) (.t 9))⟩,
  ⟨(.some 4), .none, (.alloc 62 [(.d (.int .i64 0)), (.d (.int .i64 0)), (.d (.int .i64 0))])⟩,
  ⟨.none, .none, (.store 3 (.t 4) (.t 10))⟩]
abbrev c_slices_Values_line_Run_int_1_r3 : List AO := [⟨(.some 11), .none, (.mov (.t 0))⟩,
  ⟨(.some 12), .none, (.load (.some 3) (.t 4))⟩,
  ⟨(.some 13), .none, (.callv (.t 11) [(.t 12)])⟩,
  ⟨(.some 14), .none, (.un .not (.t 13))⟩]
abbrev c_slices_Values_line_Run_int_1_r4 : List AO := [⟨(.some 15), .none, (.bin .add (.t 7) (.c (.d (.int .i64 1))))⟩,
  ⟨(.some 7), .none, (.mov (.t 15))⟩]
abbrev c_slices_Values_line_Run_int_1_l0 : ACode := (.seq (.ops c_slices_Values_line_Run_int_1_r1) (.seq (.cond (.t 8) .skip (.exit 0)) (.seq (.block 1 (.seq (.ops c_slices_Values_line_Run_int_1_r2) (.seq (.ops c_slices_Values_line_Run_int_1_r3) (.cond (.t 14) .ret .skip)))) (.ops c_slices_Values_line_Run_int_1_r4))))
abbrev c_slices_Values_line_Run_int_1 : AFunc := ⟨16, [], (.seq (.ops c_slices_Values_line_Run_int_1_r0) (.block 0 (.loop c_slices_Values_line_Run_int_1_l0)))⟩
theorem comp_slices_Values_line_Run_int_1 : funcC Try.prog 34 = some c_slices_Values_line_Run_int_1 := by kernel_rfl
/-! function 35 :  runtime.boundsError .Error -/
abbrev f__runtime_boundsError_Error : FuncId := 35
/-! function 36 :  runtime.boundsError .RuntimeError -/
abbrev f__runtime_boundsError_RuntimeError : FuncId := 36
/-! function 37 :  runtime.errorString .Error -/
abbrev f__runtime_errorString_Error : FuncId := 37
/-! function 38 :  runtime.errorString .RuntimeError -/
abbrev f__runtime_errorString_RuntimeError : FuncId := 38
/-! function 39 :  runtime.plainError .Error -/
abbrev f__runtime_plainError_Error : FuncId := 39
/-! function 40 :  runtime.plainError .RuntimeError -/
abbrev f__runtime_plainError_RuntimeError : FuncId := 40
/-! function 41 :  runtime.errorAddressString .Error -/
abbrev f__runtime_errorAddressString_Error : FuncId := 41
/-! function 42 :  runtime.errorAddressString .RuntimeError -/
abbrev f__runtime_errorAddressString_RuntimeError : FuncId := 42
/-! function 43 :  runtime.TypeAssertionError .Error -/
abbrev f__runtime_TypeAssertionError_Error : FuncId := 43
/-! function 44 :  runtime.TypeAssertionError .RuntimeError -/
abbrev f__runtime_TypeAssertionError_RuntimeError : FuncId := 44
/-! function 45 :  runtime.PanicNilError .Error -/
abbrev f__runtime_PanicNilError_Error : FuncId := 45
/-! function 46 :  runtime.PanicNilError .RuntimeError -/
abbrev f__runtime_PanicNilError_RuntimeError : FuncId := 46
/-! function 47 :  internal abi.Type .Align -/
abbrev f_abi_Type_Align : FuncId := 47
/-! function 48 :  internal runtime maps.unhashableTypeError .Error -/
abbrev f_maps_unhashableTypeError_Error : FuncId := 48
/-! function 49 :  internal runtime maps.unhashableTypeError .RuntimeError -/
abbrev f_maps_unhashableTypeError_RuntimeError : FuncId := 49
/-! function 50 :  poundage line.Line int .Count -/
abbrev f_line_Line_int_Count : FuncId := 50
/-! function 51 :  internal abi.Kind .String -/
abbrev f_abi_Kind_String : FuncId := 51
end Go.Proofs.Ythamjpioodlckaa.Abs
