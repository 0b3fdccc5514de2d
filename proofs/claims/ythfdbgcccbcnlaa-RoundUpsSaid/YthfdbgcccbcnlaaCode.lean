/- The given functions, as the abstract machine has them: printed by a program of this session. No claim stands here. -/
import Derived.Test.YthfdbgcccbcnlaaProg
import Derived.Test.YthfdbgcccbcnlaaAbs1
import Derived.KernelRfl
namespace Go.Proofs.Ythfdbgcccbcnlaa.Abs
open Go Go.RowKit Go.Proofs
/-! function 3 : poundage poundagelaw02.RoundNear -/
abbrev f_poundagelaw02_RoundNear : FuncId := 3
abbrev c_poundagelaw02_RoundNear_r0 : List AO := [⟨(.some 8), .none, (.mov (.c (.d (.bool .false))))⟩]
abbrev c_poundagelaw02_RoundNear_r1 : List AO := [⟨(.some 12), .none, (.call 9 [])⟩,
  ⟨(.some 13), .none, (.un .not (.t 12))⟩]
abbrev c_poundagelaw02_RoundNear_r2 : List AO := [⟨(.some 8), .none, (.mov (.c (.d (.bool .false))))⟩]
abbrev c_poundagelaw02_RoundNear_r3 : List AO := [⟨(.some 15), .none, (.mov (.t 0))⟩,
  ⟨(.some 16), .none, (.mov (.t 1))⟩,
  ⟨(.some 17), .none, (.mov (.t 2))⟩,
  ⟨(.some 18), .none, (.mov (.t 3))⟩,
  ⟨(.some 19), .none, (.call 10 [(.t 15), (.t 16), (.t 17), (.t 18)])⟩,
  ⟨(.some 14), .none, (.mov (.t 19))⟩,
  ⟨(.some 20), .none, (.extract (.t 14) 0)⟩,
  ⟨(.some 21), .none, (.extract (.t 14) 1)⟩,
  ⟨(.some 9), .none, (.mov (.t 20))⟩,
  ⟨(.some 10), .none, (.mov (.t 21))⟩]
abbrev c_poundagelaw02_RoundNear_r4 : List AO := [⟨(.some 22), .none, (.mov (.t 10))⟩,
  ⟨(.some 23), .none, (.un .not (.t 22))⟩]
abbrev c_poundagelaw02_RoundNear_r5 : List AO := [⟨(.some 24), .none, (.mov (.t 9))⟩,
  ⟨(.some 25), .none, (.bin .eql (.t 24) (.c (.d (.int .i64 0))))⟩,
  ⟨(.some 8), .none, (.mov (.t 25))⟩]
abbrev c_poundagelaw02_RoundNear_r6 : List AO := [⟨(.some 26), .none, (.mov (.t 0))⟩,
  ⟨(.some 27), .none, (.mov (.t 1))⟩,
  ⟨(.some 28), .none, (.call 12 [(.t 26), (.t 27)])⟩,
  ⟨(.some 29), .none, (.mov (.t 9))⟩,
  ⟨(.some 30), .none, (.mov (.t 2))⟩,
  ⟨(.some 31), .none, (.call 12 [(.t 29), (.t 30)])⟩,
  ⟨(.some 32), .none, (.call 13 [(.t 31)])⟩,
  ⟨(.some 33), .none, (.call 11 [(.t 28), (.t 32)])⟩,
  ⟨(.some 11), .none, (.alloc 27 [(.d (.bool .false)), (.d (.int .u64 0)), (.d (.int .u64 0))])⟩,
  ⟨.none, .none, (.store 3 (.t 11) (.t 33))⟩]
abbrev c_poundagelaw02_RoundNear_r7 : List AO := [⟨(.some 34), .none, (.fieldAddr 1 (.t 11))⟩,
  ⟨(.some 35), .none, (.load .none (.t 34))⟩,
  ⟨(.some 36), .none, (.bin .gtr (.t 35) (.c (.d (.int .u64 0))))⟩,
  ⟨(.some 37), .none, (.mov (.t 36))⟩,
  ⟨(.some 38), (.some ⟨37, .false⟩), (.fieldAddr 2 (.t 11))⟩,
  ⟨(.some 39), (.some ⟨37, .false⟩), (.load .none (.t 38))⟩,
  ⟨(.some 40), (.some ⟨37, .false⟩), (.mov (.t 2))⟩,
  ⟨(.some 41), (.some ⟨37, .false⟩), (.conv .u64 (.t 40))⟩,
  ⟨(.some 42), (.some ⟨37, .false⟩), (.bin .geq (.t 39) (.t 41))⟩,
  ⟨(.some 43), .none, (.pick (.t 37) (.c (.d (.bool .true))) (.t 42))⟩]
abbrev c_poundagelaw02_RoundNear_r8 : List AO := [⟨(.some 8), .none, (.mov (.c (.d (.bool .false))))⟩]
abbrev c_poundagelaw02_RoundNear_r9 : List AO := [⟨(.some 44), .none, (.mov (.t 3))⟩]
abbrev c_poundagelaw02_RoundNear_r10 : List AO := [⟨(.some 46), .none, (.bin .eql (.t 44) (.c (.d (.int .i64 0))))⟩,
  ⟨(.some 45), .none, (.mov (.t 46))⟩]
abbrev c_poundagelaw02_RoundNear_r11 : List AO := [⟨(.some 47), .none, (.fieldAddr 0 (.t 11))⟩,
  ⟨(.some 48), .none, (.load .none (.t 47))⟩,
  ⟨(.some 49), .none, (.un .not (.t 48))⟩,
  ⟨(.some 8), .none, (.mov (.t 49))⟩]
abbrev c_poundagelaw02_RoundNear_r12 : List AO := [⟨(.some 51), .none, (.bin .eql (.t 44) (.c (.d (.int .i64 1))))⟩,
  ⟨(.some 50), .none, (.mov (.t 51))⟩]
abbrev c_poundagelaw02_RoundNear_r13 : List AO := [⟨(.some 52), .none, (.fieldAddr 0 (.t 11))⟩,
  ⟨(.some 53), .none, (.load .none (.t 52))⟩,
  ⟨(.some 54), .none, (.mov (.t 53))⟩,
  ⟨(.some 55), (.some ⟨54, .false⟩), (.fieldAddr 2 (.t 11))⟩,
  ⟨(.some 56), (.some ⟨54, .false⟩), (.load .none (.t 55))⟩,
  ⟨(.some 57), (.some ⟨54, .false⟩), (.bin .eql (.t 56) (.c (.d (.int .u64 0))))⟩,
  ⟨(.some 58), .none, (.pick (.t 54) (.c (.d (.bool .true))) (.t 57))⟩,
  ⟨(.some 8), .none, (.mov (.t 58))⟩]
abbrev c_poundagelaw02_RoundNear_r14 : List AO := [⟨(.some 60), .none, (.bin .eql (.t 44) (.c (.d (.int .i64 2))))⟩,
  ⟨(.some 59), .none, (.mov (.t 60))⟩]
abbrev c_poundagelaw02_RoundNear_r15 : List AO := [⟨(.some 61), .none, (.fieldAddr 2 (.t 11))⟩,
  ⟨(.some 62), .none, (.load .none (.t 61))⟩,
  ⟨(.some 63), .none, (.mov (.t 2))⟩,
  ⟨(.some 64), .none, (.conv .u64 (.t 63))⟩,
  ⟨(.some 65), .none, (.fieldAddr 2 (.t 11))⟩,
  ⟨(.some 66), .none, (.load .none (.t 65))⟩,
  ⟨(.some 67), .none, (.bin .sub (.t 64) (.t 66))⟩,
  ⟨(.some 68), .none, (.bin .lss (.t 62) (.t 67))⟩,
  ⟨(.some 69), .none, (.mov (.t 68))⟩,
  ⟨(.some 70), (.some ⟨69, .false⟩), (.fieldAddr 2 (.t 11))⟩,
  ⟨(.some 71), (.some ⟨69, .false⟩), (.load .none (.t 70))⟩,
  ⟨(.some 72), (.some ⟨69, .false⟩), (.mov (.t 2))⟩,
  ⟨(.some 73), (.some ⟨69, .false⟩), (.conv .u64 (.t 72))⟩,
  ⟨(.some 74), (.some ⟨69, .false⟩), (.fieldAddr 2 (.t 11))⟩,
  ⟨(.some 75), (.some ⟨69, .false⟩), (.load .none (.t 74))⟩,
  ⟨(.some 76), (.some ⟨69, .false⟩), (.bin .sub (.t 73) (.t 75))⟩,
  ⟨(.some 77), (.some ⟨69, .false⟩), (.bin .eql (.t 71) (.t 76))⟩,
  ⟨(.some 78), (.some ⟨69, .false⟩), (.mov (.t 77))⟩,
  ⟨(.some 79), (.some ⟨78, .true⟩), (.fieldAddr 0 (.t 11))⟩,
  ⟨(.some 80), (.some ⟨78, .true⟩), (.load .none (.t 79))⟩,
  ⟨(.some 81), (.some ⟨69, .false⟩), (.pick (.t 78) (.t 80) (.c (.d (.bool .false))))⟩,
  ⟨(.some 82), .none, (.pick (.t 69) (.c (.d (.bool .true))) (.t 81))⟩,
  ⟨(.some 8), .none, (.mov (.t 82))⟩]
abbrev c_poundagelaw02_RoundNear_r16 : List AO := [⟨(.some 83), .none, (.fieldAddr 2 (.t 11))⟩,
  ⟨(.some 84), .none, (.load .none (.t 83))⟩,
  ⟨(.some 85), .none, (.mov (.t 2))⟩,
  ⟨(.some 86), .none, (.conv .u64 (.t 85))⟩,
  ⟨(.some 87), .none, (.fieldAddr 2 (.t 11))⟩,
  ⟨(.some 88), .none, (.load .none (.t 87))⟩,
  ⟨(.some 89), .none, (.bin .sub (.t 86) (.t 88))⟩,
  ⟨(.some 90), .none, (.bin .lss (.t 84) (.t 89))⟩,
  ⟨(.some 91), .none, (.mov (.t 90))⟩,
  ⟨(.some 92), (.some ⟨91, .false⟩), (.fieldAddr 2 (.t 11))⟩,
  ⟨(.some 93), (.some ⟨91, .false⟩), (.load .none (.t 92))⟩,
  ⟨(.some 94), (.some ⟨91, .false⟩), (.mov (.t 2))⟩,
  ⟨(.some 95), (.some ⟨91, .false⟩), (.conv .u64 (.t 94))⟩,
  ⟨(.some 96), (.some ⟨91, .false⟩), (.fieldAddr 2 (.t 11))⟩,
  ⟨(.some 97), (.some ⟨91, .false⟩), (.load .none (.t 96))⟩,
  ⟨(.some 98), (.some ⟨91, .false⟩), (.bin .sub (.t 95) (.t 97))⟩,
  ⟨(.some 99), (.some ⟨91, .false⟩), (.bin .eql (.t 93) (.t 98))⟩,
  ⟨(.some 100), (.some ⟨91, .false⟩), (.mov (.t 99))⟩,
  ⟨(.some 101), (.some ⟨100, .true⟩), (.mov (.t 9))⟩,
  ⟨(.some 102), (.some ⟨100, .true⟩), (.bin .rem (.t 101) (.c (.d (.int .i64 2))))⟩,
  ⟨(.some 103), (.some ⟨100, .true⟩), (.bin .eql (.t 102) (.c (.d (.int .i64 0))))⟩,
  ⟨(.some 104), (.some ⟨91, .false⟩), (.pick (.t 100) (.t 103) (.c (.d (.bool .false))))⟩,
  ⟨(.some 105), .none, (.pick (.t 91) (.c (.d (.bool .true))) (.t 104))⟩,
  ⟨(.some 8), .none, (.mov (.t 105))⟩]
abbrev c_poundagelaw02_RoundNear : AFunc := ⟨106, [(.tmp 8)], (.seq (.ops c_poundagelaw02_RoundNear_r0) (.seq (.seq (.ops c_poundagelaw02_RoundNear_r1) (.cond (.t 13) (.seq (.ops c_poundagelaw02_RoundNear_r2) .ret) .skip)) (.seq (.ops c_poundagelaw02_RoundNear_r3) (.seq (.seq (.ops c_poundagelaw02_RoundNear_r4) (.cond (.t 23) (.seq (.ops c_poundagelaw02_RoundNear_r5) .ret) .skip)) (.seq (.ops c_poundagelaw02_RoundNear_r6) (.seq (.seq (.ops c_poundagelaw02_RoundNear_r7) (.cond (.t 43) (.seq (.ops c_poundagelaw02_RoundNear_r8) .ret) .skip)) (.seq (.seq (.ops c_poundagelaw02_RoundNear_r9) (.block 0 (.seq (.ops c_poundagelaw02_RoundNear_r10) (.cond (.t 45) (.seq (.ops c_poundagelaw02_RoundNear_r11) .ret) (.seq (.ops c_poundagelaw02_RoundNear_r12) (.cond (.t 50) (.seq (.ops c_poundagelaw02_RoundNear_r13) .ret) (.seq (.ops c_poundagelaw02_RoundNear_r14) (.cond (.t 59) (.seq (.ops c_poundagelaw02_RoundNear_r15) .ret) .skip)))))))) (.seq (.ops c_poundagelaw02_RoundNear_r16) .ret))))))))⟩
theorem comp_poundagelaw02_RoundNear : funcC Try.prog 3 = some c_poundagelaw02_RoundNear := by kernel_rfl
/-! function 4 : poundage poundagelaw02.RoundModes -/
abbrev f_poundagelaw02_RoundModes : FuncId := 4
abbrev c_poundagelaw02_RoundModes_r0 : List AO := [⟨(.some 6), .none, (.mov (.c (.d (.bool .false))))⟩]
abbrev c_poundagelaw02_RoundModes_r1 : List AO := [⟨(.some 16), .none, (.call 9 [])⟩,
  ⟨(.some 17), .none, (.un .not (.t 16))⟩]
abbrev c_poundagelaw02_RoundModes_r2 : List AO := [⟨(.some 6), .none, (.mov (.c (.d (.bool .false))))⟩]
abbrev c_poundagelaw02_RoundModes_r3 : List AO := [⟨(.some 19), .none, (.mov (.t 0))⟩,
  ⟨(.some 20), .none, (.mov (.t 1))⟩,
  ⟨(.some 21), .none, (.mov (.t 2))⟩,
  ⟨(.some 22), .none, (.call 10 [(.t 19), (.t 20), (.t 21), (.c (.d (.int .i64 0)))])⟩,
  ⟨(.some 18), .none, (.mov (.t 22))⟩,
  ⟨(.some 23), .none, (.extract (.t 18) 0)⟩,
  ⟨(.some 24), .none, (.extract (.t 18) 1)⟩,
  ⟨(.some 7), .none, (.mov (.t 23))⟩,
  ⟨(.some 8), .none, (.mov (.t 24))⟩]
abbrev c_poundagelaw02_RoundModes_r4 : List AO := [⟨(.some 26), .none, (.mov (.t 0))⟩,
  ⟨(.some 27), .none, (.mov (.t 1))⟩,
  ⟨(.some 28), .none, (.mov (.t 2))⟩,
  ⟨(.some 29), .none, (.call 10 [(.t 26), (.t 27), (.t 28), (.c (.d (.int .i64 1)))])⟩,
  ⟨(.some 25), .none, (.mov (.t 29))⟩,
  ⟨(.some 30), .none, (.extract (.t 25) 0)⟩,
  ⟨(.some 31), .none, (.extract (.t 25) 1)⟩,
  ⟨(.some 9), .none, (.mov (.t 30))⟩,
  ⟨(.some 10), .none, (.mov (.t 31))⟩]
abbrev c_poundagelaw02_RoundModes_r5 : List AO := [⟨(.some 32), .none, (.mov (.t 8))⟩,
  ⟨(.some 33), .none, (.un .not (.t 32))⟩,
  ⟨(.some 34), .none, (.mov (.t 33))⟩,
  ⟨(.some 35), (.some ⟨34, .false⟩), (.mov (.t 10))⟩,
  ⟨(.some 36), (.some ⟨34, .false⟩), (.un .not (.t 35))⟩,
  ⟨(.some 37), .none, (.pick (.t 34) (.c (.d (.bool .true))) (.t 36))⟩]
abbrev c_poundagelaw02_RoundModes_r6 : List AO := [⟨(.some 6), .none, (.mov (.c (.d (.bool .true))))⟩]
abbrev c_poundagelaw02_RoundModes_r7 : List AO := [⟨(.some 39), .none, (.mov (.t 0))⟩,
  ⟨(.some 40), .none, (.mov (.t 1))⟩,
  ⟨(.some 41), .none, (.mov (.t 2))⟩,
  ⟨(.some 42), .none, (.call 10 [(.t 39), (.t 40), (.t 41), (.c (.d (.int .i64 2)))])⟩,
  ⟨(.some 38), .none, (.mov (.t 42))⟩,
  ⟨(.some 43), .none, (.extract (.t 38) 0)⟩,
  ⟨(.some 44), .none, (.extract (.t 38) 1)⟩,
  ⟨(.some 11), .none, (.mov (.t 43))⟩,
  ⟨(.some 12), .none, (.mov (.t 44))⟩]
abbrev c_poundagelaw02_RoundModes_r8 : List AO := [⟨(.some 46), .none, (.mov (.t 0))⟩,
  ⟨(.some 47), .none, (.mov (.t 1))⟩,
  ⟨(.some 48), .none, (.mov (.t 2))⟩,
  ⟨(.some 49), .none, (.call 10 [(.t 46), (.t 47), (.t 48), (.c (.d (.int .i64 3)))])⟩,
  ⟨(.some 45), .none, (.mov (.t 49))⟩,
  ⟨(.some 50), .none, (.extract (.t 45) 0)⟩,
  ⟨(.some 51), .none, (.extract (.t 45) 1)⟩,
  ⟨(.some 13), .none, (.mov (.t 50))⟩,
  ⟨(.some 14), .none, (.mov (.t 51))⟩]
abbrev c_poundagelaw02_RoundModes_r9 : List AO := [⟨(.some 52), .none, (.mov (.t 7))⟩,
  ⟨(.some 53), .none, (.mov (.t 2))⟩,
  ⟨(.some 54), .none, (.call 12 [(.t 52), (.t 53)])⟩,
  ⟨(.some 55), .none, (.mov (.t 0))⟩,
  ⟨(.some 56), .none, (.mov (.t 1))⟩,
  ⟨(.some 57), .none, (.call 12 [(.t 55), (.t 56)])⟩,
  ⟨(.some 58), .none, (.eqAgg .false [1, 0, 0] (.t 54) (.t 57))⟩,
  ⟨(.some 15), .none, (.mov (.t 58))⟩]
abbrev c_poundagelaw02_RoundModes_r10 : List AO := [⟨(.some 59), .none, (.mov (.t 12))⟩,
  ⟨(.some 60), .none, (.un .not (.t 59))⟩,
  ⟨(.some 61), .none, (.mov (.t 60))⟩,
  ⟨(.some 62), (.some ⟨61, .false⟩), (.mov (.t 14))⟩,
  ⟨(.some 63), (.some ⟨61, .false⟩), (.un .not (.t 62))⟩,
  ⟨(.some 64), .none, (.pick (.t 61) (.c (.d (.bool .true))) (.t 63))⟩,
  ⟨(.some 65), .none, (.mov (.t 64))⟩,
  ⟨(.some 66), (.some ⟨65, .false⟩), (.mov (.t 11))⟩,
  ⟨(.some 67), (.some ⟨65, .false⟩), (.mov (.t 7))⟩,
  ⟨(.some 68), (.some ⟨65, .false⟩), (.bin .lss (.t 66) (.t 67))⟩,
  ⟨(.some 69), .none, (.pick (.t 65) (.c (.d (.bool .true))) (.t 68))⟩,
  ⟨(.some 70), .none, (.mov (.t 69))⟩,
  ⟨(.some 71), (.some ⟨70, .false⟩), (.mov (.t 11))⟩,
  ⟨(.some 72), (.some ⟨70, .false⟩), (.mov (.t 9))⟩,
  ⟨(.some 73), (.some ⟨70, .false⟩), (.bin .gtr (.t 71) (.t 72))⟩,
  ⟨(.some 74), .none, (.pick (.t 70) (.c (.d (.bool .true))) (.t 73))⟩,
  ⟨(.some 75), .none, (.mov (.t 74))⟩,
  ⟨(.some 76), (.some ⟨75, .false⟩), (.mov (.t 13))⟩,
  ⟨(.some 77), (.some ⟨75, .false⟩), (.mov (.t 7))⟩,
  ⟨(.some 78), (.some ⟨75, .false⟩), (.bin .lss (.t 76) (.t 77))⟩,
  ⟨(.some 79), .none, (.pick (.t 75) (.c (.d (.bool .true))) (.t 78))⟩,
  ⟨(.some 80), .none, (.mov (.t 79))⟩,
  ⟨(.some 81), (.some ⟨80, .false⟩), (.mov (.t 13))⟩,
  ⟨(.some 82), (.some ⟨80, .false⟩), (.mov (.t 9))⟩,
  ⟨(.some 83), (.some ⟨80, .false⟩), (.bin .gtr (.t 81) (.t 82))⟩,
  ⟨(.some 84), .none, (.pick (.t 80) (.c (.d (.bool .true))) (.t 83))⟩,
  ⟨(.some 85), .none, (.mov (.t 84))⟩,
  ⟨(.some 86), (.some ⟨85, .false⟩), (.mov (.t 11))⟩,
  ⟨(.some 87), (.some ⟨85, .false⟩), (.mov (.t 13))⟩,
  ⟨(.some 88), (.some ⟨85, .false⟩), (.bin .lss (.t 86) (.t 87))⟩,
  ⟨(.some 89), (.some ⟨85, .false⟩), (.mov (.t 88))⟩,
  ⟨(.some 90), (.some ⟨89, .true⟩), (.mov (.t 13))⟩,
  ⟨(.some 91), (.some ⟨89, .true⟩), (.mov (.t 11))⟩,
  ⟨(.some 92), (.some ⟨89, .true⟩), (.bin .sub (.t 90) (.t 91))⟩,
  ⟨(.some 93), (.some ⟨89, .true⟩), (.bin .neq (.t 92) (.c (.d (.int .i64 1))))⟩,
  ⟨(.some 94), (.some ⟨85, .false⟩), (.pick (.t 89) (.t 93) (.c (.d (.bool .false))))⟩,
  ⟨(.some 95), .none, (.pick (.t 85) (.c (.d (.bool .true))) (.t 94))⟩,
  ⟨(.some 96), .none, (.mov (.t 95))⟩,
  ⟨(.some 97), (.some ⟨96, .false⟩), (.mov (.t 11))⟩,
  ⟨(.some 98), (.some ⟨96, .false⟩), (.mov (.t 13))⟩,
  ⟨(.some 99), (.some ⟨96, .false⟩), (.bin .gtr (.t 97) (.t 98))⟩,
  ⟨(.some 100), (.some ⟨96, .false⟩), (.mov (.t 99))⟩,
  ⟨(.some 101), (.some ⟨100, .true⟩), (.mov (.t 11))⟩,
  ⟨(.some 102), (.some ⟨100, .true⟩), (.mov (.t 13))⟩,
  ⟨(.some 103), (.some ⟨100, .true⟩), (.bin .sub (.t 101) (.t 102))⟩,
  ⟨(.some 104), (.some ⟨100, .true⟩), (.bin .neq (.t 103) (.c (.d (.int .i64 1))))⟩,
  ⟨(.some 105), (.some ⟨96, .false⟩), (.pick (.t 100) (.t 104) (.c (.d (.bool .false))))⟩,
  ⟨(.some 106), .none, (.pick (.t 96) (.c (.d (.bool .true))) (.t 105))⟩]
abbrev c_poundagelaw02_RoundModes_r11 : List AO := [⟨(.some 6), .none, (.mov (.c (.d (.bool .false))))⟩]
abbrev c_poundagelaw02_RoundModes_r12 : List AO := [⟨(.some 107), .none, (.mov (.t 15))⟩,
  ⟨(.some 108), .none, (.mov (.t 107))⟩,
  ⟨(.some 109), (.some ⟨108, .true⟩), (.mov (.t 7))⟩,
  ⟨(.some 110), (.some ⟨108, .true⟩), (.mov (.t 9))⟩,
  ⟨(.some 111), (.some ⟨108, .true⟩), (.bin .eql (.t 109) (.t 110))⟩,
  ⟨(.some 112), .none, (.pick (.t 108) (.t 111) (.c (.d (.bool .false))))⟩,
  ⟨(.some 113), .none, (.mov (.t 112))⟩,
  ⟨(.some 114), (.some ⟨113, .false⟩), (.mov (.t 15))⟩,
  ⟨(.some 115), (.some ⟨113, .false⟩), (.un .not (.t 114))⟩,
  ⟨(.some 116), (.some ⟨113, .false⟩), (.mov (.t 115))⟩,
  ⟨(.some 117), (.some ⟨116, .true⟩), (.mov (.t 9))⟩,
  ⟨(.some 118), (.some ⟨116, .true⟩), (.mov (.t 7))⟩,
  ⟨(.some 119), (.some ⟨116, .true⟩), (.bin .sub (.t 117) (.t 118))⟩,
  ⟨(.some 120), (.some ⟨116, .true⟩), (.bin .eql (.t 119) (.c (.d (.int .i64 1))))⟩,
  ⟨(.some 121), (.some ⟨113, .false⟩), (.pick (.t 116) (.t 120) (.c (.d (.bool .false))))⟩,
  ⟨(.some 122), .none, (.pick (.t 113) (.c (.d (.bool .true))) (.t 121))⟩,
  ⟨(.some 6), .none, (.mov (.t 122))⟩]
abbrev c_poundagelaw02_RoundModes : AFunc := ⟨123, [(.tmp 6)], (.seq (.ops c_poundagelaw02_RoundModes_r0) (.seq (.seq (.ops c_poundagelaw02_RoundModes_r1) (.cond (.t 17) (.seq (.ops c_poundagelaw02_RoundModes_r2) .ret) .skip)) (.seq (.ops c_poundagelaw02_RoundModes_r3) (.seq (.ops c_poundagelaw02_RoundModes_r4) (.seq (.seq (.ops c_poundagelaw02_RoundModes_r5) (.cond (.t 37) (.seq (.ops c_poundagelaw02_RoundModes_r6) .ret) .skip)) (.seq (.ops c_poundagelaw02_RoundModes_r7) (.seq (.ops c_poundagelaw02_RoundModes_r8) (.seq (.ops c_poundagelaw02_RoundModes_r9) (.seq (.seq (.ops c_poundagelaw02_RoundModes_r10) (.cond (.t 106) (.seq (.ops c_poundagelaw02_RoundModes_r11) .ret) .skip)) (.seq (.ops c_poundagelaw02_RoundModes_r12) .ret))))))))))⟩
theorem comp_poundagelaw02_RoundModes : funcC Try.prog 4 = some c_poundagelaw02_RoundModes := by kernel_rfl
/-! function 5 : poundage poundagelaw02.RoundTurned -/
abbrev f_poundagelaw02_RoundTurned : FuncId := 5
abbrev c_poundagelaw02_RoundTurned_r0 : List AO := [⟨(.some 6), .none, (.mov (.c (.d (.bool .false))))⟩]
abbrev c_poundagelaw02_RoundTurned_r1 : List AO := [⟨(.some 15), .none, (.call 9 [])⟩,
  ⟨(.some 16), .none, (.un .not (.t 15))⟩]
abbrev c_poundagelaw02_RoundTurned_r2 : List AO := [⟨(.some 6), .none, (.mov (.c (.d (.bool .false))))⟩]
abbrev c_poundagelaw02_RoundTurned_r3 : List AO := [⟨(.some 17), .none, (.mov (.t 0))⟩,
  ⟨(.some 18), .none, (.bin .eql (.t 17) (.c (.d (.int .i64 (-9223372036854775808)))))⟩]
abbrev c_poundagelaw02_RoundTurned_r4 : List AO := [⟨(.some 6), .none, (.mov (.c (.d (.bool .true))))⟩]
abbrev c_poundagelaw02_RoundTurned_r5 : List AO := [⟨(.some 20), .none, (.mov (.t 0))⟩,
  ⟨(.some 21), .none, (.mov (.t 1))⟩,
  ⟨(.some 22), .none, (.mov (.t 2))⟩,
  ⟨(.some 23), .none, (.call 10 [(.t 20), (.t 21), (.t 22), (.c (.d (.int .i64 0)))])⟩,
  ⟨(.some 19), .none, (.mov (.t 23))⟩,
  ⟨(.some 24), .none, (.extract (.t 19) 0)⟩,
  ⟨(.some 25), .none, (.extract (.t 19) 1)⟩,
  ⟨(.some 7), .none, (.mov (.t 24))⟩,
  ⟨(.some 8), .none, (.mov (.t 25))⟩]
abbrev c_poundagelaw02_RoundTurned_r6 : List AO := [⟨(.some 27), .none, (.mov (.t 0))⟩,
  ⟨(.some 28), .none, (.un .neg (.t 27))⟩,
  ⟨(.some 29), .none, (.mov (.t 1))⟩,
  ⟨(.some 30), .none, (.mov (.t 2))⟩,
  ⟨(.some 31), .none, (.call 10 [(.t 28), (.t 29), (.t 30), (.c (.d (.int .i64 1)))])⟩,
  ⟨(.some 26), .none, (.mov (.t 31))⟩,
  ⟨(.some 32), .none, (.extract (.t 26) 0)⟩,
  ⟨(.some 33), .none, (.extract (.t 26) 1)⟩,
  ⟨(.some 9), .none, (.mov (.t 32))⟩,
  ⟨(.some 10), .none, (.mov (.t 33))⟩]
abbrev c_poundagelaw02_RoundTurned_r7 : List AO := [⟨(.some 35), .none, (.mov (.t 0))⟩,
  ⟨(.some 36), .none, (.mov (.t 1))⟩,
  ⟨(.some 37), .none, (.mov (.t 2))⟩,
  ⟨(.some 38), .none, (.call 10 [(.t 35), (.t 36), (.t 37), (.c (.d (.int .i64 3)))])⟩,
  ⟨(.some 34), .none, (.mov (.t 38))⟩,
  ⟨(.some 39), .none, (.extract (.t 34) 0)⟩,
  ⟨(.some 40), .none, (.extract (.t 34) 1)⟩,
  ⟨(.some 11), .none, (.mov (.t 39))⟩,
  ⟨(.some 12), .none, (.mov (.t 40))⟩]
abbrev c_poundagelaw02_RoundTurned_r8 : List AO := [⟨(.some 42), .none, (.mov (.t 0))⟩,
  ⟨(.some 43), .none, (.un .neg (.t 42))⟩,
  ⟨(.some 44), .none, (.mov (.t 1))⟩,
  ⟨(.some 45), .none, (.mov (.t 2))⟩,
  ⟨(.some 46), .none, (.call 10 [(.t 43), (.t 44), (.t 45), (.c (.d (.int .i64 3)))])⟩,
  ⟨(.some 41), .none, (.mov (.t 46))⟩,
  ⟨(.some 47), .none, (.extract (.t 41) 0)⟩,
  ⟨(.some 48), .none, (.extract (.t 41) 1)⟩,
  ⟨(.some 13), .none, (.mov (.t 47))⟩,
  ⟨(.some 14), .none, (.mov (.t 48))⟩]
abbrev c_poundagelaw02_RoundTurned_r9 : List AO := [⟨(.some 49), .none, (.mov (.t 8))⟩,
  ⟨(.some 50), .none, (.un .not (.t 49))⟩,
  ⟨(.some 51), .none, (.mov (.t 50))⟩,
  ⟨(.some 52), (.some ⟨51, .false⟩), (.mov (.t 10))⟩,
  ⟨(.some 53), (.some ⟨51, .false⟩), (.un .not (.t 52))⟩,
  ⟨(.some 54), .none, (.pick (.t 51) (.c (.d (.bool .true))) (.t 53))⟩,
  ⟨(.some 55), .none, (.mov (.t 54))⟩,
  ⟨(.some 56), (.some ⟨55, .false⟩), (.mov (.t 7))⟩,
  ⟨(.some 57), (.some ⟨55, .false⟩), (.mov (.t 9))⟩,
  ⟨(.some 58), (.some ⟨55, .false⟩), (.un .neg (.t 57))⟩,
  ⟨(.some 59), (.some ⟨55, .false⟩), (.bin .eql (.t 56) (.t 58))⟩,
  ⟨(.some 60), .none, (.pick (.t 55) (.c (.d (.bool .true))) (.t 59))⟩,
  ⟨(.some 61), .none, (.mov (.t 60))⟩,
  ⟨(.some 62), (.some ⟨61, .true⟩), (.mov (.t 12))⟩,
  ⟨(.some 63), (.some ⟨61, .true⟩), (.un .not (.t 62))⟩,
  ⟨(.some 64), (.some ⟨61, .true⟩), (.mov (.t 63))⟩,
  ⟨(.some 65), (.some ⟨64, .false⟩), (.mov (.t 14))⟩,
  ⟨(.some 66), (.some ⟨64, .false⟩), (.un .not (.t 65))⟩,
  ⟨(.some 67), (.some ⟨61, .true⟩), (.pick (.t 64) (.c (.d (.bool .true))) (.t 66))⟩,
  ⟨(.some 68), (.some ⟨61, .true⟩), (.mov (.t 67))⟩,
  ⟨(.some 69), (.some ⟨68, .false⟩), (.mov (.t 11))⟩,
  ⟨(.some 70), (.some ⟨68, .false⟩), (.mov (.t 13))⟩,
  ⟨(.some 71), (.some ⟨68, .false⟩), (.un .neg (.t 70))⟩,
  ⟨(.some 72), (.some ⟨68, .false⟩), (.bin .eql (.t 69) (.t 71))⟩,
  ⟨(.some 73), (.some ⟨61, .true⟩), (.pick (.t 68) (.c (.d (.bool .true))) (.t 72))⟩,
  ⟨(.some 74), .none, (.pick (.t 61) (.t 73) (.c (.d (.bool .false))))⟩,
  ⟨(.some 6), .none, (.mov (.t 74))⟩]
abbrev c_poundagelaw02_RoundTurned : AFunc := ⟨75, [(.tmp 6)], (.seq (.ops c_poundagelaw02_RoundTurned_r0) (.seq (.seq (.ops c_poundagelaw02_RoundTurned_r1) (.cond (.t 16) (.seq (.ops c_poundagelaw02_RoundTurned_r2) .ret) .skip)) (.seq (.seq (.ops c_poundagelaw02_RoundTurned_r3) (.cond (.t 18) (.seq (.ops c_poundagelaw02_RoundTurned_r4) .ret) .skip)) (.seq (.ops c_poundagelaw02_RoundTurned_r5) (.seq (.ops c_poundagelaw02_RoundTurned_r6) (.seq (.ops c_poundagelaw02_RoundTurned_r7) (.seq (.ops c_poundagelaw02_RoundTurned_r8) (.seq (.ops c_poundagelaw02_RoundTurned_r9) .ret))))))))⟩
theorem comp_poundagelaw02_RoundTurned : funcC Try.prog 5 = some c_poundagelaw02_RoundTurned := by kernel_rfl
/-! function 6 : poundage poundagelaw02.RoundIs -/
abbrev f_poundagelaw02_RoundIs : FuncId := 6
abbrev c_poundagelaw02_RoundIs_r0 : List AO := [⟨(.some 8), .none, (.mov (.c (.d (.bool .false))))⟩]
abbrev c_poundagelaw02_RoundIs_r1 : List AO := [⟨(.some 17), .none, (.call 9 [])⟩,
  ⟨(.some 18), .none, (.un .not (.t 17))⟩]
abbrev c_poundagelaw02_RoundIs_r2 : List AO := [⟨(.some 8), .none, (.mov (.c (.d (.bool .false))))⟩]
abbrev c_poundagelaw02_RoundIs_r3 : List AO := [⟨(.some 20), .none, (.mov (.t 0))⟩,
  ⟨(.some 21), .none, (.mov (.t 1))⟩,
  ⟨(.some 22), .none, (.mov (.t 2))⟩,
  ⟨(.some 23), .none, (.mov (.t 3))⟩,
  ⟨(.some 24), .none, (.call 10 [(.t 20), (.t 21), (.t 22), (.t 23)])⟩,
  ⟨(.some 19), .none, (.mov (.t 24))⟩,
  ⟨(.some 25), .none, (.extract (.t 19) 0)⟩,
  ⟨(.some 26), .none, (.extract (.t 19) 1)⟩,
  ⟨(.some 9), .none, (.mov (.t 25))⟩,
  ⟨(.some 10), .none, (.mov (.t 26))⟩]
abbrev c_poundagelaw02_RoundIs_r4 : List AO := [⟨(.some 28), .none, (.mov (.t 0))⟩,
  ⟨(.some 29), .none, (.mov (.t 1))⟩,
  ⟨(.some 30), .none, (.mov (.t 2))⟩,
  ⟨(.some 31), .none, (.mov (.t 3))⟩,
  ⟨(.some 32), .none, (.call 14 [(.t 28), (.t 29), (.t 30), (.t 31)])⟩,
  ⟨(.some 27), .none, (.mov (.t 32))⟩,
  ⟨(.some 33), .none, (.extract (.t 27) 0)⟩,
  ⟨(.some 34), .none, (.extract (.t 27) 1)⟩,
  ⟨(.some 11), .none, (.mov (.t 33))⟩,
  ⟨(.some 12), .none, (.mov (.t 34))⟩]
abbrev c_poundagelaw02_RoundIs_r5 : List AO := [⟨(.some 36), .none, (.mov (.t 0))⟩,
  ⟨(.some 37), .none, (.mov (.t 2))⟩,
  ⟨(.some 38), .none, (.mov (.t 3))⟩,
  ⟨(.some 39), .none, (.call 15 [(.t 36), (.t 37), (.t 38)])⟩,
  ⟨(.some 35), .none, (.mov (.t 39))⟩,
  ⟨(.some 40), .none, (.extract (.t 35) 0)⟩,
  ⟨(.some 41), .none, (.extract (.t 35) 1)⟩,
  ⟨(.some 13), .none, (.mov (.t 40))⟩,
  ⟨(.some 14), .none, (.mov (.t 41))⟩]
abbrev c_poundagelaw02_RoundIs_r6 : List AO := [⟨(.some 43), .none, (.mov (.t 0))⟩,
  ⟨(.some 44), .none, (.mov (.t 2))⟩,
  ⟨(.some 45), .none, (.mov (.t 3))⟩,
  ⟨(.some 46), .none, (.call 14 [(.t 43), (.c (.d (.int .i64 1))), (.t 44), (.t 45)])⟩,
  ⟨(.some 42), .none, (.mov (.t 46))⟩,
  ⟨(.some 47), .none, (.extract (.t 42) 0)⟩,
  ⟨(.some 48), .none, (.extract (.t 42) 1)⟩,
  ⟨(.some 15), .none, (.mov (.t 47))⟩,
  ⟨(.some 16), .none, (.mov (.t 48))⟩]
abbrev c_poundagelaw02_RoundIs_r7 : List AO := [⟨(.some 49), .none, (.mov (.t 9))⟩,
  ⟨(.some 50), .none, (.mov (.t 11))⟩,
  ⟨(.some 51), .none, (.bin .eql (.t 49) (.t 50))⟩,
  ⟨(.some 52), .none, (.mov (.t 51))⟩,
  ⟨(.some 53), (.some ⟨52, .true⟩), (.mov (.t 10))⟩,
  ⟨(.some 54), (.some ⟨52, .true⟩), (.mov (.t 12))⟩,
  ⟨(.some 55), (.some ⟨52, .true⟩), (.binb .false (.t 53) (.t 54))⟩,
  ⟨(.some 56), .none, (.pick (.t 52) (.t 55) (.c (.d (.bool .false))))⟩,
  ⟨(.some 57), .none, (.mov (.t 56))⟩,
  ⟨(.some 58), (.some ⟨57, .true⟩), (.mov (.t 13))⟩,
  ⟨(.some 59), (.some ⟨57, .true⟩), (.mov (.t 15))⟩,
  ⟨(.some 60), (.some ⟨57, .true⟩), (.bin .eql (.t 58) (.t 59))⟩,
  ⟨(.some 61), .none, (.pick (.t 57) (.t 60) (.c (.d (.bool .false))))⟩,
  ⟨(.some 62), .none, (.mov (.t 61))⟩,
  ⟨(.some 63), (.some ⟨62, .true⟩), (.mov (.t 14))⟩,
  ⟨(.some 64), (.some ⟨62, .true⟩), (.mov (.t 16))⟩,
  ⟨(.some 65), (.some ⟨62, .true⟩), (.binb .false (.t 63) (.t 64))⟩,
  ⟨(.some 66), .none, (.pick (.t 62) (.t 65) (.c (.d (.bool .false))))⟩,
  ⟨(.some 67), .none, (.mov (.t 66))⟩,
  ⟨(.some 68), (.some ⟨67, .true⟩), (.mov (.t 3))⟩,
  ⟨(.some 69), (.some ⟨67, .true⟩), (.call 16 [(.t 68)])⟩,
  ⟨(.some 70), (.some ⟨67, .true⟩), (.mov (.t 3))⟩,
  ⟨(.some 71), (.some ⟨67, .true⟩), (.bin .geq (.t 70) (.c (.d (.int .i64 0))))⟩,
  ⟨(.some 72), (.some ⟨67, .true⟩), (.mov (.t 71))⟩,
  ⟨(.some 73), (.some ⟨72, .true⟩), (.mov (.t 3))⟩,
  ⟨(.some 74), (.some ⟨72, .true⟩), (.bin .leq (.t 73) (.c (.d (.int .i64 3))))⟩,
  ⟨(.some 75), (.some ⟨67, .true⟩), (.pick (.t 72) (.t 74) (.c (.d (.bool .false))))⟩,
  ⟨(.some 76), (.some ⟨67, .true⟩), (.binb .false (.t 69) (.t 75))⟩,
  ⟨(.some 77), .none, (.pick (.t 67) (.t 76) (.c (.d (.bool .false))))⟩,
  ⟨(.some 8), .none, (.mov (.t 77))⟩]
abbrev c_poundagelaw02_RoundIs : AFunc := ⟨78, [(.tmp 8)], (.seq (.ops c_poundagelaw02_RoundIs_r0) (.seq (.seq (.ops c_poundagelaw02_RoundIs_r1) (.cond (.t 18) (.seq (.ops c_poundagelaw02_RoundIs_r2) .ret) .skip)) (.seq (.ops c_poundagelaw02_RoundIs_r3) (.seq (.ops c_poundagelaw02_RoundIs_r4) (.seq (.ops c_poundagelaw02_RoundIs_r5) (.seq (.ops c_poundagelaw02_RoundIs_r6) (.seq (.ops c_poundagelaw02_RoundIs_r7) .ret)))))))⟩
theorem comp_poundagelaw02_RoundIs : funcC Try.prog 6 = some c_poundagelaw02_RoundIs := by kernel_rfl
/-! function 7 : poundage poundagelaw02.RoundOrder -/
abbrev f_poundagelaw02_RoundOrder : FuncId := 7
abbrev c_poundagelaw02_RoundOrder_r0 : List AO := [⟨(.some 8), .none, (.mov (.c (.d (.bool .false))))⟩]
abbrev c_poundagelaw02_RoundOrder_r1 : List AO := [⟨(.some 13), .none, (.call 9 [])⟩,
  ⟨(.some 14), .none, (.un .not (.t 13))⟩]
abbrev c_poundagelaw02_RoundOrder_r2 : List AO := [⟨(.some 8), .none, (.mov (.c (.d (.bool .false))))⟩]
abbrev c_poundagelaw02_RoundOrder_r3 : List AO := [⟨(.some 15), .none, (.mov (.t 1))⟩,
  ⟨(.some 16), .none, (.mov (.t 0))⟩,
  ⟨(.some 17), .none, (.bin .lss (.t 15) (.t 16))⟩]
abbrev c_poundagelaw02_RoundOrder_r4 : List AO := [⟨(.some 8), .none, (.mov (.c (.d (.bool .true))))⟩]
abbrev c_poundagelaw02_RoundOrder_r5 : List AO := [⟨(.some 19), .none, (.mov (.t 0))⟩,
  ⟨(.some 20), .none, (.mov (.t 2))⟩,
  ⟨(.some 21), .none, (.mov (.t 3))⟩,
  ⟨(.some 22), .none, (.call 15 [(.t 19), (.t 20), (.t 21)])⟩,
  ⟨(.some 18), .none, (.mov (.t 22))⟩,
  ⟨(.some 23), .none, (.extract (.t 18) 0)⟩,
  ⟨(.some 24), .none, (.extract (.t 18) 1)⟩,
  ⟨(.some 9), .none, (.mov (.t 23))⟩,
  ⟨(.some 10), .none, (.mov (.t 24))⟩]
abbrev c_poundagelaw02_RoundOrder_r6 : List AO := [⟨(.some 26), .none, (.mov (.t 1))⟩,
  ⟨(.some 27), .none, (.mov (.t 2))⟩,
  ⟨(.some 28), .none, (.mov (.t 3))⟩,
  ⟨(.some 29), .none, (.call 15 [(.t 26), (.t 27), (.t 28)])⟩,
  ⟨(.some 25), .none, (.mov (.t 29))⟩,
  ⟨(.some 30), .none, (.extract (.t 25) 0)⟩,
  ⟨(.some 31), .none, (.extract (.t 25) 1)⟩,
  ⟨(.some 11), .none, (.mov (.t 30))⟩,
  ⟨(.some 12), .none, (.mov (.t 31))⟩]
abbrev c_poundagelaw02_RoundOrder_r7 : List AO := [⟨(.some 32), .none, (.mov (.t 10))⟩,
  ⟨(.some 33), .none, (.mov (.t 12))⟩,
  ⟨(.some 34), .none, (.binb .false (.t 32) (.t 33))⟩,
  ⟨(.some 35), .none, (.mov (.t 34))⟩,
  ⟨(.some 36), (.some ⟨35, .true⟩), (.mov (.t 10))⟩,
  ⟨(.some 37), (.some ⟨35, .true⟩), (.un .not (.t 36))⟩,
  ⟨(.some 38), (.some ⟨35, .true⟩), (.mov (.t 37))⟩,
  ⟨(.some 39), (.some ⟨38, .false⟩), (.mov (.t 9))⟩,
  ⟨(.some 40), (.some ⟨38, .false⟩), (.mov (.t 11))⟩,
  ⟨(.some 41), (.some ⟨38, .false⟩), (.bin .leq (.t 39) (.t 40))⟩,
  ⟨(.some 42), (.some ⟨35, .true⟩), (.pick (.t 38) (.c (.d (.bool .true))) (.t 41))⟩,
  ⟨(.some 43), .none, (.pick (.t 35) (.t 42) (.c (.d (.bool .false))))⟩,
  ⟨(.some 8), .none, (.mov (.t 43))⟩]
abbrev c_poundagelaw02_RoundOrder : AFunc := ⟨44, [(.tmp 8)], (.seq (.ops c_poundagelaw02_RoundOrder_r0) (.seq (.seq (.ops c_poundagelaw02_RoundOrder_r1) (.cond (.t 14) (.seq (.ops c_poundagelaw02_RoundOrder_r2) .ret) .skip)) (.seq (.seq (.ops c_poundagelaw02_RoundOrder_r3) (.cond (.t 17) (.seq (.ops c_poundagelaw02_RoundOrder_r4) .ret) .skip)) (.seq (.ops c_poundagelaw02_RoundOrder_r5) (.seq (.ops c_poundagelaw02_RoundOrder_r6) (.seq (.ops c_poundagelaw02_RoundOrder_r7) .ret))))))⟩
theorem comp_poundagelaw02_RoundOrder : funcC Try.prog 7 = some c_poundagelaw02_RoundOrder := by kernel_rfl
/-! function 8 : poundage poundagelaw02.RoundUps -/
abbrev f_poundagelaw02_RoundUps : FuncId := 8
abbrev c_poundagelaw02_RoundUps_r0 : List AO := [⟨(.some 4), .none, (.mov (.c (.d (.bool .false))))⟩]
abbrev c_poundagelaw02_RoundUps_r1 : List AO := [⟨(.some 11), .none, (.call 9 [])⟩,
  ⟨(.some 12), .none, (.un .not (.t 11))⟩]
abbrev c_poundagelaw02_RoundUps_r2 : List AO := [⟨(.some 4), .none, (.mov (.c (.d (.bool .false))))⟩]
abbrev c_poundagelaw02_RoundUps_r3 : List AO := [⟨(.some 14), .none, (.mov (.t 0))⟩,
  ⟨(.some 15), .none, (.mov (.t 1))⟩,
  ⟨(.some 16), .none, (.call 17 [(.t 14), (.t 15)])⟩,
  ⟨(.some 13), .none, (.mov (.t 16))⟩,
  ⟨(.some 17), .none, (.extract (.t 13) 0)⟩,
  ⟨(.some 18), .none, (.extract (.t 13) 1)⟩,
  ⟨(.some 5), .none, (.mov (.t 17))⟩,
  ⟨(.some 6), .none, (.mov (.t 18))⟩]
abbrev c_poundagelaw02_RoundUps_r4 : List AO := [⟨(.some 19), .none, (.mov (.t 1))⟩,
  ⟨(.some 20), .none, (.bin .leq (.t 19) (.c (.d (.int .i64 0))))⟩]
abbrev c_poundagelaw02_RoundUps_r5 : List AO := [⟨(.some 21), .none, (.mov (.t 6))⟩,
  ⟨(.some 22), .none, (.un .not (.t 21))⟩,
  ⟨(.some 23), .none, (.mov (.t 22))⟩,
  ⟨(.some 24), (.some ⟨23, .true⟩), (.mov (.t 5))⟩,
  ⟨(.some 25), (.some ⟨23, .true⟩), (.bin .eql (.t 24) (.c (.d (.int .i64 0))))⟩,
  ⟨(.some 26), .none, (.pick (.t 23) (.t 25) (.c (.d (.bool .false))))⟩,
  ⟨(.some 4), .none, (.mov (.t 26))⟩]
abbrev c_poundagelaw02_RoundUps_r6 : List AO := [⟨(.some 28), .none, (.mov (.t 0))⟩,
  ⟨(.some 29), .none, (.mov (.t 1))⟩,
  ⟨(.some 30), .none, (.call 14 [(.t 28), (.c (.d (.int .i64 1))), (.t 29), (.c (.d (.int .i64 1)))])⟩,
  ⟨(.some 27), .none, (.mov (.t 30))⟩,
  ⟨(.some 31), .none, (.extract (.t 27) 0)⟩,
  ⟨(.some 32), .none, (.extract (.t 27) 1)⟩,
  ⟨(.some 7), .none, (.mov (.t 31))⟩,
  ⟨(.some 8), .none, (.mov (.t 32))⟩]
abbrev c_poundagelaw02_RoundUps_r7 : List AO := [⟨(.some 34), .none, (.mov (.t 7))⟩,
  ⟨(.some 35), .none, (.mov (.t 1))⟩,
  ⟨(.some 36), .none, (.call 12 [(.t 34), (.t 35)])⟩,
  ⟨(.some 37), .none, (.call 18 [(.t 36)])⟩,
  ⟨(.some 33), .none, (.mov (.t 37))⟩,
  ⟨(.some 38), .none, (.extract (.t 33) 0)⟩,
  ⟨(.some 39), .none, (.extract (.t 33) 1)⟩,
  ⟨(.some 9), .none, (.mov (.t 38))⟩,
  ⟨(.some 10), .none, (.mov (.t 39))⟩]
abbrev c_poundagelaw02_RoundUps_r8 : List AO := [⟨(.some 40), .none, (.mov (.t 8))⟩,
  ⟨(.some 41), .none, (.un .not (.t 40))⟩,
  ⟨(.some 42), .none, (.mov (.t 41))⟩,
  ⟨(.some 43), (.some ⟨42, .false⟩), (.mov (.t 10))⟩,
  ⟨(.some 44), (.some ⟨42, .false⟩), (.un .not (.t 43))⟩,
  ⟨(.some 45), .none, (.pick (.t 42) (.c (.d (.bool .true))) (.t 44))⟩]
abbrev c_poundagelaw02_RoundUps_r9 : List AO := [⟨(.some 46), .none, (.mov (.t 6))⟩,
  ⟨(.some 47), .none, (.un .not (.t 46))⟩,
  ⟨(.some 48), .none, (.mov (.t 47))⟩,
  ⟨(.some 49), (.some ⟨48, .true⟩), (.mov (.t 5))⟩,
  ⟨(.some 50), (.some ⟨48, .true⟩), (.bin .eql (.t 49) (.c (.d (.int .i64 0))))⟩,
  ⟨(.some 51), .none, (.pick (.t 48) (.t 50) (.c (.d (.bool .false))))⟩,
  ⟨(.some 4), .none, (.mov (.t 51))⟩]
abbrev c_poundagelaw02_RoundUps_r10 : List AO := [⟨(.some 52), .none, (.mov (.t 6))⟩,
  ⟨(.some 53), .none, (.mov (.t 52))⟩,
  ⟨(.some 54), (.some ⟨53, .true⟩), (.mov (.t 5))⟩,
  ⟨(.some 55), (.some ⟨53, .true⟩), (.mov (.t 9))⟩,
  ⟨(.some 56), (.some ⟨53, .true⟩), (.bin .eql (.t 54) (.t 55))⟩,
  ⟨(.some 57), .none, (.pick (.t 53) (.t 56) (.c (.d (.bool .false))))⟩,
  ⟨(.some 58), .none, (.mov (.t 57))⟩,
  ⟨(.some 59), (.some ⟨58, .true⟩), (.mov (.t 5))⟩,
  ⟨(.some 60), (.some ⟨58, .true⟩), (.mov (.t 0))⟩,
  ⟨(.some 61), (.some ⟨58, .true⟩), (.bin .geq (.t 59) (.t 60))⟩,
  ⟨(.some 62), .none, (.pick (.t 58) (.t 61) (.c (.d (.bool .false))))⟩,
  ⟨(.some 63), .none, (.mov (.t 62))⟩,
  ⟨(.some 64), (.some ⟨63, .true⟩), (.mov (.t 5))⟩,
  ⟨(.some 65), (.some ⟨63, .true⟩), (.mov (.t 1))⟩,
  ⟨(.some 66), (.some ⟨63, .true⟩), (.bin .rem (.t 64) (.t 65))⟩,
  ⟨(.some 67), (.some ⟨63, .true⟩), (.bin .eql (.t 66) (.c (.d (.int .i64 0))))⟩,
  ⟨(.some 68), .none, (.pick (.t 63) (.t 67) (.c (.d (.bool .false))))⟩,
  ⟨(.some 4), .none, (.mov (.t 68))⟩]
abbrev c_poundagelaw02_RoundUps : AFunc := ⟨69, [(.tmp 4)], (.seq (.ops c_poundagelaw02_RoundUps_r0) (.seq (.seq (.ops c_poundagelaw02_RoundUps_r1) (.cond (.t 12) (.seq (.ops c_poundagelaw02_RoundUps_r2) .ret) .skip)) (.seq (.ops c_poundagelaw02_RoundUps_r3) (.seq (.seq (.ops c_poundagelaw02_RoundUps_r4) (.cond (.t 20) (.seq (.ops c_poundagelaw02_RoundUps_r5) .ret) .skip)) (.seq (.ops c_poundagelaw02_RoundUps_r6) (.seq (.ops c_poundagelaw02_RoundUps_r7) (.seq (.seq (.ops c_poundagelaw02_RoundUps_r8) (.cond (.t 45) (.seq (.ops c_poundagelaw02_RoundUps_r9) .ret) .skip)) (.seq (.ops c_poundagelaw02_RoundUps_r10) .ret))))))))⟩
theorem comp_poundagelaw02_RoundUps : funcC Try.prog 8 = some c_poundagelaw02_RoundUps := by kernel_rfl
/-! function 9 : poundage poundagelaw02.alive -/
abbrev f_poundagelaw02_alive : FuncId := 9
abbrev c_poundagelaw02_alive_r0 : List AO := [⟨(.some 0), .none, (.mov (.c (.d (.bool .false))))⟩]
abbrev c_poundagelaw02_alive_r1 : List AO := [⟨(.some 6), .none, (.call 10 [(.c (.d (.int .i64 (-7)))), (.c (.d (.int .i64 1))), (.c (.d (.int .i64 2))), (.c (.d (.int .i64 0)))])⟩,
  ⟨(.some 5), .none, (.mov (.t 6))⟩,
  ⟨(.some 7), .none, (.extract (.t 5) 0)⟩,
  ⟨(.some 8), .none, (.extract (.t 5) 1)⟩,
  ⟨(.some 1), .none, (.mov (.t 7))⟩,
  ⟨(.some 2), .none, (.mov (.t 8))⟩]
abbrev c_poundagelaw02_alive_r2 : List AO := [⟨(.some 10), .none, (.call 10 [(.c (.d (.int .i64 (-7)))), (.c (.d (.int .i64 1))), (.c (.d (.int .i64 2))), (.c (.d (.int .i64 2)))])⟩,
  ⟨(.some 9), .none, (.mov (.t 10))⟩,
  ⟨(.some 11), .none, (.extract (.t 9) 0)⟩,
  ⟨(.some 12), .none, (.extract (.t 9) 1)⟩,
  ⟨(.some 3), .none, (.mov (.t 11))⟩,
  ⟨(.some 4), .none, (.mov (.t 12))⟩]
abbrev c_poundagelaw02_alive_r3 : List AO := [⟨(.some 13), .none, (.mov (.t 1))⟩,
  ⟨(.some 14), .none, (.bin .eql (.t 13) (.c (.d (.int .i64 (-4)))))⟩,
  ⟨(.some 15), .none, (.mov (.t 14))⟩,
  ⟨(.some 16), (.some ⟨15, .true⟩), (.mov (.t 2))⟩,
  ⟨(.some 17), .none, (.pick (.t 15) (.t 16) (.c (.d (.bool .false))))⟩,
  ⟨(.some 18), .none, (.mov (.t 17))⟩,
  ⟨(.some 19), (.some ⟨18, .true⟩), (.mov (.t 3))⟩,
  ⟨(.some 20), (.some ⟨18, .true⟩), (.bin .eql (.t 19) (.c (.d (.int .i64 (-3)))))⟩,
  ⟨(.some 21), .none, (.pick (.t 18) (.t 20) (.c (.d (.bool .false))))⟩,
  ⟨(.some 22), .none, (.mov (.t 21))⟩,
  ⟨(.some 23), (.some ⟨22, .true⟩), (.mov (.t 4))⟩,
  ⟨(.some 24), .none, (.pick (.t 22) (.t 23) (.c (.d (.bool .false))))⟩,
  ⟨(.some 25), .none, (.mov (.t 24))⟩,
  ⟨(.some 26), (.some ⟨25, .true⟩), (.call 16 [(.c (.d (.int .i64 3)))])⟩,
  ⟨(.some 27), .none, (.pick (.t 25) (.t 26) (.c (.d (.bool .false))))⟩,
  ⟨(.some 0), .none, (.mov (.t 27))⟩]
abbrev c_poundagelaw02_alive : AFunc := ⟨28, [(.tmp 0)], (.seq (.ops c_poundagelaw02_alive_r0) (.seq (.ops c_poundagelaw02_alive_r1) (.seq (.ops c_poundagelaw02_alive_r2) (.seq (.ops c_poundagelaw02_alive_r3) .ret))))⟩
theorem comp_poundagelaw02_alive : funcC Try.prog 9 = some c_poundagelaw02_alive := by kernel_rfl
/-! function 10 : poundage round.MulDiv -/
abbrev f_round_MulDiv : FuncId := 10
abbrev c_round_MulDiv_r0 : List AO := [⟨(.some 8), .none, (.mov (.c (.d (.int .i64 0))))⟩,
  ⟨(.some 9), .none, (.mov (.c (.d (.bool .false))))⟩]
abbrev c_round_MulDiv_r1 : List AO := [⟨(.some 16), .none, (.mov (.t 2))⟩,
  ⟨(.some 17), .none, (.bin .leq (.t 16) (.c (.d (.int .i64 0))))⟩,
  ⟨(.some 18), .none, (.mov (.t 17))⟩,
  ⟨(.some 19), (.some ⟨18, .false⟩), (.mov (.t 3))⟩,
  ⟨(.some 20), (.some ⟨18, .false⟩), (.call 16 [(.t 19)])⟩,
  ⟨(.some 21), (.some ⟨18, .false⟩), (.un .not (.t 20))⟩,
  ⟨(.some 22), .none, (.pick (.t 18) (.c (.d (.bool .true))) (.t 21))⟩]
abbrev c_round_MulDiv_r2 : List AO := [⟨(.some 8), .none, (.mov (.c (.d (.int .i64 0))))⟩,
  ⟨(.some 9), .none, (.mov (.c (.d (.bool .false))))⟩]
abbrev c_round_MulDiv_r3 : List AO := [⟨(.some 23), .none, (.mov (.t 0))⟩,
  ⟨(.some 24), .none, (.bin .lss (.t 23) (.c (.d (.int .i64 0))))⟩,
  ⟨(.some 25), .none, (.mov (.t 1))⟩,
  ⟨(.some 26), .none, (.bin .lss (.t 25) (.c (.d (.int .i64 0))))⟩,
  ⟨(.some 27), .none, (.binb .true (.t 24) (.t 26))⟩,
  ⟨(.some 10), .none, (.mov (.t 27))⟩]
abbrev c_round_MulDiv_r4 : List AO := [⟨(.some 29), .none, (.mov (.t 0))⟩,
  ⟨(.some 30), .none, (.call 20 [(.t 29)])⟩,
  ⟨(.some 31), .none, (.mov (.t 1))⟩,
  ⟨(.some 32), .none, (.call 20 [(.t 31)])⟩,
  ⟨(.some 33), .none, (.call 19 [(.t 30), (.t 32)])⟩,
  ⟨(.some 28), .none, (.mov (.t 33))⟩,
  ⟨(.some 34), .none, (.extract (.t 28) 0)⟩,
  ⟨(.some 35), .none, (.extract (.t 28) 1)⟩,
  ⟨(.some 11), .none, (.mov (.t 34))⟩,
  ⟨(.some 12), .none, (.mov (.t 35))⟩]
abbrev c_round_MulDiv_r5 : List AO := [⟨(.some 36), .none, (.mov (.t 2))⟩,
  ⟨(.some 37), .none, (.conv .u64 (.t 36))⟩,
  ⟨(.some 13), .none, (.mov (.t 37))⟩]
abbrev c_round_MulDiv_r6 : List AO := [⟨(.some 38), .none, (.mov (.t 11))⟩,
  ⟨(.some 39), .none, (.mov (.t 13))⟩,
  ⟨(.some 40), .none, (.bin .geq (.t 38) (.t 39))⟩]
abbrev c_round_MulDiv_r7 : List AO := [⟨(.some 8), .none, (.mov (.c (.d (.int .i64 0))))⟩,
  ⟨(.some 9), .none, (.mov (.c (.d (.bool .false))))⟩]
abbrev c_round_MulDiv_r8 : List AO := [⟨(.some 42), .none, (.mov (.t 11))⟩,
  ⟨(.some 43), .none, (.mov (.t 12))⟩,
  ⟨(.some 44), .none, (.mov (.t 13))⟩,
  ⟨(.some 45), .none, (.call 21 [(.t 42), (.t 43), (.t 44)])⟩,
  ⟨(.some 41), .none, (.mov (.t 45))⟩,
  ⟨(.some 46), .none, (.extract (.t 41) 0)⟩,
  ⟨(.some 47), .none, (.extract (.t 41) 1)⟩,
  ⟨(.some 14), .none, (.mov (.t 46))⟩,
  ⟨(.some 15), .none, (.mov (.t 47))⟩]
abbrev c_round_MulDiv_r9 : List AO := [⟨(.some 48), .none, (.mov (.t 3))⟩,
  ⟨(.some 49), .none, (.mov (.t 10))⟩,
  ⟨(.some 50), .none, (.mov (.t 14))⟩,
  ⟨(.some 51), .none, (.mov (.t 15))⟩,
  ⟨(.some 52), .none, (.mov (.t 13))⟩,
  ⟨(.some 53), .none, (.call 22 [(.t 48), (.t 49), (.t 50), (.t 51), (.t 52)])⟩]
abbrev c_round_MulDiv_r10 : List AO := [⟨(.some 54), .none, (.mov (.t 14))⟩,
  ⟨(.some 55), .none, (.bin .add (.t 54) (.c (.d (.int .u64 1))))⟩,
  ⟨(.some 14), .none, (.mov (.t 55))⟩]
abbrev c_round_MulDiv_r11 : List AO := [⟨(.some 56), .none, (.mov (.t 14))⟩,
  ⟨(.some 57), .none, (.bin .eql (.t 56) (.c (.d (.int .u64 0))))⟩]
abbrev c_round_MulDiv_r12 : List AO := [⟨(.some 8), .none, (.mov (.c (.d (.int .i64 0))))⟩,
  ⟨(.some 9), .none, (.mov (.c (.d (.bool .false))))⟩]
abbrev c_round_MulDiv_r13 : List AO := [⟨(.some 58), .none, (.mov (.t 10))⟩,
  ⟨(.some 59), .none, (.mov (.t 14))⟩,
  ⟨(.some 60), .none, (.call 23 [(.t 58), (.t 59)])⟩,
  ⟨(.some 61), .none, (.extract (.t 60) 0)⟩,
  ⟨(.some 62), .none, (.extract (.t 60) 1)⟩,
  ⟨(.some 8), .none, (.mov (.t 61))⟩,
  ⟨(.some 9), .none, (.mov (.t 62))⟩]
abbrev c_round_MulDiv : AFunc := ⟨63, [(.tmp 8), (.tmp 9)], (.seq (.ops c_round_MulDiv_r0) (.seq (.seq (.ops c_round_MulDiv_r1) (.cond (.t 22) (.seq (.ops c_round_MulDiv_r2) .ret) .skip)) (.seq (.ops c_round_MulDiv_r3) (.seq (.ops c_round_MulDiv_r4) (.seq (.ops c_round_MulDiv_r5) (.seq (.seq (.ops c_round_MulDiv_r6) (.cond (.t 40) (.seq (.ops c_round_MulDiv_r7) .ret) .skip)) (.seq (.ops c_round_MulDiv_r8) (.seq (.seq (.ops c_round_MulDiv_r9) (.cond (.t 53) (.seq (.ops c_round_MulDiv_r10) (.seq (.ops c_round_MulDiv_r11) (.cond (.t 57) (.seq (.ops c_round_MulDiv_r12) .ret) .skip))) .skip)) (.seq (.ops c_round_MulDiv_r13) .ret)))))))))⟩
theorem comp_round_MulDiv : funcC Try.prog 10 = some c_round_MulDiv := by kernel_rfl
/-! function 11 : poundage poundageref01.Add -/
abbrev f_poundageref01_Add : FuncId := 11
abbrev c_poundageref01_Add_r0 : List AO := [⟨(.some 2), .none, (.box 27 (.t 0))⟩,
  ⟨(.some 3), .none, (.box 27 (.t 1))⟩,
  ⟨(.some 4), .none, (.alloc 27 [(.d (.bool .false)), (.d (.int .u64 0)), (.d (.int .u64 0))])⟩]
abbrev c_poundageref01_Add_r1 : List AO := [⟨(.some 8), .none, (.fieldAddr 0 (.t 2))⟩,
  ⟨(.some 9), .none, (.load .none (.t 8))⟩,
  ⟨(.some 10), .none, (.fieldAddr 0 (.t 3))⟩,
  ⟨(.some 11), .none, (.load .none (.t 10))⟩,
  ⟨(.some 12), .none, (.binb .false (.t 9) (.t 11))⟩]
abbrev c_poundageref01_Add_r2 : List AO := [⟨(.some 13), .none, (.load (.some 3) (.t 2))⟩,
  ⟨(.some 14), .none, (.load (.some 3) (.t 3))⟩,
  ⟨(.some 15), .none, (.call 24 [(.t 13), (.t 14)])⟩,
  ⟨(.some 5), .none, (.alloc 27 [(.d (.bool .false)), (.d (.int .u64 0)), (.d (.int .u64 0))])⟩,
  ⟨.none, .none, (.store 3 (.t 5) (.t 15))⟩]
abbrev c_poundageref01_Add_r3 : List AO := [⟨(.some 16), .none, (.fieldAddr 0 (.t 2))⟩,
  ⟨(.some 17), .none, (.load .none (.t 16))⟩,
  ⟨(.some 18), .none, (.mov (.t 17))⟩,
  ⟨(.some 19), (.some ⟨18, .true⟩), (.load (.some 3) (.t 5))⟩,
  ⟨(.some 20), (.some ⟨18, .true⟩), (.call 25 [(.t 19)])⟩,
  ⟨(.some 21), (.some ⟨18, .true⟩), (.un .not (.t 20))⟩,
  ⟨(.some 22), .none, (.pick (.t 18) (.t 21) (.c (.d (.bool .false))))⟩,
  ⟨(.some 23), .none, (.fieldAddr 0 (.t 5))⟩,
  ⟨.none, .none, (.store 1 (.t 23) (.t 22))⟩]
abbrev c_poundageref01_Add_r4 : List AO := [⟨(.some 24), .none, (.load (.some 3) (.t 5))⟩,
  ⟨.none, .none, (.store 3 (.t 4) (.t 24))⟩]
abbrev c_poundageref01_Add_r5 : List AO := [⟨(.some 25), .none, (.load (.some 3) (.t 2))⟩,
  ⟨(.some 26), .none, (.load (.some 3) (.t 3))⟩,
  ⟨(.some 27), .none, (.call 26 [(.t 25), (.t 26)])⟩]
abbrev c_poundageref01_Add_r6 : List AO := [⟨(.some 28), .none, (.load (.some 3) (.t 3))⟩,
  ⟨(.some 29), .none, (.load (.some 3) (.t 2))⟩,
  ⟨(.some 30), .none, (.call 27 [(.t 28), (.t 29)])⟩,
  ⟨(.some 6), .none, (.alloc 27 [(.d (.bool .false)), (.d (.int .u64 0)), (.d (.int .u64 0))])⟩,
  ⟨.none, .none, (.store 3 (.t 6) (.t 30))⟩]
abbrev c_poundageref01_Add_r7 : List AO := [⟨(.some 31), .none, (.fieldAddr 0 (.t 3))⟩,
  ⟨(.some 32), .none, (.load .none (.t 31))⟩,
  ⟨(.some 33), .none, (.mov (.t 32))⟩,
  ⟨(.some 34), (.some ⟨33, .true⟩), (.load (.some 3) (.t 6))⟩,
  ⟨(.some 35), (.some ⟨33, .true⟩), (.call 25 [(.t 34)])⟩,
  ⟨(.some 36), (.some ⟨33, .true⟩), (.un .not (.t 35))⟩,
  ⟨(.some 37), .none, (.pick (.t 33) (.t 36) (.c (.d (.bool .false))))⟩,
  ⟨(.some 38), .none, (.fieldAddr 0 (.t 6))⟩,
  ⟨.none, .none, (.store 1 (.t 38) (.t 37))⟩]
abbrev c_poundageref01_Add_r8 : List AO := [⟨(.some 39), .none, (.load (.some 3) (.t 6))⟩,
  ⟨.none, .none, (.store 3 (.t 4) (.t 39))⟩]
abbrev c_poundageref01_Add_r9 : List AO := [⟨(.some 40), .none, (.load (.some 3) (.t 2))⟩,
  ⟨(.some 41), .none, (.load (.some 3) (.t 3))⟩,
  ⟨(.some 42), .none, (.call 27 [(.t 40), (.t 41)])⟩,
  ⟨(.some 7), .none, (.alloc 27 [(.d (.bool .false)), (.d (.int .u64 0)), (.d (.int .u64 0))])⟩,
  ⟨.none, .none, (.store 3 (.t 7) (.t 42))⟩]
abbrev c_poundageref01_Add_r10 : List AO := [⟨(.some 43), .none, (.fieldAddr 0 (.t 2))⟩,
  ⟨(.some 44), .none, (.load .none (.t 43))⟩,
  ⟨(.some 45), .none, (.mov (.t 44))⟩,
  ⟨(.some 46), (.some ⟨45, .true⟩), (.load (.some 3) (.t 7))⟩,
  ⟨(.some 47), (.some ⟨45, .true⟩), (.call 25 [(.t 46)])⟩,
  ⟨(.some 48), (.some ⟨45, .true⟩), (.un .not (.t 47))⟩,
  ⟨(.some 49), .none, (.pick (.t 45) (.t 48) (.c (.d (.bool .false))))⟩,
  ⟨(.some 50), .none, (.fieldAddr 0 (.t 7))⟩,
  ⟨.none, .none, (.store 1 (.t 50) (.t 49))⟩]
abbrev c_poundageref01_Add_r11 : List AO := [⟨(.some 51), .none, (.load (.some 3) (.t 7))⟩,
  ⟨.none, .none, (.store 3 (.t 4) (.t 51))⟩]
abbrev c_poundageref01_Add : AFunc := ⟨52, [(.cell 4 (.some 3))], (.seq (.ops c_poundageref01_Add_r0) (.seq (.seq (.ops c_poundageref01_Add_r1) (.cond (.t 12) (.seq (.ops c_poundageref01_Add_r2) (.seq (.ops c_poundageref01_Add_r3) (.seq (.ops c_poundageref01_Add_r4) .ret))) .skip)) (.seq (.seq (.ops c_poundageref01_Add_r5) (.cond (.t 27) (.seq (.ops c_poundageref01_Add_r6) (.seq (.ops c_poundageref01_Add_r7) (.seq (.ops c_poundageref01_Add_r8) .ret))) .skip)) (.seq (.ops c_poundageref01_Add_r9) (.seq (.ops c_poundageref01_Add_r10) (.seq (.ops c_poundageref01_Add_r11) .ret))))))⟩
theorem comp_poundageref01_Add : funcC Try.prog 11 = some c_poundageref01_Add := by kernel_rfl
/-! function 12 : poundage poundageref01.Mul -/
abbrev f_poundageref01_Mul : FuncId := 12
abbrev c_poundageref01_Mul_r0 : List AO := [⟨(.some 4), .none, (.alloc 27 [(.d (.bool .false)), (.d (.int .u64 0)), (.d (.int .u64 0))])⟩]
abbrev c_poundageref01_Mul_r1 : List AO := [⟨(.some 14), .none, (.mov (.t 0))⟩,
  ⟨(.some 15), .none, (.call 28 [(.t 14)])⟩,
  ⟨(.some 16), .none, (.mov (.t 1))⟩,
  ⟨(.some 17), .none, (.call 28 [(.t 16)])⟩,
  ⟨(.some 5), .none, (.alloc 27 [(.d (.bool .false)), (.d (.int .u64 0)), (.d (.int .u64 0))])⟩,
  ⟨(.some 6), .none, (.alloc 27 [(.d (.bool .false)), (.d (.int .u64 0)), (.d (.int .u64 0))])⟩,
  ⟨.none, .none, (.store 3 (.t 5) (.t 15))⟩,
  ⟨.none, .none, (.store 3 (.t 6) (.t 17))⟩]
abbrev c_poundageref01_Mul_r2 : List AO := [⟨(.some 18), .none, (.fieldAddr 2 (.t 5))⟩,
  ⟨(.some 21), .none, (.fieldAddr 2 (.t 5))⟩,
  ⟨(.some 19), .none, (.load .none (.t 18))⟩,
  ⟨(.some 20), .none, (.bin .rem (.t 19) (.c (.d (.int .u64 4294967296))))⟩,
  ⟨(.some 7), .none, (.mov (.t 20))⟩,
  ⟨(.some 22), .none, (.load .none (.t 21))⟩,
  ⟨(.some 23), .none, (.bin .shr (.t 22) (.c (.d (.int .u64 32))))⟩,
  ⟨(.some 8), .none, (.mov (.t 23))⟩]
abbrev c_poundageref01_Mul_r3 : List AO := [⟨(.some 24), .none, (.fieldAddr 2 (.t 6))⟩,
  ⟨(.some 27), .none, (.fieldAddr 2 (.t 6))⟩,
  ⟨(.some 25), .none, (.load .none (.t 24))⟩,
  ⟨(.some 26), .none, (.bin .rem (.t 25) (.c (.d (.int .u64 4294967296))))⟩,
  ⟨(.some 9), .none, (.mov (.t 26))⟩,
  ⟨(.some 28), .none, (.load .none (.t 27))⟩,
  ⟨(.some 29), .none, (.bin .shr (.t 28) (.c (.d (.int .u64 32))))⟩,
  ⟨(.some 10), .none, (.mov (.t 29))⟩]
abbrev c_poundageref01_Mul_r4 : List AO := [⟨(.some 30), .none, (.mov (.t 8))⟩,
  ⟨(.some 31), .none, (.mov (.t 10))⟩,
  ⟨(.some 32), .none, (.bin .mul (.t 30) (.t 31))⟩,
  ⟨(.some 33), .none, (.mov (.t 7))⟩,
  ⟨(.some 34), .none, (.mov (.t 9))⟩,
  ⟨(.some 35), .none, (.bin .mul (.t 33) (.t 34))⟩,
  ⟨(.some 36), .none, (.build [(.d (.bool .false)), (.d (.int .u64 0)), (.d (.int .u64 0))] [⟨0, ⟨1, (.c (.d (.bool .false)))⟩⟩, ⟨1, ⟨1, (.t 32)⟩⟩, ⟨2, ⟨1, (.t 35)⟩⟩])⟩,
  ⟨(.some 11), .none, (.alloc 27 [(.d (.bool .false)), (.d (.int .u64 0)), (.d (.int .u64 0))])⟩,
  ⟨.none, .none, (.store 3 (.t 11) (.t 36))⟩]
abbrev c_poundageref01_Mul_r5 : List AO := [⟨(.some 37), .none, (.mov (.t 7))⟩,
  ⟨(.some 38), .none, (.mov (.t 10))⟩,
  ⟨(.some 39), .none, (.bin .mul (.t 37) (.t 38))⟩,
  ⟨(.some 40), .none, (.mov (.t 8))⟩,
  ⟨(.some 41), .none, (.mov (.t 9))⟩,
  ⟨(.some 42), .none, (.bin .mul (.t 40) (.t 41))⟩,
  ⟨(.some 43), .none, (.buildSlice 25 1 2 [(.d (.int .u64 0))] [⟨0, (.t 39)⟩, ⟨1, (.t 42)⟩])⟩,
  ⟨(.some 44), .none, (.len (.t 43))⟩,
  ⟨(.some 45), .none, (.mov (.c (.d (.int .i64 0))))⟩]
abbrev c_poundageref01_Mul_r6 : List AO := [⟨(.some 46), .none, (.bin .lss (.t 45) (.t 44))⟩]
abbrev c_poundageref01_Mul_r7 : List AO := [⟨(.some 47), .none, (.elemAddr 1 (.t 43) (.t 45))⟩,
  ⟨(.some 48), .none, (.load .none (.t 47))⟩,
  ⟨(.some 13), .none, (.mov (.t 48))⟩]
abbrev c_poundageref01_Mul_r8 : List AO := [⟨(.some 49), .none, (.load (.some 3) (.t 11))⟩,
  ⟨(.some 50), .none, (.mov (.t 13))⟩,
  ⟨(.some 51), .none, (.bin .shr (.t 50) (.c (.d (.int .u64 32))))⟩,
  ⟨(.some 52), .none, (.mov (.t 13))⟩,
  ⟨(.some 53), .none, (.bin .shl (.t 52) (.c (.d (.int .u64 32))))⟩,
  ⟨(.some 54), .none, (.build [(.d (.bool .false)), (.d (.int .u64 0)), (.d (.int .u64 0))] [⟨0, ⟨1, (.c (.d (.bool .false)))⟩⟩, ⟨1, ⟨1, (.t 51)⟩⟩, ⟨2, ⟨1, (.t 53)⟩⟩])⟩,
  ⟨(.some 55), .none, (.call 24 [(.t 49), (.t 54)])⟩,
  ⟨.none, .none, (.store 3 (.t 11) (.t 55))⟩]
abbrev c_poundageref01_Mul_r9 : List AO := [⟨(.some 56), .none, (.bin .add (.t 45) (.c (.d (.int .i64 1))))⟩,
  ⟨(.some 45), .none, (.mov (.t 56))⟩]
abbrev c_poundageref01_Mul_l0 : ACode := (.seq (.ops c_poundageref01_Mul_r6) (.seq (.cond (.t 46) .skip (.exit 0)) (.seq (.block 1 (.seq (.ops c_poundageref01_Mul_r7) (.ops c_poundageref01_Mul_r8))) (.ops c_poundageref01_Mul_r9))))
abbrev c_poundageref01_Mul_r10 : List AO := [⟨(.some 57), .none, (.fieldAddr 0 (.t 5))⟩,
  ⟨(.some 58), .none, (.load .none (.t 57))⟩,
  ⟨(.some 59), .none, (.fieldAddr 0 (.t 6))⟩,
  ⟨(.some 60), .none, (.load .none (.t 59))⟩,
  ⟨(.some 61), .none, (.binb .true (.t 58) (.t 60))⟩,
  ⟨(.some 62), .none, (.mov (.t 61))⟩,
  ⟨(.some 63), (.some ⟨62, .true⟩), (.load (.some 3) (.t 11))⟩,
  ⟨(.some 64), (.some ⟨62, .true⟩), (.call 25 [(.t 63)])⟩,
  ⟨(.some 65), (.some ⟨62, .true⟩), (.un .not (.t 64))⟩,
  ⟨(.some 66), .none, (.pick (.t 62) (.t 65) (.c (.d (.bool .false))))⟩,
  ⟨(.some 67), .none, (.fieldAddr 0 (.t 11))⟩,
  ⟨.none, .none, (.store 1 (.t 67) (.t 66))⟩]
abbrev c_poundageref01_Mul_r11 : List AO := [⟨(.some 68), .none, (.load (.some 3) (.t 11))⟩,
  ⟨.none, .none, (.store 3 (.t 4) (.t 68))⟩]
abbrev c_poundageref01_Mul : AFunc := ⟨69, [(.cell 4 (.some 3))], (.seq (.ops c_poundageref01_Mul_r0) (.seq (.ops c_poundageref01_Mul_r1) (.seq (.dops c_poundageref01_Mul_r2) (.seq (.dops c_poundageref01_Mul_r3) (.seq (.ops c_poundageref01_Mul_r4) (.seq (.seq (.ops c_poundageref01_Mul_r5) (.block 0 (.loop c_poundageref01_Mul_l0))) (.seq (.ops c_poundageref01_Mul_r10) (.seq (.ops c_poundageref01_Mul_r11) .ret))))))))⟩
theorem comp_poundageref01_Mul : funcC Try.prog 12 = some c_poundageref01_Mul := by kernel_rfl
/-! function 13 : poundage poundageref01.Opposite -/
abbrev f_poundageref01_Opposite : FuncId := 13
abbrev c_poundageref01_Opposite_r0 : List AO := [⟨(.some 1), .none, (.box 27 (.t 0))⟩,
  ⟨(.some 2), .none, (.alloc 27 [(.d (.bool .false)), (.d (.int .u64 0)), (.d (.int .u64 0))])⟩]
abbrev c_poundageref01_Opposite_r1 : List AO := [⟨(.some 3), .none, (.load (.some 3) (.t 1))⟩,
  ⟨(.some 4), .none, (.call 25 [(.t 3)])⟩]
abbrev c_poundageref01_Opposite_r2 : List AO := [⟨(.some 5), .none, (.load (.some 3) (.t 1))⟩,
  ⟨.none, .none, (.store 3 (.t 2) (.t 5))⟩]
abbrev c_poundageref01_Opposite_r3 : List AO := [⟨(.some 6), .none, (.fieldAddr 0 (.t 1))⟩,
  ⟨(.some 7), .none, (.load .none (.t 6))⟩,
  ⟨(.some 8), .none, (.un .not (.t 7))⟩,
  ⟨(.some 9), .none, (.fieldAddr 1 (.t 1))⟩,
  ⟨(.some 10), .none, (.load .none (.t 9))⟩,
  ⟨(.some 11), .none, (.fieldAddr 2 (.t 1))⟩,
  ⟨(.some 12), .none, (.load .none (.t 11))⟩,
  ⟨(.some 13), .none, (.build [(.d (.bool .false)), (.d (.int .u64 0)), (.d (.int .u64 0))] [⟨0, ⟨1, (.t 8)⟩⟩, ⟨1, ⟨1, (.t 10)⟩⟩, ⟨2, ⟨1, (.t 12)⟩⟩])⟩,
  ⟨.none, .none, (.store 3 (.t 2) (.t 13))⟩]
abbrev c_poundageref01_Opposite : AFunc := ⟨14, [(.cell 2 (.some 3))], (.seq (.ops c_poundageref01_Opposite_r0) (.seq (.seq (.ops c_poundageref01_Opposite_r1) (.cond (.t 4) (.seq (.ops c_poundageref01_Opposite_r2) .ret) .skip)) (.seq (.ops c_poundageref01_Opposite_r3) .ret)))⟩
theorem comp_poundageref01_Opposite : funcC Try.prog 13 = some c_poundageref01_Opposite := by kernel_rfl
/-! function 14 : poundage poundageref02.MulDiv -/
abbrev f_poundageref02_MulDiv : FuncId := 14
abbrev c_poundageref02_MulDiv_r0 : List AO := [⟨(.some 8), .none, (.mov (.c (.d (.int .i64 0))))⟩,
  ⟨(.some 9), .none, (.mov (.c (.d (.bool .false))))⟩]
abbrev c_poundageref02_MulDiv_r1 : List AO := [⟨(.some 18), .none, (.mov (.t 2))⟩,
  ⟨(.some 19), .none, (.bin .leq (.t 18) (.c (.d (.int .i64 0))))⟩,
  ⟨(.some 20), .none, (.mov (.t 19))⟩,
  ⟨(.some 21), (.some ⟨20, .false⟩), (.mov (.t 3))⟩,
  ⟨(.some 22), (.some ⟨20, .false⟩), (.bin .lss (.t 21) (.c (.d (.int .i64 0))))⟩,
  ⟨(.some 23), .none, (.pick (.t 20) (.c (.d (.bool .true))) (.t 22))⟩,
  ⟨(.some 24), .none, (.mov (.t 23))⟩,
  ⟨(.some 25), (.some ⟨24, .false⟩), (.mov (.t 3))⟩,
  ⟨(.some 26), (.some ⟨24, .false⟩), (.bin .gtr (.t 25) (.c (.d (.int .i64 3))))⟩,
  ⟨(.some 27), .none, (.pick (.t 24) (.c (.d (.bool .true))) (.t 26))⟩]
abbrev c_poundageref02_MulDiv_r2 : List AO := [⟨(.some 8), .none, (.mov (.c (.d (.int .i64 0))))⟩,
  ⟨(.some 9), .none, (.mov (.c (.d (.bool .false))))⟩]
abbrev c_poundageref02_MulDiv_r3 : List AO := [⟨(.some 28), .none, (.mov (.t 0))⟩,
  ⟨(.some 29), .none, (.mov (.t 1))⟩,
  ⟨(.some 30), .none, (.call 12 [(.t 28), (.t 29)])⟩,
  ⟨(.some 10), .none, (.alloc 27 [(.d (.bool .false)), (.d (.int .u64 0)), (.d (.int .u64 0))])⟩,
  ⟨.none, .none, (.store 3 (.t 10) (.t 30))⟩]
abbrev c_poundageref02_MulDiv_r4 : List AO := [⟨(.some 32), .none, (.load (.some 3) (.t 10))⟩,
  ⟨(.some 33), .none, (.mov (.t 2))⟩,
  ⟨(.some 34), .none, (.call 29 [(.t 32), (.t 33)])⟩,
  ⟨(.some 31), .none, (.mov (.t 34))⟩,
  ⟨(.some 35), .none, (.extract (.t 31) 0)⟩,
  ⟨(.some 36), .none, (.extract (.t 31) 1)⟩,
  ⟨(.some 11), .none, (.mov (.t 35))⟩,
  ⟨(.some 12), .none, (.mov (.t 36))⟩]
abbrev c_poundageref02_MulDiv_r5 : List AO := [⟨(.some 38), .none, (.mov (.t 11))⟩,
  ⟨(.some 39), .none, (.mov (.t 2))⟩,
  ⟨(.some 37), .none, (.loadS (.some 3) (.t 10) [13])⟩,
  ⟨(.some 40), .none, (.pcall 12 [(.t 38), (.t 39)])⟩,
  ⟨(.some 41), .none, (.pcall 13 [(.t 40)])⟩,
  ⟨(.some 42), .none, (.pcall 11 [(.t 37), (.t 41)])⟩,
  ⟨(.some 13), .none, (.alloc 27 [(.d (.bool .false)), (.d (.int .u64 0)), (.d (.int .u64 0))])⟩,
  ⟨.none, .none, (.storeS 3 13 (.t 42))⟩]
abbrev c_poundageref02_MulDiv_r6 : List AO := [⟨(.some 43), .none, (.mov (.t 12))⟩,
  ⟨(.some 44), .none, (.mov (.t 43))⟩,
  ⟨(.some 45), (.some ⟨44, .true⟩), (.fieldAddr 1 (.t 13))⟩,
  ⟨(.some 46), (.some ⟨44, .true⟩), (.load .none (.t 45))⟩,
  ⟨(.some 47), (.some ⟨44, .true⟩), (.bin .gtr (.t 46) (.c (.d (.int .u64 0))))⟩,
  ⟨(.some 48), .none, (.pick (.t 44) (.t 47) (.c (.d (.bool .false))))⟩,
  ⟨(.some 49), .none, (.mov (.t 48))⟩,
  ⟨(.some 50), (.some ⟨49, .false⟩), (.mov (.t 12))⟩,
  ⟨(.some 51), (.some ⟨49, .false⟩), (.mov (.t 50))⟩,
  ⟨(.some 52), (.some ⟨51, .true⟩), (.fieldAddr 2 (.t 13))⟩,
  ⟨(.some 53), (.some ⟨51, .true⟩), (.load .none (.t 52))⟩,
  ⟨(.some 54), (.some ⟨51, .true⟩), (.mov (.t 2))⟩,
  ⟨(.some 55), (.some ⟨51, .true⟩), (.conv .u64 (.t 54))⟩,
  ⟨(.some 56), (.some ⟨51, .true⟩), (.bin .geq (.t 53) (.t 55))⟩,
  ⟨(.some 57), (.some ⟨49, .false⟩), (.pick (.t 51) (.t 56) (.c (.d (.bool .false))))⟩,
  ⟨(.some 58), .none, (.pick (.t 49) (.c (.d (.bool .true))) (.t 57))⟩]
abbrev c_poundageref02_MulDiv_r7 : List AO := [⟨(.some 8), .none, (.mov (.c (.d (.int .i64 0))))⟩,
  ⟨(.some 9), .none, (.mov (.c (.d (.bool .false))))⟩]
abbrev c_poundageref02_MulDiv_r8 : List AO := [⟨(.some 59), .none, (.mov (.t 12))⟩,
  ⟨(.some 60), .none, (.un .not (.t 59))⟩]
abbrev c_poundageref02_MulDiv_r9 : List AO := [⟨(.some 62), .none, (.load (.some 3) (.t 10))⟩,
  ⟨(.some 63), .none, (.mov (.t 2))⟩,
  ⟨(.some 64), .none, (.mov (.t 3))⟩,
  ⟨(.some 65), .none, (.call 30 [(.t 62), (.t 63), (.t 64)])⟩,
  ⟨(.some 61), .none, (.mov (.t 65))⟩,
  ⟨(.some 66), .none, (.extract (.t 61) 0)⟩,
  ⟨(.some 67), .none, (.extract (.t 61) 1)⟩,
  ⟨(.some 14), .none, (.mov (.t 66))⟩,
  ⟨(.some 15), .none, (.mov (.t 67))⟩]
abbrev c_poundageref02_MulDiv_r10 : List AO := [⟨(.some 68), .none, (.mov (.t 15))⟩]
abbrev c_poundageref02_MulDiv_r11 : List AO := [⟨(.some 69), .none, (.mov (.t 14))⟩,
  ⟨(.some 8), .none, (.mov (.t 69))⟩,
  ⟨(.some 9), .none, (.mov (.c (.d (.bool .true))))⟩]
abbrev c_poundageref02_MulDiv_r12 : List AO := [⟨(.some 8), .none, (.mov (.c (.d (.int .i64 0))))⟩,
  ⟨(.some 9), .none, (.mov (.c (.d (.bool .false))))⟩]
abbrev c_poundageref02_MulDiv_r13 : List AO := [⟨(.some 16), .none, (.mov (.c (.d (.bool .false))))⟩]
abbrev c_poundageref02_MulDiv_r14 : List AO := [⟨(.some 70), .none, (.mov (.t 2))⟩,
  ⟨(.some 71), .none, (.conv .u64 (.t 70))⟩,
  ⟨(.some 72), .none, (.fieldAddr 2 (.t 13))⟩,
  ⟨(.some 73), .none, (.load .none (.t 72))⟩,
  ⟨(.some 74), .none, (.bin .sub (.t 71) (.t 73))⟩,
  ⟨(.some 17), .none, (.mov (.t 74))⟩]
abbrev c_poundageref02_MulDiv_r15 : List AO := [⟨(.some 75), .none, (.mov (.t 3))⟩]
abbrev c_poundageref02_MulDiv_r16 : List AO := [⟨(.some 77), .none, (.bin .eql (.t 75) (.c (.d (.int .i64 1))))⟩,
  ⟨(.some 76), .none, (.mov (.t 77))⟩]
abbrev c_poundageref02_MulDiv_r17 : List AO := [⟨(.some 78), .none, (.fieldAddr 2 (.t 13))⟩,
  ⟨(.some 79), .none, (.load .none (.t 78))⟩,
  ⟨(.some 80), .none, (.bin .gtr (.t 79) (.c (.d (.int .u64 0))))⟩,
  ⟨(.some 16), .none, (.mov (.t 80))⟩]
abbrev c_poundageref02_MulDiv_r18 : List AO := [⟨(.some 82), .none, (.bin .eql (.t 75) (.c (.d (.int .i64 2))))⟩,
  ⟨(.some 81), .none, (.mov (.t 82))⟩]
abbrev c_poundageref02_MulDiv_r19 : List AO := [⟨(.some 83), .none, (.fieldAddr 2 (.t 13))⟩,
  ⟨(.some 84), .none, (.load .none (.t 83))⟩,
  ⟨(.some 85), .none, (.mov (.t 17))⟩,
  ⟨(.some 86), .none, (.bin .geq (.t 84) (.t 85))⟩,
  ⟨(.some 16), .none, (.mov (.t 86))⟩]
abbrev c_poundageref02_MulDiv_r20 : List AO := [⟨(.some 88), .none, (.bin .eql (.t 75) (.c (.d (.int .i64 3))))⟩,
  ⟨(.some 87), .none, (.mov (.t 88))⟩]
abbrev c_poundageref02_MulDiv_r21 : List AO := [⟨(.some 89), .none, (.fieldAddr 2 (.t 13))⟩,
  ⟨(.some 90), .none, (.load .none (.t 89))⟩,
  ⟨(.some 91), .none, (.mov (.t 17))⟩,
  ⟨(.some 92), .none, (.bin .gtr (.t 90) (.t 91))⟩,
  ⟨(.some 93), .none, (.mov (.t 92))⟩,
  ⟨(.some 94), (.some ⟨93, .false⟩), (.fieldAddr 2 (.t 13))⟩,
  ⟨(.some 95), (.some ⟨93, .false⟩), (.load .none (.t 94))⟩,
  ⟨(.some 96), (.some ⟨93, .false⟩), (.mov (.t 17))⟩,
  ⟨(.some 97), (.some ⟨93, .false⟩), (.bin .eql (.t 95) (.t 96))⟩,
  ⟨(.some 98), (.some ⟨93, .false⟩), (.mov (.t 97))⟩,
  ⟨(.some 99), (.some ⟨98, .true⟩), (.mov (.t 11))⟩,
  ⟨(.some 100), (.some ⟨98, .true⟩), (.bin .rem (.t 99) (.c (.d (.int .i64 2))))⟩,
  ⟨(.some 101), (.some ⟨98, .true⟩), (.bin .neq (.t 100) (.c (.d (.int .i64 0))))⟩,
  ⟨(.some 102), (.some ⟨93, .false⟩), (.pick (.t 98) (.t 101) (.c (.d (.bool .false))))⟩,
  ⟨(.some 103), .none, (.pick (.t 93) (.c (.d (.bool .true))) (.t 102))⟩,
  ⟨(.some 16), .none, (.mov (.t 103))⟩]
abbrev c_poundageref02_MulDiv_r22 : List AO := [⟨(.some 104), .none, (.mov (.t 16))⟩,
  ⟨(.some 105), .none, (.un .not (.t 104))⟩]
abbrev c_poundageref02_MulDiv_r23 : List AO := [⟨(.some 106), .none, (.mov (.t 11))⟩,
  ⟨(.some 8), .none, (.mov (.t 106))⟩,
  ⟨(.some 9), .none, (.mov (.c (.d (.bool .true))))⟩]
abbrev c_poundageref02_MulDiv_r24 : List AO := [⟨(.some 107), .none, (.mov (.t 11))⟩,
  ⟨(.some 108), .none, (.bin .eql (.t 107) (.c (.d (.int .i64 9223372036854775807))))⟩]
abbrev c_poundageref02_MulDiv_r25 : List AO := [⟨(.some 8), .none, (.mov (.c (.d (.int .i64 0))))⟩,
  ⟨(.some 9), .none, (.mov (.c (.d (.bool .false))))⟩]
abbrev c_poundageref02_MulDiv_r26 : List AO := [⟨(.some 109), .none, (.mov (.t 11))⟩,
  ⟨(.some 110), .none, (.bin .add (.t 109) (.c (.d (.int .i64 1))))⟩,
  ⟨(.some 8), .none, (.mov (.t 110))⟩,
  ⟨(.some 9), .none, (.mov (.c (.d (.bool .true))))⟩]
abbrev c_poundageref02_MulDiv : AFunc := ⟨111, [(.tmp 8), (.tmp 9)], (.seq (.ops c_poundageref02_MulDiv_r0) (.seq (.seq (.ops c_poundageref02_MulDiv_r1) (.cond (.t 27) (.seq (.ops c_poundageref02_MulDiv_r2) .ret) .skip)) (.seq (.ops c_poundageref02_MulDiv_r3) (.seq (.ops c_poundageref02_MulDiv_r4) (.seq (.dops c_poundageref02_MulDiv_r5) (.seq (.seq (.ops c_poundageref02_MulDiv_r6) (.cond (.t 58) (.seq (.ops c_poundageref02_MulDiv_r7) .ret) .skip)) (.seq (.seq (.ops c_poundageref02_MulDiv_r8) (.cond (.t 60) (.seq (.seq (.ops c_poundageref02_MulDiv_r9) (.seq (.ops c_poundageref02_MulDiv_r10) (.cond (.t 68) (.seq (.ops c_poundageref02_MulDiv_r11) .ret) .skip))) (.seq (.ops c_poundageref02_MulDiv_r12) .ret)) .skip)) (.seq (.ops c_poundageref02_MulDiv_r13) (.seq (.ops c_poundageref02_MulDiv_r14) (.seq (.seq (.ops c_poundageref02_MulDiv_r15) (.block 0 (.seq (.ops c_poundageref02_MulDiv_r16) (.cond (.t 76) (.ops c_poundageref02_MulDiv_r17) (.seq (.ops c_poundageref02_MulDiv_r18) (.cond (.t 81) (.ops c_poundageref02_MulDiv_r19) (.seq (.ops c_poundageref02_MulDiv_r20) (.cond (.t 87) (.ops c_poundageref02_MulDiv_r21) .skip)))))))) (.seq (.seq (.ops c_poundageref02_MulDiv_r22) (.cond (.t 105) (.seq (.ops c_poundageref02_MulDiv_r23) .ret) .skip)) (.seq (.seq (.ops c_poundageref02_MulDiv_r24) (.cond (.t 108) (.seq (.ops c_poundageref02_MulDiv_r25) .ret) .skip)) (.seq (.ops c_poundageref02_MulDiv_r26) .ret)))))))))))))⟩
theorem comp_poundageref02_MulDiv : funcC Try.prog 14 = some c_poundageref02_MulDiv := by kernel_rfl
/-! function 15 : poundage round.Div -/
abbrev f_round_Div : FuncId := 15
abbrev c_round_Div_r0 : List AO := [⟨(.some 6), .none, (.mov (.c (.d (.int .i64 0))))⟩,
  ⟨(.some 7), .none, (.mov (.c (.d (.bool .false))))⟩]
abbrev c_round_Div_r1 : List AO := [⟨(.some 8), .none, (.mov (.t 0))⟩,
  ⟨(.some 9), .none, (.mov (.t 1))⟩,
  ⟨(.some 10), .none, (.mov (.t 2))⟩,
  ⟨(.some 11), .none, (.call 10 [(.t 8), (.c (.d (.int .i64 1))), (.t 9), (.t 10)])⟩,
  ⟨(.some 12), .none, (.extract (.t 11) 0)⟩,
  ⟨(.some 13), .none, (.extract (.t 11) 1)⟩,
  ⟨(.some 6), .none, (.mov (.t 12))⟩,
  ⟨(.some 7), .none, (.mov (.t 13))⟩]
abbrev c_round_Div : AFunc := ⟨14, [(.tmp 6), (.tmp 7)], (.seq (.ops c_round_Div_r0) (.seq (.ops c_round_Div_r1) .ret))⟩
theorem comp_round_Div : funcC Try.prog 15 = some c_round_Div := by kernel_rfl
/-! function 16 : poundage round.Good -/
abbrev f_round_Good : FuncId := 16
abbrev c_round_Good_r0 : List AO := [⟨(.some 2), .none, (.mov (.c (.d (.bool .false))))⟩]
abbrev c_round_Good_r1 : List AO := [⟨(.some 3), .none, (.mov (.t 0))⟩,
  ⟨(.some 4), .none, (.bin .geq (.t 3) (.c (.d (.int .i64 0))))⟩,
  ⟨(.some 5), .none, (.mov (.t 4))⟩,
  ⟨(.some 6), (.some ⟨5, .true⟩), (.mov (.t 0))⟩,
  ⟨(.some 7), (.some ⟨5, .true⟩), (.bin .leq (.t 6) (.c (.d (.int .i64 3))))⟩,
  ⟨(.some 8), .none, (.pick (.t 5) (.t 7) (.c (.d (.bool .false))))⟩,
  ⟨(.some 2), .none, (.mov (.t 8))⟩]
abbrev c_round_Good : AFunc := ⟨9, [(.tmp 2)], (.seq (.ops c_round_Good_r0) (.seq (.ops c_round_Good_r1) .ret))⟩
theorem comp_round_Good : funcC Try.prog 16 = some c_round_Good := by kernel_rfl
/-! function 17 : poundage round.Up -/
abbrev f_round_Up : FuncId := 17
abbrev c_round_Up_r0 : List AO := [⟨(.some 4), .none, (.mov (.c (.d (.int .i64 0))))⟩,
  ⟨(.some 5), .none, (.mov (.c (.d (.bool .false))))⟩]
abbrev c_round_Up_r1 : List AO := [⟨(.some 9), .none, (.mov (.t 0))⟩,
  ⟨(.some 10), .none, (.mov (.t 1))⟩,
  ⟨(.some 11), .none, (.call 15 [(.t 9), (.t 10), (.c (.d (.int .i64 1)))])⟩,
  ⟨(.some 8), .none, (.mov (.t 11))⟩,
  ⟨(.some 12), .none, (.extract (.t 8) 0)⟩,
  ⟨(.some 13), .none, (.extract (.t 8) 1)⟩,
  ⟨(.some 6), .none, (.mov (.t 12))⟩,
  ⟨(.some 7), .none, (.mov (.t 13))⟩]
abbrev c_round_Up_r2 : List AO := [⟨(.some 14), .none, (.mov (.t 7))⟩,
  ⟨(.some 15), .none, (.un .not (.t 14))⟩]
abbrev c_round_Up_r3 : List AO := [⟨(.some 4), .none, (.mov (.c (.d (.int .i64 0))))⟩,
  ⟨(.some 5), .none, (.mov (.c (.d (.bool .false))))⟩]
abbrev c_round_Up_r4 : List AO := [⟨(.some 16), .none, (.mov (.t 6))⟩,
  ⟨(.some 17), .none, (.mov (.t 1))⟩,
  ⟨(.some 18), .none, (.call 10 [(.t 16), (.t 17), (.c (.d (.int .i64 1))), (.c (.d (.int .i64 0)))])⟩,
  ⟨(.some 19), .none, (.extract (.t 18) 0)⟩,
  ⟨(.some 20), .none, (.extract (.t 18) 1)⟩,
  ⟨(.some 4), .none, (.mov (.t 19))⟩,
  ⟨(.some 5), .none, (.mov (.t 20))⟩]
abbrev c_round_Up : AFunc := ⟨21, [(.tmp 4), (.tmp 5)], (.seq (.ops c_round_Up_r0) (.seq (.ops c_round_Up_r1) (.seq (.seq (.ops c_round_Up_r2) (.cond (.t 15) (.seq (.ops c_round_Up_r3) .ret) .skip)) (.seq (.ops c_round_Up_r4) .ret))))⟩
theorem comp_round_Up : funcC Try.prog 17 = some c_round_Up := by kernel_rfl
/-! function 18 : poundage poundageref01.Int -/
abbrev f_poundageref01_Int : FuncId := 18
abbrev c_poundageref01_Int_r0 : List AO := [⟨(.some 1), .none, (.box 27 (.t 0))⟩,
  ⟨(.some 2), .none, (.mov (.c (.d (.int .i64 0))))⟩,
  ⟨(.some 3), .none, (.mov (.c (.d (.bool .false))))⟩]
abbrev c_poundageref01_Int_r1 : List AO := [⟨(.some 4), .none, (.fieldAddr 1 (.t 1))⟩,
  ⟨(.some 5), .none, (.load .none (.t 4))⟩,
  ⟨(.some 6), .none, (.bin .neq (.t 5) (.c (.d (.int .u64 0))))⟩]
abbrev c_poundageref01_Int_r2 : List AO := [⟨(.some 2), .none, (.mov (.c (.d (.int .i64 0))))⟩,
  ⟨(.some 3), .none, (.mov (.c (.d (.bool .false))))⟩]
abbrev c_poundageref01_Int_r3 : List AO := [⟨(.some 7), .none, (.fieldAddr 0 (.t 1))⟩,
  ⟨(.some 8), .none, (.load .none (.t 7))⟩]
abbrev c_poundageref01_Int_r4 : List AO := [⟨(.some 9), .none, (.fieldAddr 2 (.t 1))⟩,
  ⟨(.some 10), .none, (.load .none (.t 9))⟩,
  ⟨(.some 11), .none, (.bin .gtr (.t 10) (.c (.d (.int .u64 9223372036854775808))))⟩]
abbrev c_poundageref01_Int_r5 : List AO := [⟨(.some 2), .none, (.mov (.c (.d (.int .i64 0))))⟩,
  ⟨(.some 3), .none, (.mov (.c (.d (.bool .false))))⟩]
abbrev c_poundageref01_Int_r6 : List AO := [⟨(.some 12), .none, (.fieldAddr 2 (.t 1))⟩,
  ⟨(.some 13), .none, (.load .none (.t 12))⟩,
  ⟨(.some 14), .none, (.bin .eql (.t 13) (.c (.d (.int .u64 0))))⟩]
abbrev c_poundageref01_Int_r7 : List AO := [⟨(.some 2), .none, (.mov (.c (.d (.int .i64 0))))⟩,
  ⟨(.some 3), .none, (.mov (.c (.d (.bool .true))))⟩]
abbrev c_poundageref01_Int_r8 : List AO := [⟨(.some 15), .none, (.fieldAddr 2 (.t 1))⟩,
  ⟨(.some 16), .none, (.load .none (.t 15))⟩,
  ⟨(.some 17), .none, (.bin .sub (.t 16) (.c (.d (.int .u64 1))))⟩,
  ⟨(.some 18), .none, (.conv .i64 (.t 17))⟩,
  ⟨(.some 19), .none, (.un .neg (.t 18))⟩,
  ⟨(.some 20), .none, (.bin .sub (.t 19) (.c (.d (.int .i64 1))))⟩,
  ⟨(.some 2), .none, (.mov (.t 20))⟩,
  ⟨(.some 3), .none, (.mov (.c (.d (.bool .true))))⟩]
abbrev c_poundageref01_Int_r9 : List AO := [⟨(.some 21), .none, (.fieldAddr 2 (.t 1))⟩,
  ⟨(.some 22), .none, (.load .none (.t 21))⟩,
  ⟨(.some 23), .none, (.bin .geq (.t 22) (.c (.d (.int .u64 9223372036854775808))))⟩]
abbrev c_poundageref01_Int_r10 : List AO := [⟨(.some 2), .none, (.mov (.c (.d (.int .i64 0))))⟩,
  ⟨(.some 3), .none, (.mov (.c (.d (.bool .false))))⟩]
abbrev c_poundageref01_Int_r11 : List AO := [⟨(.some 24), .none, (.fieldAddr 2 (.t 1))⟩,
  ⟨(.some 25), .none, (.load .none (.t 24))⟩,
  ⟨(.some 26), .none, (.conv .i64 (.t 25))⟩,
  ⟨(.some 2), .none, (.mov (.t 26))⟩,
  ⟨(.some 3), .none, (.mov (.c (.d (.bool .true))))⟩]
abbrev c_poundageref01_Int : AFunc := ⟨27, [(.tmp 2), (.tmp 3)], (.seq (.ops c_poundageref01_Int_r0) (.seq (.seq (.ops c_poundageref01_Int_r1) (.cond (.t 6) (.seq (.ops c_poundageref01_Int_r2) .ret) .skip)) (.seq (.seq (.ops c_poundageref01_Int_r3) (.cond (.t 8) (.seq (.seq (.ops c_poundageref01_Int_r4) (.cond (.t 11) (.seq (.ops c_poundageref01_Int_r5) .ret) .skip)) (.seq (.seq (.ops c_poundageref01_Int_r6) (.cond (.t 14) (.seq (.ops c_poundageref01_Int_r7) .ret) .skip)) (.seq (.ops c_poundageref01_Int_r8) .ret))) .skip)) (.seq (.seq (.ops c_poundageref01_Int_r9) (.cond (.t 23) (.seq (.ops c_poundageref01_Int_r10) .ret) .skip)) (.seq (.ops c_poundageref01_Int_r11) .ret)))))⟩
theorem comp_poundageref01_Int : funcC Try.prog 18 = some c_poundageref01_Int := by kernel_rfl
/-! function 19 : math bits.Mul64 -/
abbrev f_bits_Mul64 : FuncId := 19
abbrev c_bits_Mul64_r0 : List AO := [⟨(.some 4), .none, (.mov (.c (.d (.int .u64 0))))⟩,
  ⟨(.some 5), .none, (.mov (.c (.d (.int .u64 0))))⟩]
abbrev c_bits_Mul64_r1 : List AO := [⟨(.some 14), .none, (.mov (.t 0))⟩,
  ⟨(.some 15), .none, (.bin .and (.t 14) (.c (.d (.int .u64 4294967295))))⟩,
  ⟨(.some 6), .none, (.mov (.t 15))⟩]
abbrev c_bits_Mul64_r2 : List AO := [⟨(.some 16), .none, (.mov (.t 0))⟩,
  ⟨(.some 17), .none, (.bin .shr (.t 16) (.c (.d (.int .u64 32))))⟩,
  ⟨(.some 7), .none, (.mov (.t 17))⟩]
abbrev c_bits_Mul64_r3 : List AO := [⟨(.some 18), .none, (.mov (.t 1))⟩,
  ⟨(.some 19), .none, (.bin .and (.t 18) (.c (.d (.int .u64 4294967295))))⟩,
  ⟨(.some 8), .none, (.mov (.t 19))⟩]
abbrev c_bits_Mul64_r4 : List AO := [⟨(.some 20), .none, (.mov (.t 1))⟩,
  ⟨(.some 21), .none, (.bin .shr (.t 20) (.c (.d (.int .u64 32))))⟩,
  ⟨(.some 9), .none, (.mov (.t 21))⟩]
abbrev c_bits_Mul64_r5 : List AO := [⟨(.some 22), .none, (.mov (.t 6))⟩,
  ⟨(.some 23), .none, (.mov (.t 8))⟩,
  ⟨(.some 24), .none, (.bin .mul (.t 22) (.t 23))⟩,
  ⟨(.some 10), .none, (.mov (.t 24))⟩]
abbrev c_bits_Mul64_r6 : List AO := [⟨(.some 25), .none, (.mov (.t 7))⟩,
  ⟨(.some 26), .none, (.mov (.t 8))⟩,
  ⟨(.some 27), .none, (.bin .mul (.t 25) (.t 26))⟩,
  ⟨(.some 28), .none, (.mov (.t 10))⟩,
  ⟨(.some 29), .none, (.bin .shr (.t 28) (.c (.d (.int .u64 32))))⟩,
  ⟨(.some 30), .none, (.bin .add (.t 27) (.t 29))⟩,
  ⟨(.some 11), .none, (.mov (.t 30))⟩]
abbrev c_bits_Mul64_r7 : List AO := [⟨(.some 31), .none, (.mov (.t 11))⟩,
  ⟨(.some 32), .none, (.bin .and (.t 31) (.c (.d (.int .u64 4294967295))))⟩,
  ⟨(.some 12), .none, (.mov (.t 32))⟩]
abbrev c_bits_Mul64_r8 : List AO := [⟨(.some 33), .none, (.mov (.t 11))⟩,
  ⟨(.some 34), .none, (.bin .shr (.t 33) (.c (.d (.int .u64 32))))⟩,
  ⟨(.some 13), .none, (.mov (.t 34))⟩]
abbrev c_bits_Mul64_r9 : List AO := [⟨(.some 35), .none, (.mov (.t 12))⟩,
  ⟨(.some 36), .none, (.mov (.t 6))⟩,
  ⟨(.some 37), .none, (.mov (.t 9))⟩,
  ⟨(.some 38), .none, (.bin .mul (.t 36) (.t 37))⟩,
  ⟨(.some 39), .none, (.bin .add (.t 35) (.t 38))⟩,
  ⟨(.some 12), .none, (.mov (.t 39))⟩]
abbrev c_bits_Mul64_r10 : List AO := [⟨(.some 40), .none, (.mov (.t 7))⟩,
  ⟨(.some 41), .none, (.mov (.t 9))⟩,
  ⟨(.some 42), .none, (.bin .mul (.t 40) (.t 41))⟩,
  ⟨(.some 43), .none, (.mov (.t 13))⟩,
  ⟨(.some 44), .none, (.bin .add (.t 42) (.t 43))⟩,
  ⟨(.some 45), .none, (.mov (.t 12))⟩,
  ⟨(.some 46), .none, (.bin .shr (.t 45) (.c (.d (.int .u64 32))))⟩,
  ⟨(.some 47), .none, (.bin .add (.t 44) (.t 46))⟩,
  ⟨(.some 4), .none, (.mov (.t 47))⟩]
abbrev c_bits_Mul64_r11 : List AO := [⟨(.some 48), .none, (.mov (.t 0))⟩,
  ⟨(.some 49), .none, (.mov (.t 1))⟩,
  ⟨(.some 50), .none, (.bin .mul (.t 48) (.t 49))⟩,
  ⟨(.some 5), .none, (.mov (.t 50))⟩]
abbrev c_bits_Mul64 : AFunc := ⟨51, [(.tmp 4), (.tmp 5)], (.seq (.ops c_bits_Mul64_r0) (.seq (.ops c_bits_Mul64_r1) (.seq (.ops c_bits_Mul64_r2) (.seq (.ops c_bits_Mul64_r3) (.seq (.ops c_bits_Mul64_r4) (.seq (.ops c_bits_Mul64_r5) (.seq (.ops c_bits_Mul64_r6) (.seq (.ops c_bits_Mul64_r7) (.seq (.ops c_bits_Mul64_r8) (.seq (.ops c_bits_Mul64_r9) (.seq (.ops c_bits_Mul64_r10) (.seq (.ops c_bits_Mul64_r11) .ret))))))))))))⟩
theorem comp_bits_Mul64 : funcC Try.prog 19 = some c_bits_Mul64 := by kernel_rfl
/-! function 20 : poundage round.abs -/
abbrev f_round_abs : FuncId := 20
abbrev c_round_abs_r0 : List AO := [⟨(.some 2), .none, (.mov (.c (.d (.int .u64 0))))⟩]
abbrev c_round_abs_r1 : List AO := [⟨(.some 3), .none, (.mov (.t 0))⟩,
  ⟨(.some 4), .none, (.bin .lss (.t 3) (.c (.d (.int .i64 0))))⟩]
abbrev c_round_abs_r2 : List AO := [⟨(.some 5), .none, (.mov (.t 0))⟩,
  ⟨(.some 6), .none, (.conv .u64 (.t 5))⟩,
  ⟨(.some 7), .none, (.un .neg (.t 6))⟩,
  ⟨(.some 2), .none, (.mov (.t 7))⟩]
abbrev c_round_abs_r3 : List AO := [⟨(.some 8), .none, (.mov (.t 0))⟩,
  ⟨(.some 9), .none, (.conv .u64 (.t 8))⟩,
  ⟨(.some 2), .none, (.mov (.t 9))⟩]
abbrev c_round_abs : AFunc := ⟨10, [(.tmp 2)], (.seq (.ops c_round_abs_r0) (.seq (.seq (.ops c_round_abs_r1) (.cond (.t 4) (.seq (.ops c_round_abs_r2) .ret) .skip)) (.seq (.ops c_round_abs_r3) .ret)))⟩
theorem comp_round_abs : funcC Try.prog 20 = some c_round_abs := by kernel_rfl
/-! function 21 : math bits.Div64 -/
abbrev f_bits_Div64 : FuncId := 21
abbrev c_bits_Div64_r0 : List AO := [⟨(.some 6), .none, (.mov (.c (.d (.int .u64 0))))⟩,
  ⟨(.some 7), .none, (.mov (.c (.d (.int .u64 0))))⟩]
abbrev c_bits_Div64_r1 : List AO := [⟨(.some 19), .none, (.mov (.t 2))⟩,
  ⟨(.some 20), .none, (.bin .eql (.t 19) (.c (.d (.int .u64 0))))⟩]
abbrev c_bits_Div64_r2 : List AO := [⟨(.some 21), .none, (.load .none (.c .undef))⟩,
  ⟨.none, .none, .bad⟩]
abbrev c_bits_Div64_r3 : List AO := [⟨(.some 22), .none, (.mov (.t 2))⟩,
  ⟨(.some 23), .none, (.mov (.t 0))⟩,
  ⟨(.some 24), .none, (.bin .leq (.t 22) (.t 23))⟩]
abbrev c_bits_Div64_r4 : List AO := [⟨(.some 25), .none, (.load .none (.c .undef))⟩,
  ⟨.none, .none, .bad⟩]
abbrev c_bits_Div64_r5 : List AO := [⟨(.some 26), .none, (.mov (.t 0))⟩,
  ⟨(.some 27), .none, (.bin .eql (.t 26) (.c (.d (.int .u64 0))))⟩]
abbrev c_bits_Div64_r6 : List AO := [⟨(.some 28), .none, (.mov (.t 1))⟩,
  ⟨(.some 29), .none, (.mov (.t 2))⟩,
  ⟨(.some 30), .none, (.bin .quo (.t 28) (.t 29))⟩,
  ⟨(.some 31), .none, (.mov (.t 1))⟩,
  ⟨(.some 32), .none, (.mov (.t 2))⟩,
  ⟨(.some 33), .none, (.bin .rem (.t 31) (.t 32))⟩,
  ⟨(.some 6), .none, (.mov (.t 30))⟩,
  ⟨(.some 7), .none, (.mov (.t 33))⟩]
abbrev c_bits_Div64_r7 : List AO := [⟨(.some 34), .none, (.mov (.t 2))⟩,
  ⟨(.some 35), .none, (.call 31 [(.t 34)])⟩,
  ⟨(.some 36), .none, (.conv .u64 (.t 35))⟩,
  ⟨(.some 8), .none, (.mov (.t 36))⟩]
abbrev c_bits_Div64_r8 : List AO := [⟨(.some 37), .none, (.mov (.t 2))⟩,
  ⟨(.some 38), .none, (.mov (.t 8))⟩,
  ⟨(.some 39), .none, (.bin .shl (.t 37) (.t 38))⟩,
  ⟨(.some 2), .none, (.mov (.t 39))⟩]
abbrev c_bits_Div64_r9 : List AO := [⟨(.some 40), .none, (.mov (.t 2))⟩,
  ⟨(.some 41), .none, (.bin .shr (.t 40) (.c (.d (.int .u64 32))))⟩,
  ⟨(.some 9), .none, (.mov (.t 41))⟩]
abbrev c_bits_Div64_r10 : List AO := [⟨(.some 42), .none, (.mov (.t 2))⟩,
  ⟨(.some 43), .none, (.bin .and (.t 42) (.c (.d (.int .u64 4294967295))))⟩,
  ⟨(.some 10), .none, (.mov (.t 43))⟩]
abbrev c_bits_Div64_r11 : List AO := [⟨(.some 44), .none, (.mov (.t 0))⟩,
  ⟨(.some 45), .none, (.mov (.t 8))⟩,
  ⟨(.some 46), .none, (.bin .shl (.t 44) (.t 45))⟩,
  ⟨(.some 47), .none, (.mov (.t 1))⟩,
  ⟨(.some 48), .none, (.mov (.t 8))⟩,
  ⟨(.some 49), .none, (.bin .sub (.c (.d (.int .u64 64))) (.t 48))⟩,
  ⟨(.some 50), .none, (.bin .shr (.t 47) (.t 49))⟩,
  ⟨(.some 51), .none, (.bin .or (.t 46) (.t 50))⟩,
  ⟨(.some 11), .none, (.mov (.t 51))⟩]
abbrev c_bits_Div64_r12 : List AO := [⟨(.some 52), .none, (.mov (.t 1))⟩,
  ⟨(.some 53), .none, (.mov (.t 8))⟩,
  ⟨(.some 54), .none, (.bin .shl (.t 52) (.t 53))⟩,
  ⟨(.some 12), .none, (.mov (.t 54))⟩]
abbrev c_bits_Div64_r13 : List AO := [⟨(.some 55), .none, (.mov (.t 12))⟩,
  ⟨(.some 56), .none, (.bin .shr (.t 55) (.c (.d (.int .u64 32))))⟩,
  ⟨(.some 13), .none, (.mov (.t 56))⟩]
abbrev c_bits_Div64_r14 : List AO := [⟨(.some 57), .none, (.mov (.t 12))⟩,
  ⟨(.some 58), .none, (.bin .and (.t 57) (.c (.d (.int .u64 4294967295))))⟩,
  ⟨(.some 14), .none, (.mov (.t 58))⟩]
abbrev c_bits_Div64_r15 : List AO := [⟨(.some 59), .none, (.mov (.t 11))⟩,
  ⟨(.some 60), .none, (.mov (.t 9))⟩,
  ⟨(.some 61), .none, (.bin .quo (.t 59) (.t 60))⟩,
  ⟨(.some 15), .none, (.mov (.t 61))⟩]
abbrev c_bits_Div64_r16 : List AO := [⟨(.some 62), .none, (.mov (.t 11))⟩,
  ⟨(.some 63), .none, (.mov (.t 15))⟩,
  ⟨(.some 64), .none, (.mov (.t 9))⟩,
  ⟨(.some 65), .none, (.bin .mul (.t 63) (.t 64))⟩,
  ⟨(.some 66), .none, (.bin .sub (.t 62) (.t 65))⟩,
  ⟨(.some 16), .none, (.mov (.t 66))⟩]
abbrev c_bits_Div64_r17 : List AO := [⟨(.some 67), .none, (.mov (.t 15))⟩,
  ⟨(.some 68), .none, (.bin .geq (.t 67) (.c (.d (.int .u64 4294967296))))⟩,
  ⟨(.some 69), .none, (.mov (.t 68))⟩,
  ⟨(.some 70), (.some ⟨69, .false⟩), (.mov (.t 15))⟩,
  ⟨(.some 71), (.some ⟨69, .false⟩), (.mov (.t 10))⟩,
  ⟨(.some 72), (.some ⟨69, .false⟩), (.bin .mul (.t 70) (.t 71))⟩,
  ⟨(.some 73), (.some ⟨69, .false⟩), (.mov (.t 16))⟩,
  ⟨(.some 74), (.some ⟨69, .false⟩), (.bin .mul (.c (.d (.int .u64 4294967296))) (.t 73))⟩,
  ⟨(.some 75), (.some ⟨69, .false⟩), (.mov (.t 13))⟩,
  ⟨(.some 76), (.some ⟨69, .false⟩), (.bin .add (.t 74) (.t 75))⟩,
  ⟨(.some 77), (.some ⟨69, .false⟩), (.bin .gtr (.t 72) (.t 76))⟩,
  ⟨(.some 78), .none, (.pick (.t 69) (.c (.d (.bool .true))) (.t 77))⟩]
abbrev c_bits_Div64_r18 : List AO := [⟨(.some 79), .none, (.mov (.t 15))⟩,
  ⟨(.some 80), .none, (.bin .sub (.t 79) (.c (.d (.int .u64 1))))⟩,
  ⟨(.some 15), .none, (.mov (.t 80))⟩]
abbrev c_bits_Div64_r19 : List AO := [⟨(.some 81), .none, (.mov (.t 16))⟩,
  ⟨(.some 82), .none, (.mov (.t 9))⟩,
  ⟨(.some 83), .none, (.bin .add (.t 81) (.t 82))⟩,
  ⟨(.some 16), .none, (.mov (.t 83))⟩]
abbrev c_bits_Div64_r20 : List AO := [⟨(.some 84), .none, (.mov (.t 16))⟩,
  ⟨(.some 85), .none, (.bin .geq (.t 84) (.c (.d (.int .u64 4294967296))))⟩]
abbrev c_bits_Div64_l0 : ACode := (.seq (.seq (.ops c_bits_Div64_r17) (.cond (.t 78) .skip (.exit 0))) (.block 1 (.seq (.ops c_bits_Div64_r18) (.seq (.ops c_bits_Div64_r19) (.seq (.ops c_bits_Div64_r20) (.cond (.t 85) (.exit 0) .skip))))))
abbrev c_bits_Div64_r21 : List AO := [⟨(.some 86), .none, (.mov (.t 11))⟩,
  ⟨(.some 87), .none, (.bin .mul (.t 86) (.c (.d (.int .u64 4294967296))))⟩,
  ⟨(.some 88), .none, (.mov (.t 13))⟩,
  ⟨(.some 89), .none, (.bin .add (.t 87) (.t 88))⟩,
  ⟨(.some 90), .none, (.mov (.t 15))⟩,
  ⟨(.some 91), .none, (.mov (.t 2))⟩,
  ⟨(.some 92), .none, (.bin .mul (.t 90) (.t 91))⟩,
  ⟨(.some 93), .none, (.bin .sub (.t 89) (.t 92))⟩,
  ⟨(.some 17), .none, (.mov (.t 93))⟩]
abbrev c_bits_Div64_r22 : List AO := [⟨(.some 94), .none, (.mov (.t 17))⟩,
  ⟨(.some 95), .none, (.mov (.t 9))⟩,
  ⟨(.some 96), .none, (.bin .quo (.t 94) (.t 95))⟩,
  ⟨(.some 18), .none, (.mov (.t 96))⟩]
abbrev c_bits_Div64_r23 : List AO := [⟨(.some 97), .none, (.mov (.t 17))⟩,
  ⟨(.some 98), .none, (.mov (.t 18))⟩,
  ⟨(.some 99), .none, (.mov (.t 9))⟩,
  ⟨(.some 100), .none, (.bin .mul (.t 98) (.t 99))⟩,
  ⟨(.some 101), .none, (.bin .sub (.t 97) (.t 100))⟩,
  ⟨(.some 16), .none, (.mov (.t 101))⟩]
abbrev c_bits_Div64_r24 : List AO := [⟨(.some 102), .none, (.mov (.t 18))⟩,
  ⟨(.some 103), .none, (.bin .geq (.t 102) (.c (.d (.int .u64 4294967296))))⟩,
  ⟨(.some 104), .none, (.mov (.t 103))⟩,
  ⟨(.some 105), (.some ⟨104, .false⟩), (.mov (.t 18))⟩,
  ⟨(.some 106), (.some ⟨104, .false⟩), (.mov (.t 10))⟩,
  ⟨(.some 107), (.some ⟨104, .false⟩), (.bin .mul (.t 105) (.t 106))⟩,
  ⟨(.some 108), (.some ⟨104, .false⟩), (.mov (.t 16))⟩,
  ⟨(.some 109), (.some ⟨104, .false⟩), (.bin .mul (.c (.d (.int .u64 4294967296))) (.t 108))⟩,
  ⟨(.some 110), (.some ⟨104, .false⟩), (.mov (.t 14))⟩,
  ⟨(.some 111), (.some ⟨104, .false⟩), (.bin .add (.t 109) (.t 110))⟩,
  ⟨(.some 112), (.some ⟨104, .false⟩), (.bin .gtr (.t 107) (.t 111))⟩,
  ⟨(.some 113), .none, (.pick (.t 104) (.c (.d (.bool .true))) (.t 112))⟩]
abbrev c_bits_Div64_r25 : List AO := [⟨(.some 114), .none, (.mov (.t 18))⟩,
  ⟨(.some 115), .none, (.bin .sub (.t 114) (.c (.d (.int .u64 1))))⟩,
  ⟨(.some 18), .none, (.mov (.t 115))⟩]
abbrev c_bits_Div64_r26 : List AO := [⟨(.some 116), .none, (.mov (.t 16))⟩,
  ⟨(.some 117), .none, (.mov (.t 9))⟩,
  ⟨(.some 118), .none, (.bin .add (.t 116) (.t 117))⟩,
  ⟨(.some 16), .none, (.mov (.t 118))⟩]
abbrev c_bits_Div64_r27 : List AO := [⟨(.some 119), .none, (.mov (.t 16))⟩,
  ⟨(.some 120), .none, (.bin .geq (.t 119) (.c (.d (.int .u64 4294967296))))⟩]
abbrev c_bits_Div64_l1 : ACode := (.seq (.seq (.ops c_bits_Div64_r24) (.cond (.t 113) .skip (.exit 2))) (.block 3 (.seq (.ops c_bits_Div64_r25) (.seq (.ops c_bits_Div64_r26) (.seq (.ops c_bits_Div64_r27) (.cond (.t 120) (.exit 2) .skip))))))
abbrev c_bits_Div64_r28 : List AO := [⟨(.some 121), .none, (.mov (.t 15))⟩,
  ⟨(.some 122), .none, (.bin .mul (.t 121) (.c (.d (.int .u64 4294967296))))⟩,
  ⟨(.some 123), .none, (.mov (.t 18))⟩,
  ⟨(.some 124), .none, (.bin .add (.t 122) (.t 123))⟩,
  ⟨(.some 125), .none, (.mov (.t 17))⟩,
  ⟨(.some 126), .none, (.bin .mul (.t 125) (.c (.d (.int .u64 4294967296))))⟩,
  ⟨(.some 127), .none, (.mov (.t 14))⟩,
  ⟨(.some 128), .none, (.bin .add (.t 126) (.t 127))⟩,
  ⟨(.some 129), .none, (.mov (.t 18))⟩,
  ⟨(.some 130), .none, (.mov (.t 2))⟩,
  ⟨(.some 131), .none, (.bin .mul (.t 129) (.t 130))⟩,
  ⟨(.some 132), .none, (.bin .sub (.t 128) (.t 131))⟩,
  ⟨(.some 133), .none, (.mov (.t 8))⟩,
  ⟨(.some 134), .none, (.bin .shr (.t 132) (.t 133))⟩,
  ⟨(.some 6), .none, (.mov (.t 124))⟩,
  ⟨(.some 7), .none, (.mov (.t 134))⟩]
abbrev c_bits_Div64 : AFunc := ⟨135, [(.tmp 6), (.tmp 7)], (.seq (.ops c_bits_Div64_r0) (.seq (.seq (.ops c_bits_Div64_r1) (.cond (.t 20) (.ops c_bits_Div64_r2) .skip)) (.seq (.seq (.ops c_bits_Div64_r3) (.cond (.t 24) (.ops c_bits_Div64_r4) .skip)) (.seq (.seq (.ops c_bits_Div64_r5) (.cond (.t 27) (.seq (.dops c_bits_Div64_r6) .ret) .skip)) (.seq (.ops c_bits_Div64_r7) (.seq (.ops c_bits_Div64_r8) (.seq (.ops c_bits_Div64_r9) (.seq (.ops c_bits_Div64_r10) (.seq (.ops c_bits_Div64_r11) (.seq (.ops c_bits_Div64_r12) (.seq (.ops c_bits_Div64_r13) (.seq (.ops c_bits_Div64_r14) (.seq (.ops c_bits_Div64_r15) (.seq (.ops c_bits_Div64_r16) (.seq (.block 0 (.loop c_bits_Div64_l0)) (.seq (.ops c_bits_Div64_r21) (.seq (.ops c_bits_Div64_r22) (.seq (.ops c_bits_Div64_r23) (.seq (.block 2 (.loop c_bits_Div64_l1)) (.seq (.ops c_bits_Div64_r28) .ret))))))))))))))))))))⟩
theorem comp_bits_Div64 : funcC Try.prog 21 = some c_bits_Div64 := by kernel_rfl
/-! function 22 : poundage round.away -/
abbrev f_round_away : FuncId := 22
abbrev c_round_away_r0 : List AO := [⟨(.some 10), .none, (.mov (.c (.d (.bool .false))))⟩]
abbrev c_round_away_r1 : List AO := [⟨(.some 13), .none, (.mov (.t 3))⟩,
  ⟨(.some 14), .none, (.bin .eql (.t 13) (.c (.d (.int .u64 0))))⟩]
abbrev c_round_away_r2 : List AO := [⟨(.some 10), .none, (.mov (.c (.d (.bool .false))))⟩]
abbrev c_round_away_r3 : List AO := [⟨(.some 15), .none, (.mov (.t 3))⟩,
  ⟨(.some 16), .none, (.mov (.t 4))⟩,
  ⟨(.some 17), .none, (.mov (.t 3))⟩,
  ⟨(.some 18), .none, (.bin .sub (.t 16) (.t 17))⟩,
  ⟨(.some 19), .none, (.bin .gtr (.t 15) (.t 18))⟩,
  ⟨(.some 11), .none, (.mov (.t 19))⟩]
abbrev c_round_away_r4 : List AO := [⟨(.some 20), .none, (.mov (.t 3))⟩,
  ⟨(.some 21), .none, (.mov (.t 4))⟩,
  ⟨(.some 22), .none, (.mov (.t 3))⟩,
  ⟨(.some 23), .none, (.bin .sub (.t 21) (.t 22))⟩,
  ⟨(.some 24), .none, (.bin .eql (.t 20) (.t 23))⟩,
  ⟨(.some 12), .none, (.mov (.t 24))⟩]
abbrev c_round_away_r5 : List AO := [⟨(.some 25), .none, (.mov (.t 0))⟩]
abbrev c_round_away_r6 : List AO := [⟨(.some 27), .none, (.bin .eql (.t 25) (.c (.d (.int .i64 0))))⟩,
  ⟨(.some 26), .none, (.mov (.t 27))⟩]
abbrev c_round_away_r7 : List AO := [⟨(.some 28), .none, (.mov (.t 1))⟩,
  ⟨(.some 10), .none, (.mov (.t 28))⟩]
abbrev c_round_away_r8 : List AO := [⟨(.some 30), .none, (.bin .eql (.t 25) (.c (.d (.int .i64 1))))⟩,
  ⟨(.some 29), .none, (.mov (.t 30))⟩]
abbrev c_round_away_r9 : List AO := [⟨(.some 31), .none, (.mov (.t 1))⟩,
  ⟨(.some 32), .none, (.un .not (.t 31))⟩,
  ⟨(.some 10), .none, (.mov (.t 32))⟩]
abbrev c_round_away_r10 : List AO := [⟨(.some 34), .none, (.bin .eql (.t 25) (.c (.d (.int .i64 2))))⟩,
  ⟨(.some 33), .none, (.mov (.t 34))⟩]
abbrev c_round_away_r11 : List AO := [⟨(.some 35), .none, (.mov (.t 11))⟩,
  ⟨(.some 36), .none, (.mov (.t 35))⟩,
  ⟨(.some 37), (.some ⟨36, .false⟩), (.mov (.t 12))⟩,
  ⟨(.some 38), (.some ⟨36, .false⟩), (.mov (.t 37))⟩,
  ⟨(.some 39), (.some ⟨38, .true⟩), (.mov (.t 1))⟩,
  ⟨(.some 40), (.some ⟨38, .true⟩), (.un .not (.t 39))⟩,
  ⟨(.some 41), (.some ⟨36, .false⟩), (.pick (.t 38) (.t 40) (.c (.d (.bool .false))))⟩,
  ⟨(.some 42), .none, (.pick (.t 36) (.c (.d (.bool .true))) (.t 41))⟩,
  ⟨(.some 10), .none, (.mov (.t 42))⟩]
abbrev c_round_away_r12 : List AO := [⟨(.some 43), .none, (.mov (.t 11))⟩,
  ⟨(.some 44), .none, (.mov (.t 43))⟩,
  ⟨(.some 45), (.some ⟨44, .false⟩), (.mov (.t 12))⟩,
  ⟨(.some 46), (.some ⟨44, .false⟩), (.mov (.t 45))⟩,
  ⟨(.some 47), (.some ⟨46, .true⟩), (.mov (.t 2))⟩,
  ⟨(.some 48), (.some ⟨46, .true⟩), (.bin .rem (.t 47) (.c (.d (.int .u64 2))))⟩,
  ⟨(.some 49), (.some ⟨46, .true⟩), (.bin .eql (.t 48) (.c (.d (.int .u64 1))))⟩,
  ⟨(.some 50), (.some ⟨44, .false⟩), (.pick (.t 46) (.t 49) (.c (.d (.bool .false))))⟩,
  ⟨(.some 51), .none, (.pick (.t 44) (.c (.d (.bool .true))) (.t 50))⟩,
  ⟨(.some 10), .none, (.mov (.t 51))⟩]
abbrev c_round_away : AFunc := ⟨52, [(.tmp 10)], (.seq (.ops c_round_away_r0) (.seq (.seq (.ops c_round_away_r1) (.cond (.t 14) (.seq (.ops c_round_away_r2) .ret) .skip)) (.seq (.ops c_round_away_r3) (.seq (.ops c_round_away_r4) (.seq (.seq (.ops c_round_away_r5) (.block 0 (.seq (.ops c_round_away_r6) (.cond (.t 26) (.seq (.ops c_round_away_r7) .ret) (.seq (.ops c_round_away_r8) (.cond (.t 29) (.seq (.ops c_round_away_r9) .ret) (.seq (.ops c_round_away_r10) (.cond (.t 33) (.seq (.ops c_round_away_r11) .ret) .skip)))))))) (.seq (.ops c_round_away_r12) .ret))))))⟩
theorem comp_round_away : funcC Try.prog 22 = some c_round_away := by kernel_rfl
/-! function 23 : poundage round.signed -/
abbrev f_round_signed : FuncId := 23
abbrev c_round_signed_r0 : List AO := [⟨(.some 4), .none, (.mov (.c (.d (.int .i64 0))))⟩,
  ⟨(.some 5), .none, (.mov (.c (.d (.bool .false))))⟩]
abbrev c_round_signed_r1 : List AO := [⟨(.some 7), .none, (.mov (.t 0))⟩,
  ⟨(.some 8), .none, (.mov (.t 7))⟩,
  ⟨(.some 9), (.some ⟨8, .true⟩), (.mov (.t 1))⟩,
  ⟨(.some 10), (.some ⟨8, .true⟩), (.bin .leq (.t 9) (.c (.d (.int .u64 9223372036854775808))))⟩,
  ⟨(.some 11), .none, (.pick (.t 8) (.t 10) (.c (.d (.bool .false))))⟩,
  ⟨(.some 6), .none, (.mov (.t 11))⟩]
abbrev c_round_signed_r2 : List AO := [⟨(.some 12), .none, (.mov (.t 1))⟩,
  ⟨(.some 13), .none, (.un .neg (.t 12))⟩,
  ⟨(.some 14), .none, (.conv .i64 (.t 13))⟩,
  ⟨(.some 4), .none, (.mov (.t 14))⟩,
  ⟨(.some 5), .none, (.mov (.c (.d (.bool .true))))⟩]
abbrev c_round_signed_r3 : List AO := [⟨(.some 16), .none, (.mov (.t 0))⟩,
  ⟨(.some 17), .none, (.un .not (.t 16))⟩,
  ⟨(.some 18), .none, (.mov (.t 17))⟩,
  ⟨(.some 19), (.some ⟨18, .true⟩), (.mov (.t 1))⟩,
  ⟨(.some 20), (.some ⟨18, .true⟩), (.bin .leq (.t 19) (.c (.d (.int .u64 9223372036854775807))))⟩,
  ⟨(.some 21), .none, (.pick (.t 18) (.t 20) (.c (.d (.bool .false))))⟩,
  ⟨(.some 15), .none, (.mov (.t 21))⟩]
abbrev c_round_signed_r4 : List AO := [⟨(.some 22), .none, (.mov (.t 1))⟩,
  ⟨(.some 23), .none, (.conv .i64 (.t 22))⟩,
  ⟨(.some 4), .none, (.mov (.t 23))⟩,
  ⟨(.some 5), .none, (.mov (.c (.d (.bool .true))))⟩]
abbrev c_round_signed_r5 : List AO := [⟨(.some 4), .none, (.mov (.c (.d (.int .i64 0))))⟩,
  ⟨(.some 5), .none, (.mov (.c (.d (.bool .false))))⟩]
abbrev c_round_signed : AFunc := ⟨24, [(.tmp 4), (.tmp 5)], (.seq (.ops c_round_signed_r0) (.seq (.block 0 (.seq (.ops c_round_signed_r1) (.cond (.t 6) (.seq (.ops c_round_signed_r2) .ret) (.seq (.ops c_round_signed_r3) (.cond (.t 15) (.seq (.ops c_round_signed_r4) .ret) .skip))))) (.seq (.ops c_round_signed_r5) .ret)))⟩
theorem comp_round_signed : funcC Try.prog 23 = some c_round_signed := by kernel_rfl
/-! function 24 : poundage poundageref01.plus -/
abbrev f_poundageref01_plus : FuncId := 24
abbrev c_poundageref01_plus_r0 : List AO := [⟨(.some 2), .none, (.box 27 (.t 0))⟩,
  ⟨(.some 3), .none, (.box 27 (.t 1))⟩,
  ⟨(.some 4), .none, (.alloc 27 [(.d (.bool .false)), (.d (.int .u64 0)), (.d (.int .u64 0))])⟩]
abbrev c_poundageref01_plus_r1 : List AO := [⟨(.some 7), .none, (.fieldAddr 2 (.t 2))⟩,
  ⟨(.some 8), .none, (.load .none (.t 7))⟩,
  ⟨(.some 9), .none, (.fieldAddr 2 (.t 3))⟩,
  ⟨(.some 10), .none, (.load .none (.t 9))⟩,
  ⟨(.some 11), .none, (.bin .add (.t 8) (.t 10))⟩,
  ⟨(.some 5), .none, (.mov (.t 11))⟩]
abbrev c_poundageref01_plus_r2 : List AO := [⟨(.some 12), .none, (.fieldAddr 1 (.t 2))⟩,
  ⟨(.some 13), .none, (.load .none (.t 12))⟩,
  ⟨(.some 14), .none, (.fieldAddr 1 (.t 3))⟩,
  ⟨(.some 15), .none, (.load .none (.t 14))⟩,
  ⟨(.some 16), .none, (.bin .add (.t 13) (.t 15))⟩,
  ⟨(.some 6), .none, (.mov (.t 16))⟩]
abbrev c_poundageref01_plus_r3 : List AO := [⟨(.some 17), .none, (.mov (.t 5))⟩,
  ⟨(.some 18), .none, (.fieldAddr 2 (.t 2))⟩,
  ⟨(.some 19), .none, (.load .none (.t 18))⟩,
  ⟨(.some 20), .none, (.bin .lss (.t 17) (.t 19))⟩]
abbrev c_poundageref01_plus_r4 : List AO := [⟨(.some 21), .none, (.mov (.t 6))⟩,
  ⟨(.some 22), .none, (.bin .add (.t 21) (.c (.d (.int .u64 1))))⟩,
  ⟨(.some 6), .none, (.mov (.t 22))⟩]
abbrev c_poundageref01_plus_r5 : List AO := [⟨(.some 23), .none, (.mov (.t 6))⟩,
  ⟨(.some 24), .none, (.mov (.t 5))⟩,
  ⟨(.some 25), .none, (.build [(.d (.bool .false)), (.d (.int .u64 0)), (.d (.int .u64 0))] [⟨0, ⟨1, (.c (.d (.bool .false)))⟩⟩, ⟨1, ⟨1, (.t 23)⟩⟩, ⟨2, ⟨1, (.t 24)⟩⟩])⟩,
  ⟨.none, .none, (.store 3 (.t 4) (.t 25))⟩]
abbrev c_poundageref01_plus : AFunc := ⟨26, [(.cell 4 (.some 3))], (.seq (.ops c_poundageref01_plus_r0) (.seq (.ops c_poundageref01_plus_r1) (.seq (.ops c_poundageref01_plus_r2) (.seq (.seq (.ops c_poundageref01_plus_r3) (.cond (.t 20) (.ops c_poundageref01_plus_r4) .skip)) (.seq (.ops c_poundageref01_plus_r5) .ret)))))⟩
theorem comp_poundageref01_plus : funcC Try.prog 24 = some c_poundageref01_plus := by kernel_rfl
/-! function 25 : poundage poundageref01.Zero -/
abbrev f_poundageref01_Zero : FuncId := 25
abbrev c_poundageref01_Zero_r0 : List AO := [⟨(.some 1), .none, (.box 27 (.t 0))⟩,
  ⟨(.some 2), .none, (.mov (.c (.d (.bool .false))))⟩]
abbrev c_poundageref01_Zero_r1 : List AO := [⟨(.some 3), .none, (.fieldAddr 1 (.t 1))⟩,
  ⟨(.some 4), .none, (.load .none (.t 3))⟩,
  ⟨(.some 5), .none, (.bin .eql (.t 4) (.c (.d (.int .u64 0))))⟩,
  ⟨(.some 6), .none, (.mov (.t 5))⟩,
  ⟨(.some 7), (.some ⟨6, .true⟩), (.fieldAddr 2 (.t 1))⟩,
  ⟨(.some 8), (.some ⟨6, .true⟩), (.load .none (.t 7))⟩,
  ⟨(.some 9), (.some ⟨6, .true⟩), (.bin .eql (.t 8) (.c (.d (.int .u64 0))))⟩,
  ⟨(.some 10), .none, (.pick (.t 6) (.t 9) (.c (.d (.bool .false))))⟩,
  ⟨(.some 2), .none, (.mov (.t 10))⟩]
abbrev c_poundageref01_Zero : AFunc := ⟨11, [(.tmp 2)], (.seq (.ops c_poundageref01_Zero_r0) (.seq (.ops c_poundageref01_Zero_r1) .ret))⟩
theorem comp_poundageref01_Zero : funcC Try.prog 25 = some c_poundageref01_Zero := by kernel_rfl
/-! function 26 : poundage poundageref01.size -/
abbrev f_poundageref01_size : FuncId := 26
abbrev c_poundageref01_size_r0 : List AO := [⟨(.some 2), .none, (.box 27 (.t 0))⟩,
  ⟨(.some 3), .none, (.box 27 (.t 1))⟩,
  ⟨(.some 4), .none, (.mov (.c (.d (.bool .false))))⟩]
abbrev c_poundageref01_size_r1 : List AO := [⟨(.some 5), .none, (.fieldAddr 1 (.t 2))⟩,
  ⟨(.some 6), .none, (.load .none (.t 5))⟩,
  ⟨(.some 7), .none, (.fieldAddr 1 (.t 3))⟩,
  ⟨(.some 8), .none, (.load .none (.t 7))⟩,
  ⟨(.some 9), .none, (.bin .lss (.t 6) (.t 8))⟩,
  ⟨(.some 10), .none, (.mov (.t 9))⟩,
  ⟨(.some 11), (.some ⟨10, .false⟩), (.fieldAddr 1 (.t 2))⟩,
  ⟨(.some 12), (.some ⟨10, .false⟩), (.load .none (.t 11))⟩,
  ⟨(.some 13), (.some ⟨10, .false⟩), (.fieldAddr 1 (.t 3))⟩,
  ⟨(.some 14), (.some ⟨10, .false⟩), (.load .none (.t 13))⟩,
  ⟨(.some 15), (.some ⟨10, .false⟩), (.bin .eql (.t 12) (.t 14))⟩,
  ⟨(.some 16), (.some ⟨10, .false⟩), (.mov (.t 15))⟩,
  ⟨(.some 17), (.some ⟨16, .true⟩), (.fieldAddr 2 (.t 2))⟩,
  ⟨(.some 18), (.some ⟨16, .true⟩), (.load .none (.t 17))⟩,
  ⟨(.some 19), (.some ⟨16, .true⟩), (.fieldAddr 2 (.t 3))⟩,
  ⟨(.some 20), (.some ⟨16, .true⟩), (.load .none (.t 19))⟩,
  ⟨(.some 21), (.some ⟨16, .true⟩), (.bin .lss (.t 18) (.t 20))⟩,
  ⟨(.some 22), (.some ⟨10, .false⟩), (.pick (.t 16) (.t 21) (.c (.d (.bool .false))))⟩,
  ⟨(.some 23), .none, (.pick (.t 10) (.c (.d (.bool .true))) (.t 22))⟩,
  ⟨(.some 4), .none, (.mov (.t 23))⟩]
abbrev c_poundageref01_size : AFunc := ⟨24, [(.tmp 4)], (.seq (.ops c_poundageref01_size_r0) (.seq (.ops c_poundageref01_size_r1) .ret))⟩
theorem comp_poundageref01_size : funcC Try.prog 26 = some c_poundageref01_size := by kernel_rfl
/-! function 27 : poundage poundageref01.minus -/
abbrev f_poundageref01_minus : FuncId := 27
abbrev c_poundageref01_minus_r0 : List AO := [⟨(.some 2), .none, (.box 27 (.t 0))⟩,
  ⟨(.some 3), .none, (.box 27 (.t 1))⟩,
  ⟨(.some 4), .none, (.alloc 27 [(.d (.bool .false)), (.d (.int .u64 0)), (.d (.int .u64 0))])⟩]
abbrev c_poundageref01_minus_r1 : List AO := [⟨(.some 7), .none, (.fieldAddr 2 (.t 2))⟩,
  ⟨(.some 8), .none, (.load .none (.t 7))⟩,
  ⟨(.some 9), .none, (.fieldAddr 2 (.t 3))⟩,
  ⟨(.some 10), .none, (.load .none (.t 9))⟩,
  ⟨(.some 11), .none, (.bin .sub (.t 8) (.t 10))⟩,
  ⟨(.some 5), .none, (.mov (.t 11))⟩]
abbrev c_poundageref01_minus_r2 : List AO := [⟨(.some 12), .none, (.fieldAddr 1 (.t 2))⟩,
  ⟨(.some 13), .none, (.load .none (.t 12))⟩,
  ⟨(.some 14), .none, (.fieldAddr 1 (.t 3))⟩,
  ⟨(.some 15), .none, (.load .none (.t 14))⟩,
  ⟨(.some 16), .none, (.bin .sub (.t 13) (.t 15))⟩,
  ⟨(.some 6), .none, (.mov (.t 16))⟩]
abbrev c_poundageref01_minus_r3 : List AO := [⟨(.some 17), .none, (.fieldAddr 2 (.t 2))⟩,
  ⟨(.some 18), .none, (.load .none (.t 17))⟩,
  ⟨(.some 19), .none, (.fieldAddr 2 (.t 3))⟩,
  ⟨(.some 20), .none, (.load .none (.t 19))⟩,
  ⟨(.some 21), .none, (.bin .lss (.t 18) (.t 20))⟩]
abbrev c_poundageref01_minus_r4 : List AO := [⟨(.some 22), .none, (.mov (.t 6))⟩,
  ⟨(.some 23), .none, (.bin .sub (.t 22) (.c (.d (.int .u64 1))))⟩,
  ⟨(.some 6), .none, (.mov (.t 23))⟩]
abbrev c_poundageref01_minus_r5 : List AO := [⟨(.some 24), .none, (.mov (.t 6))⟩,
  ⟨(.some 25), .none, (.mov (.t 5))⟩,
  ⟨(.some 26), .none, (.build [(.d (.bool .false)), (.d (.int .u64 0)), (.d (.int .u64 0))] [⟨0, ⟨1, (.c (.d (.bool .false)))⟩⟩, ⟨1, ⟨1, (.t 24)⟩⟩, ⟨2, ⟨1, (.t 25)⟩⟩])⟩,
  ⟨.none, .none, (.store 3 (.t 4) (.t 26))⟩]
abbrev c_poundageref01_minus : AFunc := ⟨27, [(.cell 4 (.some 3))], (.seq (.ops c_poundageref01_minus_r0) (.seq (.ops c_poundageref01_minus_r1) (.seq (.ops c_poundageref01_minus_r2) (.seq (.seq (.ops c_poundageref01_minus_r3) (.cond (.t 21) (.ops c_poundageref01_minus_r4) .skip)) (.seq (.ops c_poundageref01_minus_r5) .ret)))))⟩
theorem comp_poundageref01_minus : funcC Try.prog 27 = some c_poundageref01_minus := by kernel_rfl
/-! function 28 : poundage poundageref01.Of -/
abbrev f_poundageref01_Of : FuncId := 28
abbrev c_poundageref01_Of_r0 : List AO := [⟨(.some 2), .none, (.alloc 27 [(.d (.bool .false)), (.d (.int .u64 0)), (.d (.int .u64 0))])⟩]
abbrev c_poundageref01_Of_r1 : List AO := [⟨(.some 3), .none, (.mov (.t 0))⟩,
  ⟨(.some 4), .none, (.bin .lss (.t 3) (.c (.d (.int .i64 0))))⟩]
abbrev c_poundageref01_Of_r2 : List AO := [⟨(.some 5), .none, (.mov (.t 0))⟩,
  ⟨(.some 6), .none, (.bin .add (.t 5) (.c (.d (.int .i64 1))))⟩,
  ⟨(.some 7), .none, (.un .neg (.t 6))⟩,
  ⟨(.some 8), .none, (.conv .u64 (.t 7))⟩,
  ⟨(.some 9), .none, (.bin .add (.t 8) (.c (.d (.int .u64 1))))⟩,
  ⟨(.some 10), .none, (.build [(.d (.bool .false)), (.d (.int .u64 0)), (.d (.int .u64 0))] [⟨0, ⟨1, (.c (.d (.bool .true)))⟩⟩, ⟨1, ⟨1, (.c (.d (.int .u64 0)))⟩⟩, ⟨2, ⟨1, (.t 9)⟩⟩])⟩,
  ⟨.none, .none, (.store 3 (.t 2) (.t 10))⟩]
abbrev c_poundageref01_Of_r3 : List AO := [⟨(.some 11), .none, (.mov (.t 0))⟩,
  ⟨(.some 12), .none, (.conv .u64 (.t 11))⟩,
  ⟨(.some 13), .none, (.build [(.d (.bool .false)), (.d (.int .u64 0)), (.d (.int .u64 0))] [⟨0, ⟨1, (.c (.d (.bool .false)))⟩⟩, ⟨1, ⟨1, (.c (.d (.int .u64 0)))⟩⟩, ⟨2, ⟨1, (.t 12)⟩⟩])⟩,
  ⟨.none, .none, (.store 3 (.t 2) (.t 13))⟩]
abbrev c_poundageref01_Of : AFunc := ⟨14, [(.cell 2 (.some 3))], (.seq (.ops c_poundageref01_Of_r0) (.seq (.seq (.ops c_poundageref01_Of_r1) (.cond (.t 4) (.seq (.ops c_poundageref01_Of_r2) .ret) .skip)) (.seq (.ops c_poundageref01_Of_r3) .ret)))⟩
theorem comp_poundageref01_Of : funcC Try.prog 28 = some c_poundageref01_Of := by kernel_rfl
/-! function 29 : poundage poundageref02.Floor -/
abbrev f_poundageref02_Floor : FuncId := 29
abbrev c_poundageref02_Floor_r0 : List AO := [⟨(.some 2), .none, (.box 27 (.t 0))⟩,
  ⟨(.some 4), .none, (.mov (.c (.d (.int .i64 0))))⟩,
  ⟨(.some 5), .none, (.mov (.c (.d (.bool .false))))⟩]
abbrev c_poundageref02_Floor_r1 : List AO := [⟨(.some 11), .none, (.mov (.t 1))⟩,
  ⟨(.some 12), .none, (.load (.some 3) (.t 2))⟩,
  ⟨(.some 13), .none, (.call 32 [(.c (.d (.int .i64 (-9223372036854775808)))), (.t 11), (.t 12)])⟩,
  ⟨(.some 14), .none, (.un .not (.t 13))⟩]
abbrev c_poundageref02_Floor_r2 : List AO := [⟨(.some 4), .none, (.mov (.c (.d (.int .i64 0))))⟩,
  ⟨(.some 5), .none, (.mov (.c (.d (.bool .false))))⟩]
abbrev c_poundageref02_Floor_r3 : List AO := [⟨(.some 6), .none, (.mov (.c (.d (.int .i64 (-9223372036854775808)))))⟩]
abbrev c_poundageref02_Floor_r4 : List AO := [⟨(.some 7), .none, (.mov (.c (.d (.int .i64 63))))⟩]
abbrev c_poundageref02_Floor_r5 : List AO := [⟨(.some 15), .none, (.mov (.t 7))⟩,
  ⟨(.some 16), .none, (.bin .geq (.t 15) (.c (.d (.int .i64 0))))⟩]
abbrev c_poundageref02_Floor_r6 : List AO := [⟨(.some 19), .none, (.mov (.t 7))⟩,
  ⟨(.some 20), .none, (.conv .u64 (.t 19))⟩,
  ⟨(.some 21), .none, (.bin .shl (.c (.d (.int .u64 1))) (.t 20))⟩,
  ⟨(.some 8), .none, (.mov (.t 21))⟩]
abbrev c_poundageref02_Floor_r7 : List AO := [⟨(.some 22), .none, (.mov (.t 6))⟩,
  ⟨(.some 23), .none, (.conv .u64 (.t 22))⟩,
  ⟨(.some 24), .none, (.mov (.t 8))⟩,
  ⟨(.some 25), .none, (.bin .add (.t 23) (.t 24))⟩,
  ⟨(.some 9), .none, (.mov (.t 25))⟩]
abbrev c_poundageref02_Floor_r8 : List AO := [⟨(.some 26), .none, (.mov (.t 9))⟩,
  ⟨(.some 27), .none, (.conv .i64 (.t 26))⟩,
  ⟨(.some 10), .none, (.mov (.t 27))⟩]
abbrev c_poundageref02_Floor_r9 : List AO := [⟨(.some 28), .none, (.mov (.t 10))⟩,
  ⟨(.some 29), .none, (.mov (.t 6))⟩,
  ⟨(.some 30), .none, (.bin .gtr (.t 28) (.t 29))⟩,
  ⟨(.some 31), .none, (.mov (.t 30))⟩,
  ⟨(.some 32), (.some ⟨31, .true⟩), (.mov (.t 10))⟩,
  ⟨(.some 33), (.some ⟨31, .true⟩), (.mov (.t 1))⟩,
  ⟨(.some 34), (.some ⟨31, .true⟩), (.load (.some 3) (.t 2))⟩,
  ⟨(.some 35), (.some ⟨31, .true⟩), (.call 32 [(.t 32), (.t 33), (.t 34)])⟩,
  ⟨(.some 36), .none, (.pick (.t 31) (.t 35) (.c (.d (.bool .false))))⟩]
abbrev c_poundageref02_Floor_r10 : List AO := [⟨(.some 37), .none, (.mov (.t 10))⟩,
  ⟨(.some 6), .none, (.mov (.t 37))⟩]
abbrev c_poundageref02_Floor_r11 : List AO := [⟨(.some 17), .none, (.mov (.t 7))⟩,
  ⟨(.some 18), .none, (.bin .sub (.t 17) (.c (.d (.int .i64 1))))⟩,
  ⟨(.some 7), .none, (.mov (.t 18))⟩]
abbrev c_poundageref02_Floor_l0 : ACode := (.seq (.seq (.ops c_poundageref02_Floor_r5) (.cond (.t 16) .skip (.exit 0))) (.seq (.block 1 (.seq (.ops c_poundageref02_Floor_r6) (.seq (.ops c_poundageref02_Floor_r7) (.seq (.ops c_poundageref02_Floor_r8) (.seq (.ops c_poundageref02_Floor_r9) (.cond (.t 36) (.ops c_poundageref02_Floor_r10) .skip)))))) (.ops c_poundageref02_Floor_r11)))
abbrev c_poundageref02_Floor_r12 : List AO := [⟨(.some 38), .none, (.mov (.t 6))⟩,
  ⟨(.some 4), .none, (.mov (.t 38))⟩,
  ⟨(.some 5), .none, (.mov (.c (.d (.bool .true))))⟩]
abbrev c_poundageref02_Floor : AFunc := ⟨39, [(.tmp 4), (.tmp 5)], (.seq (.ops c_poundageref02_Floor_r0) (.seq (.seq (.ops c_poundageref02_Floor_r1) (.cond (.t 14) (.seq (.ops c_poundageref02_Floor_r2) .ret) .skip)) (.seq (.ops c_poundageref02_Floor_r3) (.seq (.seq (.ops c_poundageref02_Floor_r4) (.block 0 (.loop c_poundageref02_Floor_l0))) (.seq (.ops c_poundageref02_Floor_r12) .ret)))))⟩
theorem comp_poundageref02_Floor : funcC Try.prog 29 = some c_poundageref02_Floor := by kernel_rfl
/-! function 30 : poundage poundageref02.edge -/
abbrev f_poundageref02_edge : FuncId := 30
abbrev c_poundageref02_edge_r0 : List AO := [⟨(.some 3), .none, (.box 27 (.t 0))⟩,
  ⟨(.some 6), .none, (.mov (.c (.d (.int .i64 0))))⟩,
  ⟨(.some 7), .none, (.mov (.c (.d (.bool .false))))⟩]
abbrev c_poundageref02_edge_r1 : List AO := [⟨(.some 8), .none, (.mov (.c (.d (.int .i64 (-9223372036854775808)))))⟩]
abbrev c_poundageref02_edge_r2 : List AO := [⟨(.some 11), .none, (.mov (.t 8))⟩,
  ⟨(.some 12), .none, (.mov (.t 1))⟩,
  ⟨(.some 13), .none, (.pcall 12 [(.t 11), (.t 12)])⟩,
  ⟨(.some 14), .none, (.loadS (.some 3) (.t 3) [9])⟩,
  ⟨(.some 15), .none, (.pcall 13 [(.t 14)])⟩,
  ⟨(.some 16), .none, (.pcall 11 [(.t 13), (.t 15)])⟩,
  ⟨(.some 9), .none, (.alloc 27 [(.d (.bool .false)), (.d (.int .u64 0)), (.d (.int .u64 0))])⟩,
  ⟨.none, .none, (.storeS 3 9 (.t 16))⟩]
abbrev c_poundageref02_edge_r3 : List AO := [⟨(.some 17), .none, (.fieldAddr 0 (.t 9))⟩,
  ⟨(.some 18), .none, (.load .none (.t 17))⟩,
  ⟨(.some 19), .none, (.mov (.t 18))⟩,
  ⟨(.some 20), (.some ⟨19, .false⟩), (.fieldAddr 1 (.t 9))⟩,
  ⟨(.some 21), (.some ⟨19, .false⟩), (.load .none (.t 20))⟩,
  ⟨(.some 22), (.some ⟨19, .false⟩), (.bin .gtr (.t 21) (.c (.d (.int .u64 0))))⟩,
  ⟨(.some 23), .none, (.pick (.t 19) (.c (.d (.bool .true))) (.t 22))⟩,
  ⟨(.some 24), .none, (.mov (.t 23))⟩,
  ⟨(.some 25), (.some ⟨24, .false⟩), (.fieldAddr 2 (.t 9))⟩,
  ⟨(.some 26), (.some ⟨24, .false⟩), (.load .none (.t 25))⟩,
  ⟨(.some 27), (.some ⟨24, .false⟩), (.mov (.t 1))⟩,
  ⟨(.some 28), (.some ⟨24, .false⟩), (.conv .u64 (.t 27))⟩,
  ⟨(.some 29), (.some ⟨24, .false⟩), (.bin .geq (.t 26) (.t 28))⟩,
  ⟨(.some 30), .none, (.pick (.t 24) (.c (.d (.bool .true))) (.t 29))⟩]
abbrev c_poundageref02_edge_r4 : List AO := [⟨(.some 6), .none, (.mov (.c (.d (.int .i64 0))))⟩,
  ⟨(.some 7), .none, (.mov (.c (.d (.bool .false))))⟩]
abbrev c_poundageref02_edge_r5 : List AO := [⟨(.some 31), .none, (.mov (.t 1))⟩,
  ⟨(.some 32), .none, (.conv .u64 (.t 31))⟩,
  ⟨(.some 33), .none, (.fieldAddr 2 (.t 9))⟩,
  ⟨(.some 34), .none, (.load .none (.t 33))⟩,
  ⟨(.some 35), .none, (.bin .sub (.t 32) (.t 34))⟩,
  ⟨(.some 10), .none, (.mov (.t 35))⟩]
abbrev c_poundageref02_edge_r6 : List AO := [⟨(.some 36), .none, (.mov (.t 2))⟩,
  ⟨(.some 37), .none, (.bin .eql (.t 36) (.c (.d (.int .i64 1))))⟩,
  ⟨(.some 38), .none, (.mov (.t 37))⟩,
  ⟨(.some 39), (.some ⟨38, .false⟩), (.mov (.t 2))⟩,
  ⟨(.some 40), (.some ⟨38, .false⟩), (.bin .gtr (.t 39) (.c (.d (.int .i64 1))))⟩,
  ⟨(.some 41), (.some ⟨38, .false⟩), (.mov (.t 40))⟩,
  ⟨(.some 42), (.some ⟨41, .true⟩), (.fieldAddr 2 (.t 9))⟩,
  ⟨(.some 43), (.some ⟨41, .true⟩), (.load .none (.t 42))⟩,
  ⟨(.some 44), (.some ⟨41, .true⟩), (.mov (.t 10))⟩,
  ⟨(.some 45), (.some ⟨41, .true⟩), (.bin .lss (.t 43) (.t 44))⟩,
  ⟨(.some 46), (.some ⟨41, .true⟩), (.mov (.t 45))⟩,
  ⟨(.some 47), (.some ⟨46, .false⟩), (.fieldAddr 2 (.t 9))⟩,
  ⟨(.some 48), (.some ⟨46, .false⟩), (.load .none (.t 47))⟩,
  ⟨(.some 49), (.some ⟨46, .false⟩), (.mov (.t 10))⟩,
  ⟨(.some 50), (.some ⟨46, .false⟩), (.bin .eql (.t 48) (.t 49))⟩,
  ⟨(.some 51), (.some ⟨41, .true⟩), (.pick (.t 46) (.c (.d (.bool .true))) (.t 50))⟩,
  ⟨(.some 52), (.some ⟨38, .false⟩), (.pick (.t 41) (.t 51) (.c (.d (.bool .false))))⟩,
  ⟨(.some 53), .none, (.pick (.t 38) (.c (.d (.bool .true))) (.t 52))⟩]
abbrev c_poundageref02_edge_r7 : List AO := [⟨(.some 54), .none, (.mov (.t 8))⟩,
  ⟨(.some 6), .none, (.mov (.t 54))⟩,
  ⟨(.some 7), .none, (.mov (.c (.d (.bool .true))))⟩]
abbrev c_poundageref02_edge_r8 : List AO := [⟨(.some 6), .none, (.mov (.c (.d (.int .i64 0))))⟩,
  ⟨(.some 7), .none, (.mov (.c (.d (.bool .false))))⟩]
abbrev c_poundageref02_edge : AFunc := ⟨55, [(.tmp 6), (.tmp 7)], (.seq (.ops c_poundageref02_edge_r0) (.seq (.ops c_poundageref02_edge_r1) (.seq (.dops c_poundageref02_edge_r2) (.seq (.seq (.ops c_poundageref02_edge_r3) (.cond (.t 30) (.seq (.ops c_poundageref02_edge_r4) .ret) .skip)) (.seq (.ops c_poundageref02_edge_r5) (.seq (.seq (.ops c_poundageref02_edge_r6) (.cond (.t 53) (.seq (.ops c_poundageref02_edge_r7) .ret) .skip)) (.seq (.ops c_poundageref02_edge_r8) .ret)))))))⟩
theorem comp_poundageref02_edge : funcC Try.prog 30 = some c_poundageref02_edge := by kernel_rfl
/-! function 31 : math bits.LeadingZeros64 -/
abbrev f_bits_LeadingZeros64 : FuncId := 31
abbrev c_bits_LeadingZeros64_r0 : List AO := [⟨(.some 2), .none, (.mov (.c (.d (.int .i64 0))))⟩]
abbrev c_bits_LeadingZeros64_r1 : List AO := [⟨(.some 3), .none, (.mov (.t 0))⟩,
  ⟨(.some 4), .none, (.call 33 [(.t 3)])⟩,
  ⟨(.some 5), .none, (.bin .sub (.c (.d (.int .i64 64))) (.t 4))⟩,
  ⟨(.some 2), .none, (.mov (.t 5))⟩]
abbrev c_bits_LeadingZeros64 : AFunc := ⟨6, [(.tmp 2)], (.seq (.ops c_bits_LeadingZeros64_r0) (.seq (.ops c_bits_LeadingZeros64_r1) .ret))⟩
theorem comp_bits_LeadingZeros64 : funcC Try.prog 31 = some c_bits_LeadingZeros64 := by kernel_rfl
/-! function 32 : poundage poundageref02.under -/
abbrev f_poundageref02_under : FuncId := 32
abbrev c_poundageref02_under_r0 : List AO := [⟨(.some 5), .none, (.box 27 (.t 2))⟩,
  ⟨(.some 6), .none, (.mov (.c (.d (.bool .false))))⟩]
abbrev c_poundageref02_under_r1 : List AO := [⟨(.some 8), .none, (.mov (.t 0))⟩,
  ⟨(.some 9), .none, (.mov (.t 1))⟩,
  ⟨(.some 7), .none, (.load (.some 3) (.t 5))⟩,
  ⟨(.some 10), .none, (.pcall 12 [(.t 8), (.t 9)])⟩,
  ⟨(.some 11), .none, (.call 34 [(.t 7), (.t 10)])⟩,
  ⟨(.some 12), .none, (.un .not (.t 11))⟩,
  ⟨(.some 6), .none, (.mov (.t 12))⟩]
abbrev c_poundageref02_under : AFunc := ⟨13, [(.tmp 6)], (.seq (.ops c_poundageref02_under_r0) (.seq (.dops c_poundageref02_under_r1) .ret))⟩
theorem comp_poundageref02_under : funcC Try.prog 32 = some c_poundageref02_under := by kernel_rfl
/-! function 33 : math bits.Len64 -/
abbrev f_bits_Len64 : FuncId := 33
abbrev c_bits_Len64_r0 : List AO := [⟨(.some 2), .none, (.mov (.c (.d (.int .i64 0))))⟩]
abbrev c_bits_Len64_r1 : List AO := [⟨(.some 3), .none, (.mov (.t 0))⟩,
  ⟨(.some 4), .none, (.bin .geq (.t 3) (.c (.d (.int .u64 4294967296))))⟩]
abbrev c_bits_Len64_r2 : List AO := [⟨(.some 5), .none, (.mov (.t 0))⟩,
  ⟨(.some 6), .none, (.bin .shr (.t 5) (.c (.d (.int .u64 32))))⟩,
  ⟨(.some 0), .none, (.mov (.t 6))⟩]
abbrev c_bits_Len64_r3 : List AO := [⟨(.some 2), .none, (.mov (.c (.d (.int .i64 32))))⟩]
abbrev c_bits_Len64_r4 : List AO := [⟨(.some 7), .none, (.mov (.t 0))⟩,
  ⟨(.some 8), .none, (.bin .geq (.t 7) (.c (.d (.int .u64 65536))))⟩]
abbrev c_bits_Len64_r5 : List AO := [⟨(.some 9), .none, (.mov (.t 0))⟩,
  ⟨(.some 10), .none, (.bin .shr (.t 9) (.c (.d (.int .u64 16))))⟩,
  ⟨(.some 0), .none, (.mov (.t 10))⟩]
abbrev c_bits_Len64_r6 : List AO := [⟨(.some 11), .none, (.mov (.t 2))⟩,
  ⟨(.some 12), .none, (.bin .add (.t 11) (.c (.d (.int .i64 16))))⟩,
  ⟨(.some 2), .none, (.mov (.t 12))⟩]
abbrev c_bits_Len64_r7 : List AO := [⟨(.some 13), .none, (.mov (.t 0))⟩,
  ⟨(.some 14), .none, (.bin .geq (.t 13) (.c (.d (.int .u64 256))))⟩]
abbrev c_bits_Len64_r8 : List AO := [⟨(.some 15), .none, (.mov (.t 0))⟩,
  ⟨(.some 16), .none, (.bin .shr (.t 15) (.c (.d (.int .u64 8))))⟩,
  ⟨(.some 0), .none, (.mov (.t 16))⟩]
abbrev c_bits_Len64_r9 : List AO := [⟨(.some 17), .none, (.mov (.t 2))⟩,
  ⟨(.some 18), .none, (.bin .add (.t 17) (.c (.d (.int .i64 8))))⟩,
  ⟨(.some 2), .none, (.mov (.t 18))⟩]
abbrev c_bits_Len64_r10 : List AO := [⟨(.some 19), .none, (.mov (.t 2))⟩,
  ⟨(.some 20), .none, (.mov (.t 0))⟩,
  ⟨(.some 21), .none, (.conv .u8 (.t 20))⟩,
  ⟨(.some 22), .none, (.idxStr (.c (.d (.str ⟨⟨[0, 1, 2, 2, 3, 3, 3, 3, 4, 4, 4, 4, 4, 4, 4, 4, 5, 5, 5, 5, 5, 5, 5, 5, 5, 5, 5, 5, 5, 5, 5, 5, 6, 6, 6, 6, 6, 6, 6, 6, 6, 6, 6, 6, 6, 6, 6, 6, 6, 6, 6, 6, 6, 6, 6, 6, 6, 6, 6, 6, 6, 6, 6, 6, 7, 7, 7, 7, 7, 7, 7, 7, 7, 7, 7, 7, 7, 7, 7, 7, 7, 7, 7, 7, 7, 7, 7, 7, 7, 7, 7, 7, 7, 7, 7, 7, 7, 7, 7, 7, 7, 7, 7, 7, 7, 7, 7, 7, 7, 7, 7, 7, 7, 7, 7, 7, 7, 7, 7, 7, 7, 7, 7, 7, 7, 7, 7, 7, 8, 8, 8, 8, 8, 8, 8, 8, 8, 8, 8, 8, 8, 8, 8, 8, 8, 8, 8, 8, 8, 8, 8, 8, 8, 8, 8, 8, 8, 8, 8, 8, 8, 8, 8, 8, 8, 8, 8, 8, 8, 8, 8, 8, 8, 8, 8, 8, 8, 8, 8, 8, 8, 8, 8, 8, 8, 8, 8, 8, 8, 8, 8, 8, 8, 8, 8, 8, 8, 8, 8, 8, 8, 8, 8, 8, 8, 8, 8, 8, 8, 8, 8, 8, 8, 8, 8, 8, 8, 8, 8, 8, 8, 8, 8, 8, 8, 8, 8, 8, 8, 8, 8, 8, 8, 8, 8, 8, 8, 8, 8, 8, 8, 8, 8, 8, 8, 8, 8, 8, 8, 8, 8, 8, 8, 8, 8, 8]⟩⟩))) (.t 21))⟩,
  ⟨(.some 23), .none, (.conv .i64 (.t 22))⟩,
  ⟨(.some 24), .none, (.bin .add (.t 19) (.t 23))⟩,
  ⟨(.some 2), .none, (.mov (.t 24))⟩]
abbrev c_bits_Len64 : AFunc := ⟨25, [(.tmp 2)], (.seq (.ops c_bits_Len64_r0) (.seq (.seq (.ops c_bits_Len64_r1) (.cond (.t 4) (.seq (.ops c_bits_Len64_r2) (.ops c_bits_Len64_r3)) .skip)) (.seq (.seq (.ops c_bits_Len64_r4) (.cond (.t 8) (.seq (.ops c_bits_Len64_r5) (.ops c_bits_Len64_r6)) .skip)) (.seq (.seq (.ops c_bits_Len64_r7) (.cond (.t 14) (.seq (.ops c_bits_Len64_r8) (.ops c_bits_Len64_r9)) .skip)) (.seq (.ops c_bits_Len64_r10) .ret)))))⟩
theorem comp_bits_Len64 : funcC Try.prog 33 = some c_bits_Len64 := by kernel_rfl
/-! function 34 : poundage poundageref01.Less -/
abbrev f_poundageref01_Less : FuncId := 34
abbrev c_poundageref01_Less_r0 : List AO := [⟨(.some 2), .none, (.box 27 (.t 0))⟩,
  ⟨(.some 3), .none, (.box 27 (.t 1))⟩,
  ⟨(.some 4), .none, (.mov (.c (.d (.bool .false))))⟩]
abbrev c_poundageref01_Less_r1 : List AO := [⟨(.some 6), .none, (.loadS (.some 3) (.t 2) [5])⟩,
  ⟨(.some 7), .none, (.loadS (.some 3) (.t 3) [5])⟩,
  ⟨(.some 8), .none, (.pcall 13 [(.t 7)])⟩,
  ⟨(.some 9), .none, (.pcall 11 [(.t 6), (.t 8)])⟩,
  ⟨(.some 5), .none, (.alloc 27 [(.d (.bool .false)), (.d (.int .u64 0)), (.d (.int .u64 0))])⟩,
  ⟨.none, .none, (.storeS 3 5 (.t 9))⟩]
abbrev c_poundageref01_Less_r2 : List AO := [⟨(.some 10), .none, (.fieldAddr 0 (.t 5))⟩,
  ⟨(.some 11), .none, (.load .none (.t 10))⟩,
  ⟨(.some 4), .none, (.mov (.t 11))⟩]
abbrev c_poundageref01_Less : AFunc := ⟨12, [(.tmp 4)], (.seq (.ops c_poundageref01_Less_r0) (.seq (.dops c_poundageref01_Less_r1) (.seq (.ops c_poundageref01_Less_r2) .ret)))⟩
theorem comp_poundageref01_Less : funcC Try.prog 34 = some c_poundageref01_Less := by kernel_rfl
/-! function 35 :  runtime.boundsError .Error -/
abbrev f__runtime_boundsError_Error : FuncId := 35
/-! function 36 :  runtime.boundsError .RuntimeError -/
abbrev f__runtime_boundsError_RuntimeError : FuncId := 36
/-! function 37 :  runtime.errorString .Error -/
abbrev f__runtime_errorString_Error : FuncId := 37
/-! function 38 :  runtime.errorString .RuntimeError -/
abbrev f__runtime_errorString_RuntimeError : FuncId := 38
/-! function 39 :  runtime.plainError .Error -/
abbrev f__runtime_plainError_Error : FuncId := 39
/-! function 40 :  runtime.plainError .RuntimeError -/
abbrev f__runtime_plainError_RuntimeError : FuncId := 40
/-! function 41 :  runtime.errorAddressString .Error -/
abbrev f__runtime_errorAddressString_Error : FuncId := 41
/-! function 42 :  runtime.errorAddressString .RuntimeError -/
abbrev f__runtime_errorAddressString_RuntimeError : FuncId := 42
/-! function 43 :  runtime.TypeAssertionError .Error -/
abbrev f__runtime_TypeAssertionError_Error : FuncId := 43
/-! function 44 :  runtime.TypeAssertionError .RuntimeError -/
abbrev f__runtime_TypeAssertionError_RuntimeError : FuncId := 44
/-! function 45 :  runtime.PanicNilError .Error -/
abbrev f__runtime_PanicNilError_Error : FuncId := 45
/-! function 46 :  runtime.PanicNilError .RuntimeError -/
abbrev f__runtime_PanicNilError_RuntimeError : FuncId := 46
/-! function 47 :  internal abi.Type .Align -/
abbrev f_abi_Type_Align : FuncId := 47
/-! function 48 :  internal runtime maps.unhashableTypeError .Error -/
abbrev f_maps_unhashableTypeError_Error : FuncId := 48
/-! function 49 :  internal runtime maps.unhashableTypeError .RuntimeError -/
abbrev f_maps_unhashableTypeError_RuntimeError : FuncId := 49
/-! function 50 :  internal abi.Kind .String -/
abbrev f_abi_Kind_String : FuncId := 50
end Go.Proofs.Ythfdbgcccbcnlaa.Abs
