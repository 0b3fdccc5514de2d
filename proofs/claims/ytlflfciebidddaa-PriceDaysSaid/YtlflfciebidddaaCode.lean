/- The given functions, as the abstract machine has them: printed by a program of this session. No claim stands here. -/
import Derived.Test.YtlflfciebidddaaProg
import Derived.Test.YtlflfciebidddaaAbs1
import Derived.Test.YtlflfciebidddaaCodeA
import Derived.KernelRfl
namespace Go.Proofs.Ytlflfciebidddaa.Abs
open Go Go.RowKit Go.Proofs
/-! function 104 : math bits.Div64 -/
abbrev f_bits_Div64 : FuncId := 104
abbrev c_bits_Div64_r0 : List AO := [⟨(.some 6), .none, (.mov (.c (.d (.int .u64 0))))⟩,
  ⟨(.some 7), .none, (.mov (.c (.d (.int .u64 0))))⟩]
abbrev c_bits_Div64_r1 : List AO := [⟨(.some 19), .none, (.mov (.t 2))⟩,
  ⟨(.some 20), .none, (.bin .eql (.t 19) (.c (.d (.int .u64 0))))⟩]
abbrev c_bits_Div64_r2 : List AO := [⟨(.some 21), .none, (.load .none (.c .undef))⟩,
  ⟨.none, .none, .bad⟩]
abbrev c_bits_Div64_r3 : List AO := [⟨(.some 22), .none, (.mov (.t 2))⟩,
  ⟨(.some 23), .none, (.mov (.t 0))⟩,
  ⟨(.some 24), .none, (.bin .leq (.t 22) (.t 23))⟩]
abbrev c_bits_Div64_r4 : List AO := [⟨(.some 25), .none, (.load .none (.c .undef))⟩,
  ⟨.none, .none, .bad⟩]
abbrev c_bits_Div64_r5 : List AO := [⟨(.some 26), .none, (.mov (.t 0))⟩,
  ⟨(.some 27), .none, (.bin .eql (.t 26) (.c (.d (.int .u64 0))))⟩]
abbrev c_bits_Div64_r6 : List AO := [⟨(.some 28), .none, (.mov (.t 1))⟩,
  ⟨(.some 29), .none, (.mov (.t 2))⟩,
  ⟨(.some 30), .none, (.bin .quo (.t 28) (.t 29))⟩,
  ⟨(.some 31), .none, (.mov (.t 1))⟩,
  ⟨(.some 32), .none, (.mov (.t 2))⟩,
  ⟨(.some 33), .none, (.bin .rem (.t 31) (.t 32))⟩,
  ⟨(.some 6), .none, (.mov (.t 30))⟩,
  ⟨(.some 7), .none, (.mov (.t 33))⟩]
abbrev c_bits_Div64_r7 : List AO := [⟨(.some 34), .none, (.mov (.t 2))⟩,
  ⟨(.some 35), .none, (.call 111 [(.t 34)])⟩,
  ⟨(.some 36), .none, (.conv .u64 (.t 35))⟩,
  ⟨(.some 8), .none, (.mov (.t 36))⟩]
abbrev c_bits_Div64_r8 : List AO := [⟨(.some 37), .none, (.mov (.t 2))⟩,
  ⟨(.some 38), .none, (.mov (.t 8))⟩,
  ⟨(.some 39), .none, (.bin .shl (.t 37) (.t 38))⟩,
  ⟨(.some 2), .none, (.mov (.t 39))⟩]
abbrev c_bits_Div64_r9 : List AO := [⟨(.some 40), .none, (.mov (.t 2))⟩,
  ⟨(.some 41), .none, (.bin .shr (.t 40) (.c (.d (.int .u64 32))))⟩,
  ⟨(.some 9), .none, (.mov (.t 41))⟩]
abbrev c_bits_Div64_r10 : List AO := [⟨(.some 42), .none, (.mov (.t 2))⟩,
  ⟨(.some 43), .none, (.bin .and (.t 42) (.c (.d (.int .u64 4294967295))))⟩,
  ⟨(.some 10), .none, (.mov (.t 43))⟩]
abbrev c_bits_Div64_r11 : List AO := [⟨(.some 44), .none, (.mov (.t 0))⟩,
  ⟨(.some 45), .none, (.mov (.t 8))⟩,
  ⟨(.some 46), .none, (.bin .shl (.t 44) (.t 45))⟩,
  ⟨(.some 47), .none, (.mov (.t 1))⟩,
  ⟨(.some 48), .none, (.mov (.t 8))⟩,
  ⟨(.some 49), .none, (.bin .sub (.c (.d (.int .u64 64))) (.t 48))⟩,
  ⟨(.some 50), .none, (.bin .shr (.t 47) (.t 49))⟩,
  ⟨(.some 51), .none, (.bin .or (.t 46) (.t 50))⟩,
  ⟨(.some 11), .none, (.mov (.t 51))⟩]
abbrev c_bits_Div64_r12 : List AO := [⟨(.some 52), .none, (.mov (.t 1))⟩,
  ⟨(.some 53), .none, (.mov (.t 8))⟩,
  ⟨(.some 54), .none, (.bin .shl (.t 52) (.t 53))⟩,
  ⟨(.some 12), .none, (.mov (.t 54))⟩]
abbrev c_bits_Div64_r13 : List AO := [⟨(.some 55), .none, (.mov (.t 12))⟩,
  ⟨(.some 56), .none, (.bin .shr (.t 55) (.c (.d (.int .u64 32))))⟩,
  ⟨(.some 13), .none, (.mov (.t 56))⟩]
abbrev c_bits_Div64_r14 : List AO := [⟨(.some 57), .none, (.mov (.t 12))⟩,
  ⟨(.some 58), .none, (.bin .and (.t 57) (.c (.d (.int .u64 4294967295))))⟩,
  ⟨(.some 14), .none, (.mov (.t 58))⟩]
abbrev c_bits_Div64_r15 : List AO := [⟨(.some 59), .none, (.mov (.t 11))⟩,
  ⟨(.some 60), .none, (.mov (.t 9))⟩,
  ⟨(.some 61), .none, (.bin .quo (.t 59) (.t 60))⟩,
  ⟨(.some 15), .none, (.mov (.t 61))⟩]
abbrev c_bits_Div64_r16 : List AO := [⟨(.some 62), .none, (.mov (.t 11))⟩,
  ⟨(.some 63), .none, (.mov (.t 15))⟩,
  ⟨(.some 64), .none, (.mov (.t 9))⟩,
  ⟨(.some 65), .none, (.bin .mul (.t 63) (.t 64))⟩,
  ⟨(.some 66), .none, (.bin .sub (.t 62) (.t 65))⟩,
  ⟨(.some 16), .none, (.mov (.t 66))⟩]
abbrev c_bits_Div64_r17 : List AO := [⟨(.some 67), .none, (.mov (.t 15))⟩,
  ⟨(.some 68), .none, (.bin .geq (.t 67) (.c (.d (.int .u64 4294967296))))⟩,
  ⟨(.some 69), .none, (.mov (.t 68))⟩,
  ⟨(.some 70), (.some ⟨69, .false⟩), (.mov (.t 15))⟩,
  ⟨(.some 71), (.some ⟨69, .false⟩), (.mov (.t 10))⟩,
  ⟨(.some 72), (.some ⟨69, .false⟩), (.bin .mul (.t 70) (.t 71))⟩,
  ⟨(.some 73), (.some ⟨69, .false⟩), (.mov (.t 16))⟩,
  ⟨(.some 74), (.some ⟨69, .false⟩), (.bin .mul (.c (.d (.int .u64 4294967296))) (.t 73))⟩,
  ⟨(.some 75), (.some ⟨69, .false⟩), (.mov (.t 13))⟩,
  ⟨(.some 76), (.some ⟨69, .false⟩), (.bin .add (.t 74) (.t 75))⟩,
  ⟨(.some 77), (.some ⟨69, .false⟩), (.bin .gtr (.t 72) (.t 76))⟩,
  ⟨(.some 78), .none, (.pick (.t 69) (.c (.d (.bool .true))) (.t 77))⟩]
abbrev c_bits_Div64_r18 : List AO := [⟨(.some 79), .none, (.mov (.t 15))⟩,
  ⟨(.some 80), .none, (.bin .sub (.t 79) (.c (.d (.int .u64 1))))⟩,
  ⟨(.some 15), .none, (.mov (.t 80))⟩]
abbrev c_bits_Div64_r19 : List AO := [⟨(.some 81), .none, (.mov (.t 16))⟩,
  ⟨(.some 82), .none, (.mov (.t 9))⟩,
  ⟨(.some 83), .none, (.bin .add (.t 81) (.t 82))⟩,
  ⟨(.some 16), .none, (.mov (.t 83))⟩]
abbrev c_bits_Div64_r20 : List AO := [⟨(.some 84), .none, (.mov (.t 16))⟩,
  ⟨(.some 85), .none, (.bin .geq (.t 84) (.c (.d (.int .u64 4294967296))))⟩]
abbrev c_bits_Div64_l0 : ACode := (.seq (.seq (.ops c_bits_Div64_r17) (.cond (.t 78) .skip (.exit 0))) (.block 1 (.seq (.ops c_bits_Div64_r18) (.seq (.ops c_bits_Div64_r19) (.seq (.ops c_bits_Div64_r20) (.cond (.t 85) (.exit 0) .skip))))))
abbrev c_bits_Div64_r21 : List AO := [⟨(.some 86), .none, (.mov (.t 11))⟩,
  ⟨(.some 87), .none, (.bin .mul (.t 86) (.c (.d (.int .u64 4294967296))))⟩,
  ⟨(.some 88), .none, (.mov (.t 13))⟩,
  ⟨(.some 89), .none, (.bin .add (.t 87) (.t 88))⟩,
  ⟨(.some 90), .none, (.mov (.t 15))⟩,
  ⟨(.some 91), .none, (.mov (.t 2))⟩,
  ⟨(.some 92), .none, (.bin .mul (.t 90) (.t 91))⟩,
  ⟨(.some 93), .none, (.bin .sub (.t 89) (.t 92))⟩,
  ⟨(.some 17), .none, (.mov (.t 93))⟩]
abbrev c_bits_Div64_r22 : List AO := [⟨(.some 94), .none, (.mov (.t 17))⟩,
  ⟨(.some 95), .none, (.mov (.t 9))⟩,
  ⟨(.some 96), .none, (.bin .quo (.t 94) (.t 95))⟩,
  ⟨(.some 18), .none, (.mov (.t 96))⟩]
abbrev c_bits_Div64_r23 : List AO := [⟨(.some 97), .none, (.mov (.t 17))⟩,
  ⟨(.some 98), .none, (.mov (.t 18))⟩,
  ⟨(.some 99), .none, (.mov (.t 9))⟩,
  ⟨(.some 100), .none, (.bin .mul (.t 98) (.t 99))⟩,
  ⟨(.some 101), .none, (.bin .sub (.t 97) (.t 100))⟩,
  ⟨(.some 16), .none, (.mov (.t 101))⟩]
abbrev c_bits_Div64_r24 : List AO := [⟨(.some 102), .none, (.mov (.t 18))⟩,
  ⟨(.some 103), .none, (.bin .geq (.t 102) (.c (.d (.int .u64 4294967296))))⟩,
  ⟨(.some 104), .none, (.mov (.t 103))⟩,
  ⟨(.some 105), (.some ⟨104, .false⟩), (.mov (.t 18))⟩,
  ⟨(.some 106), (.some ⟨104, .false⟩), (.mov (.t 10))⟩,
  ⟨(.some 107), (.some ⟨104, .false⟩), (.bin .mul (.t 105) (.t 106))⟩,
  ⟨(.some 108), (.some ⟨104, .false⟩), (.mov (.t 16))⟩,
  ⟨(.some 109), (.some ⟨104, .false⟩), (.bin .mul (.c (.d (.int .u64 4294967296))) (.t 108))⟩,
  ⟨(.some 110), (.some ⟨104, .false⟩), (.mov (.t 14))⟩,
  ⟨(.some 111), (.some ⟨104, .false⟩), (.bin .add (.t 109) (.t 110))⟩,
  ⟨(.some 112), (.some ⟨104, .false⟩), (.bin .gtr (.t 107) (.t 111))⟩,
  ⟨(.some 113), .none, (.pick (.t 104) (.c (.d (.bool .true))) (.t 112))⟩]
abbrev c_bits_Div64_r25 : List AO := [⟨(.some 114), .none, (.mov (.t 18))⟩,
  ⟨(.some 115), .none, (.bin .sub (.t 114) (.c (.d (.int .u64 1))))⟩,
  ⟨(.some 18), .none, (.mov (.t 115))⟩]
abbrev c_bits_Div64_r26 : List AO := [⟨(.some 116), .none, (.mov (.t 16))⟩,
  ⟨(.some 117), .none, (.mov (.t 9))⟩,
  ⟨(.some 118), .none, (.bin .add (.t 116) (.t 117))⟩,
  ⟨(.some 16), .none, (.mov (.t 118))⟩]
abbrev c_bits_Div64_r27 : List AO := [⟨(.some 119), .none, (.mov (.t 16))⟩,
  ⟨(.some 120), .none, (.bin .geq (.t 119) (.c (.d (.int .u64 4294967296))))⟩]
abbrev c_bits_Div64_l1 : ACode := (.seq (.seq (.ops c_bits_Div64_r24) (.cond (.t 113) .skip (.exit 2))) (.block 3 (.seq (.ops c_bits_Div64_r25) (.seq (.ops c_bits_Div64_r26) (.seq (.ops c_bits_Div64_r27) (.cond (.t 120) (.exit 2) .skip))))))
abbrev c_bits_Div64_r28 : List AO := [⟨(.some 121), .none, (.mov (.t 15))⟩,
  ⟨(.some 122), .none, (.bin .mul (.t 121) (.c (.d (.int .u64 4294967296))))⟩,
  ⟨(.some 123), .none, (.mov (.t 18))⟩,
  ⟨(.some 124), .none, (.bin .add (.t 122) (.t 123))⟩,
  ⟨(.some 125), .none, (.mov (.t 17))⟩,
  ⟨(.some 126), .none, (.bin .mul (.t 125) (.c (.d (.int .u64 4294967296))))⟩,
  ⟨(.some 127), .none, (.mov (.t 14))⟩,
  ⟨(.some 128), .none, (.bin .add (.t 126) (.t 127))⟩,
  ⟨(.some 129), .none, (.mov (.t 18))⟩,
  ⟨(.some 130), .none, (.mov (.t 2))⟩,
  ⟨(.some 131), .none, (.bin .mul (.t 129) (.t 130))⟩,
  ⟨(.some 132), .none, (.bin .sub (.t 128) (.t 131))⟩,
  ⟨(.some 133), .none, (.mov (.t 8))⟩,
  ⟨(.some 134), .none, (.bin .shr (.t 132) (.t 133))⟩,
  ⟨(.some 6), .none, (.mov (.t 124))⟩,
  ⟨(.some 7), .none, (.mov (.t 134))⟩]
abbrev c_bits_Div64 : AFunc := ⟨135, [(.tmp 6), (.tmp 7)], (.seq (.ops c_bits_Div64_r0) (.seq (.seq (.ops c_bits_Div64_r1) (.cond (.t 20) (.ops c_bits_Div64_r2) .skip)) (.seq (.seq (.ops c_bits_Div64_r3) (.cond (.t 24) (.ops c_bits_Div64_r4) .skip)) (.seq (.seq (.ops c_bits_Div64_r5) (.cond (.t 27) (.seq (.dops c_bits_Div64_r6) .ret) .skip)) (.seq (.ops c_bits_Div64_r7) (.seq (.ops c_bits_Div64_r8) (.seq (.ops c_bits_Div64_r9) (.seq (.ops c_bits_Div64_r10) (.seq (.ops c_bits_Div64_r11) (.seq (.ops c_bits_Div64_r12) (.seq (.ops c_bits_Div64_r13) (.seq (.ops c_bits_Div64_r14) (.seq (.ops c_bits_Div64_r15) (.seq (.ops c_bits_Div64_r16) (.seq (.block 0 (.loop c_bits_Div64_l0)) (.seq (.ops c_bits_Div64_r21) (.seq (.ops c_bits_Div64_r22) (.seq (.ops c_bits_Div64_r23) (.seq (.block 2 (.loop c_bits_Div64_l1)) (.seq (.ops c_bits_Div64_r28) .ret))))))))))))))))))))⟩
theorem comp_bits_Div64 : funcC Try.prog 104 = some c_bits_Div64 := by kernel_rfl
/-! function 105 : poundage round.away -/
abbrev f_round_away : FuncId := 105
abbrev c_round_away_r0 : List AO := [⟨(.some 10), .none, (.mov (.c (.d (.bool .false))))⟩]
abbrev c_round_away_r1 : List AO := [⟨(.some 13), .none, (.mov (.t 3))⟩,
  ⟨(.some 14), .none, (.bin .eql (.t 13) (.c (.d (.int .u64 0))))⟩]
abbrev c_round_away_r2 : List AO := [⟨(.some 10), .none, (.mov (.c (.d (.bool .false))))⟩]
abbrev c_round_away_r3 : List AO := [⟨(.some 15), .none, (.mov (.t 3))⟩,
  ⟨(.some 16), .none, (.mov (.t 4))⟩,
  ⟨(.some 17), .none, (.mov (.t 3))⟩,
  ⟨(.some 18), .none, (.bin .sub (.t 16) (.t 17))⟩,
  ⟨(.some 19), .none, (.bin .gtr (.t 15) (.t 18))⟩,
  ⟨(.some 11), .none, (.mov (.t 19))⟩]
abbrev c_round_away_r4 : List AO := [⟨(.some 20), .none, (.mov (.t 3))⟩,
  ⟨(.some 21), .none, (.mov (.t 4))⟩,
  ⟨(.some 22), .none, (.mov (.t 3))⟩,
  ⟨(.some 23), .none, (.bin .sub (.t 21) (.t 22))⟩,
  ⟨(.some 24), .none, (.bin .eql (.t 20) (.t 23))⟩,
  ⟨(.some 12), .none, (.mov (.t 24))⟩]
abbrev c_round_away_r5 : List AO := [⟨(.some 25), .none, (.mov (.t 0))⟩]
abbrev c_round_away_r6 : List AO := [⟨(.some 27), .none, (.bin .eql (.t 25) (.c (.d (.int .i64 0))))⟩,
  ⟨(.some 26), .none, (.mov (.t 27))⟩]
abbrev c_round_away_r7 : List AO := [⟨(.some 28), .none, (.mov (.t 1))⟩,
  ⟨(.some 10), .none, (.mov (.t 28))⟩]
abbrev c_round_away_r8 : List AO := [⟨(.some 30), .none, (.bin .eql (.t 25) (.c (.d (.int .i64 1))))⟩,
  ⟨(.some 29), .none, (.mov (.t 30))⟩]
abbrev c_round_away_r9 : List AO := [⟨(.some 31), .none, (.mov (.t 1))⟩,
  ⟨(.some 32), .none, (.un .not (.t 31))⟩,
  ⟨(.some 10), .none, (.mov (.t 32))⟩]
abbrev c_round_away_r10 : List AO := [⟨(.some 34), .none, (.bin .eql (.t 25) (.c (.d (.int .i64 2))))⟩,
  ⟨(.some 33), .none, (.mov (.t 34))⟩]
abbrev c_round_away_r11 : List AO := [⟨(.some 35), .none, (.mov (.t 11))⟩,
  ⟨(.some 36), .none, (.mov (.t 35))⟩,
  ⟨(.some 37), (.some ⟨36, .false⟩), (.mov (.t 12))⟩,
  ⟨(.some 38), (.some ⟨36, .false⟩), (.mov (.t 37))⟩,
  ⟨(.some 39), (.some ⟨38, .true⟩), (.mov (.t 1))⟩,
  ⟨(.some 40), (.some ⟨38, .true⟩), (.un .not (.t 39))⟩,
  ⟨(.some 41), (.some ⟨36, .false⟩), (.pick (.t 38) (.t 40) (.c (.d (.bool .false))))⟩,
  ⟨(.some 42), .none, (.pick (.t 36) (.c (.d (.bool .true))) (.t 41))⟩,
  ⟨(.some 10), .none, (.mov (.t 42))⟩]
abbrev c_round_away_r12 : List AO := [⟨(.some 43), .none, (.mov (.t 11))⟩,
  ⟨(.some 44), .none, (.mov (.t 43))⟩,
  ⟨(.some 45), (.some ⟨44, .false⟩), (.mov (.t 12))⟩,
  ⟨(.some 46), (.some ⟨44, .false⟩), (.mov (.t 45))⟩,
  ⟨(.some 47), (.some ⟨46, .true⟩), (.mov (.t 2))⟩,
  ⟨(.some 48), (.some ⟨46, .true⟩), (.bin .rem (.t 47) (.c (.d (.int .u64 2))))⟩,
  ⟨(.some 49), (.some ⟨46, .true⟩), (.bin .eql (.t 48) (.c (.d (.int .u64 1))))⟩,
  ⟨(.some 50), (.some ⟨44, .false⟩), (.pick (.t 46) (.t 49) (.c (.d (.bool .false))))⟩,
  ⟨(.some 51), .none, (.pick (.t 44) (.c (.d (.bool .true))) (.t 50))⟩,
  ⟨(.some 10), .none, (.mov (.t 51))⟩]
abbrev c_round_away : AFunc := ⟨52, [(.tmp 10)], (.seq (.ops c_round_away_r0) (.seq (.seq (.ops c_round_away_r1) (.cond (.t 14) (.seq (.ops c_round_away_r2) .ret) .skip)) (.seq (.ops c_round_away_r3) (.seq (.ops c_round_away_r4) (.seq (.seq (.ops c_round_away_r5) (.block 0 (.seq (.ops c_round_away_r6) (.cond (.t 26) (.seq (.ops c_round_away_r7) .ret) (.seq (.ops c_round_away_r8) (.cond (.t 29) (.seq (.ops c_round_away_r9) .ret) (.seq (.ops c_round_away_r10) (.cond (.t 33) (.seq (.ops c_round_away_r11) .ret) .skip)))))))) (.seq (.ops c_round_away_r12) .ret))))))⟩
theorem comp_round_away : funcC Try.prog 105 = some c_round_away := by kernel_rfl
/-! function 106 : poundage round.signed -/
abbrev f_round_signed : FuncId := 106
abbrev c_round_signed_r0 : List AO := [⟨(.some 4), .none, (.mov (.c (.d (.int .i64 0))))⟩,
  ⟨(.some 5), .none, (.mov (.c (.d (.bool .false))))⟩]
abbrev c_round_signed_r1 : List AO := [⟨(.some 7), .none, (.mov (.t 0))⟩,
  ⟨(.some 8), .none, (.mov (.t 7))⟩,
  ⟨(.some 9), (.some ⟨8, .true⟩), (.mov (.t 1))⟩,
  ⟨(.some 10), (.some ⟨8, .true⟩), (.bin .leq (.t 9) (.c (.d (.int .u64 9223372036854775808))))⟩,
  ⟨(.some 11), .none, (.pick (.t 8) (.t 10) (.c (.d (.bool .false))))⟩,
  ⟨(.some 6), .none, (.mov (.t 11))⟩]
abbrev c_round_signed_r2 : List AO := [⟨(.some 12), .none, (.mov (.t 1))⟩,
  ⟨(.some 13), .none, (.un .neg (.t 12))⟩,
  ⟨(.some 14), .none, (.conv .i64 (.t 13))⟩,
  ⟨(.some 4), .none, (.mov (.t 14))⟩,
  ⟨(.some 5), .none, (.mov (.c (.d (.bool .true))))⟩]
abbrev c_round_signed_r3 : List AO := [⟨(.some 16), .none, (.mov (.t 0))⟩,
  ⟨(.some 17), .none, (.un .not (.t 16))⟩,
  ⟨(.some 18), .none, (.mov (.t 17))⟩,
  ⟨(.some 19), (.some ⟨18, .true⟩), (.mov (.t 1))⟩,
  ⟨(.some 20), (.some ⟨18, .true⟩), (.bin .leq (.t 19) (.c (.d (.int .u64 9223372036854775807))))⟩,
  ⟨(.some 21), .none, (.pick (.t 18) (.t 20) (.c (.d (.bool .false))))⟩,
  ⟨(.some 15), .none, (.mov (.t 21))⟩]
abbrev c_round_signed_r4 : List AO := [⟨(.some 22), .none, (.mov (.t 1))⟩,
  ⟨(.some 23), .none, (.conv .i64 (.t 22))⟩,
  ⟨(.some 4), .none, (.mov (.t 23))⟩,
  ⟨(.some 5), .none, (.mov (.c (.d (.bool .true))))⟩]
abbrev c_round_signed_r5 : List AO := [⟨(.some 4), .none, (.mov (.c (.d (.int .i64 0))))⟩,
  ⟨(.some 5), .none, (.mov (.c (.d (.bool .false))))⟩]
abbrev c_round_signed : AFunc := ⟨24, [(.tmp 4), (.tmp 5)], (.seq (.ops c_round_signed_r0) (.seq (.block 0 (.seq (.ops c_round_signed_r1) (.cond (.t 6) (.seq (.ops c_round_signed_r2) .ret) (.seq (.ops c_round_signed_r3) (.cond (.t 15) (.seq (.ops c_round_signed_r4) .ret) .skip))))) (.seq (.ops c_round_signed_r5) .ret)))⟩
theorem comp_round_signed : funcC Try.prog 106 = some c_round_signed := by kernel_rfl
/-! function 107 : poundage poundageref02.under -/
abbrev f_poundageref02_under : FuncId := 107
abbrev c_poundageref02_under_r0 : List AO := [⟨(.some 5), .none, (.box 122 (.t 2))⟩,
  ⟨(.some 6), .none, (.mov (.c (.d (.bool .false))))⟩]
abbrev c_poundageref02_under_r1 : List AO := [⟨(.some 8), .none, (.mov (.t 0))⟩,
  ⟨(.some 9), .none, (.mov (.t 1))⟩,
  ⟨(.some 7), .none, (.load (.some 3) (.t 5))⟩,
  ⟨(.some 10), .none, (.pcall 80 [(.t 8), (.t 9)])⟩,
  ⟨(.some 11), .none, (.call 112 [(.t 7), (.t 10)])⟩,
  ⟨(.some 12), .none, (.un .not (.t 11))⟩,
  ⟨(.some 6), .none, (.mov (.t 12))⟩]
abbrev c_poundageref02_under : AFunc := ⟨13, [(.tmp 6)], (.seq (.ops c_poundageref02_under_r0) (.seq (.dops c_poundageref02_under_r1) .ret))⟩
theorem comp_poundageref02_under : funcC Try.prog 107 = some c_poundageref02_under := by kernel_rfl
/-! function 109 : poundage tiers.volume 1 -/
abbrev f_tiers_volume_1 : FuncId := 109
abbrev c_tiers_volume_1_r0 : List AO := [⟨(.some 6), .none, (.load .none (.t 1))⟩,
  ⟨(.some 7), .none, (.len (.t 6))⟩,
  ⟨(.some 8), .none, (.mov (.c (.d (.int .i64 0))))⟩]
abbrev c_tiers_volume_1_r1 : List AO := [⟨(.some 9), .none, (.bin .lss (.t 8) (.t 7))⟩]
abbrev c_tiers_volume_1_r2 : List AO := [⟨(.some 10), .none, (.mov (.t 8))⟩,
  ⟨(.some 11), .none, (.elemAddr 2 (.t 6) (.t 8))⟩,
  ⟨(.some 12), .none, (.load (.some 2) (.t 11))⟩,
  ⟨(.some 5), .none, (.alloc 62 [(.d (.int .i64 0)), (.d (.int .i64 0))])⟩,
  ⟨(.some 4), .none, (.mov (.t 10))⟩,
  ⟨.none, .none, (.store 2 (.t 5) (.t 12))⟩]
abbrev c_tiers_volume_1_r3 : List AO := [⟨(.some 13), .none, (.mov (.t 4))⟩,
  ⟨(.some 14), .none, (.load .none (.t 1))⟩,
  ⟨(.some 15), .none, (.len (.t 14))⟩,
  ⟨(.some 16), .none, (.bin .sub (.t 15) (.c (.d (.int .i64 1))))⟩,
  ⟨(.some 17), .none, (.bin .eql (.t 13) (.t 16))⟩,
  ⟨(.some 18), .none, (.mov (.t 17))⟩,
  ⟨(.some 19), (.some ⟨18, .false⟩), (.load .none (.t 2))⟩,
  ⟨(.some 20), (.some ⟨18, .false⟩), (.fieldAddr 0 (.t 5))⟩,
  ⟨(.some 21), (.some ⟨18, .false⟩), (.load .none (.t 20))⟩,
  ⟨(.some 22), (.some ⟨18, .false⟩), (.bin .leq (.t 19) (.t 21))⟩,
  ⟨(.some 23), .none, (.pick (.t 18) (.c (.d (.bool .true))) (.t 22))⟩]
abbrev c_tiers_volume_1_r4 : List AO := [⟨(.some 24), .none, (.load .none (.t 2))⟩,
  ⟨(.some 25), .none, (.bin .gtr (.t 24) (.c (.d (.int .i64 0))))⟩]
abbrev c_tiers_volume_1_r5 : List AO := [⟨(.some 26), .none, (.mov (.t 0))⟩,
  ⟨(.some 27), .none, (.load .none (.t 2))⟩,
  ⟨(.some 28), .none, (.fieldAddr 1 (.t 5))⟩,
  ⟨(.some 29), .none, (.load .none (.t 28))⟩,
  ⟨(.some 30), .none, (.build [(.d (.int .i64 0)), (.d (.int .i64 0)), (.d (.int .i64 0))] [⟨0, ⟨1, (.c (.d (.int .i64 0)))⟩⟩, ⟨1, ⟨1, (.t 27)⟩⟩, ⟨2, ⟨1, (.t 29)⟩⟩])⟩,
  ⟨(.some 31), .none, (.callv (.t 26) [(.t 30)])⟩]
abbrev c_tiers_volume_1_r6 : List AO := [⟨(.some 32), .none, (.bin .add (.t 8) (.c (.d (.int .i64 1))))⟩,
  ⟨(.some 8), .none, (.mov (.t 32))⟩]
abbrev c_tiers_volume_1_l0 : ACode := (.seq (.ops c_tiers_volume_1_r1) (.seq (.cond (.t 9) .skip (.exit 0)) (.seq (.block 1 (.seq (.ops c_tiers_volume_1_r2) (.seq (.ops c_tiers_volume_1_r3) (.cond (.t 23) (.seq (.seq (.ops c_tiers_volume_1_r4) (.cond (.t 25) (.ops c_tiers_volume_1_r5) .skip)) .ret) .skip)))) (.ops c_tiers_volume_1_r6))))
abbrev c_tiers_volume_1 : AFunc := ⟨33, [], (.seq (.ops c_tiers_volume_1_r0) (.block 0 (.loop c_tiers_volume_1_l0)))⟩
theorem comp_tiers_volume_1 : funcC Try.prog 109 = some c_tiers_volume_1 := by kernel_rfl
/-! function 110 : poundage tiers.graduated 1 -/
abbrev f_tiers_graduated_1 : FuncId := 110
abbrev c_tiers_graduated_1_r0 : List AO := [⟨(.some 4), .none, (.mov (.c (.d (.int .i64 0))))⟩]
abbrev c_tiers_graduated_1_r1 : List AO := [⟨(.some 8), .none, (.load .none (.t 1))⟩,
  ⟨(.some 9), .none, (.len (.t 8))⟩,
  ⟨(.some 10), .none, (.mov (.c (.d (.int .i64 0))))⟩]
abbrev c_tiers_graduated_1_r2 : List AO := [⟨(.some 11), .none, (.bin .lss (.t 10) (.t 9))⟩]
abbrev c_tiers_graduated_1_r3 : List AO := [⟨(.some 12), .none, (.mov (.t 10))⟩,
  ⟨(.some 13), .none, (.elemAddr 2 (.t 8) (.t 10))⟩,
  ⟨(.some 14), .none, (.load (.some 2) (.t 13))⟩,
  ⟨(.some 6), .none, (.alloc 62 [(.d (.int .i64 0)), (.d (.int .i64 0))])⟩,
  ⟨(.some 5), .none, (.mov (.t 12))⟩,
  ⟨.none, .none, (.store 2 (.t 6) (.t 14))⟩]
abbrev c_tiers_graduated_1_r4 : List AO := [⟨(.some 15), .none, (.load .none (.t 2))⟩,
  ⟨(.some 7), .none, (.mov (.t 15))⟩]
abbrev c_tiers_graduated_1_r5 : List AO := [⟨(.some 16), .none, (.mov (.t 5))⟩,
  ⟨(.some 17), .none, (.load .none (.t 1))⟩,
  ⟨(.some 18), .none, (.len (.t 17))⟩,
  ⟨(.some 19), .none, (.bin .sub (.t 18) (.c (.d (.int .i64 1))))⟩,
  ⟨(.some 20), .none, (.bin .lss (.t 16) (.t 19))⟩]
abbrev c_tiers_graduated_1_r6 : List AO := [⟨(.some 21), .none, (.load .none (.t 2))⟩,
  ⟨(.some 22), .none, (.fieldAddr 0 (.t 6))⟩,
  ⟨(.some 23), .none, (.load .none (.t 22))⟩,
  ⟨(.some 24), .none, (.minmax .false (.t 21) [(.t 23)])⟩,
  ⟨(.some 7), .none, (.mov (.t 24))⟩]
abbrev c_tiers_graduated_1_r7 : List AO := [⟨(.some 25), .none, (.mov (.t 7))⟩,
  ⟨(.some 26), .none, (.mov (.t 4))⟩,
  ⟨(.some 27), .none, (.bin .gtr (.t 25) (.t 26))⟩,
  ⟨(.some 28), .none, (.mov (.t 27))⟩,
  ⟨(.some 29), (.some ⟨28, .true⟩), (.mov (.t 0))⟩,
  ⟨(.some 30), (.some ⟨28, .true⟩), (.mov (.t 4))⟩,
  ⟨(.some 31), (.some ⟨28, .true⟩), (.mov (.t 7))⟩,
  ⟨(.some 32), (.some ⟨28, .true⟩), (.fieldAddr 1 (.t 6))⟩,
  ⟨(.some 33), (.some ⟨28, .true⟩), (.load .none (.t 32))⟩,
  ⟨(.some 34), (.some ⟨28, .true⟩), (.build [(.d (.int .i64 0)), (.d (.int .i64 0)), (.d (.int .i64 0))] [⟨0, ⟨1, (.t 30)⟩⟩, ⟨1, ⟨1, (.t 31)⟩⟩, ⟨2, ⟨1, (.t 33)⟩⟩])⟩,
  ⟨(.some 35), (.some ⟨28, .true⟩), (.callv (.t 29) [(.t 34)])⟩,
  ⟨(.some 36), (.some ⟨28, .true⟩), (.un .not (.t 35))⟩,
  ⟨(.some 37), .none, (.pick (.t 28) (.t 36) (.c (.d (.bool .false))))⟩]
abbrev c_tiers_graduated_1_r8 : List AO := [⟨(.some 38), .none, (.mov (.t 4))⟩,
  ⟨(.some 39), .none, (.mov (.t 7))⟩,
  ⟨(.some 40), .none, (.minmax .true (.t 38) [(.t 39)])⟩,
  ⟨(.some 4), .none, (.mov (.t 40))⟩]
abbrev c_tiers_graduated_1_r9 : List AO := [⟨(.some 41), .none, (.bin .add (.t 10) (.c (.d (.int .i64 1))))⟩,
  ⟨(.some 10), .none, (.mov (.t 41))⟩]
abbrev c_tiers_graduated_1_l0 : ACode := (.seq (.ops c_tiers_graduated_1_r2) (.seq (.cond (.t 11) .skip (.exit 0)) (.seq (.block 1 (.seq (.ops c_tiers_graduated_1_r3) (.seq (.ops c_tiers_graduated_1_r4) (.seq (.seq (.ops c_tiers_graduated_1_r5) (.cond (.t 20) (.ops c_tiers_graduated_1_r6) .skip)) (.seq (.seq (.ops c_tiers_graduated_1_r7) (.cond (.t 37) .ret .skip)) (.ops c_tiers_graduated_1_r8)))))) (.ops c_tiers_graduated_1_r9))))
abbrev c_tiers_graduated_1 : AFunc := ⟨42, [], (.seq (.ops c_tiers_graduated_1_r0) (.seq (.ops c_tiers_graduated_1_r1) (.block 0 (.loop c_tiers_graduated_1_l0))))⟩
theorem comp_tiers_graduated_1 : funcC Try.prog 110 = some c_tiers_graduated_1 := by kernel_rfl
/-! function 111 : math bits.LeadingZeros64 -/
abbrev f_bits_LeadingZeros64 : FuncId := 111
abbrev c_bits_LeadingZeros64_r0 : List AO := [⟨(.some 2), .none, (.mov (.c (.d (.int .i64 0))))⟩]
abbrev c_bits_LeadingZeros64_r1 : List AO := [⟨(.some 3), .none, (.mov (.t 0))⟩,
  ⟨(.some 4), .none, (.call 113 [(.t 3)])⟩,
  ⟨(.some 5), .none, (.bin .sub (.c (.d (.int .i64 64))) (.t 4))⟩,
  ⟨(.some 2), .none, (.mov (.t 5))⟩]
abbrev c_bits_LeadingZeros64 : AFunc := ⟨6, [(.tmp 2)], (.seq (.ops c_bits_LeadingZeros64_r0) (.seq (.ops c_bits_LeadingZeros64_r1) .ret))⟩
theorem comp_bits_LeadingZeros64 : funcC Try.prog 111 = some c_bits_LeadingZeros64 := by kernel_rfl
/-! function 112 : poundage poundageref01.Less -/
abbrev f_poundageref01_Less : FuncId := 112
abbrev c_poundageref01_Less_r0 : List AO := [⟨(.some 2), .none, (.box 122 (.t 0))⟩,
  ⟨(.some 3), .none, (.box 122 (.t 1))⟩,
  ⟨(.some 4), .none, (.mov (.c (.d (.bool .false))))⟩]
abbrev c_poundageref01_Less_r1 : List AO := [⟨(.some 6), .none, (.loadS (.some 3) (.t 2) [5])⟩,
  ⟨(.some 7), .none, (.loadS (.some 3) (.t 3) [5])⟩,
  ⟨(.some 8), .none, (.pcall 82 [(.t 7)])⟩,
  ⟨(.some 9), .none, (.pcall 67 [(.t 6), (.t 8)])⟩,
  ⟨(.some 5), .none, (.alloc 122 [(.d (.bool .false)), (.d (.int .u64 0)), (.d (.int .u64 0))])⟩,
  ⟨.none, .none, (.storeS 3 5 (.t 9))⟩]
abbrev c_poundageref01_Less_r2 : List AO := [⟨(.some 10), .none, (.fieldAddr 0 (.t 5))⟩,
  ⟨(.some 11), .none, (.load .none (.t 10))⟩,
  ⟨(.some 4), .none, (.mov (.t 11))⟩]
abbrev c_poundageref01_Less : AFunc := ⟨12, [(.tmp 4)], (.seq (.ops c_poundageref01_Less_r0) (.seq (.dops c_poundageref01_Less_r1) (.seq (.ops c_poundageref01_Less_r2) .ret)))⟩
theorem comp_poundageref01_Less : funcC Try.prog 112 = some c_poundageref01_Less := by kernel_rfl
/-! function 113 : math bits.Len64 -/
abbrev f_bits_Len64 : FuncId := 113
abbrev c_bits_Len64_r0 : List AO := [⟨(.some 2), .none, (.mov (.c (.d (.int .i64 0))))⟩]
abbrev c_bits_Len64_r1 : List AO := [⟨(.some 3), .none, (.mov (.t 0))⟩,
  ⟨(.some 4), .none, (.bin .geq (.t 3) (.c (.d (.int .u64 4294967296))))⟩]
abbrev c_bits_Len64_r2 : List AO := [⟨(.some 5), .none, (.mov (.t 0))⟩,
  ⟨(.some 6), .none, (.bin .shr (.t 5) (.c (.d (.int .u64 32))))⟩,
  ⟨(.some 0), .none, (.mov (.t 6))⟩]
abbrev c_bits_Len64_r3 : List AO := [⟨(.some 2), .none, (.mov (.c (.d (.int .i64 32))))⟩]
abbrev c_bits_Len64_r4 : List AO := [⟨(.some 7), .none, (.mov (.t 0))⟩,
  ⟨(.some 8), .none, (.bin .geq (.t 7) (.c (.d (.int .u64 65536))))⟩]
abbrev c_bits_Len64_r5 : List AO := [⟨(.some 9), .none, (.mov (.t 0))⟩,
  ⟨(.some 10), .none, (.bin .shr (.t 9) (.c (.d (.int .u64 16))))⟩,
  ⟨(.some 0), .none, (.mov (.t 10))⟩]
abbrev c_bits_Len64_r6 : List AO := [⟨(.some 11), .none, (.mov (.t 2))⟩,
  ⟨(.some 12), .none, (.bin .add (.t 11) (.c (.d (.int .i64 16))))⟩,
  ⟨(.some 2), .none, (.mov (.t 12))⟩]
abbrev c_bits_Len64_r7 : List AO := [⟨(.some 13), .none, (.mov (.t 0))⟩,
  ⟨(.some 14), .none, (.bin .geq (.t 13) (.c (.d (.int .u64 256))))⟩]
abbrev c_bits_Len64_r8 : List AO := [⟨(.some 15), .none, (.mov (.t 0))⟩,
  ⟨(.some 16), .none, (.bin .shr (.t 15) (.c (.d (.int .u64 8))))⟩,
  ⟨(.some 0), .none, (.mov (.t 16))⟩]
abbrev c_bits_Len64_r9 : List AO := [⟨(.some 17), .none, (.mov (.t 2))⟩,
  ⟨(.some 18), .none, (.bin .add (.t 17) (.c (.d (.int .i64 8))))⟩,
  ⟨(.some 2), .none, (.mov (.t 18))⟩]
abbrev c_bits_Len64_r10 : List AO := [⟨(.some 19), .none, (.mov (.t 2))⟩,
  ⟨(.some 20), .none, (.mov (.t 0))⟩,
  ⟨(.some 21), .none, (.conv .u8 (.t 20))⟩,
  ⟨(.some 22), .none, (.idxStr (.c (.d (.str ⟨⟨[0, 1, 2, 2, 3, 3, 3, 3, 4, 4, 4, 4, 4, 4, 4, 4, 5, 5, 5, 5, 5, 5, 5, 5, 5, 5, 5, 5, 5, 5, 5, 5, 6, 6, 6, 6, 6, 6, 6, 6, 6, 6, 6, 6, 6, 6, 6, 6, 6, 6, 6, 6, 6, 6, 6, 6, 6, 6, 6, 6, 6, 6, 6, 6, 7, 7, 7, 7, 7, 7, 7, 7, 7, 7, 7, 7, 7, 7, 7, 7, 7, 7, 7, 7, 7, 7, 7, 7, 7, 7, 7, 7, 7, 7, 7, 7, 7, 7, 7, 7, 7, 7, 7, 7, 7, 7, 7, 7, 7, 7, 7, 7, 7, 7, 7, 7, 7, 7, 7, 7, 7, 7, 7, 7, 7, 7, 7, 7, 8, 8, 8, 8, 8, 8, 8, 8, 8, 8, 8, 8, 8, 8, 8, 8, 8, 8, 8, 8, 8, 8, 8, 8, 8, 8, 8, 8, 8, 8, 8, 8, 8, 8, 8, 8, 8, 8, 8, 8, 8, 8, 8, 8, 8, 8, 8, 8, 8, 8, 8, 8, 8, 8, 8, 8, 8, 8, 8, 8, 8, 8, 8, 8, 8, 8, 8, 8, 8, 8, 8, 8, 8, 8, 8, 8, 8, 8, 8, 8, 8, 8, 8, 8, 8, 8, 8, 8, 8, 8, 8, 8, 8, 8, 8, 8, 8, 8, 8, 8, 8, 8, 8, 8, 8, 8, 8, 8, 8, 8, 8, 8, 8, 8, 8, 8, 8, 8, 8, 8, 8, 8, 8, 8, 8, 8, 8, 8]⟩⟩))) (.t 21))⟩,
  ⟨(.some 23), .none, (.conv .i64 (.t 22))⟩,
  ⟨(.some 24), .none, (.bin .add (.t 19) (.t 23))⟩,
  ⟨(.some 2), .none, (.mov (.t 24))⟩]
abbrev c_bits_Len64 : AFunc := ⟨25, [(.tmp 2)], (.seq (.ops c_bits_Len64_r0) (.seq (.seq (.ops c_bits_Len64_r1) (.cond (.t 4) (.seq (.ops c_bits_Len64_r2) (.ops c_bits_Len64_r3)) .skip)) (.seq (.seq (.ops c_bits_Len64_r4) (.cond (.t 8) (.seq (.ops c_bits_Len64_r5) (.ops c_bits_Len64_r6)) .skip)) (.seq (.seq (.ops c_bits_Len64_r7) (.cond (.t 14) (.seq (.ops c_bits_Len64_r8) (.ops c_bits_Len64_r9)) .skip)) (.seq (.ops c_bits_Len64_r10) .ret)))))⟩
theorem comp_bits_Len64 : funcC Try.prog 113 = some c_bits_Len64 := by kernel_rfl
end Go.Proofs.Ytlflfciebidddaa.Abs
