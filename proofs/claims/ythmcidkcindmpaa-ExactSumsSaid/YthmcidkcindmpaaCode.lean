/- The given functions, as the abstract machine has them: printed by a program of this session. No claim stands here. -/
import Derived.Test.YthmcidkcindmpaaProg
import Derived.Test.YthmcidkcindmpaaAbs1
import Derived.KernelRfl
namespace Go.Proofs.Ythmcidkcindmpaa.Abs
open Go Go.RowKit Go.Proofs
/-! function 3 : poundage poundagelaw01.ExactIs -/
abbrev f_poundagelaw01_ExactIs : FuncId := 3
abbrev c_poundagelaw01_ExactIs_r0 : List AO := [⟨(.some 4), .none, (.mov (.c (.d (.bool .false))))⟩]
abbrev c_poundagelaw01_ExactIs_r1 : List AO := [⟨(.some 17), .none, (.call 9 [])⟩,
  ⟨(.some 18), .none, (.un .not (.t 17))⟩]
abbrev c_poundagelaw01_ExactIs_r2 : List AO := [⟨(.some 4), .none, (.mov (.c (.d (.bool .false))))⟩]
abbrev c_poundagelaw01_ExactIs_r3 : List AO := [⟨(.some 20), .none, (.mov (.t 0))⟩,
  ⟨(.some 21), .none, (.mov (.t 1))⟩,
  ⟨(.some 22), .none, (.call 10 [(.t 20), (.t 21)])⟩,
  ⟨(.some 19), .none, (.mov (.t 22))⟩,
  ⟨(.some 23), .none, (.extract (.t 19) 0)⟩,
  ⟨(.some 24), .none, (.extract (.t 19) 1)⟩,
  ⟨(.some 5), .none, (.mov (.t 23))⟩,
  ⟨(.some 6), .none, (.mov (.t 24))⟩]
abbrev c_poundagelaw01_ExactIs_r4 : List AO := [⟨(.some 26), .none, (.mov (.t 0))⟩,
  ⟨(.some 27), .none, (.mov (.t 1))⟩,
  ⟨(.some 28), .none, (.call 11 [(.t 26), (.t 27)])⟩,
  ⟨(.some 25), .none, (.mov (.t 28))⟩,
  ⟨(.some 29), .none, (.extract (.t 25) 0)⟩,
  ⟨(.some 30), .none, (.extract (.t 25) 1)⟩,
  ⟨(.some 7), .none, (.mov (.t 29))⟩,
  ⟨(.some 8), .none, (.mov (.t 30))⟩]
abbrev c_poundagelaw01_ExactIs_r5 : List AO := [⟨(.some 32), .none, (.mov (.t 0))⟩,
  ⟨(.some 33), .none, (.mov (.t 1))⟩,
  ⟨(.some 34), .none, (.call 12 [(.t 32), (.t 33)])⟩,
  ⟨(.some 31), .none, (.mov (.t 34))⟩,
  ⟨(.some 35), .none, (.extract (.t 31) 0)⟩,
  ⟨(.some 36), .none, (.extract (.t 31) 1)⟩,
  ⟨(.some 9), .none, (.mov (.t 35))⟩,
  ⟨(.some 10), .none, (.mov (.t 36))⟩]
abbrev c_poundagelaw01_ExactIs_r6 : List AO := [⟨(.some 38), .none, (.mov (.t 0))⟩,
  ⟨(.some 39), .none, (.call 15 [(.t 38)])⟩,
  ⟨(.some 40), .none, (.mov (.t 1))⟩,
  ⟨(.some 41), .none, (.call 15 [(.t 40)])⟩,
  ⟨(.some 42), .none, (.call 14 [(.t 39), (.t 41)])⟩,
  ⟨(.some 43), .none, (.call 13 [(.t 42)])⟩,
  ⟨(.some 37), .none, (.mov (.t 43))⟩,
  ⟨(.some 44), .none, (.extract (.t 37) 0)⟩,
  ⟨(.some 45), .none, (.extract (.t 37) 1)⟩,
  ⟨(.some 11), .none, (.mov (.t 44))⟩,
  ⟨(.some 12), .none, (.mov (.t 45))⟩]
abbrev c_poundagelaw01_ExactIs_r7 : List AO := [⟨(.some 47), .none, (.mov (.t 0))⟩,
  ⟨(.some 48), .none, (.call 15 [(.t 47)])⟩,
  ⟨(.some 49), .none, (.mov (.t 1))⟩,
  ⟨(.some 50), .none, (.call 15 [(.t 49)])⟩,
  ⟨(.some 51), .none, (.call 16 [(.t 50)])⟩,
  ⟨(.some 52), .none, (.call 14 [(.t 48), (.t 51)])⟩,
  ⟨(.some 53), .none, (.call 13 [(.t 52)])⟩,
  ⟨(.some 46), .none, (.mov (.t 53))⟩,
  ⟨(.some 54), .none, (.extract (.t 46) 0)⟩,
  ⟨(.some 55), .none, (.extract (.t 46) 1)⟩,
  ⟨(.some 13), .none, (.mov (.t 54))⟩,
  ⟨(.some 14), .none, (.mov (.t 55))⟩]
abbrev c_poundagelaw01_ExactIs_r8 : List AO := [⟨(.some 57), .none, (.mov (.t 0))⟩,
  ⟨(.some 58), .none, (.mov (.t 1))⟩,
  ⟨(.some 59), .none, (.call 17 [(.t 57), (.t 58)])⟩,
  ⟨(.some 60), .none, (.call 13 [(.t 59)])⟩,
  ⟨(.some 56), .none, (.mov (.t 60))⟩,
  ⟨(.some 61), .none, (.extract (.t 56) 0)⟩,
  ⟨(.some 62), .none, (.extract (.t 56) 1)⟩,
  ⟨(.some 15), .none, (.mov (.t 61))⟩,
  ⟨(.some 16), .none, (.mov (.t 62))⟩]
abbrev c_poundagelaw01_ExactIs_r9 : List AO := [⟨(.some 63), .none, (.mov (.t 6))⟩,
  ⟨(.some 64), .none, (.mov (.t 12))⟩,
  ⟨(.some 65), .none, (.binb .false (.t 63) (.t 64))⟩,
  ⟨(.some 66), .none, (.mov (.t 65))⟩,
  ⟨(.some 67), (.some ⟨66, .true⟩), (.mov (.t 8))⟩,
  ⟨(.some 68), (.some ⟨66, .true⟩), (.mov (.t 14))⟩,
  ⟨(.some 69), (.some ⟨66, .true⟩), (.binb .false (.t 67) (.t 68))⟩,
  ⟨(.some 70), .none, (.pick (.t 66) (.t 69) (.c (.d (.bool .false))))⟩,
  ⟨(.some 71), .none, (.mov (.t 70))⟩,
  ⟨(.some 72), (.some ⟨71, .true⟩), (.mov (.t 10))⟩,
  ⟨(.some 73), (.some ⟨71, .true⟩), (.mov (.t 16))⟩,
  ⟨(.some 74), (.some ⟨71, .true⟩), (.binb .false (.t 72) (.t 73))⟩,
  ⟨(.some 75), .none, (.pick (.t 71) (.t 74) (.c (.d (.bool .false))))⟩,
  ⟨(.some 76), .none, (.mov (.t 75))⟩,
  ⟨(.some 77), (.some ⟨76, .true⟩), (.mov (.t 12))⟩,
  ⟨(.some 78), (.some ⟨76, .true⟩), (.un .not (.t 77))⟩,
  ⟨(.some 79), (.some ⟨76, .true⟩), (.mov (.t 78))⟩,
  ⟨(.some 80), (.some ⟨79, .true⟩), (.mov (.t 5))⟩,
  ⟨(.some 81), (.some ⟨79, .true⟩), (.bin .eql (.t 80) (.c (.d (.int .i64 0))))⟩,
  ⟨(.some 82), (.some ⟨76, .true⟩), (.pick (.t 79) (.t 81) (.c (.d (.bool .false))))⟩,
  ⟨(.some 83), (.some ⟨76, .true⟩), (.mov (.t 82))⟩,
  ⟨(.some 84), (.some ⟨83, .false⟩), (.mov (.t 12))⟩,
  ⟨(.some 85), (.some ⟨83, .false⟩), (.mov (.t 84))⟩,
  ⟨(.some 86), (.some ⟨85, .true⟩), (.mov (.t 5))⟩,
  ⟨(.some 87), (.some ⟨85, .true⟩), (.mov (.t 11))⟩,
  ⟨(.some 88), (.some ⟨85, .true⟩), (.bin .eql (.t 86) (.t 87))⟩,
  ⟨(.some 89), (.some ⟨83, .false⟩), (.pick (.t 85) (.t 88) (.c (.d (.bool .false))))⟩,
  ⟨(.some 90), (.some ⟨76, .true⟩), (.pick (.t 83) (.c (.d (.bool .true))) (.t 89))⟩,
  ⟨(.some 91), .none, (.pick (.t 76) (.t 90) (.c (.d (.bool .false))))⟩,
  ⟨(.some 92), .none, (.mov (.t 91))⟩,
  ⟨(.some 93), (.some ⟨92, .true⟩), (.mov (.t 14))⟩,
  ⟨(.some 94), (.some ⟨92, .true⟩), (.un .not (.t 93))⟩,
  ⟨(.some 95), (.some ⟨92, .true⟩), (.mov (.t 94))⟩,
  ⟨(.some 96), (.some ⟨95, .true⟩), (.mov (.t 7))⟩,
  ⟨(.some 97), (.some ⟨95, .true⟩), (.bin .eql (.t 96) (.c (.d (.int .i64 0))))⟩,
  ⟨(.some 98), (.some ⟨92, .true⟩), (.pick (.t 95) (.t 97) (.c (.d (.bool .false))))⟩,
  ⟨(.some 99), (.some ⟨92, .true⟩), (.mov (.t 98))⟩,
  ⟨(.some 100), (.some ⟨99, .false⟩), (.mov (.t 14))⟩,
  ⟨(.some 101), (.some ⟨99, .false⟩), (.mov (.t 100))⟩,
  ⟨(.some 102), (.some ⟨101, .true⟩), (.mov (.t 7))⟩,
  ⟨(.some 103), (.some ⟨101, .true⟩), (.mov (.t 13))⟩,
  ⟨(.some 104), (.some ⟨101, .true⟩), (.bin .eql (.t 102) (.t 103))⟩,
  ⟨(.some 105), (.some ⟨99, .false⟩), (.pick (.t 101) (.t 104) (.c (.d (.bool .false))))⟩,
  ⟨(.some 106), (.some ⟨92, .true⟩), (.pick (.t 99) (.c (.d (.bool .true))) (.t 105))⟩,
  ⟨(.some 107), .none, (.pick (.t 92) (.t 106) (.c (.d (.bool .false))))⟩,
  ⟨(.some 108), .none, (.mov (.t 107))⟩,
  ⟨(.some 109), (.some ⟨108, .true⟩), (.mov (.t 16))⟩,
  ⟨(.some 110), (.some ⟨108, .true⟩), (.un .not (.t 109))⟩,
  ⟨(.some 111), (.some ⟨108, .true⟩), (.mov (.t 110))⟩,
  ⟨(.some 112), (.some ⟨111, .true⟩), (.mov (.t 9))⟩,
  ⟨(.some 113), (.some ⟨111, .true⟩), (.bin .eql (.t 112) (.c (.d (.int .i64 0))))⟩,
  ⟨(.some 114), (.some ⟨108, .true⟩), (.pick (.t 111) (.t 113) (.c (.d (.bool .false))))⟩,
  ⟨(.some 115), (.some ⟨108, .true⟩), (.mov (.t 114))⟩,
  ⟨(.some 116), (.some ⟨115, .false⟩), (.mov (.t 16))⟩,
  ⟨(.some 117), (.some ⟨115, .false⟩), (.mov (.t 116))⟩,
  ⟨(.some 118), (.some ⟨117, .true⟩), (.mov (.t 9))⟩,
  ⟨(.some 119), (.some ⟨117, .true⟩), (.mov (.t 15))⟩,
  ⟨(.some 120), (.some ⟨117, .true⟩), (.bin .eql (.t 118) (.t 119))⟩,
  ⟨(.some 121), (.some ⟨115, .false⟩), (.pick (.t 117) (.t 120) (.c (.d (.bool .false))))⟩,
  ⟨(.some 122), (.some ⟨108, .true⟩), (.pick (.t 115) (.c (.d (.bool .true))) (.t 121))⟩,
  ⟨(.some 123), .none, (.pick (.t 108) (.t 122) (.c (.d (.bool .false))))⟩,
  ⟨(.some 4), .none, (.mov (.t 123))⟩]
abbrev c_poundagelaw01_ExactIs : AFunc := ⟨124, [(.tmp 4)], (.seq (.ops c_poundagelaw01_ExactIs_r0) (.seq (.seq (.ops c_poundagelaw01_ExactIs_r1) (.cond (.t 18) (.seq (.ops c_poundagelaw01_ExactIs_r2) .ret) .skip)) (.seq (.ops c_poundagelaw01_ExactIs_r3) (.seq (.ops c_poundagelaw01_ExactIs_r4) (.seq (.ops c_poundagelaw01_ExactIs_r5) (.seq (.ops c_poundagelaw01_ExactIs_r6) (.seq (.ops c_poundagelaw01_ExactIs_r7) (.seq (.ops c_poundagelaw01_ExactIs_r8) (.seq (.ops c_poundagelaw01_ExactIs_r9) .ret)))))))))⟩
theorem comp_poundagelaw01_ExactIs : funcC Try.prog 3 = some c_poundagelaw01_ExactIs := by kernel_rfl
/-! function 4 : poundage poundagelaw01.ExactDivides -/
abbrev f_poundagelaw01_ExactDivides : FuncId := 4
abbrev c_poundagelaw01_ExactDivides_r0 : List AO := [⟨(.some 4), .none, (.mov (.c (.d (.bool .false))))⟩]
abbrev c_poundagelaw01_ExactDivides_r1 : List AO := [⟨(.some 10), .none, (.call 9 [])⟩,
  ⟨(.some 11), .none, (.un .not (.t 10))⟩]
abbrev c_poundagelaw01_ExactDivides_r2 : List AO := [⟨(.some 4), .none, (.mov (.c (.d (.bool .false))))⟩]
abbrev c_poundagelaw01_ExactDivides_r3 : List AO := [⟨(.some 13), .none, (.mov (.t 0))⟩,
  ⟨(.some 14), .none, (.mov (.t 1))⟩,
  ⟨(.some 15), .none, (.call 18 [(.t 13), (.t 14)])⟩,
  ⟨(.some 12), .none, (.mov (.t 15))⟩,
  ⟨(.some 16), .none, (.extract (.t 12) 0)⟩,
  ⟨(.some 17), .none, (.extract (.t 12) 1)⟩,
  ⟨(.some 18), .none, (.extract (.t 12) 2)⟩,
  ⟨(.some 5), .none, (.mov (.t 16))⟩,
  ⟨(.some 6), .none, (.mov (.t 17))⟩,
  ⟨(.some 7), .none, (.mov (.t 18))⟩]
abbrev c_poundagelaw01_ExactDivides_r4 : List AO := [⟨(.some 19), .none, (.mov (.t 1))⟩,
  ⟨(.some 20), .none, (.bin .eql (.t 19) (.c (.d (.int .i64 0))))⟩,
  ⟨(.some 21), .none, (.mov (.t 20))⟩,
  ⟨(.some 22), (.some ⟨21, .false⟩), (.mov (.t 0))⟩,
  ⟨(.some 23), (.some ⟨21, .false⟩), (.bin .eql (.t 22) (.c (.d (.int .i64 (-9223372036854775808)))))⟩,
  ⟨(.some 24), (.some ⟨21, .false⟩), (.mov (.t 23))⟩,
  ⟨(.some 25), (.some ⟨24, .true⟩), (.mov (.t 1))⟩,
  ⟨(.some 26), (.some ⟨24, .true⟩), (.bin .eql (.t 25) (.c (.d (.int .i64 (-1)))))⟩,
  ⟨(.some 27), (.some ⟨21, .false⟩), (.pick (.t 24) (.t 26) (.c (.d (.bool .false))))⟩,
  ⟨(.some 28), .none, (.pick (.t 21) (.c (.d (.bool .true))) (.t 27))⟩]
abbrev c_poundagelaw01_ExactDivides_r5 : List AO := [⟨(.some 29), .none, (.mov (.t 7))⟩,
  ⟨(.some 30), .none, (.un .not (.t 29))⟩,
  ⟨(.some 31), .none, (.mov (.t 30))⟩,
  ⟨(.some 32), (.some ⟨31, .true⟩), (.mov (.t 5))⟩,
  ⟨(.some 33), (.some ⟨31, .true⟩), (.bin .eql (.t 32) (.c (.d (.int .i64 0))))⟩,
  ⟨(.some 34), .none, (.pick (.t 31) (.t 33) (.c (.d (.bool .false))))⟩,
  ⟨(.some 35), .none, (.mov (.t 34))⟩,
  ⟨(.some 36), (.some ⟨35, .true⟩), (.mov (.t 6))⟩,
  ⟨(.some 37), (.some ⟨35, .true⟩), (.bin .eql (.t 36) (.c (.d (.int .i64 0))))⟩,
  ⟨(.some 38), .none, (.pick (.t 35) (.t 37) (.c (.d (.bool .false))))⟩,
  ⟨(.some 4), .none, (.mov (.t 38))⟩]
abbrev c_poundagelaw01_ExactDivides_r6 : List AO := [⟨(.some 39), .none, (.mov (.t 7))⟩,
  ⟨(.some 40), .none, (.un .not (.t 39))⟩,
  ⟨(.some 41), .none, (.mov (.t 40))⟩,
  ⟨(.some 42), (.some ⟨41, .false⟩), (.mov (.t 1))⟩,
  ⟨(.some 43), (.some ⟨41, .false⟩), (.bin .gtr (.t 42) (.c (.d (.int .i64 0))))⟩,
  ⟨(.some 44), (.some ⟨41, .false⟩), (.mov (.t 43))⟩,
  ⟨(.some 45), (.some ⟨44, .true⟩), (.mov (.t 6))⟩,
  ⟨(.some 46), (.some ⟨44, .true⟩), (.bin .lss (.t 45) (.c (.d (.int .i64 0))))⟩,
  ⟨(.some 47), (.some ⟨44, .true⟩), (.mov (.t 46))⟩,
  ⟨(.some 48), (.some ⟨47, .false⟩), (.mov (.t 6))⟩,
  ⟨(.some 49), (.some ⟨47, .false⟩), (.mov (.t 1))⟩,
  ⟨(.some 50), (.some ⟨47, .false⟩), (.bin .geq (.t 48) (.t 49))⟩,
  ⟨(.some 51), (.some ⟨44, .true⟩), (.pick (.t 47) (.c (.d (.bool .true))) (.t 50))⟩,
  ⟨(.some 52), (.some ⟨41, .false⟩), (.pick (.t 44) (.t 51) (.c (.d (.bool .false))))⟩,
  ⟨(.some 53), .none, (.pick (.t 41) (.c (.d (.bool .true))) (.t 52))⟩,
  ⟨(.some 54), .none, (.mov (.t 53))⟩,
  ⟨(.some 55), (.some ⟨54, .false⟩), (.mov (.t 1))⟩,
  ⟨(.some 56), (.some ⟨54, .false⟩), (.bin .lss (.t 55) (.c (.d (.int .i64 0))))⟩,
  ⟨(.some 57), (.some ⟨54, .false⟩), (.mov (.t 56))⟩,
  ⟨(.some 58), (.some ⟨57, .true⟩), (.mov (.t 6))⟩,
  ⟨(.some 59), (.some ⟨57, .true⟩), (.bin .gtr (.t 58) (.c (.d (.int .i64 0))))⟩,
  ⟨(.some 60), (.some ⟨57, .true⟩), (.mov (.t 59))⟩,
  ⟨(.some 61), (.some ⟨60, .false⟩), (.mov (.t 6))⟩,
  ⟨(.some 62), (.some ⟨60, .false⟩), (.mov (.t 1))⟩,
  ⟨(.some 63), (.some ⟨60, .false⟩), (.bin .leq (.t 61) (.t 62))⟩,
  ⟨(.some 64), (.some ⟨57, .true⟩), (.pick (.t 60) (.c (.d (.bool .true))) (.t 63))⟩,
  ⟨(.some 65), (.some ⟨54, .false⟩), (.pick (.t 57) (.t 64) (.c (.d (.bool .false))))⟩,
  ⟨(.some 66), .none, (.pick (.t 54) (.c (.d (.bool .true))) (.t 65))⟩]
abbrev c_poundagelaw01_ExactDivides_r7 : List AO := [⟨(.some 4), .none, (.mov (.c (.d (.bool .false))))⟩]
abbrev c_poundagelaw01_ExactDivides_r8 : List AO := [⟨(.some 68), .none, (.mov (.t 5))⟩,
  ⟨(.some 69), .none, (.mov (.t 1))⟩,
  ⟨(.some 70), .none, (.call 17 [(.t 68), (.t 69)])⟩,
  ⟨(.some 71), .none, (.mov (.t 6))⟩,
  ⟨(.some 72), .none, (.call 15 [(.t 71)])⟩,
  ⟨(.some 73), .none, (.call 14 [(.t 70), (.t 72)])⟩,
  ⟨(.some 74), .none, (.call 13 [(.t 73)])⟩,
  ⟨(.some 67), .none, (.mov (.t 74))⟩,
  ⟨(.some 75), .none, (.extract (.t 67) 0)⟩,
  ⟨(.some 76), .none, (.extract (.t 67) 1)⟩,
  ⟨(.some 8), .none, (.mov (.t 75))⟩,
  ⟨(.some 9), .none, (.mov (.t 76))⟩]
abbrev c_poundagelaw01_ExactDivides_r9 : List AO := [⟨(.some 77), .none, (.mov (.t 9))⟩,
  ⟨(.some 78), .none, (.mov (.t 77))⟩,
  ⟨(.some 79), (.some ⟨78, .true⟩), (.mov (.t 8))⟩,
  ⟨(.some 80), (.some ⟨78, .true⟩), (.mov (.t 0))⟩,
  ⟨(.some 81), (.some ⟨78, .true⟩), (.bin .eql (.t 79) (.t 80))⟩,
  ⟨(.some 82), .none, (.pick (.t 78) (.t 81) (.c (.d (.bool .false))))⟩,
  ⟨(.some 4), .none, (.mov (.t 82))⟩]
abbrev c_poundagelaw01_ExactDivides : AFunc := ⟨83, [(.tmp 4)], (.seq (.ops c_poundagelaw01_ExactDivides_r0) (.seq (.seq (.ops c_poundagelaw01_ExactDivides_r1) (.cond (.t 11) (.seq (.ops c_poundagelaw01_ExactDivides_r2) .ret) .skip)) (.seq (.ops c_poundagelaw01_ExactDivides_r3) (.seq (.seq (.ops c_poundagelaw01_ExactDivides_r4) (.cond (.t 28) (.seq (.ops c_poundagelaw01_ExactDivides_r5) .ret) .skip)) (.seq (.seq (.ops c_poundagelaw01_ExactDivides_r6) (.cond (.t 66) (.seq (.ops c_poundagelaw01_ExactDivides_r7) .ret) .skip)) (.seq (.ops c_poundagelaw01_ExactDivides_r8) (.seq (.ops c_poundagelaw01_ExactDivides_r9) .ret)))))))⟩
theorem comp_poundagelaw01_ExactDivides : funcC Try.prog 4 = some c_poundagelaw01_ExactDivides := by kernel_rfl
/-! function 5 : poundage poundagelaw01.ExactBack -/
abbrev f_poundagelaw01_ExactBack : FuncId := 5
abbrev c_poundagelaw01_ExactBack_r0 : List AO := [⟨(.some 4), .none, (.mov (.c (.d (.bool .false))))⟩]
abbrev c_poundagelaw01_ExactBack_r1 : List AO := [⟨(.some 14), .none, (.call 9 [])⟩,
  ⟨(.some 15), .none, (.un .not (.t 14))⟩]
abbrev c_poundagelaw01_ExactBack_r2 : List AO := [⟨(.some 4), .none, (.mov (.c (.d (.bool .false))))⟩]
abbrev c_poundagelaw01_ExactBack_r3 : List AO := [⟨(.some 17), .none, (.mov (.t 0))⟩,
  ⟨(.some 18), .none, (.mov (.t 1))⟩,
  ⟨(.some 19), .none, (.call 10 [(.t 17), (.t 18)])⟩,
  ⟨(.some 16), .none, (.mov (.t 19))⟩,
  ⟨(.some 20), .none, (.extract (.t 16) 0)⟩,
  ⟨(.some 21), .none, (.extract (.t 16) 1)⟩,
  ⟨(.some 5), .none, (.mov (.t 20))⟩,
  ⟨(.some 6), .none, (.mov (.t 21))⟩]
abbrev c_poundagelaw01_ExactBack_r4 : List AO := [⟨(.some 22), .none, (.mov (.t 6))⟩]
abbrev c_poundagelaw01_ExactBack_r5 : List AO := [⟨(.some 24), .none, (.mov (.t 5))⟩,
  ⟨(.some 25), .none, (.mov (.t 1))⟩,
  ⟨(.some 26), .none, (.call 11 [(.t 24), (.t 25)])⟩,
  ⟨(.some 23), .none, (.mov (.t 26))⟩,
  ⟨(.some 27), .none, (.extract (.t 23) 0)⟩,
  ⟨(.some 28), .none, (.extract (.t 23) 1)⟩,
  ⟨(.some 7), .none, (.mov (.t 27))⟩,
  ⟨(.some 8), .none, (.mov (.t 28))⟩]
abbrev c_poundagelaw01_ExactBack_r6 : List AO := [⟨(.some 29), .none, (.mov (.t 8))⟩,
  ⟨(.some 30), .none, (.un .not (.t 29))⟩,
  ⟨(.some 31), .none, (.mov (.t 30))⟩,
  ⟨(.some 32), (.some ⟨31, .false⟩), (.mov (.t 7))⟩,
  ⟨(.some 33), (.some ⟨31, .false⟩), (.mov (.t 0))⟩,
  ⟨(.some 34), (.some ⟨31, .false⟩), (.bin .neq (.t 32) (.t 33))⟩,
  ⟨(.some 35), .none, (.pick (.t 31) (.c (.d (.bool .true))) (.t 34))⟩]
abbrev c_poundagelaw01_ExactBack_r7 : List AO := [⟨(.some 4), .none, (.mov (.c (.d (.bool .false))))⟩]
abbrev c_poundagelaw01_ExactBack_r8 : List AO := [⟨(.some 37), .none, (.mov (.t 0))⟩,
  ⟨(.some 38), .none, (.mov (.t 1))⟩,
  ⟨(.some 39), .none, (.call 12 [(.t 37), (.t 38)])⟩,
  ⟨(.some 36), .none, (.mov (.t 39))⟩,
  ⟨(.some 40), .none, (.extract (.t 36) 0)⟩,
  ⟨(.some 41), .none, (.extract (.t 36) 1)⟩,
  ⟨(.some 9), .none, (.mov (.t 40))⟩,
  ⟨(.some 10), .none, (.mov (.t 41))⟩]
abbrev c_poundagelaw01_ExactBack_r9 : List AO := [⟨(.some 42), .none, (.mov (.t 10))⟩,
  ⟨(.some 43), .none, (.un .not (.t 42))⟩,
  ⟨(.some 44), .none, (.mov (.t 43))⟩,
  ⟨(.some 45), (.some ⟨44, .false⟩), (.mov (.t 1))⟩,
  ⟨(.some 46), (.some ⟨44, .false⟩), (.bin .eql (.t 45) (.c (.d (.int .i64 0))))⟩,
  ⟨(.some 47), .none, (.pick (.t 44) (.c (.d (.bool .true))) (.t 46))⟩,
  ⟨(.some 48), .none, (.mov (.t 47))⟩,
  ⟨(.some 49), (.some ⟨48, .false⟩), (.mov (.t 9))⟩,
  ⟨(.some 50), (.some ⟨48, .false⟩), (.bin .eql (.t 49) (.c (.d (.int .i64 (-9223372036854775808)))))⟩,
  ⟨(.some 51), (.some ⟨48, .false⟩), (.mov (.t 50))⟩,
  ⟨(.some 52), (.some ⟨51, .true⟩), (.mov (.t 1))⟩,
  ⟨(.some 53), (.some ⟨51, .true⟩), (.bin .eql (.t 52) (.c (.d (.int .i64 (-1)))))⟩,
  ⟨(.some 54), (.some ⟨48, .false⟩), (.pick (.t 51) (.t 53) (.c (.d (.bool .false))))⟩,
  ⟨(.some 55), .none, (.pick (.t 48) (.c (.d (.bool .true))) (.t 54))⟩]
abbrev c_poundagelaw01_ExactBack_r10 : List AO := [⟨(.some 4), .none, (.mov (.c (.d (.bool .true))))⟩]
abbrev c_poundagelaw01_ExactBack_r11 : List AO := [⟨(.some 57), .none, (.mov (.t 9))⟩,
  ⟨(.some 58), .none, (.mov (.t 1))⟩,
  ⟨(.some 59), .none, (.call 18 [(.t 57), (.t 58)])⟩,
  ⟨(.some 56), .none, (.mov (.t 59))⟩,
  ⟨(.some 60), .none, (.extract (.t 56) 0)⟩,
  ⟨(.some 61), .none, (.extract (.t 56) 1)⟩,
  ⟨(.some 62), .none, (.extract (.t 56) 2)⟩,
  ⟨(.some 11), .none, (.mov (.t 60))⟩,
  ⟨(.some 12), .none, (.mov (.t 61))⟩,
  ⟨(.some 13), .none, (.mov (.t 62))⟩]
abbrev c_poundagelaw01_ExactBack_r12 : List AO := [⟨(.some 63), .none, (.mov (.t 13))⟩,
  ⟨(.some 64), .none, (.mov (.t 63))⟩,
  ⟨(.some 65), (.some ⟨64, .true⟩), (.mov (.t 11))⟩,
  ⟨(.some 66), (.some ⟨64, .true⟩), (.mov (.t 0))⟩,
  ⟨(.some 67), (.some ⟨64, .true⟩), (.bin .eql (.t 65) (.t 66))⟩,
  ⟨(.some 68), .none, (.pick (.t 64) (.t 67) (.c (.d (.bool .false))))⟩,
  ⟨(.some 69), .none, (.mov (.t 68))⟩,
  ⟨(.some 70), (.some ⟨69, .true⟩), (.mov (.t 12))⟩,
  ⟨(.some 71), (.some ⟨69, .true⟩), (.bin .eql (.t 70) (.c (.d (.int .i64 0))))⟩,
  ⟨(.some 72), .none, (.pick (.t 69) (.t 71) (.c (.d (.bool .false))))⟩,
  ⟨(.some 4), .none, (.mov (.t 72))⟩]
abbrev c_poundagelaw01_ExactBack : AFunc := ⟨73, [(.tmp 4)], (.seq (.ops c_poundagelaw01_ExactBack_r0) (.seq (.seq (.ops c_poundagelaw01_ExactBack_r1) (.cond (.t 15) (.seq (.ops c_poundagelaw01_ExactBack_r2) .ret) .skip)) (.seq (.seq (.ops c_poundagelaw01_ExactBack_r3) (.seq (.ops c_poundagelaw01_ExactBack_r4) (.cond (.t 22) (.seq (.ops c_poundagelaw01_ExactBack_r5) (.seq (.ops c_poundagelaw01_ExactBack_r6) (.cond (.t 35) (.seq (.ops c_poundagelaw01_ExactBack_r7) .ret) .skip))) .skip))) (.seq (.ops c_poundagelaw01_ExactBack_r8) (.seq (.seq (.ops c_poundagelaw01_ExactBack_r9) (.cond (.t 55) (.seq (.ops c_poundagelaw01_ExactBack_r10) .ret) .skip)) (.seq (.ops c_poundagelaw01_ExactBack_r11) (.seq (.ops c_poundagelaw01_ExactBack_r12) .ret)))))))⟩
theorem comp_poundagelaw01_ExactBack : funcC Try.prog 5 = some c_poundagelaw01_ExactBack := by kernel_rfl
/-! function 6 : poundage poundagelaw01.ExactOrder -/
abbrev f_poundagelaw01_ExactOrder : FuncId := 6
abbrev c_poundagelaw01_ExactOrder_r0 : List AO := [⟨(.some 6), .none, (.mov (.c (.d (.bool .false))))⟩]
abbrev c_poundagelaw01_ExactOrder_r1 : List AO := [⟨(.some 17), .none, (.call 9 [])⟩,
  ⟨(.some 18), .none, (.un .not (.t 17))⟩]
abbrev c_poundagelaw01_ExactOrder_r2 : List AO := [⟨(.some 6), .none, (.mov (.c (.d (.bool .false))))⟩]
abbrev c_poundagelaw01_ExactOrder_r3 : List AO := [⟨(.some 20), .none, (.mov (.t 0))⟩,
  ⟨(.some 21), .none, (.mov (.t 1))⟩,
  ⟨(.some 22), .none, (.call 10 [(.t 20), (.t 21)])⟩,
  ⟨(.some 19), .none, (.mov (.t 22))⟩,
  ⟨(.some 23), .none, (.extract (.t 19) 0)⟩,
  ⟨(.some 24), .none, (.extract (.t 19) 1)⟩,
  ⟨(.some 7), .none, (.mov (.t 23))⟩,
  ⟨(.some 8), .none, (.mov (.t 24))⟩]
abbrev c_poundagelaw01_ExactOrder_r4 : List AO := [⟨(.some 26), .none, (.mov (.t 1))⟩,
  ⟨(.some 27), .none, (.mov (.t 0))⟩,
  ⟨(.some 28), .none, (.call 10 [(.t 26), (.t 27)])⟩,
  ⟨(.some 25), .none, (.mov (.t 28))⟩,
  ⟨(.some 29), .none, (.extract (.t 25) 0)⟩,
  ⟨(.some 30), .none, (.extract (.t 25) 1)⟩,
  ⟨(.some 9), .none, (.mov (.t 29))⟩,
  ⟨(.some 10), .none, (.mov (.t 30))⟩]
abbrev c_poundagelaw01_ExactOrder_r5 : List AO := [⟨(.some 32), .none, (.mov (.t 0))⟩,
  ⟨(.some 33), .none, (.mov (.t 1))⟩,
  ⟨(.some 34), .none, (.call 12 [(.t 32), (.t 33)])⟩,
  ⟨(.some 31), .none, (.mov (.t 34))⟩,
  ⟨(.some 35), .none, (.extract (.t 31) 0)⟩,
  ⟨(.some 36), .none, (.extract (.t 31) 1)⟩,
  ⟨(.some 11), .none, (.mov (.t 35))⟩,
  ⟨(.some 12), .none, (.mov (.t 36))⟩]
abbrev c_poundagelaw01_ExactOrder_r6 : List AO := [⟨(.some 38), .none, (.mov (.t 1))⟩,
  ⟨(.some 39), .none, (.mov (.t 0))⟩,
  ⟨(.some 40), .none, (.call 12 [(.t 38), (.t 39)])⟩,
  ⟨(.some 37), .none, (.mov (.t 40))⟩,
  ⟨(.some 41), .none, (.extract (.t 37) 0)⟩,
  ⟨(.some 42), .none, (.extract (.t 37) 1)⟩,
  ⟨(.some 13), .none, (.mov (.t 41))⟩,
  ⟨(.some 14), .none, (.mov (.t 42))⟩]
abbrev c_poundagelaw01_ExactOrder_r7 : List AO := [⟨(.some 43), .none, (.mov (.t 7))⟩,
  ⟨(.some 44), .none, (.mov (.t 9))⟩,
  ⟨(.some 45), .none, (.bin .neq (.t 43) (.t 44))⟩,
  ⟨(.some 46), .none, (.mov (.t 45))⟩,
  ⟨(.some 47), (.some ⟨46, .false⟩), (.mov (.t 8))⟩,
  ⟨(.some 48), (.some ⟨46, .false⟩), (.mov (.t 10))⟩,
  ⟨(.some 49), (.some ⟨46, .false⟩), (.binb .true (.t 47) (.t 48))⟩,
  ⟨(.some 50), .none, (.pick (.t 46) (.c (.d (.bool .true))) (.t 49))⟩,
  ⟨(.some 51), .none, (.mov (.t 50))⟩,
  ⟨(.some 52), (.some ⟨51, .false⟩), (.mov (.t 11))⟩,
  ⟨(.some 53), (.some ⟨51, .false⟩), (.mov (.t 13))⟩,
  ⟨(.some 54), (.some ⟨51, .false⟩), (.bin .neq (.t 52) (.t 53))⟩,
  ⟨(.some 55), .none, (.pick (.t 51) (.c (.d (.bool .true))) (.t 54))⟩,
  ⟨(.some 56), .none, (.mov (.t 55))⟩,
  ⟨(.some 57), (.some ⟨56, .false⟩), (.mov (.t 12))⟩,
  ⟨(.some 58), (.some ⟨56, .false⟩), (.mov (.t 14))⟩,
  ⟨(.some 59), (.some ⟨56, .false⟩), (.binb .true (.t 57) (.t 58))⟩,
  ⟨(.some 60), .none, (.pick (.t 56) (.c (.d (.bool .true))) (.t 59))⟩]
abbrev c_poundagelaw01_ExactOrder_r8 : List AO := [⟨(.some 6), .none, (.mov (.c (.d (.bool .false))))⟩]
abbrev c_poundagelaw01_ExactOrder_r9 : List AO := [⟨(.some 62), .none, (.mov (.t 0))⟩,
  ⟨(.some 63), .none, (.mov (.t 2))⟩,
  ⟨(.some 64), .none, (.call 10 [(.t 62), (.t 63)])⟩,
  ⟨(.some 61), .none, (.mov (.t 64))⟩,
  ⟨(.some 65), .none, (.extract (.t 61) 0)⟩,
  ⟨(.some 66), .none, (.extract (.t 61) 1)⟩,
  ⟨(.some 15), .none, (.mov (.t 65))⟩,
  ⟨(.some 16), .none, (.mov (.t 66))⟩]
abbrev c_poundagelaw01_ExactOrder_r10 : List AO := [⟨(.some 67), .none, (.mov (.t 8))⟩,
  ⟨(.some 68), .none, (.un .not (.t 67))⟩,
  ⟨(.some 69), .none, (.mov (.t 68))⟩,
  ⟨(.some 70), (.some ⟨69, .false⟩), (.mov (.t 16))⟩,
  ⟨(.some 71), (.some ⟨69, .false⟩), (.un .not (.t 70))⟩,
  ⟨(.some 72), .none, (.pick (.t 69) (.c (.d (.bool .true))) (.t 71))⟩,
  ⟨(.some 73), .none, (.mov (.t 72))⟩,
  ⟨(.some 74), (.some ⟨73, .false⟩), (.mov (.t 7))⟩,
  ⟨(.some 75), (.some ⟨73, .false⟩), (.mov (.t 15))⟩,
  ⟨(.some 76), (.some ⟨73, .false⟩), (.bin .lss (.t 74) (.t 75))⟩,
  ⟨(.some 77), (.some ⟨73, .false⟩), (.mov (.t 1))⟩,
  ⟨(.some 78), (.some ⟨73, .false⟩), (.mov (.t 2))⟩,
  ⟨(.some 79), (.some ⟨73, .false⟩), (.bin .lss (.t 77) (.t 78))⟩,
  ⟨(.some 80), (.some ⟨73, .false⟩), (.binb .false (.t 76) (.t 79))⟩,
  ⟨(.some 81), .none, (.pick (.t 73) (.c (.d (.bool .true))) (.t 80))⟩,
  ⟨(.some 6), .none, (.mov (.t 81))⟩]
abbrev c_poundagelaw01_ExactOrder : AFunc := ⟨82, [(.tmp 6)], (.seq (.ops c_poundagelaw01_ExactOrder_r0) (.seq (.seq (.ops c_poundagelaw01_ExactOrder_r1) (.cond (.t 18) (.seq (.ops c_poundagelaw01_ExactOrder_r2) .ret) .skip)) (.seq (.ops c_poundagelaw01_ExactOrder_r3) (.seq (.ops c_poundagelaw01_ExactOrder_r4) (.seq (.ops c_poundagelaw01_ExactOrder_r5) (.seq (.ops c_poundagelaw01_ExactOrder_r6) (.seq (.seq (.ops c_poundagelaw01_ExactOrder_r7) (.cond (.t 60) (.seq (.ops c_poundagelaw01_ExactOrder_r8) .ret) .skip)) (.seq (.ops c_poundagelaw01_ExactOrder_r9) (.seq (.ops c_poundagelaw01_ExactOrder_r10) .ret)))))))))⟩
theorem comp_poundagelaw01_ExactOrder : funcC Try.prog 6 = some c_poundagelaw01_ExactOrder := by kernel_rfl
/-! function 7 : poundage poundagelaw01.ExactSigns -/
abbrev f_poundagelaw01_ExactSigns : FuncId := 7
abbrev c_poundagelaw01_ExactSigns_r0 : List AO := [⟨(.some 2), .none, (.mov (.c (.d (.bool .false))))⟩]
abbrev c_poundagelaw01_ExactSigns_r1 : List AO := [⟨(.some 12), .none, (.call 9 [])⟩,
  ⟨(.some 13), .none, (.un .not (.t 12))⟩]
abbrev c_poundagelaw01_ExactSigns_r2 : List AO := [⟨(.some 2), .none, (.mov (.c (.d (.bool .false))))⟩]
abbrev c_poundagelaw01_ExactSigns_r3 : List AO := [⟨(.some 15), .none, (.mov (.t 0))⟩,
  ⟨(.some 16), .none, (.call 11 [(.c (.d (.int .i64 0))), (.t 15)])⟩,
  ⟨(.some 14), .none, (.mov (.t 16))⟩,
  ⟨(.some 17), .none, (.extract (.t 14) 0)⟩,
  ⟨(.some 18), .none, (.extract (.t 14) 1)⟩,
  ⟨(.some 3), .none, (.mov (.t 17))⟩,
  ⟨(.some 4), .none, (.mov (.t 18))⟩]
abbrev c_poundagelaw01_ExactSigns_r4 : List AO := [⟨(.some 20), .none, (.mov (.t 0))⟩,
  ⟨(.some 21), .none, (.call 12 [(.t 20), (.c (.d (.int .i64 (-1))))])⟩,
  ⟨(.some 19), .none, (.mov (.t 21))⟩,
  ⟨(.some 22), .none, (.extract (.t 19) 0)⟩,
  ⟨(.some 23), .none, (.extract (.t 19) 1)⟩,
  ⟨(.some 5), .none, (.mov (.t 22))⟩,
  ⟨(.some 6), .none, (.mov (.t 23))⟩]
abbrev c_poundagelaw01_ExactSigns_r5 : List AO := [⟨(.some 25), .none, (.mov (.t 0))⟩,
  ⟨(.some 26), .none, (.call 18 [(.t 25), (.c (.d (.int .i64 (-1))))])⟩,
  ⟨(.some 24), .none, (.mov (.t 26))⟩,
  ⟨(.some 27), .none, (.extract (.t 24) 0)⟩,
  ⟨(.some 28), .none, (.extract (.t 24) 1)⟩,
  ⟨(.some 29), .none, (.extract (.t 24) 2)⟩,
  ⟨(.some 7), .none, (.mov (.t 27))⟩,
  ⟨(.some 8), .none, (.mov (.t 28))⟩,
  ⟨(.some 9), .none, (.mov (.t 29))⟩]
abbrev c_poundagelaw01_ExactSigns_r6 : List AO := [⟨(.some 30), .none, (.mov (.t 0))⟩,
  ⟨(.some 31), .none, (.bin .eql (.t 30) (.c (.d (.int .i64 (-9223372036854775808)))))⟩]
abbrev c_poundagelaw01_ExactSigns_r7 : List AO := [⟨(.some 32), .none, (.mov (.t 4))⟩,
  ⟨(.some 33), .none, (.un .not (.t 32))⟩,
  ⟨(.some 34), .none, (.mov (.t 33))⟩,
  ⟨(.some 35), (.some ⟨34, .true⟩), (.mov (.t 6))⟩,
  ⟨(.some 36), (.some ⟨34, .true⟩), (.un .not (.t 35))⟩,
  ⟨(.some 37), .none, (.pick (.t 34) (.t 36) (.c (.d (.bool .false))))⟩,
  ⟨(.some 38), .none, (.mov (.t 37))⟩,
  ⟨(.some 39), (.some ⟨38, .true⟩), (.mov (.t 9))⟩,
  ⟨(.some 40), (.some ⟨38, .true⟩), (.un .not (.t 39))⟩,
  ⟨(.some 41), .none, (.pick (.t 38) (.t 40) (.c (.d (.bool .false))))⟩,
  ⟨(.some 42), .none, (.mov (.t 41))⟩,
  ⟨(.some 43), (.some ⟨42, .true⟩), (.mov (.t 3))⟩,
  ⟨(.some 44), (.some ⟨42, .true⟩), (.bin .eql (.t 43) (.c (.d (.int .i64 0))))⟩,
  ⟨(.some 45), .none, (.pick (.t 42) (.t 44) (.c (.d (.bool .false))))⟩,
  ⟨(.some 46), .none, (.mov (.t 45))⟩,
  ⟨(.some 47), (.some ⟨46, .true⟩), (.mov (.t 5))⟩,
  ⟨(.some 48), (.some ⟨46, .true⟩), (.bin .eql (.t 47) (.c (.d (.int .i64 0))))⟩,
  ⟨(.some 49), .none, (.pick (.t 46) (.t 48) (.c (.d (.bool .false))))⟩,
  ⟨(.some 50), .none, (.mov (.t 49))⟩,
  ⟨(.some 51), (.some ⟨50, .true⟩), (.mov (.t 7))⟩,
  ⟨(.some 52), (.some ⟨50, .true⟩), (.bin .eql (.t 51) (.c (.d (.int .i64 0))))⟩,
  ⟨(.some 53), .none, (.pick (.t 50) (.t 52) (.c (.d (.bool .false))))⟩,
  ⟨(.some 54), .none, (.mov (.t 53))⟩,
  ⟨(.some 55), (.some ⟨54, .true⟩), (.mov (.t 8))⟩,
  ⟨(.some 56), (.some ⟨54, .true⟩), (.bin .eql (.t 55) (.c (.d (.int .i64 0))))⟩,
  ⟨(.some 57), .none, (.pick (.t 54) (.t 56) (.c (.d (.bool .false))))⟩,
  ⟨(.some 2), .none, (.mov (.t 57))⟩]
abbrev c_poundagelaw01_ExactSigns_r8 : List AO := [⟨(.some 59), .none, (.mov (.t 0))⟩,
  ⟨(.some 60), .none, (.mov (.t 3))⟩,
  ⟨(.some 61), .none, (.call 10 [(.t 59), (.t 60)])⟩,
  ⟨(.some 58), .none, (.mov (.t 61))⟩,
  ⟨(.some 62), .none, (.extract (.t 58) 0)⟩,
  ⟨(.some 63), .none, (.extract (.t 58) 1)⟩,
  ⟨(.some 10), .none, (.mov (.t 62))⟩,
  ⟨(.some 11), .none, (.mov (.t 63))⟩]
abbrev c_poundagelaw01_ExactSigns_r9 : List AO := [⟨(.some 64), .none, (.mov (.t 4))⟩,
  ⟨(.some 65), .none, (.mov (.t 64))⟩,
  ⟨(.some 66), (.some ⟨65, .true⟩), (.mov (.t 6))⟩,
  ⟨(.some 67), .none, (.pick (.t 65) (.t 66) (.c (.d (.bool .false))))⟩,
  ⟨(.some 68), .none, (.mov (.t 67))⟩,
  ⟨(.some 69), (.some ⟨68, .true⟩), (.mov (.t 9))⟩,
  ⟨(.some 70), .none, (.pick (.t 68) (.t 69) (.c (.d (.bool .false))))⟩,
  ⟨(.some 71), .none, (.mov (.t 70))⟩,
  ⟨(.some 72), (.some ⟨71, .true⟩), (.mov (.t 11))⟩,
  ⟨(.some 73), .none, (.pick (.t 71) (.t 72) (.c (.d (.bool .false))))⟩,
  ⟨(.some 74), .none, (.mov (.t 73))⟩,
  ⟨(.some 75), (.some ⟨74, .true⟩), (.mov (.t 3))⟩,
  ⟨(.some 76), (.some ⟨74, .true⟩), (.mov (.t 5))⟩,
  ⟨(.some 77), (.some ⟨74, .true⟩), (.bin .eql (.t 75) (.t 76))⟩,
  ⟨(.some 78), .none, (.pick (.t 74) (.t 77) (.c (.d (.bool .false))))⟩,
  ⟨(.some 79), .none, (.mov (.t 78))⟩,
  ⟨(.some 80), (.some ⟨79, .true⟩), (.mov (.t 7))⟩,
  ⟨(.some 81), (.some ⟨79, .true⟩), (.mov (.t 3))⟩,
  ⟨(.some 82), (.some ⟨79, .true⟩), (.bin .eql (.t 80) (.t 81))⟩,
  ⟨(.some 83), .none, (.pick (.t 79) (.t 82) (.c (.d (.bool .false))))⟩,
  ⟨(.some 84), .none, (.mov (.t 83))⟩,
  ⟨(.some 85), (.some ⟨84, .true⟩), (.mov (.t 8))⟩,
  ⟨(.some 86), (.some ⟨84, .true⟩), (.bin .eql (.t 85) (.c (.d (.int .i64 0))))⟩,
  ⟨(.some 87), .none, (.pick (.t 84) (.t 86) (.c (.d (.bool .false))))⟩,
  ⟨(.some 88), .none, (.mov (.t 87))⟩,
  ⟨(.some 89), (.some ⟨88, .true⟩), (.mov (.t 10))⟩,
  ⟨(.some 90), (.some ⟨88, .true⟩), (.bin .eql (.t 89) (.c (.d (.int .i64 0))))⟩,
  ⟨(.some 91), .none, (.pick (.t 88) (.t 90) (.c (.d (.bool .false))))⟩,
  ⟨(.some 2), .none, (.mov (.t 91))⟩]
abbrev c_poundagelaw01_ExactSigns : AFunc := ⟨92, [(.tmp 2)], (.seq (.ops c_poundagelaw01_ExactSigns_r0) (.seq (.seq (.ops c_poundagelaw01_ExactSigns_r1) (.cond (.t 13) (.seq (.ops c_poundagelaw01_ExactSigns_r2) .ret) .skip)) (.seq (.ops c_poundagelaw01_ExactSigns_r3) (.seq (.ops c_poundagelaw01_ExactSigns_r4) (.seq (.ops c_poundagelaw01_ExactSigns_r5) (.seq (.seq (.ops c_poundagelaw01_ExactSigns_r6) (.cond (.t 31) (.seq (.ops c_poundagelaw01_ExactSigns_r7) .ret) .skip)) (.seq (.ops c_poundagelaw01_ExactSigns_r8) (.seq (.ops c_poundagelaw01_ExactSigns_r9) .ret))))))))⟩
theorem comp_poundagelaw01_ExactSigns : funcC Try.prog 7 = some c_poundagelaw01_ExactSigns := by kernel_rfl
/-! function 8 : poundage poundagelaw01.ExactSums -/
abbrev f_poundagelaw01_ExactSums : FuncId := 8
abbrev c_poundagelaw01_ExactSums_r0 : List AO := [⟨(.some 2), .none, (.mov (.c (.d (.bool .false))))⟩]
abbrev c_poundagelaw01_ExactSums_r1 : List AO := [⟨(.some 15), .none, (.call 9 [])⟩,
  ⟨(.some 16), .none, (.un .not (.t 15))⟩]
abbrev c_poundagelaw01_ExactSums_r2 : List AO := [⟨(.some 2), .none, (.mov (.c (.d (.bool .false))))⟩]
abbrev c_poundagelaw01_ExactSums_r3 : List AO := [⟨(.some 17), .none, (.mov (.t 0))⟩,
  ⟨(.some 18), .none, (.len (.t 17))⟩,
  ⟨(.some 19), .none, (.bin .gtr (.t 18) (.c (.d (.int .i64 200))))⟩]
abbrev c_poundagelaw01_ExactSums_r4 : List AO := [⟨(.some 2), .none, (.mov (.c (.d (.bool .true))))⟩]
abbrev c_poundagelaw01_ExactSums_r5 : List AO := [⟨(.some 21), .none, (.mov (.t 0))⟩,
  ⟨(.some 22), .none, (.call 19 [(.t 21)])⟩,
  ⟨(.some 20), .none, (.mov (.t 22))⟩,
  ⟨(.some 23), .none, (.extract (.t 20) 0)⟩,
  ⟨(.some 24), .none, (.extract (.t 20) 1)⟩,
  ⟨(.some 3), .none, (.mov (.t 23))⟩,
  ⟨(.some 4), .none, (.mov (.t 24))⟩]
abbrev c_poundagelaw01_ExactSums_r6 : List AO := [⟨(.some 26), .none, (.mov (.t 0))⟩,
  ⟨(.some 27), .none, (.call 20 [(.t 26)])⟩,
  ⟨(.some 25), .none, (.mov (.t 27))⟩,
  ⟨(.some 28), .none, (.extract (.t 25) 0)⟩,
  ⟨(.some 29), .none, (.extract (.t 25) 1)⟩,
  ⟨(.some 5), .none, (.mov (.t 28))⟩,
  ⟨(.some 6), .none, (.mov (.t 29))⟩]
abbrev c_poundagelaw01_ExactSums_r7 : List AO := [⟨(.some 30), .none, (.mov (.t 4))⟩,
  ⟨(.some 31), .none, (.mov (.t 6))⟩,
  ⟨(.some 32), .none, (.binb .true (.t 30) (.t 31))⟩,
  ⟨(.some 33), .none, (.mov (.t 32))⟩,
  ⟨(.some 34), (.some ⟨33, .false⟩), (.mov (.t 3))⟩,
  ⟨(.some 35), (.some ⟨33, .false⟩), (.mov (.t 5))⟩,
  ⟨(.some 36), (.some ⟨33, .false⟩), (.bin .neq (.t 34) (.t 35))⟩,
  ⟨(.some 37), .none, (.pick (.t 33) (.c (.d (.bool .true))) (.t 36))⟩]
abbrev c_poundagelaw01_ExactSums_r8 : List AO := [⟨(.some 2), .none, (.mov (.c (.d (.bool .false))))⟩]
abbrev c_poundagelaw01_ExactSums_r9 : List AO := [⟨(.some 39), .none, (.mov (.t 0))⟩,
  ⟨(.some 40), .none, (.call 21 [(.t 39)])⟩,
  ⟨(.some 38), .none, (.mov (.t 40))⟩,
  ⟨(.some 41), .none, (.extract (.t 38) 0)⟩,
  ⟨(.some 42), .none, (.extract (.t 38) 1)⟩,
  ⟨(.some 7), .none, (.mov (.t 41))⟩,
  ⟨(.some 8), .none, (.mov (.t 42))⟩]
abbrev c_poundagelaw01_ExactSums_r10 : List AO := [⟨(.some 44), .none, (.mov (.t 0))⟩,
  ⟨(.some 45), .none, (.call 22 [(.t 44)])⟩,
  ⟨(.some 43), .none, (.mov (.t 45))⟩,
  ⟨(.some 46), .none, (.extract (.t 43) 0)⟩,
  ⟨(.some 47), .none, (.extract (.t 43) 1)⟩,
  ⟨(.some 9), .none, (.mov (.t 46))⟩,
  ⟨(.some 10), .none, (.mov (.t 47))⟩]
abbrev c_poundagelaw01_ExactSums_r11 : List AO := [⟨(.some 48), .none, (.mov (.t 0))⟩,
  ⟨(.some 49), .none, (.len (.t 48))⟩,
  ⟨(.some 50), .none, (.bin .eql (.t 49) (.c (.d (.int .i64 0))))⟩]
abbrev c_poundagelaw01_ExactSums_r12 : List AO := [⟨(.some 51), .none, (.mov (.t 8))⟩,
  ⟨(.some 52), .none, (.un .not (.t 51))⟩,
  ⟨(.some 53), .none, (.mov (.t 52))⟩,
  ⟨(.some 54), (.some ⟨53, .true⟩), (.mov (.t 10))⟩,
  ⟨(.some 55), (.some ⟨53, .true⟩), (.un .not (.t 54))⟩,
  ⟨(.some 56), .none, (.pick (.t 53) (.t 55) (.c (.d (.bool .false))))⟩,
  ⟨(.some 57), .none, (.mov (.t 56))⟩,
  ⟨(.some 58), (.some ⟨57, .true⟩), (.mov (.t 7))⟩,
  ⟨(.some 59), (.some ⟨57, .true⟩), (.bin .eql (.t 58) (.c (.d (.int .i64 0))))⟩,
  ⟨(.some 60), .none, (.pick (.t 57) (.t 59) (.c (.d (.bool .false))))⟩,
  ⟨(.some 61), .none, (.mov (.t 60))⟩,
  ⟨(.some 62), (.some ⟨61, .true⟩), (.mov (.t 9))⟩,
  ⟨(.some 63), (.some ⟨61, .true⟩), (.bin .eql (.t 62) (.c (.d (.int .i64 0))))⟩,
  ⟨(.some 64), .none, (.pick (.t 61) (.t 63) (.c (.d (.bool .false))))⟩,
  ⟨(.some 2), .none, (.mov (.t 64))⟩]
abbrev c_poundagelaw01_ExactSums_r13 : List AO := [⟨(.some 11), .none, (.mov (.c (.d (.bool .false))))⟩,
  ⟨(.some 12), .none, (.mov (.c (.d (.bool .false))))⟩]
abbrev c_poundagelaw01_ExactSums_r14 : List AO := [⟨(.some 65), .none, (.mov (.t 0))⟩,
  ⟨(.some 66), .none, (.len (.t 65))⟩,
  ⟨(.some 67), .none, (.mov (.c (.d (.int .i64 0))))⟩]
abbrev c_poundagelaw01_ExactSums_r15 : List AO := [⟨(.some 68), .none, (.bin .lss (.t 67) (.t 66))⟩]
abbrev c_poundagelaw01_ExactSums_r16 : List AO := [⟨(.some 69), .none, (.elemAddr 1 (.t 65) (.t 67))⟩,
  ⟨(.some 70), .none, (.load .none (.t 69))⟩,
  ⟨(.some 14), .none, (.mov (.t 70))⟩]
abbrev c_poundagelaw01_ExactSums_r17 : List AO := [⟨(.some 71), .none, (.mov (.t 14))⟩,
  ⟨(.some 72), .none, (.mov (.t 7))⟩,
  ⟨(.some 73), .none, (.bin .lss (.t 71) (.t 72))⟩,
  ⟨(.some 74), .none, (.mov (.t 73))⟩,
  ⟨(.some 75), (.some ⟨74, .false⟩), (.mov (.t 14))⟩,
  ⟨(.some 76), (.some ⟨74, .false⟩), (.mov (.t 9))⟩,
  ⟨(.some 77), (.some ⟨74, .false⟩), (.bin .gtr (.t 75) (.t 76))⟩,
  ⟨(.some 78), .none, (.pick (.t 74) (.c (.d (.bool .true))) (.t 77))⟩]
abbrev c_poundagelaw01_ExactSums_r18 : List AO := [⟨(.some 2), .none, (.mov (.c (.d (.bool .false))))⟩]
abbrev c_poundagelaw01_ExactSums_r19 : List AO := [⟨(.some 79), .none, (.mov (.t 11))⟩,
  ⟨(.some 80), .none, (.mov (.t 79))⟩,
  ⟨(.some 81), (.some ⟨80, .false⟩), (.mov (.t 14))⟩,
  ⟨(.some 82), (.some ⟨80, .false⟩), (.mov (.t 7))⟩,
  ⟨(.some 83), (.some ⟨80, .false⟩), (.bin .eql (.t 81) (.t 82))⟩,
  ⟨(.some 84), .none, (.pick (.t 80) (.c (.d (.bool .true))) (.t 83))⟩,
  ⟨(.some 11), .none, (.mov (.t 84))⟩]
abbrev c_poundagelaw01_ExactSums_r20 : List AO := [⟨(.some 85), .none, (.mov (.t 12))⟩,
  ⟨(.some 86), .none, (.mov (.t 85))⟩,
  ⟨(.some 87), (.some ⟨86, .false⟩), (.mov (.t 14))⟩,
  ⟨(.some 88), (.some ⟨86, .false⟩), (.mov (.t 9))⟩,
  ⟨(.some 89), (.some ⟨86, .false⟩), (.bin .eql (.t 87) (.t 88))⟩,
  ⟨(.some 90), .none, (.pick (.t 86) (.c (.d (.bool .true))) (.t 89))⟩,
  ⟨(.some 12), .none, (.mov (.t 90))⟩]
abbrev c_poundagelaw01_ExactSums_r21 : List AO := [⟨(.some 91), .none, (.bin .add (.t 67) (.c (.d (.int .i64 1))))⟩,
  ⟨(.some 67), .none, (.mov (.t 91))⟩]
abbrev c_poundagelaw01_ExactSums_l0 : ACode := (.seq (.ops c_poundagelaw01_ExactSums_r15) (.seq (.cond (.t 68) .skip (.exit 0)) (.seq (.block 1 (.seq (.ops c_poundagelaw01_ExactSums_r16) (.seq (.seq (.ops c_poundagelaw01_ExactSums_r17) (.cond (.t 78) (.seq (.ops c_poundagelaw01_ExactSums_r18) .ret) .skip)) (.seq (.ops c_poundagelaw01_ExactSums_r19) (.ops c_poundagelaw01_ExactSums_r20))))) (.ops c_poundagelaw01_ExactSums_r21))))
abbrev c_poundagelaw01_ExactSums_r22 : List AO := [⟨(.some 92), .none, (.mov (.t 8))⟩,
  ⟨(.some 93), .none, (.mov (.t 92))⟩,
  ⟨(.some 94), (.some ⟨93, .true⟩), (.mov (.t 10))⟩,
  ⟨(.some 95), .none, (.pick (.t 93) (.t 94) (.c (.d (.bool .false))))⟩,
  ⟨(.some 96), .none, (.mov (.t 95))⟩,
  ⟨(.some 97), (.some ⟨96, .true⟩), (.mov (.t 11))⟩,
  ⟨(.some 98), .none, (.pick (.t 96) (.t 97) (.c (.d (.bool .false))))⟩,
  ⟨(.some 99), .none, (.mov (.t 98))⟩,
  ⟨(.some 100), (.some ⟨99, .true⟩), (.mov (.t 12))⟩,
  ⟨(.some 101), .none, (.pick (.t 99) (.t 100) (.c (.d (.bool .false))))⟩,
  ⟨(.some 2), .none, (.mov (.t 101))⟩]
abbrev c_poundagelaw01_ExactSums : AFunc := ⟨102, [(.tmp 2)], (.seq (.ops c_poundagelaw01_ExactSums_r0) (.seq (.seq (.ops c_poundagelaw01_ExactSums_r1) (.cond (.t 16) (.seq (.ops c_poundagelaw01_ExactSums_r2) .ret) .skip)) (.seq (.seq (.ops c_poundagelaw01_ExactSums_r3) (.cond (.t 19) (.seq (.ops c_poundagelaw01_ExactSums_r4) .ret) .skip)) (.seq (.ops c_poundagelaw01_ExactSums_r5) (.seq (.ops c_poundagelaw01_ExactSums_r6) (.seq (.seq (.ops c_poundagelaw01_ExactSums_r7) (.cond (.t 37) (.seq (.ops c_poundagelaw01_ExactSums_r8) .ret) .skip)) (.seq (.ops c_poundagelaw01_ExactSums_r9) (.seq (.ops c_poundagelaw01_ExactSums_r10) (.seq (.seq (.ops c_poundagelaw01_ExactSums_r11) (.cond (.t 50) (.seq (.ops c_poundagelaw01_ExactSums_r12) .ret) .skip)) (.seq (.ops c_poundagelaw01_ExactSums_r13) (.seq (.seq (.ops c_poundagelaw01_ExactSums_r14) (.block 0 (.loop c_poundagelaw01_ExactSums_l0))) (.seq (.ops c_poundagelaw01_ExactSums_r22) .ret))))))))))))⟩
theorem comp_poundagelaw01_ExactSums : funcC Try.prog 8 = some c_poundagelaw01_ExactSums := by kernel_rfl
/-! function 9 : poundage poundagelaw01.alive -/
abbrev f_poundagelaw01_alive : FuncId := 9
abbrev c_poundagelaw01_alive_r0 : List AO := [⟨(.some 0), .none, (.mov (.c (.d (.bool .false))))⟩]
abbrev c_poundagelaw01_alive_r1 : List AO := [⟨(.some 9), .none, (.call 12 [(.c (.d (.int .i64 4294967296))), (.c (.d (.int .i64 2147483648)))])⟩,
  ⟨(.some 8), .none, (.mov (.t 9))⟩,
  ⟨(.some 10), .none, (.extract (.t 8) 0)⟩,
  ⟨(.some 11), .none, (.extract (.t 8) 1)⟩,
  ⟨(.some 1), .none, (.mov (.t 10))⟩,
  ⟨(.some 2), .none, (.mov (.t 11))⟩]
abbrev c_poundagelaw01_alive_r2 : List AO := [⟨(.some 13), .none, (.call 18 [(.c (.d (.int .i64 (-7)))), (.c (.d (.int .i64 2)))])⟩,
  ⟨(.some 12), .none, (.mov (.t 13))⟩,
  ⟨(.some 14), .none, (.extract (.t 12) 0)⟩,
  ⟨(.some 15), .none, (.extract (.t 12) 1)⟩,
  ⟨(.some 16), .none, (.extract (.t 12) 2)⟩,
  ⟨(.some 3), .none, (.mov (.t 14))⟩,
  ⟨(.some 4), .none, (.mov (.t 15))⟩,
  ⟨(.some 5), .none, (.mov (.t 16))⟩]
abbrev c_poundagelaw01_alive_r3 : List AO := [⟨(.some 18), .none, (.call 10 [(.c (.d (.int .i64 2))), (.c (.d (.int .i64 3)))])⟩,
  ⟨(.some 17), .none, (.mov (.t 18))⟩,
  ⟨(.some 19), .none, (.extract (.t 17) 0)⟩,
  ⟨(.some 20), .none, (.extract (.t 17) 1)⟩,
  ⟨(.some 6), .none, (.mov (.t 19))⟩,
  ⟨(.some 7), .none, (.mov (.t 20))⟩]
abbrev c_poundagelaw01_alive_r4 : List AO := [⟨(.some 21), .none, (.mov (.t 1))⟩,
  ⟨(.some 22), .none, (.bin .eql (.t 21) (.c (.d (.int .i64 0))))⟩,
  ⟨(.some 23), .none, (.mov (.t 22))⟩,
  ⟨(.some 24), (.some ⟨23, .true⟩), (.mov (.t 2))⟩,
  ⟨(.some 25), (.some ⟨23, .true⟩), (.un .not (.t 24))⟩,
  ⟨(.some 26), .none, (.pick (.t 23) (.t 25) (.c (.d (.bool .false))))⟩,
  ⟨(.some 27), .none, (.mov (.t 26))⟩,
  ⟨(.some 28), (.some ⟨27, .true⟩), (.mov (.t 3))⟩,
  ⟨(.some 29), (.some ⟨27, .true⟩), (.bin .eql (.t 28) (.c (.d (.int .i64 (-4)))))⟩,
  ⟨(.some 30), .none, (.pick (.t 27) (.t 29) (.c (.d (.bool .false))))⟩,
  ⟨(.some 31), .none, (.mov (.t 30))⟩,
  ⟨(.some 32), (.some ⟨31, .true⟩), (.mov (.t 4))⟩,
  ⟨(.some 33), (.some ⟨31, .true⟩), (.bin .eql (.t 32) (.c (.d (.int .i64 1))))⟩,
  ⟨(.some 34), .none, (.pick (.t 31) (.t 33) (.c (.d (.bool .false))))⟩,
  ⟨(.some 35), .none, (.mov (.t 34))⟩,
  ⟨(.some 36), (.some ⟨35, .true⟩), (.mov (.t 5))⟩,
  ⟨(.some 37), .none, (.pick (.t 35) (.t 36) (.c (.d (.bool .false))))⟩,
  ⟨(.some 38), .none, (.mov (.t 37))⟩,
  ⟨(.some 39), (.some ⟨38, .true⟩), (.mov (.t 6))⟩,
  ⟨(.some 40), (.some ⟨38, .true⟩), (.bin .eql (.t 39) (.c (.d (.int .i64 5))))⟩,
  ⟨(.some 41), .none, (.pick (.t 38) (.t 40) (.c (.d (.bool .false))))⟩,
  ⟨(.some 42), .none, (.mov (.t 41))⟩,
  ⟨(.some 43), (.some ⟨42, .true⟩), (.mov (.t 7))⟩,
  ⟨(.some 44), .none, (.pick (.t 42) (.t 43) (.c (.d (.bool .false))))⟩,
  ⟨(.some 0), .none, (.mov (.t 44))⟩]
abbrev c_poundagelaw01_alive : AFunc := ⟨45, [(.tmp 0)], (.seq (.ops c_poundagelaw01_alive_r0) (.seq (.ops c_poundagelaw01_alive_r1) (.seq (.ops c_poundagelaw01_alive_r2) (.seq (.ops c_poundagelaw01_alive_r3) (.seq (.ops c_poundagelaw01_alive_r4) .ret)))))⟩
theorem comp_poundagelaw01_alive : funcC Try.prog 9 = some c_poundagelaw01_alive := by kernel_rfl
/-! function 10 : poundage exact.Add -/
abbrev f_exact_Add : FuncId := 10
abbrev c_exact_Add_r0 : List AO := [⟨(.some 4), .none, (.mov (.c (.d (.int .i64 0))))⟩,
  ⟨(.some 5), .none, (.mov (.c (.d (.bool .false))))⟩]
abbrev c_exact_Add_r1 : List AO := [⟨(.some 6), .none, (.mov (.t 1))⟩,
  ⟨(.some 7), .none, (.bin .gtr (.t 6) (.c (.d (.int .i64 0))))⟩,
  ⟨(.some 8), .none, (.mov (.t 7))⟩,
  ⟨(.some 9), (.some ⟨8, .true⟩), (.mov (.t 0))⟩,
  ⟨(.some 10), (.some ⟨8, .true⟩), (.mov (.t 1))⟩,
  ⟨(.some 11), (.some ⟨8, .true⟩), (.bin .sub (.c (.d (.int .i64 9223372036854775807))) (.t 10))⟩,
  ⟨(.some 12), (.some ⟨8, .true⟩), (.bin .gtr (.t 9) (.t 11))⟩,
  ⟨(.some 13), .none, (.pick (.t 8) (.t 12) (.c (.d (.bool .false))))⟩,
  ⟨(.some 14), .none, (.mov (.t 13))⟩,
  ⟨(.some 15), (.some ⟨14, .false⟩), (.mov (.t 1))⟩,
  ⟨(.some 16), (.some ⟨14, .false⟩), (.bin .lss (.t 15) (.c (.d (.int .i64 0))))⟩,
  ⟨(.some 17), (.some ⟨14, .false⟩), (.mov (.t 16))⟩,
  ⟨(.some 18), (.some ⟨17, .true⟩), (.mov (.t 0))⟩,
  ⟨(.some 19), (.some ⟨17, .true⟩), (.mov (.t 1))⟩,
  ⟨(.some 20), (.some ⟨17, .true⟩), (.bin .sub (.c (.d (.int .i64 (-9223372036854775808)))) (.t 19))⟩,
  ⟨(.some 21), (.some ⟨17, .true⟩), (.bin .lss (.t 18) (.t 20))⟩,
  ⟨(.some 22), (.some ⟨14, .false⟩), (.pick (.t 17) (.t 21) (.c (.d (.bool .false))))⟩,
  ⟨(.some 23), .none, (.pick (.t 14) (.c (.d (.bool .true))) (.t 22))⟩]
abbrev c_exact_Add_r2 : List AO := [⟨(.some 4), .none, (.mov (.c (.d (.int .i64 0))))⟩,
  ⟨(.some 5), .none, (.mov (.c (.d (.bool .false))))⟩]
abbrev c_exact_Add_r3 : List AO := [⟨(.some 24), .none, (.mov (.t 0))⟩,
  ⟨(.some 25), .none, (.mov (.t 1))⟩,
  ⟨(.some 26), .none, (.bin .add (.t 24) (.t 25))⟩,
  ⟨(.some 4), .none, (.mov (.t 26))⟩,
  ⟨(.some 5), .none, (.mov (.c (.d (.bool .true))))⟩]
abbrev c_exact_Add : AFunc := ⟨27, [(.tmp 4), (.tmp 5)], (.seq (.ops c_exact_Add_r0) (.seq (.seq (.ops c_exact_Add_r1) (.cond (.t 23) (.seq (.ops c_exact_Add_r2) .ret) .skip)) (.seq (.ops c_exact_Add_r3) .ret)))⟩
theorem comp_exact_Add : funcC Try.prog 10 = some c_exact_Add := by kernel_rfl
/-! function 11 : poundage exact.Sub -/
abbrev f_exact_Sub : FuncId := 11
abbrev c_exact_Sub_r0 : List AO := [⟨(.some 4), .none, (.mov (.c (.d (.int .i64 0))))⟩,
  ⟨(.some 5), .none, (.mov (.c (.d (.bool .false))))⟩]
abbrev c_exact_Sub_r1 : List AO := [⟨(.some 6), .none, (.mov (.t 1))⟩,
  ⟨(.some 7), .none, (.bin .lss (.t 6) (.c (.d (.int .i64 0))))⟩,
  ⟨(.some 8), .none, (.mov (.t 7))⟩,
  ⟨(.some 9), (.some ⟨8, .true⟩), (.mov (.t 0))⟩,
  ⟨(.some 10), (.some ⟨8, .true⟩), (.mov (.t 1))⟩,
  ⟨(.some 11), (.some ⟨8, .true⟩), (.bin .add (.c (.d (.int .i64 9223372036854775807))) (.t 10))⟩,
  ⟨(.some 12), (.some ⟨8, .true⟩), (.bin .gtr (.t 9) (.t 11))⟩,
  ⟨(.some 13), .none, (.pick (.t 8) (.t 12) (.c (.d (.bool .false))))⟩,
  ⟨(.some 14), .none, (.mov (.t 13))⟩,
  ⟨(.some 15), (.some ⟨14, .false⟩), (.mov (.t 1))⟩,
  ⟨(.some 16), (.some ⟨14, .false⟩), (.bin .gtr (.t 15) (.c (.d (.int .i64 0))))⟩,
  ⟨(.some 17), (.some ⟨14, .false⟩), (.mov (.t 16))⟩,
  ⟨(.some 18), (.some ⟨17, .true⟩), (.mov (.t 0))⟩,
  ⟨(.some 19), (.some ⟨17, .true⟩), (.mov (.t 1))⟩,
  ⟨(.some 20), (.some ⟨17, .true⟩), (.bin .add (.c (.d (.int .i64 (-9223372036854775808)))) (.t 19))⟩,
  ⟨(.some 21), (.some ⟨17, .true⟩), (.bin .lss (.t 18) (.t 20))⟩,
  ⟨(.some 22), (.some ⟨14, .false⟩), (.pick (.t 17) (.t 21) (.c (.d (.bool .false))))⟩,
  ⟨(.some 23), .none, (.pick (.t 14) (.c (.d (.bool .true))) (.t 22))⟩]
abbrev c_exact_Sub_r2 : List AO := [⟨(.some 4), .none, (.mov (.c (.d (.int .i64 0))))⟩,
  ⟨(.some 5), .none, (.mov (.c (.d (.bool .false))))⟩]
abbrev c_exact_Sub_r3 : List AO := [⟨(.some 24), .none, (.mov (.t 0))⟩,
  ⟨(.some 25), .none, (.mov (.t 1))⟩,
  ⟨(.some 26), .none, (.bin .sub (.t 24) (.t 25))⟩,
  ⟨(.some 4), .none, (.mov (.t 26))⟩,
  ⟨(.some 5), .none, (.mov (.c (.d (.bool .true))))⟩]
abbrev c_exact_Sub : AFunc := ⟨27, [(.tmp 4), (.tmp 5)], (.seq (.ops c_exact_Sub_r0) (.seq (.seq (.ops c_exact_Sub_r1) (.cond (.t 23) (.seq (.ops c_exact_Sub_r2) .ret) .skip)) (.seq (.ops c_exact_Sub_r3) .ret)))⟩
theorem comp_exact_Sub : funcC Try.prog 11 = some c_exact_Sub := by kernel_rfl
/-! function 12 : poundage exact.Mul -/
abbrev f_exact_Mul : FuncId := 12
abbrev c_exact_Mul_r0 : List AO := [⟨(.some 4), .none, (.mov (.c (.d (.int .i64 0))))⟩,
  ⟨(.some 5), .none, (.mov (.c (.d (.bool .false))))⟩]
abbrev c_exact_Mul_r1 : List AO := [⟨(.some 8), .none, (.mov (.t 0))⟩,
  ⟨(.some 9), .none, (.bin .eql (.t 8) (.c (.d (.int .i64 0))))⟩,
  ⟨(.some 10), .none, (.mov (.t 9))⟩,
  ⟨(.some 11), (.some ⟨10, .false⟩), (.mov (.t 1))⟩,
  ⟨(.some 12), (.some ⟨10, .false⟩), (.bin .eql (.t 11) (.c (.d (.int .i64 0))))⟩,
  ⟨(.some 13), .none, (.pick (.t 10) (.c (.d (.bool .true))) (.t 12))⟩,
  ⟨(.some 7), .none, (.mov (.t 13))⟩]
abbrev c_exact_Mul_r2 : List AO := [⟨(.some 4), .none, (.mov (.c (.d (.int .i64 0))))⟩,
  ⟨(.some 5), .none, (.mov (.c (.d (.bool .true))))⟩]
abbrev c_exact_Mul_r3 : List AO := [⟨(.some 15), .none, (.mov (.t 0))⟩,
  ⟨(.some 16), .none, (.bin .eql (.t 15) (.c (.d (.int .i64 (-1)))))⟩,
  ⟨(.some 14), .none, (.mov (.t 16))⟩]
abbrev c_exact_Mul_r4 : List AO := [⟨(.some 17), .none, (.mov (.t 1))⟩,
  ⟨(.some 18), .none, (.call 11 [(.c (.d (.int .i64 0))), (.t 17)])⟩,
  ⟨(.some 19), .none, (.extract (.t 18) 0)⟩,
  ⟨(.some 20), .none, (.extract (.t 18) 1)⟩,
  ⟨(.some 4), .none, (.mov (.t 19))⟩,
  ⟨(.some 5), .none, (.mov (.t 20))⟩]
abbrev c_exact_Mul_r5 : List AO := [⟨(.some 22), .none, (.mov (.t 1))⟩,
  ⟨(.some 23), .none, (.bin .eql (.t 22) (.c (.d (.int .i64 (-1)))))⟩,
  ⟨(.some 21), .none, (.mov (.t 23))⟩]
abbrev c_exact_Mul_r6 : List AO := [⟨(.some 24), .none, (.mov (.t 0))⟩,
  ⟨(.some 25), .none, (.call 11 [(.c (.d (.int .i64 0))), (.t 24)])⟩,
  ⟨(.some 26), .none, (.extract (.t 25) 0)⟩,
  ⟨(.some 27), .none, (.extract (.t 25) 1)⟩,
  ⟨(.some 4), .none, (.mov (.t 26))⟩,
  ⟨(.some 5), .none, (.mov (.t 27))⟩]
abbrev c_exact_Mul_r7 : List AO := [⟨(.some 28), .none, (.mov (.t 0))⟩,
  ⟨(.some 29), .none, (.mov (.t 1))⟩,
  ⟨(.some 30), .none, (.bin .mul (.t 28) (.t 29))⟩,
  ⟨(.some 6), .none, (.mov (.t 30))⟩]
abbrev c_exact_Mul_r8 : List AO := [⟨(.some 31), .none, (.mov (.t 6))⟩,
  ⟨(.some 32), .none, (.mov (.t 1))⟩,
  ⟨(.some 33), .none, (.bin .quo (.t 31) (.t 32))⟩,
  ⟨(.some 34), .none, (.mov (.t 0))⟩,
  ⟨(.some 35), .none, (.bin .eql (.t 33) (.t 34))⟩]
abbrev c_exact_Mul_r9 : List AO := [⟨(.some 36), .none, (.mov (.t 6))⟩,
  ⟨(.some 4), .none, (.mov (.t 36))⟩,
  ⟨(.some 5), .none, (.mov (.c (.d (.bool .true))))⟩]
abbrev c_exact_Mul_r10 : List AO := [⟨(.some 4), .none, (.mov (.c (.d (.int .i64 0))))⟩,
  ⟨(.some 5), .none, (.mov (.c (.d (.bool .false))))⟩]
abbrev c_exact_Mul : AFunc := ⟨37, [(.tmp 4), (.tmp 5)], (.seq (.ops c_exact_Mul_r0) (.seq (.block 0 (.seq (.ops c_exact_Mul_r1) (.cond (.t 7) (.seq (.ops c_exact_Mul_r2) .ret) (.seq (.ops c_exact_Mul_r3) (.cond (.t 14) (.seq (.ops c_exact_Mul_r4) .ret) (.seq (.ops c_exact_Mul_r5) (.cond (.t 21) (.seq (.ops c_exact_Mul_r6) .ret) .skip))))))) (.seq (.seq (.ops c_exact_Mul_r7) (.seq (.ops c_exact_Mul_r8) (.cond (.t 35) (.seq (.ops c_exact_Mul_r9) .ret) .skip))) (.seq (.ops c_exact_Mul_r10) .ret))))⟩
theorem comp_exact_Mul : funcC Try.prog 12 = some c_exact_Mul := by kernel_rfl
/-! function 13 : poundage poundageref01.Int -/
abbrev f_poundageref01_Int : FuncId := 13
abbrev c_poundageref01_Int_r0 : List AO := [⟨(.some 1), .none, (.box 28 (.t 0))⟩,
  ⟨(.some 2), .none, (.mov (.c (.d (.int .i64 0))))⟩,
  ⟨(.some 3), .none, (.mov (.c (.d (.bool .false))))⟩]
abbrev c_poundageref01_Int_r1 : List AO := [⟨(.some 4), .none, (.fieldAddr 1 (.t 1))⟩,
  ⟨(.some 5), .none, (.load .none (.t 4))⟩,
  ⟨(.some 6), .none, (.bin .neq (.t 5) (.c (.d (.int .u64 0))))⟩]
abbrev c_poundageref01_Int_r2 : List AO := [⟨(.some 2), .none, (.mov (.c (.d (.int .i64 0))))⟩,
  ⟨(.some 3), .none, (.mov (.c (.d (.bool .false))))⟩]
abbrev c_poundageref01_Int_r3 : List AO := [⟨(.some 7), .none, (.fieldAddr 0 (.t 1))⟩,
  ⟨(.some 8), .none, (.load .none (.t 7))⟩]
abbrev c_poundageref01_Int_r4 : List AO := [⟨(.some 9), .none, (.fieldAddr 2 (.t 1))⟩,
  ⟨(.some 10), .none, (.load .none (.t 9))⟩,
  ⟨(.some 11), .none, (.bin .gtr (.t 10) (.c (.d (.int .u64 9223372036854775808))))⟩]
abbrev c_poundageref01_Int_r5 : List AO := [⟨(.some 2), .none, (.mov (.c (.d (.int .i64 0))))⟩,
  ⟨(.some 3), .none, (.mov (.c (.d (.bool .false))))⟩]
abbrev c_poundageref01_Int_r6 : List AO := [⟨(.some 12), .none, (.fieldAddr 2 (.t 1))⟩,
  ⟨(.some 13), .none, (.load .none (.t 12))⟩,
  ⟨(.some 14), .none, (.bin .eql (.t 13) (.c (.d (.int .u64 0))))⟩]
abbrev c_poundageref01_Int_r7 : List AO := [⟨(.some 2), .none, (.mov (.c (.d (.int .i64 0))))⟩,
  ⟨(.some 3), .none, (.mov (.c (.d (.bool .true))))⟩]
abbrev c_poundageref01_Int_r8 : List AO := [⟨(.some 15), .none, (.fieldAddr 2 (.t 1))⟩,
  ⟨(.some 16), .none, (.load .none (.t 15))⟩,
  ⟨(.some 17), .none, (.bin .sub (.t 16) (.c (.d (.int .u64 1))))⟩,
  ⟨(.some 18), .none, (.conv .i64 (.t 17))⟩,
  ⟨(.some 19), .none, (.un .neg (.t 18))⟩,
  ⟨(.some 20), .none, (.bin .sub (.t 19) (.c (.d (.int .i64 1))))⟩,
  ⟨(.some 2), .none, (.mov (.t 20))⟩,
  ⟨(.some 3), .none, (.mov (.c (.d (.bool .true))))⟩]
abbrev c_poundageref01_Int_r9 : List AO := [⟨(.some 21), .none, (.fieldAddr 2 (.t 1))⟩,
  ⟨(.some 22), .none, (.load .none (.t 21))⟩,
  ⟨(.some 23), .none, (.bin .geq (.t 22) (.c (.d (.int .u64 9223372036854775808))))⟩]
abbrev c_poundageref01_Int_r10 : List AO := [⟨(.some 2), .none, (.mov (.c (.d (.int .i64 0))))⟩,
  ⟨(.some 3), .none, (.mov (.c (.d (.bool .false))))⟩]
abbrev c_poundageref01_Int_r11 : List AO := [⟨(.some 24), .none, (.fieldAddr 2 (.t 1))⟩,
  ⟨(.some 25), .none, (.load .none (.t 24))⟩,
  ⟨(.some 26), .none, (.conv .i64 (.t 25))⟩,
  ⟨(.some 2), .none, (.mov (.t 26))⟩,
  ⟨(.some 3), .none, (.mov (.c (.d (.bool .true))))⟩]
abbrev c_poundageref01_Int : AFunc := ⟨27, [(.tmp 2), (.tmp 3)], (.seq (.ops c_poundageref01_Int_r0) (.seq (.seq (.ops c_poundageref01_Int_r1) (.cond (.t 6) (.seq (.ops c_poundageref01_Int_r2) .ret) .skip)) (.seq (.seq (.ops c_poundageref01_Int_r3) (.cond (.t 8) (.seq (.seq (.ops c_poundageref01_Int_r4) (.cond (.t 11) (.seq (.ops c_poundageref01_Int_r5) .ret) .skip)) (.seq (.seq (.ops c_poundageref01_Int_r6) (.cond (.t 14) (.seq (.ops c_poundageref01_Int_r7) .ret) .skip)) (.seq (.ops c_poundageref01_Int_r8) .ret))) .skip)) (.seq (.seq (.ops c_poundageref01_Int_r9) (.cond (.t 23) (.seq (.ops c_poundageref01_Int_r10) .ret) .skip)) (.seq (.ops c_poundageref01_Int_r11) .ret)))))⟩
theorem comp_poundageref01_Int : funcC Try.prog 13 = some c_poundageref01_Int := by kernel_rfl
/-! function 14 : poundage poundageref01.Add -/
abbrev f_poundageref01_Add : FuncId := 14
abbrev c_poundageref01_Add_r0 : List AO := [⟨(.some 2), .none, (.box 28 (.t 0))⟩,
  ⟨(.some 3), .none, (.box 28 (.t 1))⟩,
  ⟨(.some 4), .none, (.alloc 28 [(.d (.bool .false)), (.d (.int .u64 0)), (.d (.int .u64 0))])⟩]
abbrev c_poundageref01_Add_r1 : List AO := [⟨(.some 8), .none, (.fieldAddr 0 (.t 2))⟩,
  ⟨(.some 9), .none, (.load .none (.t 8))⟩,
  ⟨(.some 10), .none, (.fieldAddr 0 (.t 3))⟩,
  ⟨(.some 11), .none, (.load .none (.t 10))⟩,
  ⟨(.some 12), .none, (.binb .false (.t 9) (.t 11))⟩]
abbrev c_poundageref01_Add_r2 : List AO := [⟨(.some 13), .none, (.load (.some 3) (.t 2))⟩,
  ⟨(.some 14), .none, (.load (.some 3) (.t 3))⟩,
  ⟨(.some 15), .none, (.call 23 [(.t 13), (.t 14)])⟩,
  ⟨(.some 5), .none, (.alloc 28 [(.d (.bool .false)), (.d (.int .u64 0)), (.d (.int .u64 0))])⟩,
  ⟨.none, .none, (.store 3 (.t 5) (.t 15))⟩]
abbrev c_poundageref01_Add_r3 : List AO := [⟨(.some 16), .none, (.fieldAddr 0 (.t 2))⟩,
  ⟨(.some 17), .none, (.load .none (.t 16))⟩,
  ⟨(.some 18), .none, (.mov (.t 17))⟩,
  ⟨(.some 19), (.some ⟨18, .true⟩), (.load (.some 3) (.t 5))⟩,
  ⟨(.some 20), (.some ⟨18, .true⟩), (.call 24 [(.t 19)])⟩,
  ⟨(.some 21), (.some ⟨18, .true⟩), (.un .not (.t 20))⟩,
  ⟨(.some 22), .none, (.pick (.t 18) (.t 21) (.c (.d (.bool .false))))⟩,
  ⟨(.some 23), .none, (.fieldAddr 0 (.t 5))⟩,
  ⟨.none, .none, (.store 1 (.t 23) (.t 22))⟩]
abbrev c_poundageref01_Add_r4 : List AO := [⟨(.some 24), .none, (.load (.some 3) (.t 5))⟩,
  ⟨.none, .none, (.store 3 (.t 4) (.t 24))⟩]
abbrev c_poundageref01_Add_r5 : List AO := [⟨(.some 25), .none, (.load (.some 3) (.t 2))⟩,
  ⟨(.some 26), .none, (.load (.some 3) (.t 3))⟩,
  ⟨(.some 27), .none, (.call 25 [(.t 25), (.t 26)])⟩]
abbrev c_poundageref01_Add_r6 : List AO := [⟨(.some 28), .none, (.load (.some 3) (.t 3))⟩,
  ⟨(.some 29), .none, (.load (.some 3) (.t 2))⟩,
  ⟨(.some 30), .none, (.call 26 [(.t 28), (.t 29)])⟩,
  ⟨(.some 6), .none, (.alloc 28 [(.d (.bool .false)), (.d (.int .u64 0)), (.d (.int .u64 0))])⟩,
  ⟨.none, .none, (.store 3 (.t 6) (.t 30))⟩]
abbrev c_poundageref01_Add_r7 : List AO := [⟨(.some 31), .none, (.fieldAddr 0 (.t 3))⟩,
  ⟨(.some 32), .none, (.load .none (.t 31))⟩,
  ⟨(.some 33), .none, (.mov (.t 32))⟩,
  ⟨(.some 34), (.some ⟨33, .true⟩), (.load (.some 3) (.t 6))⟩,
  ⟨(.some 35), (.some ⟨33, .true⟩), (.call 24 [(.t 34)])⟩,
  ⟨(.some 36), (.some ⟨33, .true⟩), (.un .not (.t 35))⟩,
  ⟨(.some 37), .none, (.pick (.t 33) (.t 36) (.c (.d (.bool .false))))⟩,
  ⟨(.some 38), .none, (.fieldAddr 0 (.t 6))⟩,
  ⟨.none, .none, (.store 1 (.t 38) (.t 37))⟩]
abbrev c_poundageref01_Add_r8 : List AO := [⟨(.some 39), .none, (.load (.some 3) (.t 6))⟩,
  ⟨.none, .none, (.store 3 (.t 4) (.t 39))⟩]
abbrev c_poundageref01_Add_r9 : List AO := [⟨(.some 40), .none, (.load (.some 3) (.t 2))⟩,
  ⟨(.some 41), .none, (.load (.some 3) (.t 3))⟩,
  ⟨(.some 42), .none, (.call 26 [(.t 40), (.t 41)])⟩,
  ⟨(.some 7), .none, (.alloc 28 [(.d (.bool .false)), (.d (.int .u64 0)), (.d (.int .u64 0))])⟩,
  ⟨.none, .none, (.store 3 (.t 7) (.t 42))⟩]
abbrev c_poundageref01_Add_r10 : List AO := [⟨(.some 43), .none, (.fieldAddr 0 (.t 2))⟩,
  ⟨(.some 44), .none, (.load .none (.t 43))⟩,
  ⟨(.some 45), .none, (.mov (.t 44))⟩,
  ⟨(.some 46), (.some ⟨45, .true⟩), (.load (.some 3) (.t 7))⟩,
  ⟨(.some 47), (.some ⟨45, .true⟩), (.call 24 [(.t 46)])⟩,
  ⟨(.some 48), (.some ⟨45, .true⟩), (.un .not (.t 47))⟩,
  ⟨(.some 49), .none, (.pick (.t 45) (.t 48) (.c (.d (.bool .false))))⟩,
  ⟨(.some 50), .none, (.fieldAddr 0 (.t 7))⟩,
  ⟨.none, .none, (.store 1 (.t 50) (.t 49))⟩]
abbrev c_poundageref01_Add_r11 : List AO := [⟨(.some 51), .none, (.load (.some 3) (.t 7))⟩,
  ⟨.none, .none, (.store 3 (.t 4) (.t 51))⟩]
abbrev c_poundageref01_Add : AFunc := ⟨52, [(.cell 4 (.some 3))], (.seq (.ops c_poundageref01_Add_r0) (.seq (.seq (.ops c_poundageref01_Add_r1) (.cond (.t 12) (.seq (.ops c_poundageref01_Add_r2) (.seq (.ops c_poundageref01_Add_r3) (.seq (.ops c_poundageref01_Add_r4) .ret))) .skip)) (.seq (.seq (.ops c_poundageref01_Add_r5) (.cond (.t 27) (.seq (.ops c_poundageref01_Add_r6) (.seq (.ops c_poundageref01_Add_r7) (.seq (.ops c_poundageref01_Add_r8) .ret))) .skip)) (.seq (.ops c_poundageref01_Add_r9) (.seq (.ops c_poundageref01_Add_r10) (.seq (.ops c_poundageref01_Add_r11) .ret))))))⟩
theorem comp_poundageref01_Add : funcC Try.prog 14 = some c_poundageref01_Add := by kernel_rfl
/-! function 15 : poundage poundageref01.Of -/
abbrev f_poundageref01_Of : FuncId := 15
abbrev c_poundageref01_Of_r0 : List AO := [⟨(.some 2), .none, (.alloc 28 [(.d (.bool .false)), (.d (.int .u64 0)), (.d (.int .u64 0))])⟩]
abbrev c_poundageref01_Of_r1 : List AO := [⟨(.some 3), .none, (.mov (.t 0))⟩,
  ⟨(.some 4), .none, (.bin .lss (.t 3) (.c (.d (.int .i64 0))))⟩]
abbrev c_poundageref01_Of_r2 : List AO := [⟨(.some 5), .none, (.mov (.t 0))⟩,
  ⟨(.some 6), .none, (.bin .add (.t 5) (.c (.d (.int .i64 1))))⟩,
  ⟨(.some 7), .none, (.un .neg (.t 6))⟩,
  ⟨(.some 8), .none, (.conv .u64 (.t 7))⟩,
  ⟨(.some 9), .none, (.bin .add (.t 8) (.c (.d (.int .u64 1))))⟩,
  ⟨(.some 10), .none, (.build [(.d (.bool .false)), (.d (.int .u64 0)), (.d (.int .u64 0))] [⟨0, ⟨1, (.c (.d (.bool .true)))⟩⟩, ⟨1, ⟨1, (.c (.d (.int .u64 0)))⟩⟩, ⟨2, ⟨1, (.t 9)⟩⟩])⟩,
  ⟨.none, .none, (.store 3 (.t 2) (.t 10))⟩]
abbrev c_poundageref01_Of_r3 : List AO := [⟨(.some 11), .none, (.mov (.t 0))⟩,
  ⟨(.some 12), .none, (.conv .u64 (.t 11))⟩,
  ⟨(.some 13), .none, (.build [(.d (.bool .false)), (.d (.int .u64 0)), (.d (.int .u64 0))] [⟨0, ⟨1, (.c (.d (.bool .false)))⟩⟩, ⟨1, ⟨1, (.c (.d (.int .u64 0)))⟩⟩, ⟨2, ⟨1, (.t 12)⟩⟩])⟩,
  ⟨.none, .none, (.store 3 (.t 2) (.t 13))⟩]
abbrev c_poundageref01_Of : AFunc := ⟨14, [(.cell 2 (.some 3))], (.seq (.ops c_poundageref01_Of_r0) (.seq (.seq (.ops c_poundageref01_Of_r1) (.cond (.t 4) (.seq (.ops c_poundageref01_Of_r2) .ret) .skip)) (.seq (.ops c_poundageref01_Of_r3) .ret)))⟩
theorem comp_poundageref01_Of : funcC Try.prog 15 = some c_poundageref01_Of := by kernel_rfl
/-! function 16 : poundage poundageref01.Opposite -/
abbrev f_poundageref01_Opposite : FuncId := 16
abbrev c_poundageref01_Opposite_r0 : List AO := [⟨(.some 1), .none, (.box 28 (.t 0))⟩,
  ⟨(.some 2), .none, (.alloc 28 [(.d (.bool .false)), (.d (.int .u64 0)), (.d (.int .u64 0))])⟩]
abbrev c_poundageref01_Opposite_r1 : List AO := [⟨(.some 3), .none, (.load (.some 3) (.t 1))⟩,
  ⟨(.some 4), .none, (.call 24 [(.t 3)])⟩]
abbrev c_poundageref01_Opposite_r2 : List AO := [⟨(.some 5), .none, (.load (.some 3) (.t 1))⟩,
  ⟨.none, .none, (.store 3 (.t 2) (.t 5))⟩]
abbrev c_poundageref01_Opposite_r3 : List AO := [⟨(.some 6), .none, (.fieldAddr 0 (.t 1))⟩,
  ⟨(.some 7), .none, (.load .none (.t 6))⟩,
  ⟨(.some 8), .none, (.un .not (.t 7))⟩,
  ⟨(.some 9), .none, (.fieldAddr 1 (.t 1))⟩,
  ⟨(.some 10), .none, (.load .none (.t 9))⟩,
  ⟨(.some 11), .none, (.fieldAddr 2 (.t 1))⟩,
  ⟨(.some 12), .none, (.load .none (.t 11))⟩,
  ⟨(.some 13), .none, (.build [(.d (.bool .false)), (.d (.int .u64 0)), (.d (.int .u64 0))] [⟨0, ⟨1, (.t 8)⟩⟩, ⟨1, ⟨1, (.t 10)⟩⟩, ⟨2, ⟨1, (.t 12)⟩⟩])⟩,
  ⟨.none, .none, (.store 3 (.t 2) (.t 13))⟩]
abbrev c_poundageref01_Opposite : AFunc := ⟨14, [(.cell 2 (.some 3))], (.seq (.ops c_poundageref01_Opposite_r0) (.seq (.seq (.ops c_poundageref01_Opposite_r1) (.cond (.t 4) (.seq (.ops c_poundageref01_Opposite_r2) .ret) .skip)) (.seq (.ops c_poundageref01_Opposite_r3) .ret)))⟩
theorem comp_poundageref01_Opposite : funcC Try.prog 16 = some c_poundageref01_Opposite := by kernel_rfl
/-! function 17 : poundage poundageref01.Mul -/
abbrev f_poundageref01_Mul : FuncId := 17
abbrev c_poundageref01_Mul_r0 : List AO := [⟨(.some 4), .none, (.alloc 28 [(.d (.bool .false)), (.d (.int .u64 0)), (.d (.int .u64 0))])⟩]
abbrev c_poundageref01_Mul_r1 : List AO := [⟨(.some 14), .none, (.mov (.t 0))⟩,
  ⟨(.some 15), .none, (.call 15 [(.t 14)])⟩,
  ⟨(.some 16), .none, (.mov (.t 1))⟩,
  ⟨(.some 17), .none, (.call 15 [(.t 16)])⟩,
  ⟨(.some 5), .none, (.alloc 28 [(.d (.bool .false)), (.d (.int .u64 0)), (.d (.int .u64 0))])⟩,
  ⟨(.some 6), .none, (.alloc 28 [(.d (.bool .false)), (.d (.int .u64 0)), (.d (.int .u64 0))])⟩,
  ⟨.none, .none, (.store 3 (.t 5) (.t 15))⟩,
  ⟨.none, .none, (.store 3 (.t 6) (.t 17))⟩]
abbrev c_poundageref01_Mul_r2 : List AO := [⟨(.some 18), .none, (.fieldAddr 2 (.t 5))⟩,
  ⟨(.some 21), .none, (.fieldAddr 2 (.t 5))⟩,
  ⟨(.some 19), .none, (.load .none (.t 18))⟩,
  ⟨(.some 20), .none, (.bin .rem (.t 19) (.c (.d (.int .u64 4294967296))))⟩,
  ⟨(.some 7), .none, (.mov (.t 20))⟩,
  ⟨(.some 22), .none, (.load .none (.t 21))⟩,
  ⟨(.some 23), .none, (.bin .shr (.t 22) (.c (.d (.int .u64 32))))⟩,
  ⟨(.some 8), .none, (.mov (.t 23))⟩]
abbrev c_poundageref01_Mul_r3 : List AO := [⟨(.some 24), .none, (.fieldAddr 2 (.t 6))⟩,
  ⟨(.some 27), .none, (.fieldAddr 2 (.t 6))⟩,
  ⟨(.some 25), .none, (.load .none (.t 24))⟩,
  ⟨(.some 26), .none, (.bin .rem (.t 25) (.c (.d (.int .u64 4294967296))))⟩,
  ⟨(.some 9), .none, (.mov (.t 26))⟩,
  ⟨(.some 28), .none, (.load .none (.t 27))⟩,
  ⟨(.some 29), .none, (.bin .shr (.t 28) (.c (.d (.int .u64 32))))⟩,
  ⟨(.some 10), .none, (.mov (.t 29))⟩]
abbrev c_poundageref01_Mul_r4 : List AO := [⟨(.some 30), .none, (.mov (.t 8))⟩,
  ⟨(.some 31), .none, (.mov (.t 10))⟩,
  ⟨(.some 32), .none, (.bin .mul (.t 30) (.t 31))⟩,
  ⟨(.some 33), .none, (.mov (.t 7))⟩,
  ⟨(.some 34), .none, (.mov (.t 9))⟩,
  ⟨(.some 35), .none, (.bin .mul (.t 33) (.t 34))⟩,
  ⟨(.some 36), .none, (.build [(.d (.bool .false)), (.d (.int .u64 0)), (.d (.int .u64 0))] [⟨0, ⟨1, (.c (.d (.bool .false)))⟩⟩, ⟨1, ⟨1, (.t 32)⟩⟩, ⟨2, ⟨1, (.t 35)⟩⟩])⟩,
  ⟨(.some 11), .none, (.alloc 28 [(.d (.bool .false)), (.d (.int .u64 0)), (.d (.int .u64 0))])⟩,
  ⟨.none, .none, (.store 3 (.t 11) (.t 36))⟩]
abbrev c_poundageref01_Mul_r5 : List AO := [⟨(.some 37), .none, (.mov (.t 7))⟩,
  ⟨(.some 38), .none, (.mov (.t 10))⟩,
  ⟨(.some 39), .none, (.bin .mul (.t 37) (.t 38))⟩,
  ⟨(.some 40), .none, (.mov (.t 8))⟩,
  ⟨(.some 41), .none, (.mov (.t 9))⟩,
  ⟨(.some 42), .none, (.bin .mul (.t 40) (.t 41))⟩,
  ⟨(.some 43), .none, (.buildSlice 26 1 2 [(.d (.int .u64 0))] [⟨0, (.t 39)⟩, ⟨1, (.t 42)⟩])⟩,
  ⟨(.some 44), .none, (.len (.t 43))⟩,
  ⟨(.some 45), .none, (.mov (.c (.d (.int .i64 0))))⟩]
abbrev c_poundageref01_Mul_r6 : List AO := [⟨(.some 46), .none, (.bin .lss (.t 45) (.t 44))⟩]
abbrev c_poundageref01_Mul_r7 : List AO := [⟨(.some 47), .none, (.elemAddr 1 (.t 43) (.t 45))⟩,
  ⟨(.some 48), .none, (.load .none (.t 47))⟩,
  ⟨(.some 13), .none, (.mov (.t 48))⟩]
abbrev c_poundageref01_Mul_r8 : List AO := [⟨(.some 49), .none, (.load (.some 3) (.t 11))⟩,
  ⟨(.some 50), .none, (.mov (.t 13))⟩,
  ⟨(.some 51), .none, (.bin .shr (.t 50) (.c (.d (.int .u64 32))))⟩,
  ⟨(.some 52), .none, (.mov (.t 13))⟩,
  ⟨(.some 53), .none, (.bin .shl (.t 52) (.c (.d (.int .u64 32))))⟩,
  ⟨(.some 54), .none, (.build [(.d (.bool .false)), (.d (.int .u64 0)), (.d (.int .u64 0))] [⟨0, ⟨1, (.c (.d (.bool .false)))⟩⟩, ⟨1, ⟨1, (.t 51)⟩⟩, ⟨2, ⟨1, (.t 53)⟩⟩])⟩,
  ⟨(.some 55), .none, (.call 23 [(.t 49), (.t 54)])⟩,
  ⟨.none, .none, (.store 3 (.t 11) (.t 55))⟩]
abbrev c_poundageref01_Mul_r9 : List AO := [⟨(.some 56), .none, (.bin .add (.t 45) (.c (.d (.int .i64 1))))⟩,
  ⟨(.some 45), .none, (.mov (.t 56))⟩]
abbrev c_poundageref01_Mul_l0 : ACode := (.seq (.ops c_poundageref01_Mul_r6) (.seq (.cond (.t 46) .skip (.exit 0)) (.seq (.block 1 (.seq (.ops c_poundageref01_Mul_r7) (.ops c_poundageref01_Mul_r8))) (.ops c_poundageref01_Mul_r9))))
abbrev c_poundageref01_Mul_r10 : List AO := [⟨(.some 57), .none, (.fieldAddr 0 (.t 5))⟩,
  ⟨(.some 58), .none, (.load .none (.t 57))⟩,
  ⟨(.some 59), .none, (.fieldAddr 0 (.t 6))⟩,
  ⟨(.some 60), .none, (.load .none (.t 59))⟩,
  ⟨(.some 61), .none, (.binb .true (.t 58) (.t 60))⟩,
  ⟨(.some 62), .none, (.mov (.t 61))⟩,
  ⟨(.some 63), (.some ⟨62, .true⟩), (.load (.some 3) (.t 11))⟩,
  ⟨(.some 64), (.some ⟨62, .true⟩), (.call 24 [(.t 63)])⟩,
  ⟨(.some 65), (.some ⟨62, .true⟩), (.un .not (.t 64))⟩,
  ⟨(.some 66), .none, (.pick (.t 62) (.t 65) (.c (.d (.bool .false))))⟩,
  ⟨(.some 67), .none, (.fieldAddr 0 (.t 11))⟩,
  ⟨.none, .none, (.store 1 (.t 67) (.t 66))⟩]
abbrev c_poundageref01_Mul_r11 : List AO := [⟨(.some 68), .none, (.load (.some 3) (.t 11))⟩,
  ⟨.none, .none, (.store 3 (.t 4) (.t 68))⟩]
abbrev c_poundageref01_Mul : AFunc := ⟨69, [(.cell 4 (.some 3))], (.seq (.ops c_poundageref01_Mul_r0) (.seq (.ops c_poundageref01_Mul_r1) (.seq (.dops c_poundageref01_Mul_r2) (.seq (.dops c_poundageref01_Mul_r3) (.seq (.ops c_poundageref01_Mul_r4) (.seq (.seq (.ops c_poundageref01_Mul_r5) (.block 0 (.loop c_poundageref01_Mul_l0))) (.seq (.ops c_poundageref01_Mul_r10) (.seq (.ops c_poundageref01_Mul_r11) .ret))))))))⟩
theorem comp_poundageref01_Mul : funcC Try.prog 17 = some c_poundageref01_Mul := by kernel_rfl
/-! function 18 : poundage exact.FloorDiv -/
abbrev f_exact_FloorDiv : FuncId := 18
abbrev c_exact_FloorDiv_r0 : List AO := [⟨(.some 4), .none, (.mov (.c (.d (.int .i64 0))))⟩,
  ⟨(.some 5), .none, (.mov (.c (.d (.int .i64 0))))⟩,
  ⟨(.some 6), .none, (.mov (.c (.d (.bool .false))))⟩]
abbrev c_exact_FloorDiv_r1 : List AO := [⟨(.some 9), .none, (.mov (.t 1))⟩,
  ⟨(.some 10), .none, (.bin .eql (.t 9) (.c (.d (.int .i64 0))))⟩,
  ⟨(.some 11), .none, (.mov (.t 10))⟩,
  ⟨(.some 12), (.some ⟨11, .false⟩), (.mov (.t 0))⟩,
  ⟨(.some 13), (.some ⟨11, .false⟩), (.bin .eql (.t 12) (.c (.d (.int .i64 (-9223372036854775808)))))⟩,
  ⟨(.some 14), (.some ⟨11, .false⟩), (.mov (.t 13))⟩,
  ⟨(.some 15), (.some ⟨14, .true⟩), (.mov (.t 1))⟩,
  ⟨(.some 16), (.some ⟨14, .true⟩), (.bin .eql (.t 15) (.c (.d (.int .i64 (-1)))))⟩,
  ⟨(.some 17), (.some ⟨11, .false⟩), (.pick (.t 14) (.t 16) (.c (.d (.bool .false))))⟩,
  ⟨(.some 18), .none, (.pick (.t 11) (.c (.d (.bool .true))) (.t 17))⟩]
abbrev c_exact_FloorDiv_r2 : List AO := [⟨(.some 4), .none, (.mov (.c (.d (.int .i64 0))))⟩,
  ⟨(.some 5), .none, (.mov (.c (.d (.int .i64 0))))⟩,
  ⟨(.some 6), .none, (.mov (.c (.d (.bool .false))))⟩]
abbrev c_exact_FloorDiv_r3 : List AO := [⟨(.some 19), .none, (.mov (.t 0))⟩,
  ⟨(.some 20), .none, (.mov (.t 1))⟩,
  ⟨(.some 21), .none, (.bin .quo (.t 19) (.t 20))⟩,
  ⟨(.some 22), .none, (.mov (.t 0))⟩,
  ⟨(.some 23), .none, (.mov (.t 1))⟩,
  ⟨(.some 24), .none, (.bin .rem (.t 22) (.t 23))⟩,
  ⟨(.some 7), .none, (.mov (.t 21))⟩,
  ⟨(.some 8), .none, (.mov (.t 24))⟩]
abbrev c_exact_FloorDiv_r4 : List AO := [⟨(.some 25), .none, (.mov (.t 8))⟩,
  ⟨(.some 26), .none, (.bin .neq (.t 25) (.c (.d (.int .i64 0))))⟩,
  ⟨(.some 27), .none, (.mov (.t 26))⟩,
  ⟨(.some 28), (.some ⟨27, .true⟩), (.mov (.t 8))⟩,
  ⟨(.some 29), (.some ⟨27, .true⟩), (.bin .lss (.t 28) (.c (.d (.int .i64 0))))⟩,
  ⟨(.some 30), (.some ⟨27, .true⟩), (.mov (.t 1))⟩,
  ⟨(.some 31), (.some ⟨27, .true⟩), (.bin .lss (.t 30) (.c (.d (.int .i64 0))))⟩,
  ⟨(.some 32), (.some ⟨27, .true⟩), (.binb .true (.t 29) (.t 31))⟩,
  ⟨(.some 33), .none, (.pick (.t 27) (.t 32) (.c (.d (.bool .false))))⟩]
abbrev c_exact_FloorDiv_r5 : List AO := [⟨(.some 34), .none, (.mov (.t 7))⟩,
  ⟨(.some 35), .none, (.bin .sub (.t 34) (.c (.d (.int .i64 1))))⟩,
  ⟨(.some 36), .none, (.mov (.t 8))⟩,
  ⟨(.some 37), .none, (.mov (.t 1))⟩,
  ⟨(.some 38), .none, (.bin .add (.t 36) (.t 37))⟩,
  ⟨(.some 7), .none, (.mov (.t 35))⟩,
  ⟨(.some 8), .none, (.mov (.t 38))⟩]
abbrev c_exact_FloorDiv_r6 : List AO := [⟨(.some 39), .none, (.mov (.t 7))⟩,
  ⟨(.some 40), .none, (.mov (.t 8))⟩,
  ⟨(.some 4), .none, (.mov (.t 39))⟩,
  ⟨(.some 5), .none, (.mov (.t 40))⟩,
  ⟨(.some 6), .none, (.mov (.c (.d (.bool .true))))⟩]
abbrev c_exact_FloorDiv : AFunc := ⟨41, [(.tmp 4), (.tmp 5), (.tmp 6)], (.seq (.ops c_exact_FloorDiv_r0) (.seq (.seq (.ops c_exact_FloorDiv_r1) (.cond (.t 18) (.seq (.ops c_exact_FloorDiv_r2) .ret) .skip)) (.seq (.dops c_exact_FloorDiv_r3) (.seq (.seq (.ops c_exact_FloorDiv_r4) (.cond (.t 33) (.ops c_exact_FloorDiv_r5) .skip)) (.seq (.ops c_exact_FloorDiv_r6) .ret)))))⟩
theorem comp_exact_FloorDiv : funcC Try.prog 18 = some c_exact_FloorDiv := by kernel_rfl
/-! function 19 : poundage exact.Sum -/
abbrev f_exact_Sum : FuncId := 19
abbrev c_exact_Sum_r0 : List AO := [⟨(.some 2), .none, (.mov (.c (.d (.int .i64 0))))⟩,
  ⟨(.some 3), .none, (.mov (.c (.d (.bool .false))))⟩]
abbrev c_exact_Sum_r1 : List AO := [⟨(.some 4), .none, (.mov (.c (.d (.int .i64 0))))⟩,
  ⟨(.some 5), .none, (.mov (.c (.d (.bool .true))))⟩]
abbrev c_exact_Sum_r2 : List AO := [⟨(.some 8), .none, (.mov (.t 0))⟩,
  ⟨(.some 9), .none, (.len (.t 8))⟩,
  ⟨(.some 10), .none, (.mov (.c (.d (.int .i64 0))))⟩]
abbrev c_exact_Sum_r3 : List AO := [⟨(.some 11), .none, (.bin .lss (.t 10) (.t 9))⟩]
abbrev c_exact_Sum_r4 : List AO := [⟨(.some 12), .none, (.elemAddr 1 (.t 8) (.t 10))⟩,
  ⟨(.some 13), .none, (.load .none (.t 12))⟩,
  ⟨(.some 7), .none, (.mov (.t 13))⟩]
abbrev c_exact_Sum_r5 : List AO := [⟨(.some 15), .none, (.mov (.t 4))⟩,
  ⟨(.some 16), .none, (.mov (.t 7))⟩,
  ⟨(.some 17), .none, (.call 10 [(.t 15), (.t 16)])⟩,
  ⟨(.some 14), .none, (.mov (.t 17))⟩,
  ⟨(.some 18), .none, (.extract (.t 14) 0)⟩,
  ⟨(.some 19), .none, (.extract (.t 14) 1)⟩,
  ⟨(.some 4), .none, (.mov (.t 18))⟩,
  ⟨(.some 5), .none, (.mov (.t 19))⟩]
abbrev c_exact_Sum_r6 : List AO := [⟨(.some 20), .none, (.mov (.t 5))⟩,
  ⟨(.some 21), .none, (.un .not (.t 20))⟩]
abbrev c_exact_Sum_r7 : List AO := [⟨(.some 2), .none, (.mov (.c (.d (.int .i64 0))))⟩,
  ⟨(.some 3), .none, (.mov (.c (.d (.bool .false))))⟩]
abbrev c_exact_Sum_r8 : List AO := [⟨(.some 22), .none, (.bin .add (.t 10) (.c (.d (.int .i64 1))))⟩,
  ⟨(.some 10), .none, (.mov (.t 22))⟩]
abbrev c_exact_Sum_l0 : ACode := (.seq (.ops c_exact_Sum_r3) (.seq (.cond (.t 11) .skip (.exit 0)) (.seq (.block 1 (.seq (.ops c_exact_Sum_r4) (.seq (.ops c_exact_Sum_r5) (.seq (.ops c_exact_Sum_r6) (.cond (.t 21) (.seq (.ops c_exact_Sum_r7) .ret) .skip))))) (.ops c_exact_Sum_r8))))
abbrev c_exact_Sum_r9 : List AO := [⟨(.some 23), .none, (.mov (.t 4))⟩,
  ⟨(.some 2), .none, (.mov (.t 23))⟩,
  ⟨(.some 3), .none, (.mov (.c (.d (.bool .true))))⟩]
abbrev c_exact_Sum : AFunc := ⟨24, [(.tmp 2), (.tmp 3)], (.seq (.ops c_exact_Sum_r0) (.seq (.ops c_exact_Sum_r1) (.seq (.seq (.ops c_exact_Sum_r2) (.block 0 (.loop c_exact_Sum_l0))) (.seq (.ops c_exact_Sum_r9) .ret))))⟩
theorem comp_exact_Sum : funcC Try.prog 19 = some c_exact_Sum := by kernel_rfl
/-! function 20 : poundage poundageref01.Sum -/
abbrev f_poundageref01_Sum : FuncId := 20
abbrev c_poundageref01_Sum_r0 : List AO := [⟨(.some 2), .none, (.mov (.c (.d (.int .i64 0))))⟩,
  ⟨(.some 3), .none, (.mov (.c (.d (.bool .false))))⟩]
abbrev c_poundageref01_Sum_r1 : List AO := [⟨(.some 4), .none, (.mov (.c (.d (.int .i64 0))))⟩]
abbrev c_poundageref01_Sum_r2 : List AO := [⟨(.some 9), .none, (.mov (.t 0))⟩,
  ⟨(.some 10), .none, (.len (.t 9))⟩,
  ⟨(.some 11), .none, (.mov (.c (.d (.int .i64 0))))⟩]
abbrev c_poundageref01_Sum_r3 : List AO := [⟨(.some 12), .none, (.bin .lss (.t 11) (.t 10))⟩]
abbrev c_poundageref01_Sum_r4 : List AO := [⟨(.some 13), .none, (.elemAddr 1 (.t 9) (.t 11))⟩,
  ⟨(.some 14), .none, (.load .none (.t 13))⟩,
  ⟨(.some 6), .none, (.mov (.t 14))⟩]
abbrev c_poundageref01_Sum_r5 : List AO := [⟨(.some 16), .none, (.mov (.t 4))⟩,
  ⟨(.some 17), .none, (.call 15 [(.t 16)])⟩,
  ⟨(.some 18), .none, (.mov (.t 6))⟩,
  ⟨(.some 19), .none, (.call 15 [(.t 18)])⟩,
  ⟨(.some 20), .none, (.call 14 [(.t 17), (.t 19)])⟩,
  ⟨(.some 21), .none, (.call 13 [(.t 20)])⟩,
  ⟨(.some 15), .none, (.mov (.t 21))⟩,
  ⟨(.some 22), .none, (.extract (.t 15) 0)⟩,
  ⟨(.some 23), .none, (.extract (.t 15) 1)⟩,
  ⟨(.some 7), .none, (.mov (.t 22))⟩,
  ⟨(.some 8), .none, (.mov (.t 23))⟩]
abbrev c_poundageref01_Sum_r6 : List AO := [⟨(.some 24), .none, (.mov (.t 8))⟩,
  ⟨(.some 25), .none, (.un .not (.t 24))⟩]
abbrev c_poundageref01_Sum_r7 : List AO := [⟨(.some 2), .none, (.mov (.c (.d (.int .i64 0))))⟩,
  ⟨(.some 3), .none, (.mov (.c (.d (.bool .false))))⟩]
abbrev c_poundageref01_Sum_r8 : List AO := [⟨(.some 26), .none, (.mov (.t 7))⟩,
  ⟨(.some 4), .none, (.mov (.t 26))⟩]
abbrev c_poundageref01_Sum_r9 : List AO := [⟨(.some 27), .none, (.bin .add (.t 11) (.c (.d (.int .i64 1))))⟩,
  ⟨(.some 11), .none, (.mov (.t 27))⟩]
abbrev c_poundageref01_Sum_l0 : ACode := (.seq (.ops c_poundageref01_Sum_r3) (.seq (.cond (.t 12) .skip (.exit 0)) (.seq (.block 1 (.seq (.ops c_poundageref01_Sum_r4) (.seq (.ops c_poundageref01_Sum_r5) (.seq (.seq (.ops c_poundageref01_Sum_r6) (.cond (.t 25) (.seq (.ops c_poundageref01_Sum_r7) .ret) .skip)) (.ops c_poundageref01_Sum_r8))))) (.ops c_poundageref01_Sum_r9))))
abbrev c_poundageref01_Sum_r10 : List AO := [⟨(.some 28), .none, (.mov (.t 4))⟩,
  ⟨(.some 2), .none, (.mov (.t 28))⟩,
  ⟨(.some 3), .none, (.mov (.c (.d (.bool .true))))⟩]
abbrev c_poundageref01_Sum : AFunc := ⟨29, [(.tmp 2), (.tmp 3)], (.seq (.ops c_poundageref01_Sum_r0) (.seq (.ops c_poundageref01_Sum_r1) (.seq (.seq (.ops c_poundageref01_Sum_r2) (.block 0 (.loop c_poundageref01_Sum_l0))) (.seq (.ops c_poundageref01_Sum_r10) .ret))))⟩
theorem comp_poundageref01_Sum : funcC Try.prog 20 = some c_poundageref01_Sum := by kernel_rfl
/-! function 21 : poundage exact.Least -/
abbrev f_exact_Least : FuncId := 21
abbrev c_exact_Least_r0 : List AO := [⟨(.some 2), .none, (.mov (.c (.d (.int .i64 0))))⟩,
  ⟨(.some 3), .none, (.mov (.c (.d (.bool .false))))⟩]
abbrev c_exact_Least_r1 : List AO := [⟨(.some 4), .none, (.mov (.t 0))⟩,
  ⟨(.some 5), .none, (.call 27 [(.t 4), (.c (.fn 28 []))])⟩,
  ⟨(.some 6), .none, (.extract (.t 5) 0)⟩,
  ⟨(.some 7), .none, (.extract (.t 5) 1)⟩,
  ⟨(.some 2), .none, (.mov (.t 6))⟩,
  ⟨(.some 3), .none, (.mov (.t 7))⟩]
abbrev c_exact_Least : AFunc := ⟨8, [(.tmp 2), (.tmp 3)], (.seq (.ops c_exact_Least_r0) (.seq (.ops c_exact_Least_r1) .ret))⟩
theorem comp_exact_Least : funcC Try.prog 21 = some c_exact_Least := by kernel_rfl
/-! function 22 : poundage exact.Most -/
abbrev f_exact_Most : FuncId := 22
abbrev c_exact_Most_r0 : List AO := [⟨(.some 2), .none, (.mov (.c (.d (.int .i64 0))))⟩,
  ⟨(.some 3), .none, (.mov (.c (.d (.bool .false))))⟩]
abbrev c_exact_Most_r1 : List AO := [⟨(.some 4), .none, (.mov (.t 0))⟩,
  ⟨(.some 5), .none, (.call 27 [(.t 4), (.c (.fn 29 []))])⟩,
  ⟨(.some 6), .none, (.extract (.t 5) 0)⟩,
  ⟨(.some 7), .none, (.extract (.t 5) 1)⟩,
  ⟨(.some 2), .none, (.mov (.t 6))⟩,
  ⟨(.some 3), .none, (.mov (.t 7))⟩]
abbrev c_exact_Most : AFunc := ⟨8, [(.tmp 2), (.tmp 3)], (.seq (.ops c_exact_Most_r0) (.seq (.ops c_exact_Most_r1) .ret))⟩
theorem comp_exact_Most : funcC Try.prog 22 = some c_exact_Most := by kernel_rfl
/-! function 23 : poundage poundageref01.plus -/
abbrev f_poundageref01_plus : FuncId := 23
abbrev c_poundageref01_plus_r0 : List AO := [⟨(.some 2), .none, (.box 28 (.t 0))⟩,
  ⟨(.some 3), .none, (.box 28 (.t 1))⟩,
  ⟨(.some 4), .none, (.alloc 28 [(.d (.bool .false)), (.d (.int .u64 0)), (.d (.int .u64 0))])⟩]
abbrev c_poundageref01_plus_r1 : List AO := [⟨(.some 7), .none, (.fieldAddr 2 (.t 2))⟩,
  ⟨(.some 8), .none, (.load .none (.t 7))⟩,
  ⟨(.some 9), .none, (.fieldAddr 2 (.t 3))⟩,
  ⟨(.some 10), .none, (.load .none (.t 9))⟩,
  ⟨(.some 11), .none, (.bin .add (.t 8) (.t 10))⟩,
  ⟨(.some 5), .none, (.mov (.t 11))⟩]
abbrev c_poundageref01_plus_r2 : List AO := [⟨(.some 12), .none, (.fieldAddr 1 (.t 2))⟩,
  ⟨(.some 13), .none, (.load .none (.t 12))⟩,
  ⟨(.some 14), .none, (.fieldAddr 1 (.t 3))⟩,
  ⟨(.some 15), .none, (.load .none (.t 14))⟩,
  ⟨(.some 16), .none, (.bin .add (.t 13) (.t 15))⟩,
  ⟨(.some 6), .none, (.mov (.t 16))⟩]
abbrev c_poundageref01_plus_r3 : List AO := [⟨(.some 17), .none, (.mov (.t 5))⟩,
  ⟨(.some 18), .none, (.fieldAddr 2 (.t 2))⟩,
  ⟨(.some 19), .none, (.load .none (.t 18))⟩,
  ⟨(.some 20), .none, (.bin .lss (.t 17) (.t 19))⟩]
abbrev c_poundageref01_plus_r4 : List AO := [⟨(.some 21), .none, (.mov (.t 6))⟩,
  ⟨(.some 22), .none, (.bin .add (.t 21) (.c (.d (.int .u64 1))))⟩,
  ⟨(.some 6), .none, (.mov (.t 22))⟩]
abbrev c_poundageref01_plus_r5 : List AO := [⟨(.some 23), .none, (.mov (.t 6))⟩,
  ⟨(.some 24), .none, (.mov (.t 5))⟩,
  ⟨(.some 25), .none, (.build [(.d (.bool .false)), (.d (.int .u64 0)), (.d (.int .u64 0))] [⟨0, ⟨1, (.c (.d (.bool .false)))⟩⟩, ⟨1, ⟨1, (.t 23)⟩⟩, ⟨2, ⟨1, (.t 24)⟩⟩])⟩,
  ⟨.none, .none, (.store 3 (.t 4) (.t 25))⟩]
abbrev c_poundageref01_plus : AFunc := ⟨26, [(.cell 4 (.some 3))], (.seq (.ops c_poundageref01_plus_r0) (.seq (.ops c_poundageref01_plus_r1) (.seq (.ops c_poundageref01_plus_r2) (.seq (.seq (.ops c_poundageref01_plus_r3) (.cond (.t 20) (.ops c_poundageref01_plus_r4) .skip)) (.seq (.ops c_poundageref01_plus_r5) .ret)))))⟩
theorem comp_poundageref01_plus : funcC Try.prog 23 = some c_poundageref01_plus := by kernel_rfl
/-! function 24 : poundage poundageref01.Zero -/
abbrev f_poundageref01_Zero : FuncId := 24
abbrev c_poundageref01_Zero_r0 : List AO := [⟨(.some 1), .none, (.box 28 (.t 0))⟩,
  ⟨(.some 2), .none, (.mov (.c (.d (.bool .false))))⟩]
abbrev c_poundageref01_Zero_r1 : List AO := [⟨(.some 3), .none, (.fieldAddr 1 (.t 1))⟩,
  ⟨(.some 4), .none, (.load .none (.t 3))⟩,
  ⟨(.some 5), .none, (.bin .eql (.t 4) (.c (.d (.int .u64 0))))⟩,
  ⟨(.some 6), .none, (.mov (.t 5))⟩,
  ⟨(.some 7), (.some ⟨6, .true⟩), (.fieldAddr 2 (.t 1))⟩,
  ⟨(.some 8), (.some ⟨6, .true⟩), (.load .none (.t 7))⟩,
  ⟨(.some 9), (.some ⟨6, .true⟩), (.bin .eql (.t 8) (.c (.d (.int .u64 0))))⟩,
  ⟨(.some 10), .none, (.pick (.t 6) (.t 9) (.c (.d (.bool .false))))⟩,
  ⟨(.some 2), .none, (.mov (.t 10))⟩]
abbrev c_poundageref01_Zero : AFunc := ⟨11, [(.tmp 2)], (.seq (.ops c_poundageref01_Zero_r0) (.seq (.ops c_poundageref01_Zero_r1) .ret))⟩
theorem comp_poundageref01_Zero : funcC Try.prog 24 = some c_poundageref01_Zero := by kernel_rfl
/-! function 25 : poundage poundageref01.size -/
abbrev f_poundageref01_size : FuncId := 25
abbrev c_poundageref01_size_r0 : List AO := [⟨(.some 2), .none, (.box 28 (.t 0))⟩,
  ⟨(.some 3), .none, (.box 28 (.t 1))⟩,
  ⟨(.some 4), .none, (.mov (.c (.d (.bool .false))))⟩]
abbrev c_poundageref01_size_r1 : List AO := [⟨(.some 5), .none, (.fieldAddr 1 (.t 2))⟩,
  ⟨(.some 6), .none, (.load .none (.t 5))⟩,
  ⟨(.some 7), .none, (.fieldAddr 1 (.t 3))⟩,
  ⟨(.some 8), .none, (.load .none (.t 7))⟩,
  ⟨(.some 9), .none, (.bin .lss (.t 6) (.t 8))⟩,
  ⟨(.some 10), .none, (.mov (.t 9))⟩,
  ⟨(.some 11), (.some ⟨10, .false⟩), (.fieldAddr 1 (.t 2))⟩,
  ⟨(.some 12), (.some ⟨10, .false⟩), (.load .none (.t 11))⟩,
  ⟨(.some 13), (.some ⟨10, .false⟩), (.fieldAddr 1 (.t 3))⟩,
  ⟨(.some 14), (.some ⟨10, .false⟩), (.load .none (.t 13))⟩,
  ⟨(.some 15), (.some ⟨10, .false⟩), (.bin .eql (.t 12) (.t 14))⟩,
  ⟨(.some 16), (.some ⟨10, .false⟩), (.mov (.t 15))⟩,
  ⟨(.some 17), (.some ⟨16, .true⟩), (.fieldAddr 2 (.t 2))⟩,
  ⟨(.some 18), (.some ⟨16, .true⟩), (.load .none (.t 17))⟩,
  ⟨(.some 19), (.some ⟨16, .true⟩), (.fieldAddr 2 (.t 3))⟩,
  ⟨(.some 20), (.some ⟨16, .true⟩), (.load .none (.t 19))⟩,
  ⟨(.some 21), (.some ⟨16, .true⟩), (.bin .lss (.t 18) (.t 20))⟩,
  ⟨(.some 22), (.some ⟨10, .false⟩), (.pick (.t 16) (.t 21) (.c (.d (.bool .false))))⟩,
  ⟨(.some 23), .none, (.pick (.t 10) (.c (.d (.bool .true))) (.t 22))⟩,
  ⟨(.some 4), .none, (.mov (.t 23))⟩]
abbrev c_poundageref01_size : AFunc := ⟨24, [(.tmp 4)], (.seq (.ops c_poundageref01_size_r0) (.seq (.ops c_poundageref01_size_r1) .ret))⟩
theorem comp_poundageref01_size : funcC Try.prog 25 = some c_poundageref01_size := by kernel_rfl
/-! function 26 : poundage poundageref01.minus -/
abbrev f_poundageref01_minus : FuncId := 26
abbrev c_poundageref01_minus_r0 : List AO := [⟨(.some 2), .none, (.box 28 (.t 0))⟩,
  ⟨(.some 3), .none, (.box 28 (.t 1))⟩,
  ⟨(.some 4), .none, (.alloc 28 [(.d (.bool .false)), (.d (.int .u64 0)), (.d (.int .u64 0))])⟩]
abbrev c_poundageref01_minus_r1 : List AO := [⟨(.some 7), .none, (.fieldAddr 2 (.t 2))⟩,
  ⟨(.some 8), .none, (.load .none (.t 7))⟩,
  ⟨(.some 9), .none, (.fieldAddr 2 (.t 3))⟩,
  ⟨(.some 10), .none, (.load .none (.t 9))⟩,
  ⟨(.some 11), .none, (.bin .sub (.t 8) (.t 10))⟩,
  ⟨(.some 5), .none, (.mov (.t 11))⟩]
abbrev c_poundageref01_minus_r2 : List AO := [⟨(.some 12), .none, (.fieldAddr 1 (.t 2))⟩,
  ⟨(.some 13), .none, (.load .none (.t 12))⟩,
  ⟨(.some 14), .none, (.fieldAddr 1 (.t 3))⟩,
  ⟨(.some 15), .none, (.load .none (.t 14))⟩,
  ⟨(.some 16), .none, (.bin .sub (.t 13) (.t 15))⟩,
  ⟨(.some 6), .none, (.mov (.t 16))⟩]
abbrev c_poundageref01_minus_r3 : List AO := [⟨(.some 17), .none, (.fieldAddr 2 (.t 2))⟩,
  ⟨(.some 18), .none, (.load .none (.t 17))⟩,
  ⟨(.some 19), .none, (.fieldAddr 2 (.t 3))⟩,
  ⟨(.some 20), .none, (.load .none (.t 19))⟩,
  ⟨(.some 21), .none, (.bin .lss (.t 18) (.t 20))⟩]
abbrev c_poundageref01_minus_r4 : List AO := [⟨(.some 22), .none, (.mov (.t 6))⟩,
  ⟨(.some 23), .none, (.bin .sub (.t 22) (.c (.d (.int .u64 1))))⟩,
  ⟨(.some 6), .none, (.mov (.t 23))⟩]
abbrev c_poundageref01_minus_r5 : List AO := [⟨(.some 24), .none, (.mov (.t 6))⟩,
  ⟨(.some 25), .none, (.mov (.t 5))⟩,
  ⟨(.some 26), .none, (.build [(.d (.bool .false)), (.d (.int .u64 0)), (.d (.int .u64 0))] [⟨0, ⟨1, (.c (.d (.bool .false)))⟩⟩, ⟨1, ⟨1, (.t 24)⟩⟩, ⟨2, ⟨1, (.t 25)⟩⟩])⟩,
  ⟨.none, .none, (.store 3 (.t 4) (.t 26))⟩]
abbrev c_poundageref01_minus : AFunc := ⟨27, [(.cell 4 (.some 3))], (.seq (.ops c_poundageref01_minus_r0) (.seq (.ops c_poundageref01_minus_r1) (.seq (.ops c_poundageref01_minus_r2) (.seq (.seq (.ops c_poundageref01_minus_r3) (.cond (.t 21) (.ops c_poundageref01_minus_r4) .skip)) (.seq (.ops c_poundageref01_minus_r5) .ret)))))⟩
theorem comp_poundageref01_minus : funcC Try.prog 26 = some c_poundageref01_minus := by kernel_rfl
/-! function 27 : poundage exact.pick -/
abbrev f_exact_pick : FuncId := 27
abbrev c_exact_pick_r0 : List AO := [⟨(.some 4), .none, (.mov (.c (.d (.int .i64 0))))⟩,
  ⟨(.some 5), .none, (.mov (.c (.d (.bool .false))))⟩]
abbrev c_exact_pick_r1 : List AO := [⟨(.some 9), .none, (.mov (.t 0))⟩,
  ⟨(.some 10), .none, (.len (.t 9))⟩,
  ⟨(.some 11), .none, (.bin .eql (.t 10) (.c (.d (.int .i64 0))))⟩]
abbrev c_exact_pick_r2 : List AO := [⟨(.some 4), .none, (.mov (.c (.d (.int .i64 0))))⟩,
  ⟨(.some 5), .none, (.mov (.c (.d (.bool .false))))⟩]
abbrev c_exact_pick_r3 : List AO := [⟨(.some 12), .none, (.mov (.t 0))⟩,
  ⟨(.some 13), .none, (.elemAddr 1 (.t 12) (.c (.d (.int .i64 0))))⟩,
  ⟨(.some 14), .none, (.load .none (.t 13))⟩,
  ⟨(.some 6), .none, (.mov (.t 14))⟩]
abbrev c_exact_pick_r4 : List AO := [⟨(.some 15), .none, (.mov (.t 0))⟩,
  ⟨(.some 16), .none, (.len (.t 15))⟩,
  ⟨(.some 17), .none, (.mov (.c (.d (.int .i64 0))))⟩]
abbrev c_exact_pick_r5 : List AO := [⟨(.some 18), .none, (.bin .lss (.t 17) (.t 16))⟩]
abbrev c_exact_pick_r6 : List AO := [⟨(.some 19), .none, (.elemAddr 1 (.t 15) (.t 17))⟩,
  ⟨(.some 20), .none, (.load .none (.t 19))⟩,
  ⟨(.some 8), .none, (.mov (.t 20))⟩]
abbrev c_exact_pick_r7 : List AO := [⟨(.some 21), .none, (.mov (.t 1))⟩,
  ⟨(.some 22), .none, (.mov (.t 8))⟩,
  ⟨(.some 23), .none, (.mov (.t 6))⟩,
  ⟨(.some 24), .none, (.callv (.t 21) [(.t 22), (.t 23)])⟩]
abbrev c_exact_pick_r8 : List AO := [⟨(.some 25), .none, (.mov (.t 8))⟩,
  ⟨(.some 6), .none, (.mov (.t 25))⟩]
abbrev c_exact_pick_r9 : List AO := [⟨(.some 26), .none, (.bin .add (.t 17) (.c (.d (.int .i64 1))))⟩,
  ⟨(.some 17), .none, (.mov (.t 26))⟩]
abbrev c_exact_pick_l0 : ACode := (.seq (.ops c_exact_pick_r5) (.seq (.cond (.t 18) .skip (.exit 0)) (.seq (.block 1 (.seq (.ops c_exact_pick_r6) (.seq (.ops c_exact_pick_r7) (.cond (.t 24) (.ops c_exact_pick_r8) .skip)))) (.ops c_exact_pick_r9))))
abbrev c_exact_pick_r10 : List AO := [⟨(.some 27), .none, (.mov (.t 6))⟩,
  ⟨(.some 4), .none, (.mov (.t 27))⟩,
  ⟨(.some 5), .none, (.mov (.c (.d (.bool .true))))⟩]
abbrev c_exact_pick : AFunc := ⟨28, [(.tmp 4), (.tmp 5)], (.seq (.ops c_exact_pick_r0) (.seq (.seq (.ops c_exact_pick_r1) (.cond (.t 11) (.seq (.ops c_exact_pick_r2) .ret) .skip)) (.seq (.ops c_exact_pick_r3) (.seq (.seq (.ops c_exact_pick_r4) (.block 0 (.loop c_exact_pick_l0))) (.seq (.ops c_exact_pick_r10) .ret)))))⟩
theorem comp_exact_pick : funcC Try.prog 27 = some c_exact_pick := by kernel_rfl
/-! function 28 : poundage exact.Least 1 -/
abbrev f_exact_Least_1 : FuncId := 28
abbrev c_exact_Least_1_r0 : List AO := [⟨(.some 4), .none, (.mov (.c (.d (.bool .false))))⟩]
abbrev c_exact_Least_1_r1 : List AO := [⟨(.some 5), .none, (.mov (.t 0))⟩,
  ⟨(.some 6), .none, (.mov (.t 1))⟩,
  ⟨(.some 7), .none, (.bin .lss (.t 5) (.t 6))⟩,
  ⟨(.some 4), .none, (.mov (.t 7))⟩]
abbrev c_exact_Least_1 : AFunc := ⟨8, [(.tmp 4)], (.seq (.ops c_exact_Least_1_r0) (.seq (.ops c_exact_Least_1_r1) .ret))⟩
theorem comp_exact_Least_1 : funcC Try.prog 28 = some c_exact_Least_1 := by kernel_rfl
/-! function 29 : poundage exact.Most 1 -/
abbrev f_exact_Most_1 : FuncId := 29
abbrev c_exact_Most_1_r0 : List AO := [⟨(.some 4), .none, (.mov (.c (.d (.bool .false))))⟩]
abbrev c_exact_Most_1_r1 : List AO := [⟨(.some 5), .none, (.mov (.t 0))⟩,
  ⟨(.some 6), .none, (.mov (.t 1))⟩,
  ⟨(.some 7), .none, (.bin .gtr (.t 5) (.t 6))⟩,
  ⟨(.some 4), .none, (.mov (.t 7))⟩]
abbrev c_exact_Most_1 : AFunc := ⟨8, [(.tmp 4)], (.seq (.ops c_exact_Most_1_r0) (.seq (.ops c_exact_Most_1_r1) .ret))⟩
theorem comp_exact_Most_1 : funcC Try.prog 29 = some c_exact_Most_1 := by kernel_rfl
/-! function 30 :  runtime.boundsError .Error -/
abbrev f__runtime_boundsError_Error : FuncId := 30
/-! function 31 :  runtime.boundsError .RuntimeError -/
abbrev f__runtime_boundsError_RuntimeError : FuncId := 31
/-! function 32 :  runtime.errorString .Error -/
abbrev f__runtime_errorString_Error : FuncId := 32
/-! function 33 :  runtime.errorString .RuntimeError -/
abbrev f__runtime_errorString_RuntimeError : FuncId := 33
/-! function 34 :  runtime.plainError .Error -/
abbrev f__runtime_plainError_Error : FuncId := 34
/-! function 35 :  runtime.plainError .RuntimeError -/
abbrev f__runtime_plainError_RuntimeError : FuncId := 35
/-! function 36 :  runtime.errorAddressString .Error -/
abbrev f__runtime_errorAddressString_Error : FuncId := 36
/-! function 37 :  runtime.errorAddressString .RuntimeError -/
abbrev f__runtime_errorAddressString_RuntimeError : FuncId := 37
/-! function 38 :  runtime.TypeAssertionError .Error -/
abbrev f__runtime_TypeAssertionError_Error : FuncId := 38
/-! function 39 :  runtime.TypeAssertionError .RuntimeError -/
abbrev f__runtime_TypeAssertionError_RuntimeError : FuncId := 39
/-! function 40 :  runtime.PanicNilError .Error -/
abbrev f__runtime_PanicNilError_Error : FuncId := 40
/-! function 41 :  runtime.PanicNilError .RuntimeError -/
abbrev f__runtime_PanicNilError_RuntimeError : FuncId := 41
/-! function 42 :  internal abi.Type .Align -/
abbrev f_abi_Type_Align : FuncId := 42
/-! function 43 :  internal runtime maps.unhashableTypeError .Error -/
abbrev f_maps_unhashableTypeError_Error : FuncId := 43
/-! function 44 :  internal runtime maps.unhashableTypeError .RuntimeError -/
abbrev f_maps_unhashableTypeError_RuntimeError : FuncId := 44
/-! function 45 :  internal abi.Kind .String -/
abbrev f_abi_Kind_String : FuncId := 45
end Go.Proofs.Ythmcidkcindmpaa.Abs
