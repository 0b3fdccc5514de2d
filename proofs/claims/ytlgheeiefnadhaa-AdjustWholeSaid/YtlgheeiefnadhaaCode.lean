/- The given functions, as the abstract machine has them: printed by a program of this session. No claim stands here. -/
import Derived.Test.YtlgheeiefnadhaaProg
import Derived.Test.YtlgheeiefnadhaaAbs1
import Derived.KernelRfl
namespace Go.Proofs.Ytlgheeiefnadhaa.Abs
open Go Go.RowKit Go.Proofs
/-! function 3 : poundage poundagelaw12.AdjustRises -/
abbrev f_poundagelaw12_AdjustRises : FuncId := 3
abbrev c_poundagelaw12_AdjustRises_r0 : List AO := [⟨(.some 6), .none, (.mov (.c (.d (.bool .false))))⟩]
abbrev c_poundagelaw12_AdjustRises_r1 : List AO := [⟨(.some 13), .none, (.call 7 [])⟩,
  ⟨(.some 14), .none, (.un .not (.t 13))⟩]
abbrev c_poundagelaw12_AdjustRises_r2 : List AO := [⟨(.some 6), .none, (.mov (.c (.d (.bool .false))))⟩]
abbrev c_poundagelaw12_AdjustRises_r3 : List AO := [⟨(.some 15), .none, (.mov (.t 2))⟩,
  ⟨(.some 16), .none, (.len (.t 15))⟩,
  ⟨(.some 17), .none, (.bin .gtr (.t 16) (.c (.d (.int .i64 200))))⟩,
  ⟨(.some 18), .none, (.mov (.t 17))⟩,
  ⟨(.some 19), (.some ⟨18, .false⟩), (.mov (.t 1))⟩,
  ⟨(.some 20), (.some ⟨18, .false⟩), (.mov (.t 0))⟩,
  ⟨(.some 21), (.some ⟨18, .false⟩), (.bin .lss (.t 19) (.t 20))⟩,
  ⟨(.some 22), .none, (.pick (.t 18) (.c (.d (.bool .true))) (.t 21))⟩]
abbrev c_poundagelaw12_AdjustRises_r4 : List AO := [⟨(.some 6), .none, (.mov (.c (.d (.bool .true))))⟩]
abbrev c_poundagelaw12_AdjustRises_r5 : List AO := [⟨(.some 23), .none, (.mov (.t 2))⟩,
  ⟨(.some 24), .none, (.len (.t 23))⟩,
  ⟨(.some 25), .none, (.mov (.c (.d (.int .i64 0))))⟩]
abbrev c_poundagelaw12_AdjustRises_r6 : List AO := [⟨(.some 26), .none, (.bin .lss (.t 25) (.t 24))⟩]
abbrev c_poundagelaw12_AdjustRises_r7 : List AO := [⟨(.some 27), .none, (.elemAddr 3 (.t 23) (.t 25))⟩,
  ⟨(.some 28), .none, (.load (.some 3) (.t 27))⟩,
  ⟨(.some 8), .none, (.alloc 25 [(.d (.int .i64 0)), (.d (.int .i64 0)), (.d (.int .i64 0))])⟩,
  ⟨.none, .none, (.store 3 (.t 8) (.t 28))⟩]
abbrev c_poundagelaw12_AdjustRises_r8 : List AO := [⟨(.some 29), .none, (.fieldAddr 1 (.t 8))⟩,
  ⟨(.some 30), .none, (.load .none (.t 29))⟩,
  ⟨(.some 31), .none, (.bin .lss (.t 30) (.c (.d (.int .i64 0))))⟩]
abbrev c_poundagelaw12_AdjustRises_r9 : List AO := [⟨(.some 6), .none, (.mov (.c (.d (.bool .true))))⟩]
abbrev c_poundagelaw12_AdjustRises_r10 : List AO := [⟨(.some 32), .none, (.bin .add (.t 25) (.c (.d (.int .i64 1))))⟩,
  ⟨(.some 25), .none, (.mov (.t 32))⟩]
abbrev c_poundagelaw12_AdjustRises_l0 : ACode := (.seq (.ops c_poundagelaw12_AdjustRises_r6) (.seq (.cond (.t 26) .skip (.exit 0)) (.seq (.block 1 (.seq (.ops c_poundagelaw12_AdjustRises_r7) (.seq (.ops c_poundagelaw12_AdjustRises_r8) (.cond (.t 31) (.seq (.ops c_poundagelaw12_AdjustRises_r9) .ret) .skip)))) (.ops c_poundagelaw12_AdjustRises_r10))))
abbrev c_poundagelaw12_AdjustRises_r11 : List AO := [⟨(.some 34), .none, (.mov (.t 0))⟩,
  ⟨(.some 35), .none, (.mov (.t 2))⟩,
  ⟨(.some 36), .none, (.call 8 [(.t 34), (.t 35)])⟩,
  ⟨(.some 33), .none, (.mov (.t 36))⟩,
  ⟨(.some 37), .none, (.extract (.t 33) 0)⟩,
  ⟨(.some 38), .none, (.extract (.t 33) 1)⟩,
  ⟨(.some 9), .none, (.mov (.t 37))⟩,
  ⟨(.some 10), .none, (.mov (.t 38))⟩]
abbrev c_poundagelaw12_AdjustRises_r12 : List AO := [⟨(.some 40), .none, (.mov (.t 1))⟩,
  ⟨(.some 41), .none, (.mov (.t 2))⟩,
  ⟨(.some 42), .none, (.call 8 [(.t 40), (.t 41)])⟩,
  ⟨(.some 39), .none, (.mov (.t 42))⟩,
  ⟨(.some 43), .none, (.extract (.t 39) 0)⟩,
  ⟨(.some 44), .none, (.extract (.t 39) 1)⟩,
  ⟨(.some 11), .none, (.mov (.t 43))⟩,
  ⟨(.some 12), .none, (.mov (.t 44))⟩]
abbrev c_poundagelaw12_AdjustRises_r13 : List AO := [⟨(.some 45), .none, (.mov (.t 10))⟩,
  ⟨(.some 46), .none, (.un .not (.t 45))⟩,
  ⟨(.some 47), .none, (.mov (.t 46))⟩,
  ⟨(.some 48), (.some ⟨47, .false⟩), (.mov (.t 12))⟩,
  ⟨(.some 49), (.some ⟨47, .false⟩), (.un .not (.t 48))⟩,
  ⟨(.some 50), .none, (.pick (.t 47) (.c (.d (.bool .true))) (.t 49))⟩,
  ⟨(.some 51), .none, (.mov (.t 50))⟩,
  ⟨(.some 52), (.some ⟨51, .false⟩), (.mov (.t 9))⟩,
  ⟨(.some 53), (.some ⟨51, .false⟩), (.mov (.t 11))⟩,
  ⟨(.some 54), (.some ⟨51, .false⟩), (.bin .leq (.t 52) (.t 53))⟩,
  ⟨(.some 55), .none, (.pick (.t 51) (.c (.d (.bool .true))) (.t 54))⟩,
  ⟨(.some 6), .none, (.mov (.t 55))⟩]
abbrev c_poundagelaw12_AdjustRises : AFunc := ⟨56, [(.tmp 6)], (.seq (.ops c_poundagelaw12_AdjustRises_r0) (.seq (.seq (.ops c_poundagelaw12_AdjustRises_r1) (.cond (.t 14) (.seq (.ops c_poundagelaw12_AdjustRises_r2) .ret) .skip)) (.seq (.seq (.ops c_poundagelaw12_AdjustRises_r3) (.cond (.t 22) (.seq (.ops c_poundagelaw12_AdjustRises_r4) .ret) .skip)) (.seq (.seq (.ops c_poundagelaw12_AdjustRises_r5) (.block 0 (.loop c_poundagelaw12_AdjustRises_l0))) (.seq (.ops c_poundagelaw12_AdjustRises_r11) (.seq (.ops c_poundagelaw12_AdjustRises_r12) (.seq (.ops c_poundagelaw12_AdjustRises_r13) .ret)))))))⟩
theorem comp_poundagelaw12_AdjustRises : funcC Try.prog 3 = some c_poundagelaw12_AdjustRises := by kernel_rfl
/-! function 4 : poundage poundagelaw12.AdjustParts -/
abbrev f_poundagelaw12_AdjustParts : FuncId := 4
abbrev c_poundagelaw12_AdjustParts_r0 : List AO := [⟨(.some 6), .none, (.mov (.c (.d (.bool .false))))⟩]
abbrev c_poundagelaw12_AdjustParts_r1 : List AO := [⟨(.some 13), .none, (.call 7 [])⟩,
  ⟨(.some 14), .none, (.un .not (.t 13))⟩]
abbrev c_poundagelaw12_AdjustParts_r2 : List AO := [⟨(.some 6), .none, (.mov (.c (.d (.bool .false))))⟩]
abbrev c_poundagelaw12_AdjustParts_r3 : List AO := [⟨(.some 15), .none, (.mov (.t 1))⟩,
  ⟨(.some 16), .none, (.len (.t 15))⟩,
  ⟨(.some 17), .none, (.bin .gtr (.t 16) (.c (.d (.int .i64 200))))⟩,
  ⟨(.some 18), .none, (.mov (.t 17))⟩,
  ⟨(.some 19), (.some ⟨18, .false⟩), (.mov (.t 2))⟩,
  ⟨(.some 20), (.some ⟨18, .false⟩), (.bin .lss (.t 19) (.c (.d (.int .i64 0))))⟩,
  ⟨(.some 21), .none, (.pick (.t 18) (.c (.d (.bool .true))) (.t 20))⟩,
  ⟨(.some 22), .none, (.mov (.t 21))⟩,
  ⟨(.some 23), (.some ⟨22, .false⟩), (.mov (.t 2))⟩,
  ⟨(.some 24), (.some ⟨22, .false⟩), (.mov (.t 1))⟩,
  ⟨(.some 25), (.some ⟨22, .false⟩), (.len (.t 24))⟩,
  ⟨(.some 26), (.some ⟨22, .false⟩), (.bin .gtr (.t 23) (.t 25))⟩,
  ⟨(.some 27), .none, (.pick (.t 22) (.c (.d (.bool .true))) (.t 26))⟩]
abbrev c_poundagelaw12_AdjustParts_r4 : List AO := [⟨(.some 6), .none, (.mov (.c (.d (.bool .true))))⟩]
abbrev c_poundagelaw12_AdjustParts_r5 : List AO := [⟨(.some 29), .none, (.mov (.t 0))⟩,
  ⟨(.some 30), .none, (.mov (.t 1))⟩,
  ⟨(.some 31), .none, (.call 8 [(.t 29), (.t 30)])⟩,
  ⟨(.some 28), .none, (.mov (.t 31))⟩,
  ⟨(.some 32), .none, (.extract (.t 28) 0)⟩,
  ⟨(.some 33), .none, (.extract (.t 28) 1)⟩,
  ⟨(.some 7), .none, (.mov (.t 32))⟩,
  ⟨(.some 8), .none, (.mov (.t 33))⟩]
abbrev c_poundagelaw12_AdjustParts_r6 : List AO := [⟨(.some 35), .none, (.mov (.t 0))⟩,
  ⟨(.some 36), .none, (.mov (.t 1))⟩,
  ⟨(.some 37), .none, (.mov (.t 2))⟩,
  ⟨(.some 38), .none, (.slice 3 (.t 36) .none (.some (.t 37)))⟩,
  ⟨(.some 39), .none, (.call 8 [(.t 35), (.t 38)])⟩,
  ⟨(.some 34), .none, (.mov (.t 39))⟩,
  ⟨(.some 40), .none, (.extract (.t 34) 0)⟩,
  ⟨(.some 41), .none, (.extract (.t 34) 1)⟩,
  ⟨(.some 9), .none, (.mov (.t 40))⟩,
  ⟨(.some 10), .none, (.mov (.t 41))⟩]
abbrev c_poundagelaw12_AdjustParts_r7 : List AO := [⟨(.some 42), .none, (.mov (.t 10))⟩,
  ⟨(.some 43), .none, (.un .not (.t 42))⟩]
abbrev c_poundagelaw12_AdjustParts_r8 : List AO := [⟨(.some 44), .none, (.mov (.t 8))⟩,
  ⟨(.some 45), .none, (.un .not (.t 44))⟩,
  ⟨(.some 46), .none, (.mov (.t 45))⟩,
  ⟨(.some 47), (.some ⟨46, .true⟩), (.mov (.t 7))⟩,
  ⟨(.some 48), (.some ⟨46, .true⟩), (.bin .eql (.t 47) (.c (.d (.int .i64 0))))⟩,
  ⟨(.some 49), .none, (.pick (.t 46) (.t 48) (.c (.d (.bool .false))))⟩,
  ⟨(.some 6), .none, (.mov (.t 49))⟩]
abbrev c_poundagelaw12_AdjustParts_r9 : List AO := [⟨(.some 51), .none, (.mov (.t 9))⟩,
  ⟨(.some 52), .none, (.mov (.t 1))⟩,
  ⟨(.some 53), .none, (.mov (.t 2))⟩,
  ⟨(.some 54), .none, (.slice 3 (.t 52) (.some (.t 53)) .none)⟩,
  ⟨(.some 55), .none, (.call 8 [(.t 51), (.t 54)])⟩,
  ⟨(.some 50), .none, (.mov (.t 55))⟩,
  ⟨(.some 56), .none, (.extract (.t 50) 0)⟩,
  ⟨(.some 57), .none, (.extract (.t 50) 1)⟩,
  ⟨(.some 11), .none, (.mov (.t 56))⟩,
  ⟨(.some 12), .none, (.mov (.t 57))⟩]
abbrev c_poundagelaw12_AdjustParts_r10 : List AO := [⟨(.some 58), .none, (.mov (.t 7))⟩,
  ⟨(.some 59), .none, (.mov (.t 11))⟩,
  ⟨(.some 60), .none, (.bin .eql (.t 58) (.t 59))⟩,
  ⟨(.some 61), .none, (.mov (.t 60))⟩,
  ⟨(.some 62), (.some ⟨61, .true⟩), (.mov (.t 8))⟩,
  ⟨(.some 63), (.some ⟨61, .true⟩), (.mov (.t 12))⟩,
  ⟨(.some 64), (.some ⟨61, .true⟩), (.binb .false (.t 62) (.t 63))⟩,
  ⟨(.some 65), .none, (.pick (.t 61) (.t 64) (.c (.d (.bool .false))))⟩,
  ⟨(.some 6), .none, (.mov (.t 65))⟩]
abbrev c_poundagelaw12_AdjustParts : AFunc := ⟨66, [(.tmp 6)], (.seq (.ops c_poundagelaw12_AdjustParts_r0) (.seq (.seq (.ops c_poundagelaw12_AdjustParts_r1) (.cond (.t 14) (.seq (.ops c_poundagelaw12_AdjustParts_r2) .ret) .skip)) (.seq (.seq (.ops c_poundagelaw12_AdjustParts_r3) (.cond (.t 27) (.seq (.ops c_poundagelaw12_AdjustParts_r4) .ret) .skip)) (.seq (.ops c_poundagelaw12_AdjustParts_r5) (.seq (.ops c_poundagelaw12_AdjustParts_r6) (.seq (.seq (.ops c_poundagelaw12_AdjustParts_r7) (.cond (.t 43) (.seq (.ops c_poundagelaw12_AdjustParts_r8) .ret) .skip)) (.seq (.ops c_poundagelaw12_AdjustParts_r9) (.seq (.ops c_poundagelaw12_AdjustParts_r10) .ret))))))))⟩
theorem comp_poundagelaw12_AdjustParts : funcC Try.prog 4 = some c_poundagelaw12_AdjustParts := by kernel_rfl
/-! function 5 : poundage poundagelaw12.AdjustCaps -/
abbrev f_poundagelaw12_AdjustCaps : FuncId := 5
abbrev c_poundagelaw12_AdjustCaps_r0 : List AO := [⟨(.some 6), .none, (.mov (.c (.d (.bool .false))))⟩]
abbrev c_poundagelaw12_AdjustCaps_r1 : List AO := [⟨(.some 11), .none, (.call 7 [])⟩,
  ⟨(.some 12), .none, (.un .not (.t 11))⟩]
abbrev c_poundagelaw12_AdjustCaps_r2 : List AO := [⟨(.some 6), .none, (.mov (.c (.d (.bool .false))))⟩]
abbrev c_poundagelaw12_AdjustCaps_r3 : List AO := [⟨(.some 14), .none, (.mov (.t 0))⟩,
  ⟨(.some 15), .none, (.mov (.t 1))⟩,
  ⟨(.some 16), .none, (.build [(.d (.int .i64 0)), (.d (.int .i64 0)), (.d (.int .i64 0))] [⟨0, ⟨1, (.c (.d (.int .i64 3)))⟩⟩, ⟨1, ⟨1, (.t 15)⟩⟩])⟩,
  ⟨(.some 17), .none, (.mov (.t 2))⟩,
  ⟨(.some 18), .none, (.build [(.d (.int .i64 0)), (.d (.int .i64 0)), (.d (.int .i64 0))] [⟨0, ⟨1, (.c (.d (.int .i64 2)))⟩⟩, ⟨1, ⟨1, (.t 17)⟩⟩])⟩,
  ⟨(.some 19), .none, (.buildSlice 25 3 2 [(.d (.int .i64 0)), (.d (.int .i64 0)), (.d (.int .i64 0))] [⟨0, (.t 16)⟩, ⟨1, (.t 18)⟩])⟩,
  ⟨(.some 20), .none, (.call 8 [(.t 14), (.t 19)])⟩,
  ⟨(.some 13), .none, (.mov (.t 20))⟩,
  ⟨(.some 21), .none, (.extract (.t 13) 0)⟩,
  ⟨(.some 22), .none, (.extract (.t 13) 1)⟩,
  ⟨(.some 7), .none, (.mov (.t 21))⟩,
  ⟨(.some 8), .none, (.mov (.t 22))⟩]
abbrev c_poundagelaw12_AdjustCaps_r4 : List AO := [⟨(.some 24), .none, (.mov (.t 0))⟩,
  ⟨(.some 25), .none, (.mov (.t 2))⟩,
  ⟨(.some 26), .none, (.build [(.d (.int .i64 0)), (.d (.int .i64 0)), (.d (.int .i64 0))] [⟨0, ⟨1, (.c (.d (.int .i64 2)))⟩⟩, ⟨1, ⟨1, (.t 25)⟩⟩])⟩,
  ⟨(.some 27), .none, (.mov (.t 1))⟩,
  ⟨(.some 28), .none, (.build [(.d (.int .i64 0)), (.d (.int .i64 0)), (.d (.int .i64 0))] [⟨0, ⟨1, (.c (.d (.int .i64 3)))⟩⟩, ⟨1, ⟨1, (.t 27)⟩⟩])⟩,
  ⟨(.some 29), .none, (.buildSlice 25 3 2 [(.d (.int .i64 0)), (.d (.int .i64 0)), (.d (.int .i64 0))] [⟨0, (.t 26)⟩, ⟨1, (.t 28)⟩])⟩,
  ⟨(.some 30), .none, (.call 8 [(.t 24), (.t 29)])⟩,
  ⟨(.some 23), .none, (.mov (.t 30))⟩,
  ⟨(.some 31), .none, (.extract (.t 23) 0)⟩,
  ⟨(.some 32), .none, (.extract (.t 23) 1)⟩,
  ⟨(.some 9), .none, (.mov (.t 31))⟩,
  ⟨(.some 10), .none, (.mov (.t 32))⟩]
abbrev c_poundagelaw12_AdjustCaps_r5 : List AO := [⟨(.some 33), .none, (.mov (.t 8))⟩,
  ⟨(.some 34), .none, (.un .not (.t 33))⟩,
  ⟨(.some 35), .none, (.mov (.t 34))⟩,
  ⟨(.some 36), (.some ⟨35, .false⟩), (.mov (.t 10))⟩,
  ⟨(.some 37), (.some ⟨35, .false⟩), (.un .not (.t 36))⟩,
  ⟨(.some 38), .none, (.pick (.t 35) (.c (.d (.bool .true))) (.t 37))⟩,
  ⟨(.some 39), .none, (.mov (.t 38))⟩,
  ⟨(.some 40), (.some ⟨39, .false⟩), (.mov (.t 7))⟩,
  ⟨(.some 41), (.some ⟨39, .false⟩), (.mov (.t 2))⟩,
  ⟨(.some 42), (.some ⟨39, .false⟩), (.bin .gtr (.t 40) (.t 41))⟩,
  ⟨(.some 43), .none, (.pick (.t 39) (.c (.d (.bool .true))) (.t 42))⟩,
  ⟨(.some 44), .none, (.mov (.t 43))⟩,
  ⟨(.some 45), (.some ⟨44, .false⟩), (.mov (.t 9))⟩,
  ⟨(.some 46), (.some ⟨44, .false⟩), (.mov (.t 1))⟩,
  ⟨(.some 47), (.some ⟨44, .false⟩), (.bin .lss (.t 45) (.t 46))⟩,
  ⟨(.some 48), .none, (.pick (.t 44) (.c (.d (.bool .true))) (.t 47))⟩]
abbrev c_poundagelaw12_AdjustCaps_r6 : List AO := [⟨(.some 6), .none, (.mov (.c (.d (.bool .false))))⟩]
abbrev c_poundagelaw12_AdjustCaps_r7 : List AO := [⟨(.some 49), .none, (.mov (.t 1))⟩,
  ⟨(.some 50), .none, (.mov (.t 2))⟩,
  ⟨(.some 51), .none, (.bin .gtr (.t 49) (.t 50))⟩]
abbrev c_poundagelaw12_AdjustCaps_r8 : List AO := [⟨(.some 52), .none, (.mov (.t 7))⟩,
  ⟨(.some 53), .none, (.mov (.t 2))⟩,
  ⟨(.some 54), .none, (.bin .eql (.t 52) (.t 53))⟩,
  ⟨(.some 55), .none, (.mov (.t 54))⟩,
  ⟨(.some 56), (.some ⟨55, .true⟩), (.mov (.t 9))⟩,
  ⟨(.some 57), (.some ⟨55, .true⟩), (.mov (.t 1))⟩,
  ⟨(.some 58), (.some ⟨55, .true⟩), (.bin .eql (.t 56) (.t 57))⟩,
  ⟨(.some 59), .none, (.pick (.t 55) (.t 58) (.c (.d (.bool .false))))⟩,
  ⟨(.some 6), .none, (.mov (.t 59))⟩]
abbrev c_poundagelaw12_AdjustCaps_r9 : List AO := [⟨(.some 60), .none, (.mov (.t 7))⟩,
  ⟨(.some 61), .none, (.mov (.t 9))⟩,
  ⟨(.some 62), .none, (.bin .eql (.t 60) (.t 61))⟩,
  ⟨(.some 63), .none, (.mov (.t 62))⟩,
  ⟨(.some 64), (.some ⟨63, .true⟩), (.mov (.t 7))⟩,
  ⟨(.some 65), (.some ⟨63, .true⟩), (.mov (.t 1))⟩,
  ⟨(.some 66), (.some ⟨63, .true⟩), (.bin .geq (.t 64) (.t 65))⟩,
  ⟨(.some 67), .none, (.pick (.t 63) (.t 66) (.c (.d (.bool .false))))⟩,
  ⟨(.some 68), .none, (.mov (.t 67))⟩,
  ⟨(.some 69), (.some ⟨68, .true⟩), (.mov (.t 0))⟩,
  ⟨(.some 70), (.some ⟨68, .true⟩), (.mov (.t 1))⟩,
  ⟨(.some 71), (.some ⟨68, .true⟩), (.bin .lss (.t 69) (.t 70))⟩,
  ⟨(.some 72), (.some ⟨68, .true⟩), (.mov (.t 71))⟩,
  ⟨(.some 73), (.some ⟨72, .false⟩), (.mov (.t 0))⟩,
  ⟨(.some 74), (.some ⟨72, .false⟩), (.mov (.t 2))⟩,
  ⟨(.some 75), (.some ⟨72, .false⟩), (.bin .gtr (.t 73) (.t 74))⟩,
  ⟨(.some 76), (.some ⟨68, .true⟩), (.pick (.t 72) (.c (.d (.bool .true))) (.t 75))⟩,
  ⟨(.some 77), (.some ⟨68, .true⟩), (.mov (.t 76))⟩,
  ⟨(.some 78), (.some ⟨77, .false⟩), (.mov (.t 7))⟩,
  ⟨(.some 79), (.some ⟨77, .false⟩), (.mov (.t 0))⟩,
  ⟨(.some 80), (.some ⟨77, .false⟩), (.bin .eql (.t 78) (.t 79))⟩,
  ⟨(.some 81), (.some ⟨68, .true⟩), (.pick (.t 77) (.c (.d (.bool .true))) (.t 80))⟩,
  ⟨(.some 82), .none, (.pick (.t 68) (.t 81) (.c (.d (.bool .false))))⟩,
  ⟨(.some 6), .none, (.mov (.t 82))⟩]
abbrev c_poundagelaw12_AdjustCaps : AFunc := ⟨83, [(.tmp 6)], (.seq (.ops c_poundagelaw12_AdjustCaps_r0) (.seq (.seq (.ops c_poundagelaw12_AdjustCaps_r1) (.cond (.t 12) (.seq (.ops c_poundagelaw12_AdjustCaps_r2) .ret) .skip)) (.seq (.ops c_poundagelaw12_AdjustCaps_r3) (.seq (.ops c_poundagelaw12_AdjustCaps_r4) (.seq (.seq (.ops c_poundagelaw12_AdjustCaps_r5) (.cond (.t 48) (.seq (.ops c_poundagelaw12_AdjustCaps_r6) .ret) .skip)) (.seq (.seq (.ops c_poundagelaw12_AdjustCaps_r7) (.cond (.t 51) (.seq (.ops c_poundagelaw12_AdjustCaps_r8) .ret) .skip)) (.seq (.ops c_poundagelaw12_AdjustCaps_r9) .ret)))))))⟩
theorem comp_poundagelaw12_AdjustCaps : funcC Try.prog 5 = some c_poundagelaw12_AdjustCaps := by kernel_rfl
/-! function 6 : poundage poundagelaw12.AdjustWhole -/
abbrev f_poundagelaw12_AdjustWhole : FuncId := 6
abbrev c_poundagelaw12_AdjustWhole_r0 : List AO := [⟨(.some 4), .none, (.mov (.c (.d (.bool .false))))⟩]
abbrev c_poundagelaw12_AdjustWhole_r1 : List AO := [⟨(.some 11), .none, (.call 7 [])⟩,
  ⟨(.some 12), .none, (.un .not (.t 11))⟩]
abbrev c_poundagelaw12_AdjustWhole_r2 : List AO := [⟨(.some 4), .none, (.mov (.c (.d (.bool .false))))⟩]
abbrev c_poundagelaw12_AdjustWhole_r3 : List AO := [⟨(.some 13), .none, (.mov (.t 1))⟩,
  ⟨(.some 14), .none, (.bin .lss (.t 13) (.c (.d (.int .i64 0))))⟩,
  ⟨(.some 15), .none, (.mov (.t 14))⟩,
  ⟨(.some 16), (.some ⟨15, .false⟩), (.mov (.t 1))⟩,
  ⟨(.some 17), (.some ⟨15, .false⟩), (.bin .gtr (.t 16) (.c (.d (.int .i64 3))))⟩,
  ⟨(.some 18), .none, (.pick (.t 15) (.c (.d (.bool .true))) (.t 17))⟩]
abbrev c_poundagelaw12_AdjustWhole_r4 : List AO := [⟨(.some 4), .none, (.mov (.c (.d (.bool .true))))⟩]
abbrev c_poundagelaw12_AdjustWhole_r5 : List AO := [⟨(.some 20), .none, (.mov (.t 0))⟩,
  ⟨(.some 21), .none, (.mov (.t 1))⟩,
  ⟨(.some 22), .none, (.build [(.d (.int .i64 0)), (.d (.int .i64 0)), (.d (.int .i64 0))] [⟨0, ⟨1, (.c (.d (.int .i64 1)))⟩⟩, ⟨1, ⟨1, (.c (.d (.int .i64 100000)))⟩⟩, ⟨2, ⟨1, (.t 21)⟩⟩])⟩,
  ⟨(.some 23), .none, (.build [(.d (.int .i64 0)), (.d (.int .i64 0)), (.d (.int .i64 0))] [⟨0, ⟨1, (.c (.d (.int .i64 4)))⟩⟩])⟩,
  ⟨(.some 24), .none, (.buildSlice 25 3 2 [(.d (.int .i64 0)), (.d (.int .i64 0)), (.d (.int .i64 0))] [⟨0, (.t 22)⟩, ⟨1, (.t 23)⟩])⟩,
  ⟨(.some 25), .none, (.call 8 [(.t 20), (.t 24)])⟩,
  ⟨(.some 19), .none, (.mov (.t 25))⟩,
  ⟨(.some 26), .none, (.extract (.t 19) 0)⟩,
  ⟨(.some 27), .none, (.extract (.t 19) 1)⟩,
  ⟨(.some 5), .none, (.mov (.t 26))⟩,
  ⟨(.some 6), .none, (.mov (.t 27))⟩]
abbrev c_poundagelaw12_AdjustWhole_r6 : List AO := [⟨(.some 29), .none, (.mov (.t 1))⟩,
  ⟨(.some 30), .none, (.build [(.d (.int .i64 0)), (.d (.int .i64 0)), (.d (.int .i64 0))] [⟨0, ⟨1, (.c (.d (.int .i64 1)))⟩⟩, ⟨2, ⟨1, (.t 29)⟩⟩])⟩,
  ⟨(.some 31), .none, (.mov (.t 0))⟩,
  ⟨(.some 32), .none, (.call 9 [(.t 30), (.t 31)])⟩,
  ⟨(.some 28), .none, (.mov (.t 32))⟩,
  ⟨(.some 33), .none, (.extract (.t 28) 0)⟩,
  ⟨(.some 34), .none, (.extract (.t 28) 1)⟩,
  ⟨(.some 7), .none, (.mov (.t 33))⟩,
  ⟨(.some 8), .none, (.mov (.t 34))⟩]
abbrev c_poundagelaw12_AdjustWhole_r7 : List AO := [⟨(.some 36), .none, (.mov (.t 0))⟩,
  ⟨(.some 37), .none, (.call 8 [(.t 36), (.c (.nilsl 0))])⟩,
  ⟨(.some 35), .none, (.mov (.t 37))⟩,
  ⟨(.some 38), .none, (.extract (.t 35) 0)⟩,
  ⟨(.some 39), .none, (.extract (.t 35) 1)⟩,
  ⟨(.some 9), .none, (.mov (.t 38))⟩,
  ⟨(.some 10), .none, (.mov (.t 39))⟩]
abbrev c_poundagelaw12_AdjustWhole_r8 : List AO := [⟨(.some 40), .none, (.mov (.t 5))⟩,
  ⟨(.some 41), .none, (.mov (.t 0))⟩,
  ⟨(.some 42), .none, (.bin .eql (.t 40) (.t 41))⟩,
  ⟨(.some 43), .none, (.mov (.t 42))⟩,
  ⟨(.some 44), (.some ⟨43, .true⟩), (.mov (.t 6))⟩,
  ⟨(.some 45), .none, (.pick (.t 43) (.t 44) (.c (.d (.bool .false))))⟩,
  ⟨(.some 46), .none, (.mov (.t 45))⟩,
  ⟨(.some 47), (.some ⟨46, .true⟩), (.mov (.t 7))⟩,
  ⟨(.some 48), (.some ⟨46, .true⟩), (.bin .eql (.t 47) (.c (.d (.int .i64 0))))⟩,
  ⟨(.some 49), .none, (.pick (.t 46) (.t 48) (.c (.d (.bool .false))))⟩,
  ⟨(.some 50), .none, (.mov (.t 49))⟩,
  ⟨(.some 51), (.some ⟨50, .true⟩), (.mov (.t 8))⟩,
  ⟨(.some 52), .none, (.pick (.t 50) (.t 51) (.c (.d (.bool .false))))⟩,
  ⟨(.some 53), .none, (.mov (.t 52))⟩,
  ⟨(.some 54), (.some ⟨53, .true⟩), (.mov (.t 9))⟩,
  ⟨(.some 55), (.some ⟨53, .true⟩), (.mov (.t 0))⟩,
  ⟨(.some 56), (.some ⟨53, .true⟩), (.bin .eql (.t 54) (.t 55))⟩,
  ⟨(.some 57), .none, (.pick (.t 53) (.t 56) (.c (.d (.bool .false))))⟩,
  ⟨(.some 58), .none, (.mov (.t 57))⟩,
  ⟨(.some 59), (.some ⟨58, .true⟩), (.mov (.t 10))⟩,
  ⟨(.some 60), .none, (.pick (.t 58) (.t 59) (.c (.d (.bool .false))))⟩,
  ⟨(.some 4), .none, (.mov (.t 60))⟩]
abbrev c_poundagelaw12_AdjustWhole : AFunc := ⟨61, [(.tmp 4)], (.seq (.ops c_poundagelaw12_AdjustWhole_r0) (.seq (.seq (.ops c_poundagelaw12_AdjustWhole_r1) (.cond (.t 12) (.seq (.ops c_poundagelaw12_AdjustWhole_r2) .ret) .skip)) (.seq (.seq (.ops c_poundagelaw12_AdjustWhole_r3) (.cond (.t 18) (.seq (.ops c_poundagelaw12_AdjustWhole_r4) .ret) .skip)) (.seq (.ops c_poundagelaw12_AdjustWhole_r5) (.seq (.ops c_poundagelaw12_AdjustWhole_r6) (.seq (.ops c_poundagelaw12_AdjustWhole_r7) (.seq (.ops c_poundagelaw12_AdjustWhole_r8) .ret)))))))⟩
theorem comp_poundagelaw12_AdjustWhole : funcC Try.prog 6 = some c_poundagelaw12_AdjustWhole := by kernel_rfl
/-! function 7 : poundage poundagelaw12.alive -/
abbrev f_poundagelaw12_alive : FuncId := 7
abbrev c_poundagelaw12_alive_r0 : List AO := [⟨(.some 0), .none, (.mov (.c (.d (.bool .false))))⟩]
abbrev c_poundagelaw12_alive_r1 : List AO := [⟨(.some 4), .none, (.build [(.d (.int .i64 0)), (.d (.int .i64 0)), (.d (.int .i64 0))] [⟨0, ⟨1, (.c (.d (.int .i64 1)))⟩⟩, ⟨1, ⟨1, (.c (.d (.int .i64 107500)))⟩⟩, ⟨2, ⟨1, (.c (.d (.int .i64 2)))⟩⟩])⟩,
  ⟨(.some 5), .none, (.build [(.d (.int .i64 0)), (.d (.int .i64 0)), (.d (.int .i64 0))] [⟨0, ⟨1, (.c (.d (.int .i64 2)))⟩⟩, ⟨1, ⟨1, (.c (.d (.int .i64 1050)))⟩⟩])⟩,
  ⟨(.some 6), .none, (.buildSlice 25 3 2 [(.d (.int .i64 0)), (.d (.int .i64 0)), (.d (.int .i64 0))] [⟨0, (.t 4)⟩, ⟨1, (.t 5)⟩])⟩,
  ⟨(.some 7), .none, (.call 8 [(.c (.d (.int .i64 1000))), (.t 6)])⟩,
  ⟨(.some 3), .none, (.mov (.t 7))⟩,
  ⟨(.some 8), .none, (.extract (.t 3) 0)⟩,
  ⟨(.some 9), .none, (.extract (.t 3) 1)⟩,
  ⟨(.some 1), .none, (.mov (.t 8))⟩,
  ⟨(.some 2), .none, (.mov (.t 9))⟩]
abbrev c_poundagelaw12_alive_r2 : List AO := [⟨(.some 10), .none, (.mov (.t 1))⟩,
  ⟨(.some 11), .none, (.bin .eql (.t 10) (.c (.d (.int .i64 1050))))⟩,
  ⟨(.some 12), .none, (.mov (.t 11))⟩,
  ⟨(.some 13), (.some ⟨12, .true⟩), (.mov (.t 2))⟩,
  ⟨(.some 14), .none, (.pick (.t 12) (.t 13) (.c (.d (.bool .false))))⟩,
  ⟨(.some 0), .none, (.mov (.t 14))⟩]
abbrev c_poundagelaw12_alive : AFunc := ⟨15, [(.tmp 0)], (.seq (.ops c_poundagelaw12_alive_r0) (.seq (.ops c_poundagelaw12_alive_r1) (.seq (.ops c_poundagelaw12_alive_r2) .ret)))⟩
theorem comp_poundagelaw12_alive : funcC Try.prog 7 = some c_poundagelaw12_alive := by kernel_rfl
/-! function 8 : poundage adjust.All -/
abbrev f_adjust_All : FuncId := 8
abbrev c_adjust_All_r0 : List AO := [⟨(.some 4), .none, (.mov (.c (.d (.int .i64 0))))⟩,
  ⟨(.some 5), .none, (.mov (.c (.d (.bool .false))))⟩]
abbrev c_adjust_All_r1 : List AO := [⟨(.some 6), .none, (.mov (.c (.d (.bool .true))))⟩]
abbrev c_adjust_All_r2 : List AO := [⟨(.some 9), .none, (.mov (.t 1))⟩,
  ⟨(.some 10), .none, (.len (.t 9))⟩,
  ⟨(.some 11), .none, (.mov (.c (.d (.int .i64 0))))⟩]
abbrev c_adjust_All_r3 : List AO := [⟨(.some 12), .none, (.bin .lss (.t 11) (.t 10))⟩]
abbrev c_adjust_All_r4 : List AO := [⟨(.some 13), .none, (.elemAddr 3 (.t 9) (.t 11))⟩,
  ⟨(.some 14), .none, (.load (.some 3) (.t 13))⟩,
  ⟨(.some 8), .none, (.alloc 25 [(.d (.int .i64 0)), (.d (.int .i64 0)), (.d (.int .i64 0))])⟩,
  ⟨.none, .none, (.store 3 (.t 8) (.t 14))⟩]
abbrev c_adjust_All_r5 : List AO := [⟨(.some 16), .none, (.load (.some 3) (.t 8))⟩,
  ⟨(.some 17), .none, (.mov (.t 0))⟩,
  ⟨(.some 18), .none, (.call 9 [(.t 16), (.t 17)])⟩,
  ⟨(.some 15), .none, (.mov (.t 18))⟩,
  ⟨(.some 19), .none, (.extract (.t 15) 0)⟩,
  ⟨(.some 20), .none, (.extract (.t 15) 1)⟩,
  ⟨(.some 0), .none, (.mov (.t 19))⟩,
  ⟨(.some 6), .none, (.mov (.t 20))⟩]
abbrev c_adjust_All_r6 : List AO := [⟨(.some 21), .none, (.mov (.t 6))⟩,
  ⟨(.some 22), .none, (.un .not (.t 21))⟩]
abbrev c_adjust_All_r7 : List AO := [⟨(.some 4), .none, (.mov (.c (.d (.int .i64 0))))⟩,
  ⟨(.some 5), .none, (.mov (.c (.d (.bool .false))))⟩]
abbrev c_adjust_All_r8 : List AO := [⟨(.some 23), .none, (.bin .add (.t 11) (.c (.d (.int .i64 1))))⟩,
  ⟨(.some 11), .none, (.mov (.t 23))⟩]
abbrev c_adjust_All_l0 : ACode := (.seq (.ops c_adjust_All_r3) (.seq (.cond (.t 12) .skip (.exit 0)) (.seq (.block 1 (.seq (.ops c_adjust_All_r4) (.seq (.ops c_adjust_All_r5) (.seq (.ops c_adjust_All_r6) (.cond (.t 22) (.seq (.ops c_adjust_All_r7) .ret) .skip))))) (.ops c_adjust_All_r8))))
abbrev c_adjust_All_r9 : List AO := [⟨(.some 24), .none, (.mov (.t 0))⟩,
  ⟨(.some 4), .none, (.mov (.t 24))⟩,
  ⟨(.some 5), .none, (.mov (.c (.d (.bool .true))))⟩]
abbrev c_adjust_All : AFunc := ⟨25, [(.tmp 4), (.tmp 5)], (.seq (.ops c_adjust_All_r0) (.seq (.ops c_adjust_All_r1) (.seq (.seq (.ops c_adjust_All_r2) (.block 0 (.loop c_adjust_All_l0))) (.seq (.ops c_adjust_All_r9) .ret))))⟩
theorem comp_adjust_All : funcC Try.prog 8 = some c_adjust_All := by kernel_rfl
/-! function 9 : poundage adjust.One -/
abbrev f_adjust_One : FuncId := 9
abbrev c_adjust_One_r0 : List AO := [⟨(.some 2), .none, (.box 25 (.t 0))⟩,
  ⟨(.some 4), .none, (.mov (.c (.d (.int .i64 0))))⟩,
  ⟨(.some 5), .none, (.mov (.c (.d (.bool .false))))⟩]
abbrev c_adjust_One_r1 : List AO := [⟨(.some 6), .none, (.fieldAddr 0 (.t 2))⟩,
  ⟨(.some 7), .none, (.load .none (.t 6))⟩]
abbrev c_adjust_One_r2 : List AO := [⟨(.some 9), .none, (.bin .eql (.t 7) (.c (.d (.int .i64 1))))⟩,
  ⟨(.some 8), .none, (.mov (.t 9))⟩]
abbrev c_adjust_One_r3 : List AO := [⟨(.some 10), .none, (.mov (.t 1))⟩,
  ⟨(.some 11), .none, (.fieldAddr 1 (.t 2))⟩,
  ⟨(.some 12), .none, (.load .none (.t 11))⟩,
  ⟨(.some 13), .none, (.fieldAddr 2 (.t 2))⟩,
  ⟨(.some 14), .none, (.load .none (.t 13))⟩,
  ⟨(.some 15), .none, (.call 10 [(.t 10), (.t 12), (.c (.d (.int .i64 100000))), (.t 14)])⟩,
  ⟨(.some 16), .none, (.extract (.t 15) 0)⟩,
  ⟨(.some 17), .none, (.extract (.t 15) 1)⟩,
  ⟨(.some 4), .none, (.mov (.t 16))⟩,
  ⟨(.some 5), .none, (.mov (.t 17))⟩]
abbrev c_adjust_One_r4 : List AO := [⟨(.some 19), .none, (.bin .eql (.t 7) (.c (.d (.int .i64 2))))⟩,
  ⟨(.some 18), .none, (.mov (.t 19))⟩]
abbrev c_adjust_One_r5 : List AO := [⟨(.some 20), .none, (.mov (.t 1))⟩,
  ⟨(.some 21), .none, (.fieldAddr 1 (.t 2))⟩,
  ⟨(.some 22), .none, (.load .none (.t 21))⟩,
  ⟨(.some 23), .none, (.minmax .false (.t 20) [(.t 22)])⟩,
  ⟨(.some 4), .none, (.mov (.t 23))⟩,
  ⟨(.some 5), .none, (.mov (.c (.d (.bool .true))))⟩]
abbrev c_adjust_One_r6 : List AO := [⟨(.some 25), .none, (.bin .eql (.t 7) (.c (.d (.int .i64 3))))⟩,
  ⟨(.some 24), .none, (.mov (.t 25))⟩]
abbrev c_adjust_One_r7 : List AO := [⟨(.some 26), .none, (.mov (.t 1))⟩,
  ⟨(.some 27), .none, (.fieldAddr 1 (.t 2))⟩,
  ⟨(.some 28), .none, (.load .none (.t 27))⟩,
  ⟨(.some 29), .none, (.minmax .true (.t 26) [(.t 28)])⟩,
  ⟨(.some 4), .none, (.mov (.t 29))⟩,
  ⟨(.some 5), .none, (.mov (.c (.d (.bool .true))))⟩]
abbrev c_adjust_One_r8 : List AO := [⟨(.some 31), .none, (.bin .eql (.t 7) (.c (.d (.int .i64 4))))⟩,
  ⟨(.some 30), .none, (.mov (.t 31))⟩]
abbrev c_adjust_One_r9 : List AO := [⟨(.some 32), .none, (.mov (.t 1))⟩,
  ⟨(.some 33), .none, (.fieldAddr 1 (.t 2))⟩,
  ⟨(.some 34), .none, (.load .none (.t 33))⟩,
  ⟨(.some 35), .none, (.call 11 [(.t 32), (.t 34)])⟩,
  ⟨(.some 36), .none, (.extract (.t 35) 0)⟩,
  ⟨(.some 37), .none, (.extract (.t 35) 1)⟩,
  ⟨(.some 4), .none, (.mov (.t 36))⟩,
  ⟨(.some 5), .none, (.mov (.t 37))⟩]
abbrev c_adjust_One_r10 : List AO := [⟨(.some 4), .none, (.mov (.c (.d (.int .i64 0))))⟩,
  ⟨(.some 5), .none, (.mov (.c (.d (.bool .false))))⟩]
abbrev c_adjust_One : AFunc := ⟨38, [(.tmp 4), (.tmp 5)], (.seq (.ops c_adjust_One_r0) (.seq (.seq (.ops c_adjust_One_r1) (.block 0 (.seq (.ops c_adjust_One_r2) (.cond (.t 8) (.seq (.ops c_adjust_One_r3) .ret) (.seq (.ops c_adjust_One_r4) (.cond (.t 18) (.seq (.ops c_adjust_One_r5) .ret) (.seq (.ops c_adjust_One_r6) (.cond (.t 24) (.seq (.ops c_adjust_One_r7) .ret) (.seq (.ops c_adjust_One_r8) (.cond (.t 30) (.seq (.ops c_adjust_One_r9) .ret) .skip)))))))))) (.seq (.ops c_adjust_One_r10) .ret)))⟩
theorem comp_adjust_One : funcC Try.prog 9 = some c_adjust_One := by kernel_rfl
/-! function 10 : poundage round.MulDiv -/
abbrev f_round_MulDiv : FuncId := 10
abbrev c_round_MulDiv_r0 : List AO := [⟨(.some 8), .none, (.mov (.c (.d (.int .i64 0))))⟩,
  ⟨(.some 9), .none, (.mov (.c (.d (.bool .false))))⟩]
abbrev c_round_MulDiv_r1 : List AO := [⟨(.some 16), .none, (.mov (.t 2))⟩,
  ⟨(.some 17), .none, (.bin .leq (.t 16) (.c (.d (.int .i64 0))))⟩,
  ⟨(.some 18), .none, (.mov (.t 17))⟩,
  ⟨(.some 19), (.some ⟨18, .false⟩), (.mov (.t 3))⟩,
  ⟨(.some 20), (.some ⟨18, .false⟩), (.call 12 [(.t 19)])⟩,
  ⟨(.some 21), (.some ⟨18, .false⟩), (.un .not (.t 20))⟩,
  ⟨(.some 22), .none, (.pick (.t 18) (.c (.d (.bool .true))) (.t 21))⟩]
abbrev c_round_MulDiv_r2 : List AO := [⟨(.some 8), .none, (.mov (.c (.d (.int .i64 0))))⟩,
  ⟨(.some 9), .none, (.mov (.c (.d (.bool .false))))⟩]
abbrev c_round_MulDiv_r3 : List AO := [⟨(.some 23), .none, (.mov (.t 0))⟩,
  ⟨(.some 24), .none, (.bin .lss (.t 23) (.c (.d (.int .i64 0))))⟩,
  ⟨(.some 25), .none, (.mov (.t 1))⟩,
  ⟨(.some 26), .none, (.bin .lss (.t 25) (.c (.d (.int .i64 0))))⟩,
  ⟨(.some 27), .none, (.binb .true (.t 24) (.t 26))⟩,
  ⟨(.some 10), .none, (.mov (.t 27))⟩]
abbrev c_round_MulDiv_r4 : List AO := [⟨(.some 29), .none, (.mov (.t 0))⟩,
  ⟨(.some 30), .none, (.call 14 [(.t 29)])⟩,
  ⟨(.some 31), .none, (.mov (.t 1))⟩,
  ⟨(.some 32), .none, (.call 14 [(.t 31)])⟩,
  ⟨(.some 33), .none, (.call 13 [(.t 30), (.t 32)])⟩,
  ⟨(.some 28), .none, (.mov (.t 33))⟩,
  ⟨(.some 34), .none, (.extract (.t 28) 0)⟩,
  ⟨(.some 35), .none, (.extract (.t 28) 1)⟩,
  ⟨(.some 11), .none, (.mov (.t 34))⟩,
  ⟨(.some 12), .none, (.mov (.t 35))⟩]
abbrev c_round_MulDiv_r5 : List AO := [⟨(.some 36), .none, (.mov (.t 2))⟩,
  ⟨(.some 37), .none, (.conv .u64 (.t 36))⟩,
  ⟨(.some 13), .none, (.mov (.t 37))⟩]
abbrev c_round_MulDiv_r6 : List AO := [⟨(.some 38), .none, (.mov (.t 11))⟩,
  ⟨(.some 39), .none, (.mov (.t 13))⟩,
  ⟨(.some 40), .none, (.bin .geq (.t 38) (.t 39))⟩]
abbrev c_round_MulDiv_r7 : List AO := [⟨(.some 8), .none, (.mov (.c (.d (.int .i64 0))))⟩,
  ⟨(.some 9), .none, (.mov (.c (.d (.bool .false))))⟩]
abbrev c_round_MulDiv_r8 : List AO := [⟨(.some 42), .none, (.mov (.t 11))⟩,
  ⟨(.some 43), .none, (.mov (.t 12))⟩,
  ⟨(.some 44), .none, (.mov (.t 13))⟩,
  ⟨(.some 45), .none, (.call 15 [(.t 42), (.t 43), (.t 44)])⟩,
  ⟨(.some 41), .none, (.mov (.t 45))⟩,
  ⟨(.some 46), .none, (.extract (.t 41) 0)⟩,
  ⟨(.some 47), .none, (.extract (.t 41) 1)⟩,
  ⟨(.some 14), .none, (.mov (.t 46))⟩,
  ⟨(.some 15), .none, (.mov (.t 47))⟩]
abbrev c_round_MulDiv_r9 : List AO := [⟨(.some 48), .none, (.mov (.t 3))⟩,
  ⟨(.some 49), .none, (.mov (.t 10))⟩,
  ⟨(.some 50), .none, (.mov (.t 14))⟩,
  ⟨(.some 51), .none, (.mov (.t 15))⟩,
  ⟨(.some 52), .none, (.mov (.t 13))⟩,
  ⟨(.some 53), .none, (.call 16 [(.t 48), (.t 49), (.t 50), (.t 51), (.t 52)])⟩]
abbrev c_round_MulDiv_r10 : List AO := [⟨(.some 54), .none, (.mov (.t 14))⟩,
  ⟨(.some 55), .none, (.bin .add (.t 54) (.c (.d (.int .u64 1))))⟩,
  ⟨(.some 14), .none, (.mov (.t 55))⟩]
abbrev c_round_MulDiv_r11 : List AO := [⟨(.some 56), .none, (.mov (.t 14))⟩,
  ⟨(.some 57), .none, (.bin .eql (.t 56) (.c (.d (.int .u64 0))))⟩]
abbrev c_round_MulDiv_r12 : List AO := [⟨(.some 8), .none, (.mov (.c (.d (.int .i64 0))))⟩,
  ⟨(.some 9), .none, (.mov (.c (.d (.bool .false))))⟩]
abbrev c_round_MulDiv_r13 : List AO := [⟨(.some 58), .none, (.mov (.t 10))⟩,
  ⟨(.some 59), .none, (.mov (.t 14))⟩,
  ⟨(.some 60), .none, (.call 17 [(.t 58), (.t 59)])⟩,
  ⟨(.some 61), .none, (.extract (.t 60) 0)⟩,
  ⟨(.some 62), .none, (.extract (.t 60) 1)⟩,
  ⟨(.some 8), .none, (.mov (.t 61))⟩,
  ⟨(.some 9), .none, (.mov (.t 62))⟩]
abbrev c_round_MulDiv : AFunc := ⟨63, [(.tmp 8), (.tmp 9)], (.seq (.ops c_round_MulDiv_r0) (.seq (.seq (.ops c_round_MulDiv_r1) (.cond (.t 22) (.seq (.ops c_round_MulDiv_r2) .ret) .skip)) (.seq (.ops c_round_MulDiv_r3) (.seq (.ops c_round_MulDiv_r4) (.seq (.ops c_round_MulDiv_r5) (.seq (.seq (.ops c_round_MulDiv_r6) (.cond (.t 40) (.seq (.ops c_round_MulDiv_r7) .ret) .skip)) (.seq (.ops c_round_MulDiv_r8) (.seq (.seq (.ops c_round_MulDiv_r9) (.cond (.t 53) (.seq (.ops c_round_MulDiv_r10) (.seq (.ops c_round_MulDiv_r11) (.cond (.t 57) (.seq (.ops c_round_MulDiv_r12) .ret) .skip))) .skip)) (.seq (.ops c_round_MulDiv_r13) .ret)))))))))⟩
theorem comp_round_MulDiv : funcC Try.prog 10 = some c_round_MulDiv := by kernel_rfl
/-! function 11 : poundage exact.Add -/
abbrev f_exact_Add : FuncId := 11
abbrev c_exact_Add_r0 : List AO := [⟨(.some 4), .none, (.mov (.c (.d (.int .i64 0))))⟩,
  ⟨(.some 5), .none, (.mov (.c (.d (.bool .false))))⟩]
abbrev c_exact_Add_r1 : List AO := [⟨(.some 6), .none, (.mov (.t 1))⟩,
  ⟨(.some 7), .none, (.bin .gtr (.t 6) (.c (.d (.int .i64 0))))⟩,
  ⟨(.some 8), .none, (.mov (.t 7))⟩,
  ⟨(.some 9), (.some ⟨8, .true⟩), (.mov (.t 0))⟩,
  ⟨(.some 10), (.some ⟨8, .true⟩), (.mov (.t 1))⟩,
  ⟨(.some 11), (.some ⟨8, .true⟩), (.bin .sub (.c (.d (.int .i64 9223372036854775807))) (.t 10))⟩,
  ⟨(.some 12), (.some ⟨8, .true⟩), (.bin .gtr (.t 9) (.t 11))⟩,
  ⟨(.some 13), .none, (.pick (.t 8) (.t 12) (.c (.d (.bool .false))))⟩,
  ⟨(.some 14), .none, (.mov (.t 13))⟩,
  ⟨(.some 15), (.some ⟨14, .false⟩), (.mov (.t 1))⟩,
  ⟨(.some 16), (.some ⟨14, .false⟩), (.bin .lss (.t 15) (.c (.d (.int .i64 0))))⟩,
  ⟨(.some 17), (.some ⟨14, .false⟩), (.mov (.t 16))⟩,
  ⟨(.some 18), (.some ⟨17, .true⟩), (.mov (.t 0))⟩,
  ⟨(.some 19), (.some ⟨17, .true⟩), (.mov (.t 1))⟩,
  ⟨(.some 20), (.some ⟨17, .true⟩), (.bin .sub (.c (.d (.int .i64 (-9223372036854775808)))) (.t 19))⟩,
  ⟨(.some 21), (.some ⟨17, .true⟩), (.bin .lss (.t 18) (.t 20))⟩,
  ⟨(.some 22), (.some ⟨14, .false⟩), (.pick (.t 17) (.t 21) (.c (.d (.bool .false))))⟩,
  ⟨(.some 23), .none, (.pick (.t 14) (.c (.d (.bool .true))) (.t 22))⟩]
abbrev c_exact_Add_r2 : List AO := [⟨(.some 4), .none, (.mov (.c (.d (.int .i64 0))))⟩,
  ⟨(.some 5), .none, (.mov (.c (.d (.bool .false))))⟩]
abbrev c_exact_Add_r3 : List AO := [⟨(.some 24), .none, (.mov (.t 0))⟩,
  ⟨(.some 25), .none, (.mov (.t 1))⟩,
  ⟨(.some 26), .none, (.bin .add (.t 24) (.t 25))⟩,
  ⟨(.some 4), .none, (.mov (.t 26))⟩,
  ⟨(.some 5), .none, (.mov (.c (.d (.bool .true))))⟩]
abbrev c_exact_Add : AFunc := ⟨27, [(.tmp 4), (.tmp 5)], (.seq (.ops c_exact_Add_r0) (.seq (.seq (.ops c_exact_Add_r1) (.cond (.t 23) (.seq (.ops c_exact_Add_r2) .ret) .skip)) (.seq (.ops c_exact_Add_r3) .ret)))⟩
theorem comp_exact_Add : funcC Try.prog 11 = some c_exact_Add := by kernel_rfl
/-! function 12 : poundage round.Good -/
abbrev f_round_Good : FuncId := 12
abbrev c_round_Good_r0 : List AO := [⟨(.some 2), .none, (.mov (.c (.d (.bool .false))))⟩]
abbrev c_round_Good_r1 : List AO := [⟨(.some 3), .none, (.mov (.t 0))⟩,
  ⟨(.some 4), .none, (.bin .geq (.t 3) (.c (.d (.int .i64 0))))⟩,
  ⟨(.some 5), .none, (.mov (.t 4))⟩,
  ⟨(.some 6), (.some ⟨5, .true⟩), (.mov (.t 0))⟩,
  ⟨(.some 7), (.some ⟨5, .true⟩), (.bin .leq (.t 6) (.c (.d (.int .i64 3))))⟩,
  ⟨(.some 8), .none, (.pick (.t 5) (.t 7) (.c (.d (.bool .false))))⟩,
  ⟨(.some 2), .none, (.mov (.t 8))⟩]
abbrev c_round_Good : AFunc := ⟨9, [(.tmp 2)], (.seq (.ops c_round_Good_r0) (.seq (.ops c_round_Good_r1) .ret))⟩
theorem comp_round_Good : funcC Try.prog 12 = some c_round_Good := by kernel_rfl
/-! function 13 : math bits.Mul64 -/
abbrev f_bits_Mul64 : FuncId := 13
abbrev c_bits_Mul64_r0 : List AO := [⟨(.some 4), .none, (.mov (.c (.d (.int .u64 0))))⟩,
  ⟨(.some 5), .none, (.mov (.c (.d (.int .u64 0))))⟩]
abbrev c_bits_Mul64_r1 : List AO := [⟨(.some 14), .none, (.mov (.t 0))⟩,
  ⟨(.some 15), .none, (.bin .and (.t 14) (.c (.d (.int .u64 4294967295))))⟩,
  ⟨(.some 6), .none, (.mov (.t 15))⟩]
abbrev c_bits_Mul64_r2 : List AO := [⟨(.some 16), .none, (.mov (.t 0))⟩,
  ⟨(.some 17), .none, (.bin .shr (.t 16) (.c (.d (.int .u64 32))))⟩,
  ⟨(.some 7), .none, (.mov (.t 17))⟩]
abbrev c_bits_Mul64_r3 : List AO := [⟨(.some 18), .none, (.mov (.t 1))⟩,
  ⟨(.some 19), .none, (.bin .and (.t 18) (.c (.d (.int .u64 4294967295))))⟩,
  ⟨(.some 8), .none, (.mov (.t 19))⟩]
abbrev c_bits_Mul64_r4 : List AO := [⟨(.some 20), .none, (.mov (.t 1))⟩,
  ⟨(.some 21), .none, (.bin .shr (.t 20) (.c (.d (.int .u64 32))))⟩,
  ⟨(.some 9), .none, (.mov (.t 21))⟩]
abbrev c_bits_Mul64_r5 : List AO := [⟨(.some 22), .none, (.mov (.t 6))⟩,
  ⟨(.some 23), .none, (.mov (.t 8))⟩,
  ⟨(.some 24), .none, (.bin .mul (.t 22) (.t 23))⟩,
  ⟨(.some 10), .none, (.mov (.t 24))⟩]
abbrev c_bits_Mul64_r6 : List AO := [⟨(.some 25), .none, (.mov (.t 7))⟩,
  ⟨(.some 26), .none, (.mov (.t 8))⟩,
  ⟨(.some 27), .none, (.bin .mul (.t 25) (.t 26))⟩,
  ⟨(.some 28), .none, (.mov (.t 10))⟩,
  ⟨(.some 29), .none, (.bin .shr (.t 28) (.c (.d (.int .u64 32))))⟩,
  ⟨(.some 30), .none, (.bin .add (.t 27) (.t 29))⟩,
  ⟨(.some 11), .none, (.mov (.t 30))⟩]
abbrev c_bits_Mul64_r7 : List AO := [⟨(.some 31), .none, (.mov (.t 11))⟩,
  ⟨(.some 32), .none, (.bin .and (.t 31) (.c (.d (.int .u64 4294967295))))⟩,
  ⟨(.some 12), .none, (.mov (.t 32))⟩]
abbrev c_bits_Mul64_r8 : List AO := [⟨(.some 33), .none, (.mov (.t 11))⟩,
  ⟨(.some 34), .none, (.bin .shr (.t 33) (.c (.d (.int .u64 32))))⟩,
  ⟨(.some 13), .none, (.mov (.t 34))⟩]
abbrev c_bits_Mul64_r9 : List AO := [⟨(.some 35), .none, (.mov (.t 12))⟩,
  ⟨(.some 36), .none, (.mov (.t 6))⟩,
  ⟨(.some 37), .none, (.mov (.t 9))⟩,
  ⟨(.some 38), .none, (.bin .mul (.t 36) (.t 37))⟩,
  ⟨(.some 39), .none, (.bin .add (.t 35) (.t 38))⟩,
  ⟨(.some 12), .none, (.mov (.t 39))⟩]
abbrev c_bits_Mul64_r10 : List AO := [⟨(.some 40), .none, (.mov (.t 7))⟩,
  ⟨(.some 41), .none, (.mov (.t 9))⟩,
  ⟨(.some 42), .none, (.bin .mul (.t 40) (.t 41))⟩,
  ⟨(.some 43), .none, (.mov (.t 13))⟩,
  ⟨(.some 44), .none, (.bin .add (.t 42) (.t 43))⟩,
  ⟨(.some 45), .none, (.mov (.t 12))⟩,
  ⟨(.some 46), .none, (.bin .shr (.t 45) (.c (.d (.int .u64 32))))⟩,
  ⟨(.some 47), .none, (.bin .add (.t 44) (.t 46))⟩,
  ⟨(.some 4), .none, (.mov (.t 47))⟩]
abbrev c_bits_Mul64_r11 : List AO := [⟨(.some 48), .none, (.mov (.t 0))⟩,
  ⟨(.some 49), .none, (.mov (.t 1))⟩,
  ⟨(.some 50), .none, (.bin .mul (.t 48) (.t 49))⟩,
  ⟨(.some 5), .none, (.mov (.t 50))⟩]
abbrev c_bits_Mul64 : AFunc := ⟨51, [(.tmp 4), (.tmp 5)], (.seq (.ops c_bits_Mul64_r0) (.seq (.ops c_bits_Mul64_r1) (.seq (.ops c_bits_Mul64_r2) (.seq (.ops c_bits_Mul64_r3) (.seq (.ops c_bits_Mul64_r4) (.seq (.ops c_bits_Mul64_r5) (.seq (.ops c_bits_Mul64_r6) (.seq (.ops c_bits_Mul64_r7) (.seq (.ops c_bits_Mul64_r8) (.seq (.ops c_bits_Mul64_r9) (.seq (.ops c_bits_Mul64_r10) (.seq (.ops c_bits_Mul64_r11) .ret))))))))))))⟩
theorem comp_bits_Mul64 : funcC Try.prog 13 = some c_bits_Mul64 := by kernel_rfl
/-! function 14 : poundage round.abs -/
abbrev f_round_abs : FuncId := 14
abbrev c_round_abs_r0 : List AO := [⟨(.some 2), .none, (.mov (.c (.d (.int .u64 0))))⟩]
abbrev c_round_abs_r1 : List AO := [⟨(.some 3), .none, (.mov (.t 0))⟩,
  ⟨(.some 4), .none, (.bin .lss (.t 3) (.c (.d (.int .i64 0))))⟩]
abbrev c_round_abs_r2 : List AO := [⟨(.some 5), .none, (.mov (.t 0))⟩,
  ⟨(.some 6), .none, (.conv .u64 (.t 5))⟩,
  ⟨(.some 7), .none, (.un .neg (.t 6))⟩,
  ⟨(.some 2), .none, (.mov (.t 7))⟩]
abbrev c_round_abs_r3 : List AO := [⟨(.some 8), .none, (.mov (.t 0))⟩,
  ⟨(.some 9), .none, (.conv .u64 (.t 8))⟩,
  ⟨(.some 2), .none, (.mov (.t 9))⟩]
abbrev c_round_abs : AFunc := ⟨10, [(.tmp 2)], (.seq (.ops c_round_abs_r0) (.seq (.seq (.ops c_round_abs_r1) (.cond (.t 4) (.seq (.ops c_round_abs_r2) .ret) .skip)) (.seq (.ops c_round_abs_r3) .ret)))⟩
theorem comp_round_abs : funcC Try.prog 14 = some c_round_abs := by kernel_rfl
/-! function 15 : math bits.Div64 -/
abbrev f_bits_Div64 : FuncId := 15
abbrev c_bits_Div64_r0 : List AO := [⟨(.some 6), .none, (.mov (.c (.d (.int .u64 0))))⟩,
  ⟨(.some 7), .none, (.mov (.c (.d (.int .u64 0))))⟩]
abbrev c_bits_Div64_r1 : List AO := [⟨(.some 19), .none, (.mov (.t 2))⟩,
  ⟨(.some 20), .none, (.bin .eql (.t 19) (.c (.d (.int .u64 0))))⟩]
abbrev c_bits_Div64_r2 : List AO := [⟨(.some 21), .none, (.load .none (.c .undef))⟩,
  ⟨.none, .none, .bad⟩]
abbrev c_bits_Div64_r3 : List AO := [⟨(.some 22), .none, (.mov (.t 2))⟩,
  ⟨(.some 23), .none, (.mov (.t 0))⟩,
  ⟨(.some 24), .none, (.bin .leq (.t 22) (.t 23))⟩]
abbrev c_bits_Div64_r4 : List AO := [⟨(.some 25), .none, (.load .none (.c .undef))⟩,
  ⟨.none, .none, .bad⟩]
abbrev c_bits_Div64_r5 : List AO := [⟨(.some 26), .none, (.mov (.t 0))⟩,
  ⟨(.some 27), .none, (.bin .eql (.t 26) (.c (.d (.int .u64 0))))⟩]
abbrev c_bits_Div64_r6 : List AO := [⟨(.some 28), .none, (.mov (.t 1))⟩,
  ⟨(.some 29), .none, (.mov (.t 2))⟩,
  ⟨(.some 30), .none, (.bin .quo (.t 28) (.t 29))⟩,
  ⟨(.some 31), .none, (.mov (.t 1))⟩,
  ⟨(.some 32), .none, (.mov (.t 2))⟩,
  ⟨(.some 33), .none, (.bin .rem (.t 31) (.t 32))⟩,
  ⟨(.some 6), .none, (.mov (.t 30))⟩,
  ⟨(.some 7), .none, (.mov (.t 33))⟩]
abbrev c_bits_Div64_r7 : List AO := [⟨(.some 34), .none, (.mov (.t 2))⟩,
  ⟨(.some 35), .none, (.call 18 [(.t 34)])⟩,
  ⟨(.some 36), .none, (.conv .u64 (.t 35))⟩,
  ⟨(.some 8), .none, (.mov (.t 36))⟩]
abbrev c_bits_Div64_r8 : List AO := [⟨(.some 37), .none, (.mov (.t 2))⟩,
  ⟨(.some 38), .none, (.mov (.t 8))⟩,
  ⟨(.some 39), .none, (.bin .shl (.t 37) (.t 38))⟩,
  ⟨(.some 2), .none, (.mov (.t 39))⟩]
abbrev c_bits_Div64_r9 : List AO := [⟨(.some 40), .none, (.mov (.t 2))⟩,
  ⟨(.some 41), .none, (.bin .shr (.t 40) (.c (.d (.int .u64 32))))⟩,
  ⟨(.some 9), .none, (.mov (.t 41))⟩]
abbrev c_bits_Div64_r10 : List AO := [⟨(.some 42), .none, (.mov (.t 2))⟩,
  ⟨(.some 43), .none, (.bin .and (.t 42) (.c (.d (.int .u64 4294967295))))⟩,
  ⟨(.some 10), .none, (.mov (.t 43))⟩]
abbrev c_bits_Div64_r11 : List AO := [⟨(.some 44), .none, (.mov (.t 0))⟩,
  ⟨(.some 45), .none, (.mov (.t 8))⟩,
  ⟨(.some 46), .none, (.bin .shl (.t 44) (.t 45))⟩,
  ⟨(.some 47), .none, (.mov (.t 1))⟩,
  ⟨(.some 48), .none, (.mov (.t 8))⟩,
  ⟨(.some 49), .none, (.bin .sub (.c (.d (.int .u64 64))) (.t 48))⟩,
  ⟨(.some 50), .none, (.bin .shr (.t 47) (.t 49))⟩,
  ⟨(.some 51), .none, (.bin .or (.t 46) (.t 50))⟩,
  ⟨(.some 11), .none, (.mov (.t 51))⟩]
abbrev c_bits_Div64_r12 : List AO := [⟨(.some 52), .none, (.mov (.t 1))⟩,
  ⟨(.some 53), .none, (.mov (.t 8))⟩,
  ⟨(.some 54), .none, (.bin .shl (.t 52) (.t 53))⟩,
  ⟨(.some 12), .none, (.mov (.t 54))⟩]
abbrev c_bits_Div64_r13 : List AO := [⟨(.some 55), .none, (.mov (.t 12))⟩,
  ⟨(.some 56), .none, (.bin .shr (.t 55) (.c (.d (.int .u64 32))))⟩,
  ⟨(.some 13), .none, (.mov (.t 56))⟩]
abbrev c_bits_Div64_r14 : List AO := [⟨(.some 57), .none, (.mov (.t 12))⟩,
  ⟨(.some 58), .none, (.bin .and (.t 57) (.c (.d (.int .u64 4294967295))))⟩,
  ⟨(.some 14), .none, (.mov (.t 58))⟩]
abbrev c_bits_Div64_r15 : List AO := [⟨(.some 59), .none, (.mov (.t 11))⟩,
  ⟨(.some 60), .none, (.mov (.t 9))⟩,
  ⟨(.some 61), .none, (.bin .quo (.t 59) (.t 60))⟩,
  ⟨(.some 15), .none, (.mov (.t 61))⟩]
abbrev c_bits_Div64_r16 : List AO := [⟨(.some 62), .none, (.mov (.t 11))⟩,
  ⟨(.some 63), .none, (.mov (.t 15))⟩,
  ⟨(.some 64), .none, (.mov (.t 9))⟩,
  ⟨(.some 65), .none, (.bin .mul (.t 63) (.t 64))⟩,
  ⟨(.some 66), .none, (.bin .sub (.t 62) (.t 65))⟩,
  ⟨(.some 16), .none, (.mov (.t 66))⟩]
abbrev c_bits_Div64_r17 : List AO := [⟨(.some 67), .none, (.mov (.t 15))⟩,
  ⟨(.some 68), .none, (.bin .geq (.t 67) (.c (.d (.int .u64 4294967296))))⟩,
  ⟨(.some 69), .none, (.mov (.t 68))⟩,
  ⟨(.some 70), (.some ⟨69, .false⟩), (.mov (.t 15))⟩,
  ⟨(.some 71), (.some ⟨69, .false⟩), (.mov (.t 10))⟩,
  ⟨(.some 72), (.some ⟨69, .false⟩), (.bin .mul (.t 70) (.t 71))⟩,
  ⟨(.some 73), (.some ⟨69, .false⟩), (.mov (.t 16))⟩,
  ⟨(.some 74), (.some ⟨69, .false⟩), (.bin .mul (.c (.d (.int .u64 4294967296))) (.t 73))⟩,
  ⟨(.some 75), (.some ⟨69, .false⟩), (.mov (.t 13))⟩,
  ⟨(.some 76), (.some ⟨69, .false⟩), (.bin .add (.t 74) (.t 75))⟩,
  ⟨(.some 77), (.some ⟨69, .false⟩), (.bin .gtr (.t 72) (.t 76))⟩,
  ⟨(.some 78), .none, (.pick (.t 69) (.c (.d (.bool .true))) (.t 77))⟩]
abbrev c_bits_Div64_r18 : List AO := [⟨(.some 79), .none, (.mov (.t 15))⟩,
  ⟨(.some 80), .none, (.bin .sub (.t 79) (.c (.d (.int .u64 1))))⟩,
  ⟨(.some 15), .none, (.mov (.t 80))⟩]
abbrev c_bits_Div64_r19 : List AO := [⟨(.some 81), .none, (.mov (.t 16))⟩,
  ⟨(.some 82), .none, (.mov (.t 9))⟩,
  ⟨(.some 83), .none, (.bin .add (.t 81) (.t 82))⟩,
  ⟨(.some 16), .none, (.mov (.t 83))⟩]
abbrev c_bits_Div64_r20 : List AO := [⟨(.some 84), .none, (.mov (.t 16))⟩,
  ⟨(.some 85), .none, (.bin .geq (.t 84) (.c (.d (.int .u64 4294967296))))⟩]
abbrev c_bits_Div64_l0 : ACode := (.seq (.seq (.ops c_bits_Div64_r17) (.cond (.t 78) .skip (.exit 0))) (.block 1 (.seq (.ops c_bits_Div64_r18) (.seq (.ops c_bits_Div64_r19) (.seq (.ops c_bits_Div64_r20) (.cond (.t 85) (.exit 0) .skip))))))
abbrev c_bits_Div64_r21 : List AO := [⟨(.some 86), .none, (.mov (.t 11))⟩,
  ⟨(.some 87), .none, (.bin .mul (.t 86) (.c (.d (.int .u64 4294967296))))⟩,
  ⟨(.some 88), .none, (.mov (.t 13))⟩,
  ⟨(.some 89), .none, (.bin .add (.t 87) (.t 88))⟩,
  ⟨(.some 90), .none, (.mov (.t 15))⟩,
  ⟨(.some 91), .none, (.mov (.t 2))⟩,
  ⟨(.some 92), .none, (.bin .mul (.t 90) (.t 91))⟩,
  ⟨(.some 93), .none, (.bin .sub (.t 89) (.t 92))⟩,
  ⟨(.some 17), .none, (.mov (.t 93))⟩]
abbrev c_bits_Div64_r22 : List AO := [⟨(.some 94), .none, (.mov (.t 17))⟩,
  ⟨(.some 95), .none, (.mov (.t 9))⟩,
  ⟨(.some 96), .none, (.bin .quo (.t 94) (.t 95))⟩,
  ⟨(.some 18), .none, (.mov (.t 96))⟩]
abbrev c_bits_Div64_r23 : List AO := [⟨(.some 97), .none, (.mov (.t 17))⟩,
  ⟨(.some 98), .none, (.mov (.t 18))⟩,
  ⟨(.some 99), .none, (.mov (.t 9))⟩,
  ⟨(.some 100), .none, (.bin .mul (.t 98) (.t 99))⟩,
  ⟨(.some 101), .none, (.bin .sub (.t 97) (.t 100))⟩,
  ⟨(.some 16), .none, (.mov (.t 101))⟩]
abbrev c_bits_Div64_r24 : List AO := [⟨(.some 102), .none, (.mov (.t 18))⟩,
  ⟨(.some 103), .none, (.bin .geq (.t 102) (.c (.d (.int .u64 4294967296))))⟩,
  ⟨(.some 104), .none, (.mov (.t 103))⟩,
  ⟨(.some 105), (.some ⟨104, .false⟩), (.mov (.t 18))⟩,
  ⟨(.some 106), (.some ⟨104, .false⟩), (.mov (.t 10))⟩,
  ⟨(.some 107), (.some ⟨104, .false⟩), (.bin .mul (.t 105) (.t 106))⟩,
  ⟨(.some 108), (.some ⟨104, .false⟩), (.mov (.t 16))⟩,
  ⟨(.some 109), (.some ⟨104, .false⟩), (.bin .mul (.c (.d (.int .u64 4294967296))) (.t 108))⟩,
  ⟨(.some 110), (.some ⟨104, .false⟩), (.mov (.t 14))⟩,
  ⟨(.some 111), (.some ⟨104, .false⟩), (.bin .add (.t 109) (.t 110))⟩,
  ⟨(.some 112), (.some ⟨104, .false⟩), (.bin .gtr (.t 107) (.t 111))⟩,
  ⟨(.some 113), .none, (.pick (.t 104) (.c (.d (.bool .true))) (.t 112))⟩]
abbrev c_bits_Div64_r25 : List AO := [⟨(.some 114), .none, (.mov (.t 18))⟩,
  ⟨(.some 115), .none, (.bin .sub (.t 114) (.c (.d (.int .u64 1))))⟩,
  ⟨(.some 18), .none, (.mov (.t 115))⟩]
abbrev c_bits_Div64_r26 : List AO := [⟨(.some 116), .none, (.mov (.t 16))⟩,
  ⟨(.some 117), .none, (.mov (.t 9))⟩,
  ⟨(.some 118), .none, (.bin .add (.t 116) (.t 117))⟩,
  ⟨(.some 16), .none, (.mov (.t 118))⟩]
abbrev c_bits_Div64_r27 : List AO := [⟨(.some 119), .none, (.mov (.t 16))⟩,
  ⟨(.some 120), .none, (.bin .geq (.t 119) (.c (.d (.int .u64 4294967296))))⟩]
abbrev c_bits_Div64_l1 : ACode := (.seq (.seq (.ops c_bits_Div64_r24) (.cond (.t 113) .skip (.exit 2))) (.block 3 (.seq (.ops c_bits_Div64_r25) (.seq (.ops c_bits_Div64_r26) (.seq (.ops c_bits_Div64_r27) (.cond (.t 120) (.exit 2) .skip))))))
abbrev c_bits_Div64_r28 : List AO := [⟨(.some 121), .none, (.mov (.t 15))⟩,
  ⟨(.some 122), .none, (.bin .mul (.t 121) (.c (.d (.int .u64 4294967296))))⟩,
  ⟨(.some 123), .none, (.mov (.t 18))⟩,
  ⟨(.some 124), .none, (.bin .add (.t 122) (.t 123))⟩,
  ⟨(.some 125), .none, (.mov (.t 17))⟩,
  ⟨(.some 126), .none, (.bin .mul (.t 125) (.c (.d (.int .u64 4294967296))))⟩,
  ⟨(.some 127), .none, (.mov (.t 14))⟩,
  ⟨(.some 128), .none, (.bin .add (.t 126) (.t 127))⟩,
  ⟨(.some 129), .none, (.mov (.t 18))⟩,
  ⟨(.some 130), .none, (.mov (.t 2))⟩,
  ⟨(.some 131), .none, (.bin .mul (.t 129) (.t 130))⟩,
  ⟨(.some 132), .none, (.bin .sub (.t 128) (.t 131))⟩,
  ⟨(.some 133), .none, (.mov (.t 8))⟩,
  ⟨(.some 134), .none, (.bin .shr (.t 132) (.t 133))⟩,
  ⟨(.some 6), .none, (.mov (.t 124))⟩,
  ⟨(.some 7), .none, (.mov (.t 134))⟩]
abbrev c_bits_Div64 : AFunc := ⟨135, [(.tmp 6), (.tmp 7)], (.seq (.ops c_bits_Div64_r0) (.seq (.seq (.ops c_bits_Div64_r1) (.cond (.t 20) (.ops c_bits_Div64_r2) .skip)) (.seq (.seq (.ops c_bits_Div64_r3) (.cond (.t 24) (.ops c_bits_Div64_r4) .skip)) (.seq (.seq (.ops c_bits_Div64_r5) (.cond (.t 27) (.seq (.dops c_bits_Div64_r6) .ret) .skip)) (.seq (.ops c_bits_Div64_r7) (.seq (.ops c_bits_Div64_r8) (.seq (.ops c_bits_Div64_r9) (.seq (.ops c_bits_Div64_r10) (.seq (.ops c_bits_Div64_r11) (.seq (.ops c_bits_Div64_r12) (.seq (.ops c_bits_Div64_r13) (.seq (.ops c_bits_Div64_r14) (.seq (.ops c_bits_Div64_r15) (.seq (.ops c_bits_Div64_r16) (.seq (.block 0 (.loop c_bits_Div64_l0)) (.seq (.ops c_bits_Div64_r21) (.seq (.ops c_bits_Div64_r22) (.seq (.ops c_bits_Div64_r23) (.seq (.block 2 (.loop c_bits_Div64_l1)) (.seq (.ops c_bits_Div64_r28) .ret))))))))))))))))))))⟩
theorem comp_bits_Div64 : funcC Try.prog 15 = some c_bits_Div64 := by kernel_rfl
/-! function 16 : poundage round.away -/
abbrev f_round_away : FuncId := 16
abbrev c_round_away_r0 : List AO := [⟨(.some 10), .none, (.mov (.c (.d (.bool .false))))⟩]
abbrev c_round_away_r1 : List AO := [⟨(.some 13), .none, (.mov (.t 3))⟩,
  ⟨(.some 14), .none, (.bin .eql (.t 13) (.c (.d (.int .u64 0))))⟩]
abbrev c_round_away_r2 : List AO := [⟨(.some 10), .none, (.mov (.c (.d (.bool .false))))⟩]
abbrev c_round_away_r3 : List AO := [⟨(.some 15), .none, (.mov (.t 3))⟩,
  ⟨(.some 16), .none, (.mov (.t 4))⟩,
  ⟨(.some 17), .none, (.mov (.t 3))⟩,
  ⟨(.some 18), .none, (.bin .sub (.t 16) (.t 17))⟩,
  ⟨(.some 19), .none, (.bin .gtr (.t 15) (.t 18))⟩,
  ⟨(.some 11), .none, (.mov (.t 19))⟩]
abbrev c_round_away_r4 : List AO := [⟨(.some 20), .none, (.mov (.t 3))⟩,
  ⟨(.some 21), .none, (.mov (.t 4))⟩,
  ⟨(.some 22), .none, (.mov (.t 3))⟩,
  ⟨(.some 23), .none, (.bin .sub (.t 21) (.t 22))⟩,
  ⟨(.some 24), .none, (.bin .eql (.t 20) (.t 23))⟩,
  ⟨(.some 12), .none, (.mov (.t 24))⟩]
abbrev c_round_away_r5 : List AO := [⟨(.some 25), .none, (.mov (.t 0))⟩]
abbrev c_round_away_r6 : List AO := [⟨(.some 27), .none, (.bin .eql (.t 25) (.c (.d (.int .i64 0))))⟩,
  ⟨(.some 26), .none, (.mov (.t 27))⟩]
abbrev c_round_away_r7 : List AO := [⟨(.some 28), .none, (.mov (.t 1))⟩,
  ⟨(.some 10), .none, (.mov (.t 28))⟩]
abbrev c_round_away_r8 : List AO := [⟨(.some 30), .none, (.bin .eql (.t 25) (.c (.d (.int .i64 1))))⟩,
  ⟨(.some 29), .none, (.mov (.t 30))⟩]
abbrev c_round_away_r9 : List AO := [⟨(.some 31), .none, (.mov (.t 1))⟩,
  ⟨(.some 32), .none, (.un .not (.t 31))⟩,
  ⟨(.some 10), .none, (.mov (.t 32))⟩]
abbrev c_round_away_r10 : List AO := [⟨(.some 34), .none, (.bin .eql (.t 25) (.c (.d (.int .i64 2))))⟩,
  ⟨(.some 33), .none, (.mov (.t 34))⟩]
abbrev c_round_away_r11 : List AO := [⟨(.some 35), .none, (.mov (.t 11))⟩,
  ⟨(.some 36), .none, (.mov (.t 35))⟩,
  ⟨(.some 37), (.some ⟨36, .false⟩), (.mov (.t 12))⟩,
  ⟨(.some 38), (.some ⟨36, .false⟩), (.mov (.t 37))⟩,
  ⟨(.some 39), (.some ⟨38, .true⟩), (.mov (.t 1))⟩,
  ⟨(.some 40), (.some ⟨38, .true⟩), (.un .not (.t 39))⟩,
  ⟨(.some 41), (.some ⟨36, .false⟩), (.pick (.t 38) (.t 40) (.c (.d (.bool .false))))⟩,
  ⟨(.some 42), .none, (.pick (.t 36) (.c (.d (.bool .true))) (.t 41))⟩,
  ⟨(.some 10), .none, (.mov (.t 42))⟩]
abbrev c_round_away_r12 : List AO := [⟨(.some 43), .none, (.mov (.t 11))⟩,
  ⟨(.some 44), .none, (.mov (.t 43))⟩,
  ⟨(.some 45), (.some ⟨44, .false⟩), (.mov (.t 12))⟩,
  ⟨(.some 46), (.some ⟨44, .false⟩), (.mov (.t 45))⟩,
  ⟨(.some 47), (.some ⟨46, .true⟩), (.mov (.t 2))⟩,
  ⟨(.some 48), (.some ⟨46, .true⟩), (.bin .rem (.t 47) (.c (.d (.int .u64 2))))⟩,
  ⟨(.some 49), (.some ⟨46, .true⟩), (.bin .eql (.t 48) (.c (.d (.int .u64 1))))⟩,
  ⟨(.some 50), (.some ⟨44, .false⟩), (.pick (.t 46) (.t 49) (.c (.d (.bool .false))))⟩,
  ⟨(.some 51), .none, (.pick (.t 44) (.c (.d (.bool .true))) (.t 50))⟩,
  ⟨(.some 10), .none, (.mov (.t 51))⟩]
abbrev c_round_away : AFunc := ⟨52, [(.tmp 10)], (.seq (.ops c_round_away_r0) (.seq (.seq (.ops c_round_away_r1) (.cond (.t 14) (.seq (.ops c_round_away_r2) .ret) .skip)) (.seq (.ops c_round_away_r3) (.seq (.ops c_round_away_r4) (.seq (.seq (.ops c_round_away_r5) (.block 0 (.seq (.ops c_round_away_r6) (.cond (.t 26) (.seq (.ops c_round_away_r7) .ret) (.seq (.ops c_round_away_r8) (.cond (.t 29) (.seq (.ops c_round_away_r9) .ret) (.seq (.ops c_round_away_r10) (.cond (.t 33) (.seq (.ops c_round_away_r11) .ret) .skip)))))))) (.seq (.ops c_round_away_r12) .ret))))))⟩
theorem comp_round_away : funcC Try.prog 16 = some c_round_away := by kernel_rfl
/-! function 17 : poundage round.signed -/
abbrev f_round_signed : FuncId := 17
abbrev c_round_signed_r0 : List AO := [⟨(.some 4), .none, (.mov (.c (.d (.int .i64 0))))⟩,
  ⟨(.some 5), .none, (.mov (.c (.d (.bool .false))))⟩]
abbrev c_round_signed_r1 : List AO := [⟨(.some 7), .none, (.mov (.t 0))⟩,
  ⟨(.some 8), .none, (.mov (.t 7))⟩,
  ⟨(.some 9), (.some ⟨8, .true⟩), (.mov (.t 1))⟩,
  ⟨(.some 10), (.some ⟨8, .true⟩), (.bin .leq (.t 9) (.c (.d (.int .u64 9223372036854775808))))⟩,
  ⟨(.some 11), .none, (.pick (.t 8) (.t 10) (.c (.d (.bool .false))))⟩,
  ⟨(.some 6), .none, (.mov (.t 11))⟩]
abbrev c_round_signed_r2 : List AO := [⟨(.some 12), .none, (.mov (.t 1))⟩,
  ⟨(.some 13), .none, (.un .neg (.t 12))⟩,
  ⟨(.some 14), .none, (.conv .i64 (.t 13))⟩,
  ⟨(.some 4), .none, (.mov (.t 14))⟩,
  ⟨(.some 5), .none, (.mov (.c (.d (.bool .true))))⟩]
abbrev c_round_signed_r3 : List AO := [⟨(.some 16), .none, (.mov (.t 0))⟩,
  ⟨(.some 17), .none, (.un .not (.t 16))⟩,
  ⟨(.some 18), .none, (.mov (.t 17))⟩,
  ⟨(.some 19), (.some ⟨18, .true⟩), (.mov (.t 1))⟩,
  ⟨(.some 20), (.some ⟨18, .true⟩), (.bin .leq (.t 19) (.c (.d (.int .u64 9223372036854775807))))⟩,
  ⟨(.some 21), .none, (.pick (.t 18) (.t 20) (.c (.d (.bool .false))))⟩,
  ⟨(.some 15), .none, (.mov (.t 21))⟩]
abbrev c_round_signed_r4 : List AO := [⟨(.some 22), .none, (.mov (.t 1))⟩,
  ⟨(.some 23), .none, (.conv .i64 (.t 22))⟩,
  ⟨(.some 4), .none, (.mov (.t 23))⟩,
  ⟨(.some 5), .none, (.mov (.c (.d (.bool .true))))⟩]
abbrev c_round_signed_r5 : List AO := [⟨(.some 4), .none, (.mov (.c (.d (.int .i64 0))))⟩,
  ⟨(.some 5), .none, (.mov (.c (.d (.bool .false))))⟩]
abbrev c_round_signed : AFunc := ⟨24, [(.tmp 4), (.tmp 5)], (.seq (.ops c_round_signed_r0) (.seq (.block 0 (.seq (.ops c_round_signed_r1) (.cond (.t 6) (.seq (.ops c_round_signed_r2) .ret) (.seq (.ops c_round_signed_r3) (.cond (.t 15) (.seq (.ops c_round_signed_r4) .ret) .skip))))) (.seq (.ops c_round_signed_r5) .ret)))⟩
theorem comp_round_signed : funcC Try.prog 17 = some c_round_signed := by kernel_rfl
/-! function 18 : math bits.LeadingZeros64 -/
abbrev f_bits_LeadingZeros64 : FuncId := 18
abbrev c_bits_LeadingZeros64_r0 : List AO := [⟨(.some 2), .none, (.mov (.c (.d (.int .i64 0))))⟩]
abbrev c_bits_LeadingZeros64_r1 : List AO := [⟨(.some 3), .none, (.mov (.t 0))⟩,
  ⟨(.some 4), .none, (.call 19 [(.t 3)])⟩,
  ⟨(.some 5), .none, (.bin .sub (.c (.d (.int .i64 64))) (.t 4))⟩,
  ⟨(.some 2), .none, (.mov (.t 5))⟩]
abbrev c_bits_LeadingZeros64 : AFunc := ⟨6, [(.tmp 2)], (.seq (.ops c_bits_LeadingZeros64_r0) (.seq (.ops c_bits_LeadingZeros64_r1) .ret))⟩
theorem comp_bits_LeadingZeros64 : funcC Try.prog 18 = some c_bits_LeadingZeros64 := by kernel_rfl
/-! function 19 : math bits.Len64 -/
abbrev f_bits_Len64 : FuncId := 19
abbrev c_bits_Len64_r0 : List AO := [⟨(.some 2), .none, (.mov (.c (.d (.int .i64 0))))⟩]
abbrev c_bits_Len64_r1 : List AO := [⟨(.some 3), .none, (.mov (.t 0))⟩,
  ⟨(.some 4), .none, (.bin .geq (.t 3) (.c (.d (.int .u64 4294967296))))⟩]
abbrev c_bits_Len64_r2 : List AO := [⟨(.some 5), .none, (.mov (.t 0))⟩,
  ⟨(.some 6), .none, (.bin .shr (.t 5) (.c (.d (.int .u64 32))))⟩,
  ⟨(.some 0), .none, (.mov (.t 6))⟩]
abbrev c_bits_Len64_r3 : List AO := [⟨(.some 2), .none, (.mov (.c (.d (.int .i64 32))))⟩]
abbrev c_bits_Len64_r4 : List AO := [⟨(.some 7), .none, (.mov (.t 0))⟩,
  ⟨(.some 8), .none, (.bin .geq (.t 7) (.c (.d (.int .u64 65536))))⟩]
abbrev c_bits_Len64_r5 : List AO := [⟨(.some 9), .none, (.mov (.t 0))⟩,
  ⟨(.some 10), .none, (.bin .shr (.t 9) (.c (.d (.int .u64 16))))⟩,
  ⟨(.some 0), .none, (.mov (.t 10))⟩]
abbrev c_bits_Len64_r6 : List AO := [⟨(.some 11), .none, (.mov (.t 2))⟩,
  ⟨(.some 12), .none, (.bin .add (.t 11) (.c (.d (.int .i64 16))))⟩,
  ⟨(.some 2), .none, (.mov (.t 12))⟩]
abbrev c_bits_Len64_r7 : List AO := [⟨(.some 13), .none, (.mov (.t 0))⟩,
  ⟨(.some 14), .none, (.bin .geq (.t 13) (.c (.d (.int .u64 256))))⟩]
abbrev c_bits_Len64_r8 : List AO := [⟨(.some 15), .none, (.mov (.t 0))⟩,
  ⟨(.some 16), .none, (.bin .shr (.t 15) (.c (.d (.int .u64 8))))⟩,
  ⟨(.some 0), .none, (.mov (.t 16))⟩]
abbrev c_bits_Len64_r9 : List AO := [⟨(.some 17), .none, (.mov (.t 2))⟩,
  ⟨(.some 18), .none, (.bin .add (.t 17) (.c (.d (.int .i64 8))))⟩,
  ⟨(.some 2), .none, (.mov (.t 18))⟩]
abbrev c_bits_Len64_r10 : List AO := [⟨(.some 19), .none, (.mov (.t 2))⟩,
  ⟨(.some 20), .none, (.mov (.t 0))⟩,
  ⟨(.some 21), .none, (.conv .u8 (.t 20))⟩,
  ⟨(.some 22), .none, (.idxStr (.c (.d (.str ⟨⟨[0, 1, 2, 2, 3, 3, 3, 3, 4, 4, 4, 4, 4, 4, 4, 4, 5, 5, 5, 5, 5, 5, 5, 5, 5, 5, 5, 5, 5, 5, 5, 5, 6, 6, 6, 6, 6, 6, 6, 6, 6, 6, 6, 6, 6, 6, 6, 6, 6, 6, 6, 6, 6, 6, 6, 6, 6, 6, 6, 6, 6, 6, 6, 6, 7, 7, 7, 7, 7, 7, 7, 7, 7, 7, 7, 7, 7, 7, 7, 7, 7, 7, 7, 7, 7, 7, 7, 7, 7, 7, 7, 7, 7, 7, 7, 7, 7, 7, 7, 7, 7, 7, 7, 7, 7, 7, 7, 7, 7, 7, 7, 7, 7, 7, 7, 7, 7, 7, 7, 7, 7, 7, 7, 7, 7, 7, 7, 7, 8, 8, 8, 8, 8, 8, 8, 8, 8, 8, 8, 8, 8, 8, 8, 8, 8, 8, 8, 8, 8, 8, 8, 8, 8, 8, 8, 8, 8, 8, 8, 8, 8, 8, 8, 8, 8, 8, 8, 8, 8, 8, 8, 8, 8, 8, 8, 8, 8, 8, 8, 8, 8, 8, 8, 8, 8, 8, 8, 8, 8, 8, 8, 8, 8, 8, 8, 8, 8, 8, 8, 8, 8, 8, 8, 8, 8, 8, 8, 8, 8, 8, 8, 8, 8, 8, 8, 8, 8, 8, 8, 8, 8, 8, 8, 8, 8, 8, 8, 8, 8, 8, 8, 8, 8, 8, 8, 8, 8, 8, 8, 8, 8, 8, 8, 8, 8, 8, 8, 8, 8, 8, 8, 8, 8, 8, 8, 8]⟩⟩))) (.t 21))⟩,
  ⟨(.some 23), .none, (.conv .i64 (.t 22))⟩,
  ⟨(.some 24), .none, (.bin .add (.t 19) (.t 23))⟩,
  ⟨(.some 2), .none, (.mov (.t 24))⟩]
abbrev c_bits_Len64 : AFunc := ⟨25, [(.tmp 2)], (.seq (.ops c_bits_Len64_r0) (.seq (.seq (.ops c_bits_Len64_r1) (.cond (.t 4) (.seq (.ops c_bits_Len64_r2) (.ops c_bits_Len64_r3)) .skip)) (.seq (.seq (.ops c_bits_Len64_r4) (.cond (.t 8) (.seq (.ops c_bits_Len64_r5) (.ops c_bits_Len64_r6)) .skip)) (.seq (.seq (.ops c_bits_Len64_r7) (.cond (.t 14) (.seq (.ops c_bits_Len64_r8) (.ops c_bits_Len64_r9)) .skip)) (.seq (.ops c_bits_Len64_r10) .ret)))))⟩
theorem comp_bits_Len64 : funcC Try.prog 19 = some c_bits_Len64 := by kernel_rfl
/-! function 20 :  runtime.boundsError .Error -/
abbrev f__runtime_boundsError_Error : FuncId := 20
/-! function 21 :  runtime.boundsError .RuntimeError -/
abbrev f__runtime_boundsError_RuntimeError : FuncId := 21
/-! function 22 :  runtime.errorString .Error -/
abbrev f__runtime_errorString_Error : FuncId := 22
/-! function 23 :  runtime.errorString .RuntimeError -/
abbrev f__runtime_errorString_RuntimeError : FuncId := 23
/-! function 24 :  runtime.plainError .Error -/
abbrev f__runtime_plainError_Error : FuncId := 24
/-! function 25 :  runtime.plainError .RuntimeError -/
abbrev f__runtime_plainError_RuntimeError : FuncId := 25
/-! function 26 :  runtime.errorAddressString .Error -/
abbrev f__runtime_errorAddressString_Error : FuncId := 26
/-! function 27 :  runtime.errorAddressString .RuntimeError -/
abbrev f__runtime_errorAddressString_RuntimeError : FuncId := 27
/-! function 28 :  runtime.TypeAssertionError .Error -/
abbrev f__runtime_TypeAssertionError_Error : FuncId := 28
/-! function 29 :  runtime.TypeAssertionError .RuntimeError -/
abbrev f__runtime_TypeAssertionError_RuntimeError : FuncId := 29
/-! function 30 :  runtime.PanicNilError .Error -/
abbrev f__runtime_PanicNilError_Error : FuncId := 30
/-! function 31 :  runtime.PanicNilError .RuntimeError -/
abbrev f__runtime_PanicNilError_RuntimeError : FuncId := 31
/-! function 32 :  internal abi.Type .Align -/
abbrev f_abi_Type_Align : FuncId := 32
/-! function 33 :  internal runtime maps.unhashableTypeError .Error -/
abbrev f_maps_unhashableTypeError_Error : FuncId := 33
/-! function 34 :  internal runtime maps.unhashableTypeError .RuntimeError -/
abbrev f_maps_unhashableTypeError_RuntimeError : FuncId := 34
/-! function 35 :  internal abi.Kind .String -/
abbrev f_abi_Kind_String : FuncId := 35
end Go.Proofs.Ytlgheeiefnadhaa.Abs
