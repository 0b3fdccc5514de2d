/- The given functions, as the abstract machine has them: printed by a program of this session. No claim stands here. -/
import Derived.Test.YtlflfciebidddaaProg
import Derived.Test.YtlflfciebidddaaAbs1
import Derived.KernelRfl
namespace Go.Proofs.Ytlflfciebidddaa.Abs
open Go Go.RowKit Go.Proofs
/-! function 3 : poundage poundagelaw13.PriceIs -/
abbrev f_poundagelaw13_PriceIs : FuncId := 3
abbrev c_poundagelaw13_PriceIs_r0 : List AO := [⟨(.some 3), .none, (.box 26 (.t 0))⟩,
  ⟨(.some 6), .none, (.mov (.c (.d (.bool .false))))⟩]
abbrev c_poundagelaw13_PriceIs_r1 : List AO := [⟨(.some 11), .none, (.call 8 [])⟩,
  ⟨(.some 12), .none, (.un .not (.t 11))⟩]
abbrev c_poundagelaw13_PriceIs_r2 : List AO := [⟨(.some 6), .none, (.mov (.c (.d (.bool .false))))⟩]
abbrev c_poundagelaw13_PriceIs_r3 : List AO := [⟨(.some 13), .none, (.load (.some 6) (.t 3))⟩,
  ⟨(.some 14), .none, (.call 9 [(.t 13)])⟩,
  ⟨(.some 15), .none, (.mov (.t 14))⟩,
  ⟨(.some 16), (.some ⟨15, .false⟩), (.mov (.t 2))⟩,
  ⟨(.some 17), (.some ⟨15, .false⟩), (.len (.t 16))⟩,
  ⟨(.some 18), (.some ⟨15, .false⟩), (.bin .gtr (.t 17) (.c (.d (.int .i64 100))))⟩,
  ⟨(.some 19), .none, (.pick (.t 15) (.c (.d (.bool .true))) (.t 18))⟩]
abbrev c_poundagelaw13_PriceIs_r4 : List AO := [⟨(.some 6), .none, (.mov (.c (.d (.bool .true))))⟩]
abbrev c_poundagelaw13_PriceIs_r5 : List AO := [⟨(.some 21), .none, (.load (.some 6) (.t 3))⟩,
  ⟨(.some 22), .none, (.mov (.t 1))⟩,
  ⟨(.some 23), .none, (.mov (.t 2))⟩,
  ⟨(.some 24), .none, (.call 10 [(.t 21), (.t 22), (.t 23)])⟩,
  ⟨(.some 20), .none, (.mov (.t 24))⟩,
  ⟨(.some 25), .none, (.extract (.t 20) 0)⟩,
  ⟨(.some 26), .none, (.extract (.t 20) 1)⟩,
  ⟨(.some 7), .none, (.mov (.t 25))⟩,
  ⟨(.some 8), .none, (.mov (.t 26))⟩]
abbrev c_poundagelaw13_PriceIs_r6 : List AO := [⟨(.some 28), .none, (.load (.some 6) (.t 3))⟩,
  ⟨(.some 29), .none, (.mov (.t 1))⟩,
  ⟨(.some 30), .none, (.mov (.t 2))⟩,
  ⟨(.some 31), .none, (.call 11 [(.t 28), (.t 29), (.t 30)])⟩,
  ⟨(.some 27), .none, (.mov (.t 31))⟩,
  ⟨(.some 32), .none, (.extract (.t 27) 0)⟩,
  ⟨(.some 33), .none, (.extract (.t 27) 1)⟩,
  ⟨(.some 9), .none, (.mov (.t 32))⟩,
  ⟨(.some 10), .none, (.mov (.t 33))⟩]
abbrev c_poundagelaw13_PriceIs_r7 : List AO := [⟨(.some 34), .none, (.mov (.t 7))⟩,
  ⟨(.some 35), .none, (.mov (.t 9))⟩,
  ⟨(.some 36), .none, (.bin .eql (.t 34) (.t 35))⟩,
  ⟨(.some 37), .none, (.mov (.t 36))⟩,
  ⟨(.some 38), (.some ⟨37, .true⟩), (.mov (.t 8))⟩,
  ⟨(.some 39), (.some ⟨37, .true⟩), (.mov (.t 10))⟩,
  ⟨(.some 40), (.some ⟨37, .true⟩), (.bin .eql (.t 38) (.t 39))⟩,
  ⟨(.some 41), .none, (.pick (.t 37) (.t 40) (.c (.d (.bool .false))))⟩,
  ⟨(.some 6), .none, (.mov (.t 41))⟩]
abbrev c_poundagelaw13_PriceIs : AFunc := ⟨42, [(.tmp 6)], (.seq (.ops c_poundagelaw13_PriceIs_r0) (.seq (.seq (.ops c_poundagelaw13_PriceIs_r1) (.cond (.t 12) (.seq (.ops c_poundagelaw13_PriceIs_r2) .ret) .skip)) (.seq (.seq (.ops c_poundagelaw13_PriceIs_r3) (.cond (.t 19) (.seq (.ops c_poundagelaw13_PriceIs_r4) .ret) .skip)) (.seq (.ops c_poundagelaw13_PriceIs_r5) (.seq (.ops c_poundagelaw13_PriceIs_r6) (.seq (.ops c_poundagelaw13_PriceIs_r7) .ret))))))⟩
theorem comp_poundagelaw13_PriceIs : funcC Try.prog 3 = some c_poundagelaw13_PriceIs := by kernel_rfl
/-! function 4 : poundage poundagelaw13.PriceParts -/
abbrev f_poundagelaw13_PriceParts : FuncId := 4
abbrev c_poundagelaw13_PriceParts_r0 : List AO := [⟨(.some 2), .none, (.box 39 (.t 0))⟩,
  ⟨(.some 4), .none, (.mov (.c (.d (.bool .false))))⟩]
abbrev c_poundagelaw13_PriceParts_r1 : List AO := [⟨(.some 10), .none, (.call 8 [])⟩,
  ⟨(.some 11), .none, (.un .not (.t 10))⟩]
abbrev c_poundagelaw13_PriceParts_r2 : List AO := [⟨(.some 4), .none, (.mov (.c (.d (.bool .false))))⟩]
abbrev c_poundagelaw13_PriceParts_r3 : List AO := [⟨(.some 12), .none, (.fieldAddr 6 (.t 2))⟩,
  ⟨(.some 13), .none, (.load .none (.t 12))⟩,
  ⟨(.some 14), .none, (.len (.t 13))⟩,
  ⟨(.some 15), .none, (.bin .gtr (.t 14) (.c (.d (.int .i64 40))))⟩,
  ⟨(.some 16), .none, (.mov (.t 15))⟩,
  ⟨(.some 17), (.some ⟨16, .false⟩), (.fieldAddr 8 (.t 2))⟩,
  ⟨(.some 18), (.some ⟨16, .false⟩), (.load .none (.t 17))⟩,
  ⟨(.some 19), (.some ⟨16, .false⟩), (.len (.t 18))⟩,
  ⟨(.some 20), (.some ⟨16, .false⟩), (.bin .gtr (.t 19) (.c (.d (.int .i64 40))))⟩,
  ⟨(.some 21), .none, (.pick (.t 16) (.c (.d (.bool .true))) (.t 20))⟩]
abbrev c_poundagelaw13_PriceParts_r4 : List AO := [⟨(.some 4), .none, (.mov (.c (.d (.bool .true))))⟩]
abbrev c_poundagelaw13_PriceParts_r5 : List AO := [⟨(.some 22), .none, (.load (.some 9) (.t 2))⟩,
  ⟨(.some 5), .none, (.alloc 39 [(.d (.int .i64 0)), (.d (.int .i64 0)), (.d (.int .i64 0)), (.d (.int .i64 0)), (.d (.int .i64 0)), (.d (.int .i64 0)), (.nilsl 2), (.d (.int .i64 0)), (.nilsl 3)])⟩,
  ⟨.none, .none, (.store 9 (.t 5) (.t 22))⟩]
abbrev c_poundagelaw13_PriceParts_r6 : List AO := [⟨(.some 23), .none, (.fieldAddr 0 (.t 5))⟩,
  ⟨.none, .none, (.store 1 (.t 23) (.c (.d (.int .i64 0))))⟩]
abbrev c_poundagelaw13_PriceParts_r7 : List AO := [⟨(.some 24), .none, (.fieldAddr 1 (.t 5))⟩,
  ⟨.none, .none, (.store 1 (.t 24) (.c (.d (.int .i64 0))))⟩]
abbrev c_poundagelaw13_PriceParts_r8 : List AO := [⟨(.some 25), .none, (.fieldAddr 2 (.t 5))⟩,
  ⟨.none, .none, (.store 1 (.t 25) (.c (.d (.int .i64 0))))⟩]
abbrev c_poundagelaw13_PriceParts_r9 : List AO := [⟨(.some 26), .none, (.build [(.d (.str ⟨⟨[]⟩⟩)), (.d (.str ⟨⟨[]⟩⟩)), (.d (.int .i64 0)), (.d (.int .i64 0)), (.d (.int .i64 0))] [])⟩,
  ⟨(.some 27), .none, (.buildSlice 42 5 1 [(.d (.str ⟨⟨[]⟩⟩)), (.d (.str ⟨⟨[]⟩⟩)), (.d (.int .i64 0)), (.d (.int .i64 0)), (.d (.int .i64 0))] [⟨0, (.t 26)⟩])⟩,
  ⟨(.some 28), .none, (.build [(.d (.str ⟨⟨[]⟩⟩)), (.d (.int .i64 0)), (.d (.int .i64 0)), (.nilsl 5), (.nilsl 3), (.nilsl 9)] [⟨3, ⟨1, (.t 27)⟩⟩])⟩,
  ⟨(.some 29), .none, (.load (.some 9) (.t 5))⟩,
  ⟨(.some 30), .none, (.call 12 [(.t 28), (.t 29)])⟩,
  ⟨(.some 31), .none, (.un .not (.t 30))⟩]
abbrev c_poundagelaw13_PriceParts_r10 : List AO := [⟨(.some 4), .none, (.mov (.c (.d (.bool .true))))⟩]
abbrev c_poundagelaw13_PriceParts_r11 : List AO := [⟨(.some 33), .none, (.load (.some 9) (.t 2))⟩,
  ⟨(.some 34), .none, (.mov (.t 1))⟩,
  ⟨(.some 35), .none, (.call 13 [(.t 33), (.t 34)])⟩,
  ⟨(.some 32), .none, (.mov (.t 35))⟩,
  ⟨(.some 36), .none, (.extract (.t 32) 0)⟩,
  ⟨(.some 37), .none, (.extract (.t 32) 1)⟩,
  ⟨(.some 6), .none, (.mov (.t 36))⟩,
  ⟨(.some 7), .none, (.mov (.t 37))⟩]
abbrev c_poundagelaw13_PriceParts_r12 : List AO := [⟨(.some 39), .none, (.load (.some 9) (.t 2))⟩,
  ⟨(.some 40), .none, (.mov (.t 1))⟩,
  ⟨(.some 41), .none, (.call 14 [(.t 39), (.t 40)])⟩,
  ⟨(.some 38), .none, (.mov (.t 41))⟩,
  ⟨(.some 42), .none, (.extract (.t 38) 0)⟩,
  ⟨(.some 43), .none, (.extract (.t 38) 1)⟩,
  ⟨(.some 8), .none, (.mov (.t 42))⟩,
  ⟨(.some 9), .none, (.mov (.t 43))⟩]
abbrev c_poundagelaw13_PriceParts_r13 : List AO := [⟨(.some 44), .none, (.mov (.t 6))⟩,
  ⟨(.some 45), .none, (.mov (.t 8))⟩,
  ⟨(.some 46), .none, (.bin .eql (.t 44) (.t 45))⟩,
  ⟨(.some 47), .none, (.mov (.t 46))⟩,
  ⟨(.some 48), (.some ⟨47, .true⟩), (.mov (.t 7))⟩,
  ⟨(.some 49), (.some ⟨47, .true⟩), (.mov (.t 9))⟩,
  ⟨(.some 50), (.some ⟨47, .true⟩), (.binb .false (.t 48) (.t 49))⟩,
  ⟨(.some 51), .none, (.pick (.t 47) (.t 50) (.c (.d (.bool .false))))⟩,
  ⟨(.some 4), .none, (.mov (.t 51))⟩]
abbrev c_poundagelaw13_PriceParts : AFunc := ⟨52, [(.tmp 4)], (.seq (.ops c_poundagelaw13_PriceParts_r0) (.seq (.seq (.ops c_poundagelaw13_PriceParts_r1) (.cond (.t 11) (.seq (.ops c_poundagelaw13_PriceParts_r2) .ret) .skip)) (.seq (.seq (.ops c_poundagelaw13_PriceParts_r3) (.cond (.t 21) (.seq (.ops c_poundagelaw13_PriceParts_r4) .ret) .skip)) (.seq (.ops c_poundagelaw13_PriceParts_r5) (.seq (.ops c_poundagelaw13_PriceParts_r6) (.seq (.ops c_poundagelaw13_PriceParts_r7) (.seq (.ops c_poundagelaw13_PriceParts_r8) (.seq (.seq (.ops c_poundagelaw13_PriceParts_r9) (.cond (.t 31) (.seq (.ops c_poundagelaw13_PriceParts_r10) .ret) .skip)) (.seq (.ops c_poundagelaw13_PriceParts_r11) (.seq (.ops c_poundagelaw13_PriceParts_r12) (.seq (.ops c_poundagelaw13_PriceParts_r13) .ret)))))))))))⟩
theorem comp_poundagelaw13_PriceParts : funcC Try.prog 4 = some c_poundagelaw13_PriceParts := by kernel_rfl
/-! function 6 : poundage poundagelaw13.PriceApart -/
abbrev f_poundagelaw13_PriceApart : FuncId := 6
abbrev c_poundagelaw13_PriceApart_r0 : List AO := [⟨(.some 3), .none, (.box 26 (.t 0))⟩,
  ⟨(.some 6), .none, (.mov (.c (.d (.bool .false))))⟩]
abbrev c_poundagelaw13_PriceApart_r1 : List AO := [⟨(.some 18), .none, (.call 8 [])⟩,
  ⟨(.some 19), .none, (.un .not (.t 18))⟩]
abbrev c_poundagelaw13_PriceApart_r2 : List AO := [⟨(.some 6), .none, (.mov (.c (.d (.bool .false))))⟩]
abbrev c_poundagelaw13_PriceApart_r3 : List AO := [⟨(.some 20), .none, (.load (.some 6) (.t 3))⟩,
  ⟨(.some 21), .none, (.call 9 [(.t 20)])⟩,
  ⟨(.some 22), .none, (.mov (.t 21))⟩,
  ⟨(.some 23), (.some ⟨22, .false⟩), (.mov (.t 2))⟩,
  ⟨(.some 24), (.some ⟨22, .false⟩), (.len (.t 23))⟩,
  ⟨(.some 25), (.some ⟨22, .false⟩), (.bin .gtr (.t 24) (.c (.d (.int .i64 4))))⟩,
  ⟨(.some 26), .none, (.pick (.t 22) (.c (.d (.bool .true))) (.t 25))⟩]
abbrev c_poundagelaw13_PriceApart_r4 : List AO := [⟨(.some 6), .none, (.mov (.c (.d (.bool .true))))⟩]
abbrev c_poundagelaw13_PriceApart_r5 : List AO := [⟨(.some 28), .none, (.load (.some 6) (.t 3))⟩,
  ⟨(.some 29), .none, (.mov (.t 1))⟩,
  ⟨(.some 30), .none, (.mov (.t 2))⟩,
  ⟨(.some 31), .none, (.call 10 [(.t 28), (.t 29), (.t 30)])⟩,
  ⟨(.some 27), .none, (.mov (.t 31))⟩,
  ⟨(.some 32), .none, (.extract (.t 27) 0)⟩,
  ⟨(.some 33), .none, (.extract (.t 27) 1)⟩,
  ⟨(.some 7), .none, (.mov (.t 32))⟩,
  ⟨(.some 8), .none, (.mov (.t 33))⟩]
abbrev c_poundagelaw13_PriceApart_r6 : List AO := [⟨(.some 34), .none, (.mov (.t 8))⟩,
  ⟨(.some 35), .none, (.bin .neq (.t 34) (.c (.d (.int .i64 0))))⟩,
  ⟨(.some 36), .none, (.mov (.t 35))⟩,
  ⟨(.some 37), (.some ⟨36, .false⟩), (.mov (.t 7))⟩,
  ⟨(.some 38), (.some ⟨36, .false⟩), (.bin .gtr (.t 37) (.c (.d (.int .i64 1152921504606846976))))⟩,
  ⟨(.some 39), .none, (.pick (.t 36) (.c (.d (.bool .true))) (.t 38))⟩]
abbrev c_poundagelaw13_PriceApart_r7 : List AO := [⟨(.some 6), .none, (.mov (.c (.d (.bool .true))))⟩]
abbrev c_poundagelaw13_PriceApart_r8 : List AO := [⟨(.some 40), .none, (.mov (.t 2))⟩,
  ⟨(.some 41), .none, (.len (.t 40))⟩,
  ⟨(.some 42), .none, (.make 3 1 8 [(.d (.int .i64 0))] (.t 41))⟩,
  ⟨(.some 9), .none, (.mov (.t 42))⟩]
abbrev c_poundagelaw13_PriceApart_r9 : List AO := [⟨(.some 44), .none, (.load (.some 6) (.t 3))⟩,
  ⟨(.some 45), .none, (.mov (.t 1))⟩,
  ⟨(.some 46), .none, (.mov (.t 9))⟩,
  ⟨(.some 47), .none, (.call 10 [(.t 44), (.t 45), (.t 46)])⟩,
  ⟨(.some 43), .none, (.mov (.t 47))⟩,
  ⟨(.some 48), .none, (.extract (.t 43) 0)⟩,
  ⟨(.some 49), .none, (.extract (.t 43) 1)⟩,
  ⟨(.some 10), .none, (.mov (.t 48))⟩,
  ⟨(.some 11), .none, (.mov (.t 49))⟩]
abbrev c_poundagelaw13_PriceApart_r10 : List AO := [⟨(.some 50), .none, (.mov (.t 11))⟩,
  ⟨(.some 51), .none, (.bin .neq (.t 50) (.c (.d (.int .i64 0))))⟩,
  ⟨(.some 52), .none, (.mov (.t 51))⟩,
  ⟨(.some 53), (.some ⟨52, .false⟩), (.mov (.t 10))⟩,
  ⟨(.some 54), (.some ⟨52, .false⟩), (.bin .gtr (.t 53) (.c (.d (.int .i64 1152921504606846976))))⟩,
  ⟨(.some 55), .none, (.pick (.t 52) (.c (.d (.bool .true))) (.t 54))⟩]
abbrev c_poundagelaw13_PriceApart_r11 : List AO := [⟨(.some 6), .none, (.mov (.c (.d (.bool .true))))⟩]
abbrev c_poundagelaw13_PriceApart_r12 : List AO := [⟨(.some 56), .none, (.mov (.t 10))⟩,
  ⟨(.some 12), .none, (.mov (.t 56))⟩]
abbrev c_poundagelaw13_PriceApart_r13 : List AO := [⟨(.some 57), .none, (.mov (.t 2))⟩,
  ⟨(.some 58), .none, (.len (.t 57))⟩,
  ⟨(.some 59), .none, (.mov (.c (.d (.int .i64 0))))⟩]
abbrev c_poundagelaw13_PriceApart_r14 : List AO := [⟨(.some 60), .none, (.bin .lss (.t 59) (.t 58))⟩]
abbrev c_poundagelaw13_PriceApart_r15 : List AO := [⟨(.some 61), .none, (.mov (.t 59))⟩,
  ⟨(.some 62), .none, (.elemAddr 1 (.t 57) (.t 59))⟩,
  ⟨(.some 63), .none, (.load .none (.t 62))⟩,
  ⟨(.some 13), .none, (.mov (.t 61))⟩,
  ⟨(.some 14), .none, (.mov (.t 63))⟩]
abbrev c_poundagelaw13_PriceApart_r16 : List AO := [⟨(.some 64), .none, (.mov (.t 2))⟩,
  ⟨(.some 65), .none, (.len (.t 64))⟩,
  ⟨(.some 66), .none, (.make 3 1 8 [(.d (.int .i64 0))] (.t 65))⟩,
  ⟨(.some 15), .none, (.mov (.t 66))⟩]
abbrev c_poundagelaw13_PriceApart_r17 : List AO := [⟨(.some 67), .none, (.mov (.t 15))⟩,
  ⟨(.some 68), .none, (.mov (.t 13))⟩,
  ⟨(.some 69), .none, (.mov (.t 14))⟩,
  ⟨(.some 70), .none, (.elemAddr 1 (.t 67) (.t 68))⟩,
  ⟨.none, .none, (.store 1 (.t 70) (.t 69))⟩]
abbrev c_poundagelaw13_PriceApart_r18 : List AO := [⟨(.some 72), .none, (.load (.some 6) (.t 3))⟩,
  ⟨(.some 73), .none, (.mov (.t 1))⟩,
  ⟨(.some 74), .none, (.mov (.t 15))⟩,
  ⟨(.some 75), .none, (.call 10 [(.t 72), (.t 73), (.t 74)])⟩,
  ⟨(.some 71), .none, (.mov (.t 75))⟩,
  ⟨(.some 76), .none, (.extract (.t 71) 0)⟩,
  ⟨(.some 77), .none, (.extract (.t 71) 1)⟩,
  ⟨(.some 16), .none, (.mov (.t 76))⟩,
  ⟨(.some 17), .none, (.mov (.t 77))⟩]
abbrev c_poundagelaw13_PriceApart_r19 : List AO := [⟨(.some 78), .none, (.mov (.t 17))⟩,
  ⟨(.some 79), .none, (.bin .neq (.t 78) (.c (.d (.int .i64 0))))⟩,
  ⟨(.some 80), .none, (.mov (.t 79))⟩,
  ⟨(.some 81), (.some ⟨80, .false⟩), (.mov (.t 16))⟩,
  ⟨(.some 82), (.some ⟨80, .false⟩), (.bin .gtr (.t 81) (.c (.d (.int .i64 1152921504606846976))))⟩,
  ⟨(.some 83), .none, (.pick (.t 80) (.c (.d (.bool .true))) (.t 82))⟩]
abbrev c_poundagelaw13_PriceApart_r20 : List AO := [⟨(.some 6), .none, (.mov (.c (.d (.bool .true))))⟩]
abbrev c_poundagelaw13_PriceApart_r21 : List AO := [⟨(.some 84), .none, (.mov (.t 12))⟩,
  ⟨(.some 85), .none, (.mov (.t 16))⟩,
  ⟨(.some 86), .none, (.bin .add (.t 84) (.t 85))⟩,
  ⟨(.some 87), .none, (.mov (.t 10))⟩,
  ⟨(.some 88), .none, (.bin .sub (.t 86) (.t 87))⟩,
  ⟨(.some 12), .none, (.mov (.t 88))⟩]
abbrev c_poundagelaw13_PriceApart_r22 : List AO := [⟨(.some 89), .none, (.bin .add (.t 59) (.c (.d (.int .i64 1))))⟩,
  ⟨(.some 59), .none, (.mov (.t 89))⟩]
abbrev c_poundagelaw13_PriceApart_l0 : ACode := (.seq (.ops c_poundagelaw13_PriceApart_r14) (.seq (.cond (.t 60) .skip (.exit 0)) (.seq (.block 1 (.seq (.ops c_poundagelaw13_PriceApart_r15) (.seq (.ops c_poundagelaw13_PriceApart_r16) (.seq (.ops c_poundagelaw13_PriceApart_r17) (.seq (.ops c_poundagelaw13_PriceApart_r18) (.seq (.seq (.ops c_poundagelaw13_PriceApart_r19) (.cond (.t 83) (.seq (.ops c_poundagelaw13_PriceApart_r20) .ret) .skip)) (.ops c_poundagelaw13_PriceApart_r21))))))) (.ops c_poundagelaw13_PriceApart_r22))))
abbrev c_poundagelaw13_PriceApart_r23 : List AO := [⟨(.some 90), .none, (.mov (.t 12))⟩,
  ⟨(.some 91), .none, (.mov (.t 7))⟩,
  ⟨(.some 92), .none, (.bin .eql (.t 90) (.t 91))⟩,
  ⟨(.some 6), .none, (.mov (.t 92))⟩]
abbrev c_poundagelaw13_PriceApart : AFunc := ⟨93, [(.tmp 6)], (.seq (.ops c_poundagelaw13_PriceApart_r0) (.seq (.seq (.ops c_poundagelaw13_PriceApart_r1) (.cond (.t 19) (.seq (.ops c_poundagelaw13_PriceApart_r2) .ret) .skip)) (.seq (.seq (.ops c_poundagelaw13_PriceApart_r3) (.cond (.t 26) (.seq (.ops c_poundagelaw13_PriceApart_r4) .ret) .skip)) (.seq (.ops c_poundagelaw13_PriceApart_r5) (.seq (.seq (.ops c_poundagelaw13_PriceApart_r6) (.cond (.t 39) (.seq (.ops c_poundagelaw13_PriceApart_r7) .ret) .skip)) (.seq (.ops c_poundagelaw13_PriceApart_r8) (.seq (.ops c_poundagelaw13_PriceApart_r9) (.seq (.seq (.ops c_poundagelaw13_PriceApart_r10) (.cond (.t 55) (.seq (.ops c_poundagelaw13_PriceApart_r11) .ret) .skip)) (.seq (.ops c_poundagelaw13_PriceApart_r12) (.seq (.seq (.ops c_poundagelaw13_PriceApart_r13) (.block 0 (.loop c_poundagelaw13_PriceApart_l0))) (.seq (.ops c_poundagelaw13_PriceApart_r23) .ret)))))))))))⟩
theorem comp_poundagelaw13_PriceApart : funcC Try.prog 6 = some c_poundagelaw13_PriceApart := by kernel_rfl
/-! function 7 : poundage poundagelaw13.PriceDays -/
abbrev f_poundagelaw13_PriceDays : FuncId := 7
abbrev c_poundagelaw13_PriceDays_r0 : List AO := [⟨(.some 4), .none, (.box 26 (.t 0))⟩,
  ⟨(.some 8), .none, (.mov (.c (.d (.bool .false))))⟩]
abbrev c_poundagelaw13_PriceDays_r1 : List AO := [⟨(.some 17), .none, (.call 8 [])⟩,
  ⟨(.some 18), .none, (.un .not (.t 17))⟩]
abbrev c_poundagelaw13_PriceDays_r2 : List AO := [⟨(.some 8), .none, (.mov (.c (.d (.bool .false))))⟩]
abbrev c_poundagelaw13_PriceDays_r3 : List AO := [⟨(.some 19), .none, (.load (.some 6) (.t 4))⟩,
  ⟨(.some 20), .none, (.call 9 [(.t 19)])⟩,
  ⟨(.some 21), .none, (.mov (.t 20))⟩,
  ⟨(.some 22), (.some ⟨21, .false⟩), (.mov (.t 3))⟩,
  ⟨(.some 23), (.some ⟨21, .false⟩), (.len (.t 22))⟩,
  ⟨(.some 24), (.some ⟨21, .false⟩), (.bin .gtr (.t 23) (.c (.d (.int .i64 100))))⟩,
  ⟨(.some 25), .none, (.pick (.t 21) (.c (.d (.bool .true))) (.t 24))⟩,
  ⟨(.some 26), .none, (.mov (.t 25))⟩,
  ⟨(.some 27), (.some ⟨26, .false⟩), (.load (.some 6) (.t 4))⟩,
  ⟨(.some 28), (.some ⟨26, .false⟩), (.call 18 [(.t 27)])⟩,
  ⟨(.some 29), (.some ⟨26, .false⟩), (.un .not (.t 28))⟩,
  ⟨(.some 30), .none, (.pick (.t 26) (.c (.d (.bool .true))) (.t 29))⟩]
abbrev c_poundagelaw13_PriceDays_r4 : List AO := [⟨(.some 8), .none, (.mov (.c (.d (.bool .true))))⟩]
abbrev c_poundagelaw13_PriceDays_r5 : List AO := [⟨(.some 31), .none, (.fieldAddr 4 (.t 4))⟩,
  ⟨(.some 32), .none, (.load .none (.t 31))⟩,
  ⟨(.some 33), .none, (.len (.t 32))⟩,
  ⟨(.some 34), .none, (.mov (.c (.d (.int .i64 0))))⟩]
abbrev c_poundagelaw13_PriceDays_r6 : List AO := [⟨(.some 35), .none, (.bin .lss (.t 34) (.t 33))⟩]
abbrev c_poundagelaw13_PriceDays_r7 : List AO := [⟨(.some 36), .none, (.elemAddr 3 (.t 32) (.t 34))⟩,
  ⟨(.some 37), .none, (.load (.some 3) (.t 36))⟩,
  ⟨(.some 10), .none, (.alloc 59 [(.d (.int .i64 0)), (.d (.int .i64 0)), (.d (.int .i64 0))])⟩,
  ⟨.none, .none, (.store 3 (.t 10) (.t 37))⟩]
abbrev c_poundagelaw13_PriceDays_r8 : List AO := [⟨(.some 38), .none, (.fieldAddr 1 (.t 10))⟩,
  ⟨(.some 39), .none, (.load .none (.t 38))⟩,
  ⟨(.some 40), .none, (.mov (.t 1))⟩,
  ⟨(.some 41), .none, (.bin .leq (.t 39) (.t 40))⟩,
  ⟨(.some 42), .none, (.mov (.t 41))⟩,
  ⟨(.some 43), (.some ⟨42, .true⟩), (.mov (.t 1))⟩,
  ⟨(.some 44), (.some ⟨42, .true⟩), (.fieldAddr 2 (.t 10))⟩,
  ⟨(.some 45), (.some ⟨42, .true⟩), (.load .none (.t 44))⟩,
  ⟨(.some 46), (.some ⟨42, .true⟩), (.bin .leq (.t 43) (.t 45))⟩,
  ⟨(.some 47), .none, (.pick (.t 42) (.t 46) (.c (.d (.bool .false))))⟩,
  ⟨(.some 48), .none, (.fieldAddr 1 (.t 10))⟩,
  ⟨(.some 49), .none, (.load .none (.t 48))⟩,
  ⟨(.some 50), .none, (.mov (.t 2))⟩,
  ⟨(.some 51), .none, (.bin .leq (.t 49) (.t 50))⟩,
  ⟨(.some 52), .none, (.mov (.t 51))⟩,
  ⟨(.some 53), (.some ⟨52, .true⟩), (.mov (.t 2))⟩,
  ⟨(.some 54), (.some ⟨52, .true⟩), (.fieldAddr 2 (.t 10))⟩,
  ⟨(.some 55), (.some ⟨52, .true⟩), (.load .none (.t 54))⟩,
  ⟨(.some 56), (.some ⟨52, .true⟩), (.bin .leq (.t 53) (.t 55))⟩,
  ⟨(.some 57), .none, (.pick (.t 52) (.t 56) (.c (.d (.bool .false))))⟩,
  ⟨(.some 58), .none, (.binb .true (.t 47) (.t 57))⟩]
abbrev c_poundagelaw13_PriceDays_r9 : List AO := [⟨(.some 8), .none, (.mov (.c (.d (.bool .true))))⟩]
abbrev c_poundagelaw13_PriceDays_r10 : List AO := [⟨(.some 59), .none, (.bin .add (.t 34) (.c (.d (.int .i64 1))))⟩,
  ⟨(.some 34), .none, (.mov (.t 59))⟩]
abbrev c_poundagelaw13_PriceDays_l0 : ACode := (.seq (.ops c_poundagelaw13_PriceDays_r6) (.seq (.cond (.t 35) .skip (.exit 0)) (.seq (.block 1 (.seq (.ops c_poundagelaw13_PriceDays_r7) (.seq (.ops c_poundagelaw13_PriceDays_r8) (.cond (.t 58) (.seq (.ops c_poundagelaw13_PriceDays_r9) .ret) .skip)))) (.ops c_poundagelaw13_PriceDays_r10))))
abbrev c_poundagelaw13_PriceDays_r11 : List AO := [⟨(.some 60), .none, (.fieldAddr 5 (.t 4))⟩,
  ⟨(.some 61), .none, (.load .none (.t 60))⟩,
  ⟨(.some 62), .none, (.len (.t 61))⟩,
  ⟨(.some 63), .none, (.mov (.c (.d (.int .i64 0))))⟩]
abbrev c_poundagelaw13_PriceDays_r12 : List AO := [⟨(.some 64), .none, (.bin .lss (.t 63) (.t 62))⟩]
abbrev c_poundagelaw13_PriceDays_r13 : List AO := [⟨(.some 65), .none, (.elemAddr 9 (.t 61) (.t 63))⟩,
  ⟨(.some 66), .none, (.load (.some 9) (.t 65))⟩,
  ⟨(.some 12), .none, (.alloc 39 [(.d (.int .i64 0)), (.d (.int .i64 0)), (.d (.int .i64 0)), (.d (.int .i64 0)), (.d (.int .i64 0)), (.d (.int .i64 0)), (.nilsl 2), (.d (.int .i64 0)), (.nilsl 3)])⟩,
  ⟨.none, .none, (.store 9 (.t 12) (.t 66))⟩]
abbrev c_poundagelaw13_PriceDays_r14 : List AO := [⟨(.some 67), .none, (.fieldAddr 1 (.t 12))⟩,
  ⟨(.some 68), .none, (.load .none (.t 67))⟩,
  ⟨(.some 69), .none, (.mov (.t 1))⟩,
  ⟨(.some 70), .none, (.bin .leq (.t 68) (.t 69))⟩,
  ⟨(.some 71), .none, (.mov (.t 70))⟩,
  ⟨(.some 72), (.some ⟨71, .true⟩), (.mov (.t 1))⟩,
  ⟨(.some 73), (.some ⟨71, .true⟩), (.fieldAddr 2 (.t 12))⟩,
  ⟨(.some 74), (.some ⟨71, .true⟩), (.load .none (.t 73))⟩,
  ⟨(.some 75), (.some ⟨71, .true⟩), (.bin .leq (.t 72) (.t 74))⟩,
  ⟨(.some 76), .none, (.pick (.t 71) (.t 75) (.c (.d (.bool .false))))⟩,
  ⟨(.some 77), .none, (.fieldAddr 1 (.t 12))⟩,
  ⟨(.some 78), .none, (.load .none (.t 77))⟩,
  ⟨(.some 79), .none, (.mov (.t 2))⟩,
  ⟨(.some 80), .none, (.bin .leq (.t 78) (.t 79))⟩,
  ⟨(.some 81), .none, (.mov (.t 80))⟩,
  ⟨(.some 82), (.some ⟨81, .true⟩), (.mov (.t 2))⟩,
  ⟨(.some 83), (.some ⟨81, .true⟩), (.fieldAddr 2 (.t 12))⟩,
  ⟨(.some 84), (.some ⟨81, .true⟩), (.load .none (.t 83))⟩,
  ⟨(.some 85), (.some ⟨81, .true⟩), (.bin .leq (.t 82) (.t 84))⟩,
  ⟨(.some 86), .none, (.pick (.t 81) (.t 85) (.c (.d (.bool .false))))⟩,
  ⟨(.some 87), .none, (.binb .true (.t 76) (.t 86))⟩]
abbrev c_poundagelaw13_PriceDays_r15 : List AO := [⟨(.some 8), .none, (.mov (.c (.d (.bool .true))))⟩]
abbrev c_poundagelaw13_PriceDays_r16 : List AO := [⟨(.some 88), .none, (.bin .add (.t 63) (.c (.d (.int .i64 1))))⟩,
  ⟨(.some 63), .none, (.mov (.t 88))⟩]
abbrev c_poundagelaw13_PriceDays_l1 : ACode := (.seq (.ops c_poundagelaw13_PriceDays_r12) (.seq (.cond (.t 64) .skip (.exit 2)) (.seq (.block 3 (.seq (.ops c_poundagelaw13_PriceDays_r13) (.seq (.ops c_poundagelaw13_PriceDays_r14) (.cond (.t 87) (.seq (.ops c_poundagelaw13_PriceDays_r15) .ret) .skip)))) (.ops c_poundagelaw13_PriceDays_r16))))
abbrev c_poundagelaw13_PriceDays_r17 : List AO := [⟨(.some 90), .none, (.load (.some 6) (.t 4))⟩,
  ⟨(.some 91), .none, (.mov (.t 1))⟩,
  ⟨(.some 92), .none, (.mov (.t 3))⟩,
  ⟨(.some 93), .none, (.call 10 [(.t 90), (.t 91), (.t 92)])⟩,
  ⟨(.some 89), .none, (.mov (.t 93))⟩,
  ⟨(.some 94), .none, (.extract (.t 89) 0)⟩,
  ⟨(.some 95), .none, (.extract (.t 89) 1)⟩,
  ⟨(.some 13), .none, (.mov (.t 94))⟩,
  ⟨(.some 14), .none, (.mov (.t 95))⟩]
abbrev c_poundagelaw13_PriceDays_r18 : List AO := [⟨(.some 97), .none, (.load (.some 6) (.t 4))⟩,
  ⟨(.some 98), .none, (.mov (.t 2))⟩,
  ⟨(.some 99), .none, (.mov (.t 3))⟩,
  ⟨(.some 100), .none, (.call 10 [(.t 97), (.t 98), (.t 99)])⟩,
  ⟨(.some 96), .none, (.mov (.t 100))⟩,
  ⟨(.some 101), .none, (.extract (.t 96) 0)⟩,
  ⟨(.some 102), .none, (.extract (.t 96) 1)⟩,
  ⟨(.some 15), .none, (.mov (.t 101))⟩,
  ⟨(.some 16), .none, (.mov (.t 102))⟩]
abbrev c_poundagelaw13_PriceDays_r19 : List AO := [⟨(.some 103), .none, (.mov (.t 1))⟩,
  ⟨(.some 104), .none, (.fieldAddr 1 (.t 4))⟩,
  ⟨(.some 105), .none, (.load .none (.t 104))⟩,
  ⟨(.some 106), .none, (.bin .lss (.t 103) (.t 105))⟩,
  ⟨(.some 107), .none, (.mov (.t 106))⟩,
  ⟨(.some 108), (.some ⟨107, .false⟩), (.mov (.t 1))⟩,
  ⟨(.some 109), (.some ⟨107, .false⟩), (.fieldAddr 2 (.t 4))⟩,
  ⟨(.some 110), (.some ⟨107, .false⟩), (.load .none (.t 109))⟩,
  ⟨(.some 111), (.some ⟨107, .false⟩), (.bin .gtr (.t 108) (.t 110))⟩,
  ⟨(.some 112), .none, (.pick (.t 107) (.c (.d (.bool .true))) (.t 111))⟩,
  ⟨(.some 113), .none, (.mov (.t 2))⟩,
  ⟨(.some 114), .none, (.fieldAddr 1 (.t 4))⟩,
  ⟨(.some 115), .none, (.load .none (.t 114))⟩,
  ⟨(.some 116), .none, (.bin .lss (.t 113) (.t 115))⟩,
  ⟨(.some 117), .none, (.mov (.t 116))⟩,
  ⟨(.some 118), (.some ⟨117, .false⟩), (.mov (.t 2))⟩,
  ⟨(.some 119), (.some ⟨117, .false⟩), (.fieldAddr 2 (.t 4))⟩,
  ⟨(.some 120), (.some ⟨117, .false⟩), (.load .none (.t 119))⟩,
  ⟨(.some 121), (.some ⟨117, .false⟩), (.bin .gtr (.t 118) (.t 120))⟩,
  ⟨(.some 122), .none, (.pick (.t 117) (.c (.d (.bool .true))) (.t 121))⟩,
  ⟨(.some 123), .none, (.binb .true (.t 112) (.t 122))⟩]
abbrev c_poundagelaw13_PriceDays_r20 : List AO := [⟨(.some 124), .none, (.mov (.t 14))⟩,
  ⟨(.some 125), .none, (.bin .eql (.t 124) (.c (.d (.int .i64 8))))⟩,
  ⟨(.some 126), .none, (.mov (.t 125))⟩,
  ⟨(.some 127), (.some ⟨126, .false⟩), (.mov (.t 16))⟩,
  ⟨(.some 128), (.some ⟨126, .false⟩), (.bin .eql (.t 127) (.c (.d (.int .i64 8))))⟩,
  ⟨(.some 129), .none, (.pick (.t 126) (.c (.d (.bool .true))) (.t 128))⟩,
  ⟨(.some 8), .none, (.mov (.t 129))⟩]
abbrev c_poundagelaw13_PriceDays_r21 : List AO := [⟨(.some 130), .none, (.mov (.t 13))⟩,
  ⟨(.some 131), .none, (.mov (.t 15))⟩,
  ⟨(.some 132), .none, (.bin .eql (.t 130) (.t 131))⟩,
  ⟨(.some 133), .none, (.mov (.t 132))⟩,
  ⟨(.some 134), (.some ⟨133, .true⟩), (.mov (.t 14))⟩,
  ⟨(.some 135), (.some ⟨133, .true⟩), (.mov (.t 16))⟩,
  ⟨(.some 136), (.some ⟨133, .true⟩), (.bin .eql (.t 134) (.t 135))⟩,
  ⟨(.some 137), .none, (.pick (.t 133) (.t 136) (.c (.d (.bool .false))))⟩,
  ⟨(.some 8), .none, (.mov (.t 137))⟩]
abbrev c_poundagelaw13_PriceDays : AFunc := ⟨138, [(.tmp 8)], (.seq (.ops c_poundagelaw13_PriceDays_r0) (.seq (.seq (.ops c_poundagelaw13_PriceDays_r1) (.cond (.t 18) (.seq (.ops c_poundagelaw13_PriceDays_r2) .ret) .skip)) (.seq (.seq (.ops c_poundagelaw13_PriceDays_r3) (.cond (.t 30) (.seq (.ops c_poundagelaw13_PriceDays_r4) .ret) .skip)) (.seq (.seq (.ops c_poundagelaw13_PriceDays_r5) (.block 0 (.loop c_poundagelaw13_PriceDays_l0))) (.seq (.seq (.ops c_poundagelaw13_PriceDays_r11) (.block 2 (.loop c_poundagelaw13_PriceDays_l1))) (.seq (.ops c_poundagelaw13_PriceDays_r17) (.seq (.ops c_poundagelaw13_PriceDays_r18) (.seq (.seq (.ops c_poundagelaw13_PriceDays_r19) (.cond (.t 123) (.seq (.ops c_poundagelaw13_PriceDays_r20) .ret) .skip)) (.seq (.ops c_poundagelaw13_PriceDays_r21) .ret)))))))))⟩
theorem comp_poundagelaw13_PriceDays : funcC Try.prog 7 = some c_poundagelaw13_PriceDays := by kernel_rfl
/-! function 8 : poundage poundagelaw13.alive -/
abbrev f_poundagelaw13_alive : FuncId := 8
abbrev c_poundagelaw13_alive_r0 : List AO := [⟨(.some 0), .none, (.mov (.c (.d (.bool .false))))⟩]
abbrev c_poundagelaw13_alive_r1 : List AO := [⟨(.some 6), .none, (.build [(.d (.str ⟨⟨[]⟩⟩)), (.d (.str ⟨⟨[]⟩⟩)), (.d (.int .i64 0)), (.d (.int .i64 0)), (.d (.int .i64 0))] [⟨0, ⟨1, (.c (.d (.str ⟨⟨[109]⟩⟩)))⟩⟩, ⟨2, ⟨1, (.c (.d (.int .i64 5)))⟩⟩])⟩,
  ⟨(.some 7), .none, (.buildSlice 42 5 1 [(.d (.str ⟨⟨[]⟩⟩)), (.d (.str ⟨⟨[]⟩⟩)), (.d (.int .i64 0)), (.d (.int .i64 0)), (.d (.int .i64 0))] [⟨0, (.t 6)⟩])⟩,
  ⟨(.some 8), .none, (.build [(.d (.int .i64 0)), (.d (.int .i64 0)), (.d (.int .i64 0))] [⟨0, ⟨1, (.c (.d (.int .i64 5)))⟩⟩, ⟨2, ⟨1, (.c (.d (.int .i64 9)))⟩⟩])⟩,
  ⟨(.some 9), .none, (.buildSlice 59 3 1 [(.d (.int .i64 0)), (.d (.int .i64 0)), (.d (.int .i64 0))] [⟨0, (.t 8)⟩])⟩,
  ⟨(.some 10), .none, (.build [(.d (.int .i64 0)), (.d (.int .i64 0))] [⟨1, ⟨1, (.c (.d (.int .i64 2000000)))⟩⟩])⟩,
  ⟨(.some 11), .none, (.buildSlice 62 2 1 [(.d (.int .i64 0)), (.d (.int .i64 0))] [⟨0, (.t 10)⟩])⟩,
  ⟨(.some 12), .none, (.build [(.d (.int .i64 0)), (.d (.int .i64 0)), (.d (.int .i64 0)), (.d (.int .i64 0)), (.d (.int .i64 0)), (.d (.int .i64 0)), (.nilsl 2), (.d (.int .i64 0)), (.nilsl 3)] [⟨2, ⟨1, (.c (.d (.int .i64 9)))⟩⟩, ⟨4, ⟨1, (.c (.d (.int .i64 1)))⟩⟩, ⟨5, ⟨1, (.c (.d (.int .i64 1)))⟩⟩, ⟨6, ⟨1, (.t 11)⟩⟩])⟩,
  ⟨(.some 13), .none, (.buildSlice 39 9 1 [(.d (.int .i64 0)), (.d (.int .i64 0)), (.d (.int .i64 0)), (.d (.int .i64 0)), (.d (.int .i64 0)), (.d (.int .i64 0)), (.nilsl 2), (.d (.int .i64 0)), (.nilsl 3)] [⟨0, (.t 12)⟩])⟩,
  ⟨(.some 14), .none, (.build [(.d (.str ⟨⟨[]⟩⟩)), (.d (.int .i64 0)), (.d (.int .i64 0)), (.nilsl 5), (.nilsl 3), (.nilsl 9)] [⟨2, ⟨1, (.c (.d (.int .i64 9)))⟩⟩, ⟨3, ⟨1, (.t 7)⟩⟩, ⟨4, ⟨1, (.t 9)⟩⟩, ⟨5, ⟨1, (.t 13)⟩⟩])⟩,
  ⟨(.some 1), .none, (.alloc 26 [(.d (.str ⟨⟨[]⟩⟩)), (.d (.int .i64 0)), (.d (.int .i64 0)), (.nilsl 5), (.nilsl 3), (.nilsl 9)])⟩,
  ⟨.none, .none, (.store 6 (.t 1) (.t 14))⟩]
abbrev c_poundagelaw13_alive_r2 : List AO := [⟨(.some 16), .none, (.load (.some 6) (.t 1))⟩,
  ⟨(.some 17), .none, (.buildSlice 3 1 1 [(.d (.int .i64 0))] [⟨0, (.c (.d (.int .i64 3)))⟩])⟩,
  ⟨(.some 18), .none, (.call 10 [(.t 16), (.c (.d (.int .i64 4))), (.t 17)])⟩,
  ⟨(.some 15), .none, (.mov (.t 18))⟩,
  ⟨(.some 19), .none, (.extract (.t 15) 0)⟩,
  ⟨(.some 20), .none, (.extract (.t 15) 1)⟩,
  ⟨(.some 2), .none, (.mov (.t 19))⟩,
  ⟨(.some 3), .none, (.mov (.t 20))⟩]
abbrev c_poundagelaw13_alive_r3 : List AO := [⟨(.some 22), .none, (.load (.some 6) (.t 1))⟩,
  ⟨(.some 23), .none, (.buildSlice 3 1 1 [(.d (.int .i64 0))] [⟨0, (.c (.d (.int .i64 6)))⟩])⟩,
  ⟨(.some 24), .none, (.call 10 [(.t 22), (.c (.d (.int .i64 4))), (.t 23)])⟩,
  ⟨(.some 21), .none, (.mov (.t 24))⟩,
  ⟨(.some 25), .none, (.extract (.t 21) 0)⟩,
  ⟨(.some 26), .none, (.extract (.t 21) 1)⟩,
  ⟨(.some 4), .none, (.mov (.t 25))⟩,
  ⟨(.some 5), .none, (.mov (.t 26))⟩]
abbrev c_poundagelaw13_alive_r4 : List AO := [⟨(.some 27), .none, (.mov (.t 2))⟩,
  ⟨(.some 28), .none, (.bin .eql (.t 27) (.c (.d (.int .i64 11))))⟩,
  ⟨(.some 29), .none, (.mov (.t 28))⟩,
  ⟨(.some 30), (.some ⟨29, .true⟩), (.mov (.t 3))⟩,
  ⟨(.some 31), (.some ⟨29, .true⟩), (.bin .eql (.t 30) (.c (.d (.int .i64 0))))⟩,
  ⟨(.some 32), .none, (.pick (.t 29) (.t 31) (.c (.d (.bool .false))))⟩,
  ⟨(.some 33), .none, (.mov (.t 32))⟩,
  ⟨(.some 34), (.some ⟨33, .true⟩), (.mov (.t 5))⟩,
  ⟨(.some 35), (.some ⟨33, .true⟩), (.bin .eql (.t 34) (.c (.d (.int .i64 8))))⟩,
  ⟨(.some 36), .none, (.pick (.t 33) (.t 35) (.c (.d (.bool .false))))⟩,
  ⟨(.some 0), .none, (.mov (.t 36))⟩]
abbrev c_poundagelaw13_alive : AFunc := ⟨37, [(.tmp 0)], (.seq (.ops c_poundagelaw13_alive_r0) (.seq (.ops c_poundagelaw13_alive_r1) (.seq (.ops c_poundagelaw13_alive_r2) (.seq (.ops c_poundagelaw13_alive_r3) (.seq (.ops c_poundagelaw13_alive_r4) .ret)))))⟩
theorem comp_poundagelaw13_alive : funcC Try.prog 8 = some c_poundagelaw13_alive := by kernel_rfl
/-! function 9 : poundage poundageref10.Great -/
abbrev f_poundageref10_Great : FuncId := 9
abbrev c_poundageref10_Great_r0 : List AO := [⟨(.some 1), .none, (.box 26 (.t 0))⟩,
  ⟨(.some 2), .none, (.mov (.c (.d (.bool .false))))⟩]
abbrev c_poundageref10_Great_r1 : List AO := [⟨(.some 7), .none, (.fieldAddr 3 (.t 1))⟩,
  ⟨(.some 8), .none, (.load .none (.t 7))⟩,
  ⟨(.some 9), .none, (.len (.t 8))⟩,
  ⟨(.some 10), .none, (.bin .gtr (.t 9) (.c (.d (.int .i64 20))))⟩,
  ⟨(.some 11), .none, (.mov (.t 10))⟩,
  ⟨(.some 12), (.some ⟨11, .false⟩), (.fieldAddr 4 (.t 1))⟩,
  ⟨(.some 13), (.some ⟨11, .false⟩), (.load .none (.t 12))⟩,
  ⟨(.some 14), (.some ⟨11, .false⟩), (.len (.t 13))⟩,
  ⟨(.some 15), (.some ⟨11, .false⟩), (.bin .gtr (.t 14) (.c (.d (.int .i64 40))))⟩,
  ⟨(.some 16), .none, (.pick (.t 11) (.c (.d (.bool .true))) (.t 15))⟩,
  ⟨(.some 17), .none, (.mov (.t 16))⟩,
  ⟨(.some 18), (.some ⟨17, .false⟩), (.fieldAddr 5 (.t 1))⟩,
  ⟨(.some 19), (.some ⟨17, .false⟩), (.load .none (.t 18))⟩,
  ⟨(.some 20), (.some ⟨17, .false⟩), (.len (.t 19))⟩,
  ⟨(.some 21), (.some ⟨17, .false⟩), (.bin .gtr (.t 20) (.c (.d (.int .i64 40))))⟩,
  ⟨(.some 22), .none, (.pick (.t 17) (.c (.d (.bool .true))) (.t 21))⟩,
  ⟨(.some 23), .none, (.mov (.t 22))⟩,
  ⟨(.some 24), (.some ⟨23, .false⟩), (.fieldAddr 0 (.t 1))⟩,
  ⟨(.some 25), (.some ⟨23, .false⟩), (.load .none (.t 24))⟩,
  ⟨(.some 26), (.some ⟨23, .false⟩), (.slen (.t 25))⟩,
  ⟨(.some 27), (.some ⟨23, .false⟩), (.bin .gtr (.t 26) (.c (.d (.int .i64 200))))⟩,
  ⟨(.some 28), .none, (.pick (.t 23) (.c (.d (.bool .true))) (.t 27))⟩]
abbrev c_poundageref10_Great_r2 : List AO := [⟨(.some 2), .none, (.mov (.c (.d (.bool .true))))⟩]
abbrev c_poundageref10_Great_r3 : List AO := [⟨(.some 29), .none, (.fieldAddr 3 (.t 1))⟩,
  ⟨(.some 30), .none, (.load .none (.t 29))⟩,
  ⟨(.some 31), .none, (.len (.t 30))⟩,
  ⟨(.some 32), .none, (.mov (.c (.d (.int .i64 0))))⟩]
abbrev c_poundageref10_Great_r4 : List AO := [⟨(.some 33), .none, (.bin .lss (.t 32) (.t 31))⟩]
abbrev c_poundageref10_Great_r5 : List AO := [⟨(.some 34), .none, (.elemAddr 5 (.t 30) (.t 32))⟩,
  ⟨(.some 35), .none, (.load (.some 5) (.t 34))⟩,
  ⟨(.some 4), .none, (.alloc 42 [(.d (.str ⟨⟨[]⟩⟩)), (.d (.str ⟨⟨[]⟩⟩)), (.d (.int .i64 0)), (.d (.int .i64 0)), (.d (.int .i64 0))])⟩,
  ⟨.none, .none, (.store 5 (.t 4) (.t 35))⟩]
abbrev c_poundageref10_Great_r6 : List AO := [⟨(.some 36), .none, (.fieldAddr 0 (.t 4))⟩,
  ⟨(.some 37), .none, (.load .none (.t 36))⟩,
  ⟨(.some 38), .none, (.slen (.t 37))⟩,
  ⟨(.some 39), .none, (.bin .gtr (.t 38) (.c (.d (.int .i64 200))))⟩,
  ⟨(.some 40), .none, (.mov (.t 39))⟩,
  ⟨(.some 41), (.some ⟨40, .false⟩), (.fieldAddr 1 (.t 4))⟩,
  ⟨(.some 42), (.some ⟨40, .false⟩), (.load .none (.t 41))⟩,
  ⟨(.some 43), (.some ⟨40, .false⟩), (.slen (.t 42))⟩,
  ⟨(.some 44), (.some ⟨40, .false⟩), (.bin .gtr (.t 43) (.c (.d (.int .i64 200))))⟩,
  ⟨(.some 45), .none, (.pick (.t 40) (.c (.d (.bool .true))) (.t 44))⟩]
abbrev c_poundageref10_Great_r7 : List AO := [⟨(.some 2), .none, (.mov (.c (.d (.bool .true))))⟩]
abbrev c_poundageref10_Great_r8 : List AO := [⟨(.some 46), .none, (.bin .add (.t 32) (.c (.d (.int .i64 1))))⟩,
  ⟨(.some 32), .none, (.mov (.t 46))⟩]
abbrev c_poundageref10_Great_l0 : ACode := (.seq (.ops c_poundageref10_Great_r4) (.seq (.cond (.t 33) .skip (.exit 0)) (.seq (.block 1 (.seq (.ops c_poundageref10_Great_r5) (.seq (.ops c_poundageref10_Great_r6) (.cond (.t 45) (.seq (.ops c_poundageref10_Great_r7) .ret) .skip)))) (.ops c_poundageref10_Great_r8))))
abbrev c_poundageref10_Great_r9 : List AO := [⟨(.some 47), .none, (.fieldAddr 5 (.t 1))⟩,
  ⟨(.some 48), .none, (.load .none (.t 47))⟩,
  ⟨(.some 49), .none, (.len (.t 48))⟩,
  ⟨(.some 50), .none, (.mov (.c (.d (.int .i64 0))))⟩]
abbrev c_poundageref10_Great_r10 : List AO := [⟨(.some 51), .none, (.bin .lss (.t 50) (.t 49))⟩]
abbrev c_poundageref10_Great_r11 : List AO := [⟨(.some 52), .none, (.elemAddr 9 (.t 48) (.t 50))⟩,
  ⟨(.some 53), .none, (.load (.some 9) (.t 52))⟩,
  ⟨(.some 6), .none, (.alloc 39 [(.d (.int .i64 0)), (.d (.int .i64 0)), (.d (.int .i64 0)), (.d (.int .i64 0)), (.d (.int .i64 0)), (.d (.int .i64 0)), (.nilsl 2), (.d (.int .i64 0)), (.nilsl 3)])⟩,
  ⟨.none, .none, (.store 9 (.t 6) (.t 53))⟩]
abbrev c_poundageref10_Great_r12 : List AO := [⟨(.some 54), .none, (.fieldAddr 6 (.t 6))⟩,
  ⟨(.some 55), .none, (.load .none (.t 54))⟩,
  ⟨(.some 56), .none, (.len (.t 55))⟩,
  ⟨(.some 57), .none, (.bin .gtr (.t 56) (.c (.d (.int .i64 40))))⟩,
  ⟨(.some 58), .none, (.mov (.t 57))⟩,
  ⟨(.some 59), (.some ⟨58, .false⟩), (.fieldAddr 8 (.t 6))⟩,
  ⟨(.some 60), (.some ⟨58, .false⟩), (.load .none (.t 59))⟩,
  ⟨(.some 61), (.some ⟨58, .false⟩), (.len (.t 60))⟩,
  ⟨(.some 62), (.some ⟨58, .false⟩), (.bin .gtr (.t 61) (.c (.d (.int .i64 40))))⟩,
  ⟨(.some 63), .none, (.pick (.t 58) (.c (.d (.bool .true))) (.t 62))⟩]
abbrev c_poundageref10_Great_r13 : List AO := [⟨(.some 2), .none, (.mov (.c (.d (.bool .true))))⟩]
abbrev c_poundageref10_Great_r14 : List AO := [⟨(.some 64), .none, (.bin .add (.t 50) (.c (.d (.int .i64 1))))⟩,
  ⟨(.some 50), .none, (.mov (.t 64))⟩]
abbrev c_poundageref10_Great_l1 : ACode := (.seq (.ops c_poundageref10_Great_r10) (.seq (.cond (.t 51) .skip (.exit 2)) (.seq (.block 3 (.seq (.ops c_poundageref10_Great_r11) (.seq (.ops c_poundageref10_Great_r12) (.cond (.t 63) (.seq (.ops c_poundageref10_Great_r13) .ret) .skip)))) (.ops c_poundageref10_Great_r14))))
abbrev c_poundageref10_Great_r15 : List AO := [⟨(.some 2), .none, (.mov (.c (.d (.bool .false))))⟩]
abbrev c_poundageref10_Great : AFunc := ⟨65, [(.tmp 2)], (.seq (.ops c_poundageref10_Great_r0) (.seq (.seq (.ops c_poundageref10_Great_r1) (.cond (.t 28) (.seq (.ops c_poundageref10_Great_r2) .ret) .skip)) (.seq (.seq (.ops c_poundageref10_Great_r3) (.block 0 (.loop c_poundageref10_Great_l0))) (.seq (.seq (.ops c_poundageref10_Great_r9) (.block 2 (.loop c_poundageref10_Great_l1))) (.seq (.ops c_poundageref10_Great_r15) .ret)))))⟩
theorem comp_poundageref10_Great : funcC Try.prog 9 = some c_poundageref10_Great := by kernel_rfl
/-! function 10 : poundage price.Price -/
abbrev f_price_Price : FuncId := 10
abbrev c_price_Price_r0 : List AO := [⟨(.some 3), .none, (.box 26 (.t 0))⟩,
  ⟨(.some 6), .none, (.mov (.c (.d (.int .i64 0))))⟩,
  ⟨(.some 7), .none, (.mov (.c (.d (.int .i64 0))))⟩]
abbrev c_price_Price_r1 : List AO := [⟨(.some 13), .none, (.load (.some 6) (.t 3))⟩,
  ⟨(.some 14), .none, (.call 19 [(.t 13)])⟩,
  ⟨(.some 15), .none, (.un .not (.t 14))⟩,
  ⟨(.some 12), .none, (.mov (.t 15))⟩]
abbrev c_price_Price_r2 : List AO := [⟨(.some 6), .none, (.mov (.c (.d (.int .i64 0))))⟩,
  ⟨(.some 7), .none, (.mov (.c (.d (.int .i64 1))))⟩]
abbrev c_price_Price_r3 : List AO := [⟨(.some 17), .none, (.mov (.t 1))⟩,
  ⟨(.some 18), .none, (.fieldAddr 1 (.t 3))⟩,
  ⟨(.some 19), .none, (.load .none (.t 18))⟩,
  ⟨(.some 20), .none, (.fieldAddr 2 (.t 3))⟩,
  ⟨(.some 21), .none, (.load .none (.t 20))⟩,
  ⟨(.some 22), .none, (.call 20 [(.t 17), (.t 19), (.t 21)])⟩,
  ⟨(.some 23), .none, (.un .not (.t 22))⟩,
  ⟨(.some 24), .none, (.mov (.t 23))⟩,
  ⟨(.some 25), (.some ⟨24, .false⟩), (.load (.some 6) (.t 3))⟩,
  ⟨(.some 26), (.some ⟨24, .false⟩), (.mov (.t 2))⟩,
  ⟨(.some 27), (.some ⟨24, .false⟩), (.call 21 [(.t 25), (.t 26)])⟩,
  ⟨(.some 28), (.some ⟨24, .false⟩), (.un .not (.t 27))⟩,
  ⟨(.some 29), .none, (.pick (.t 24) (.c (.d (.bool .true))) (.t 28))⟩,
  ⟨(.some 16), .none, (.mov (.t 29))⟩]
abbrev c_price_Price_r4 : List AO := [⟨(.some 6), .none, (.mov (.c (.d (.int .i64 0))))⟩,
  ⟨(.some 7), .none, (.mov (.c (.d (.int .i64 8))))⟩]
abbrev c_price_Price_r5 : List AO := [⟨(.some 31), .none, (.load (.some 6) (.t 3))⟩,
  ⟨(.some 32), .none, (.mov (.t 1))⟩,
  ⟨(.some 33), .none, (.mov (.t 2))⟩,
  ⟨(.some 34), .none, (.call 22 [(.t 31), (.t 32), (.t 33)])⟩,
  ⟨(.some 30), .none, (.mov (.t 34))⟩,
  ⟨(.some 35), .none, (.extract (.t 30) 0)⟩,
  ⟨(.some 36), .none, (.extract (.t 30) 1)⟩,
  ⟨(.some 8), .none, (.mov (.t 35))⟩,
  ⟨(.some 9), .none, (.mov (.t 36))⟩]
abbrev c_price_Price_r6 : List AO := [⟨(.some 38), .none, (.mov (.t 8))⟩,
  ⟨(.some 39), .none, (.call 23 [(.t 38)])⟩,
  ⟨(.some 37), .none, (.mov (.t 39))⟩,
  ⟨(.some 40), .none, (.extract (.t 37) 0)⟩,
  ⟨(.some 41), .none, (.extract (.t 37) 1)⟩,
  ⟨(.some 10), .none, (.mov (.t 40))⟩,
  ⟨(.some 11), .none, (.mov (.t 41))⟩]
abbrev c_price_Price_r7 : List AO := [⟨(.some 42), .none, (.mov (.t 9))⟩,
  ⟨(.some 43), .none, (.un .not (.t 42))⟩,
  ⟨(.some 44), .none, (.mov (.t 43))⟩,
  ⟨(.some 45), (.some ⟨44, .false⟩), (.mov (.t 11))⟩,
  ⟨(.some 46), (.some ⟨44, .false⟩), (.un .not (.t 45))⟩,
  ⟨(.some 47), .none, (.pick (.t 44) (.c (.d (.bool .true))) (.t 46))⟩]
abbrev c_price_Price_r8 : List AO := [⟨(.some 6), .none, (.mov (.c (.d (.int .i64 0))))⟩,
  ⟨(.some 7), .none, (.mov (.c (.d (.int .i64 2))))⟩]
abbrev c_price_Price_r9 : List AO := [⟨(.some 48), .none, (.mov (.t 10))⟩,
  ⟨(.some 6), .none, (.mov (.t 48))⟩,
  ⟨(.some 7), .none, (.mov (.c (.d (.int .i64 0))))⟩]
abbrev c_price_Price : AFunc := ⟨49, [(.tmp 6), (.tmp 7)], (.seq (.ops c_price_Price_r0) (.seq (.block 0 (.seq (.ops c_price_Price_r1) (.cond (.t 12) (.seq (.ops c_price_Price_r2) .ret) (.seq (.ops c_price_Price_r3) (.cond (.t 16) (.seq (.ops c_price_Price_r4) .ret) .skip))))) (.seq (.ops c_price_Price_r5) (.seq (.ops c_price_Price_r6) (.seq (.seq (.ops c_price_Price_r7) (.cond (.t 47) (.seq (.ops c_price_Price_r8) .ret) .skip)) (.seq (.ops c_price_Price_r9) .ret))))))⟩
theorem comp_price_Price : funcC Try.prog 10 = some c_price_Price := by kernel_rfl
/-! function 11 : poundage poundageref13.Price -/
abbrev f_poundageref13_Price : FuncId := 11
abbrev c_poundageref13_Price_r0 : List AO := [⟨(.some 3), .none, (.box 26 (.t 0))⟩,
  ⟨(.some 6), .none, (.mov (.c (.d (.int .i64 0))))⟩,
  ⟨(.some 7), .none, (.mov (.c (.d (.int .i64 0))))⟩]
abbrev c_poundageref13_Price_r1 : List AO := [⟨(.some 10), .none, (.load (.some 6) (.t 3))⟩,
  ⟨(.some 11), .none, (.call 18 [(.t 10)])⟩,
  ⟨(.some 12), .none, (.un .not (.t 11))⟩]
abbrev c_poundageref13_Price_r2 : List AO := [⟨(.some 6), .none, (.mov (.c (.d (.int .i64 0))))⟩,
  ⟨(.some 7), .none, (.mov (.c (.d (.int .i64 1))))⟩]
abbrev c_poundageref13_Price_r3 : List AO := [⟨(.some 13), .none, (.mov (.t 1))⟩,
  ⟨(.some 14), .none, (.fieldAddr 1 (.t 3))⟩,
  ⟨(.some 15), .none, (.load .none (.t 14))⟩,
  ⟨(.some 16), .none, (.bin .lss (.t 13) (.t 15))⟩,
  ⟨(.some 17), .none, (.mov (.t 16))⟩,
  ⟨(.some 18), (.some ⟨17, .false⟩), (.mov (.t 1))⟩,
  ⟨(.some 19), (.some ⟨17, .false⟩), (.fieldAddr 2 (.t 3))⟩,
  ⟨(.some 20), (.some ⟨17, .false⟩), (.load .none (.t 19))⟩,
  ⟨(.some 21), (.some ⟨17, .false⟩), (.bin .gtr (.t 18) (.t 20))⟩,
  ⟨(.some 22), .none, (.pick (.t 17) (.c (.d (.bool .true))) (.t 21))⟩,
  ⟨(.some 23), .none, (.mov (.t 22))⟩,
  ⟨(.some 24), (.some ⟨23, .false⟩), (.mov (.t 2))⟩,
  ⟨(.some 25), (.some ⟨23, .false⟩), (.len (.t 24))⟩,
  ⟨(.some 26), (.some ⟨23, .false⟩), (.fieldAddr 3 (.t 3))⟩,
  ⟨(.some 27), (.some ⟨23, .false⟩), (.load .none (.t 26))⟩,
  ⟨(.some 28), (.some ⟨23, .false⟩), (.len (.t 27))⟩,
  ⟨(.some 29), (.some ⟨23, .false⟩), (.bin .neq (.t 25) (.t 28))⟩,
  ⟨(.some 30), .none, (.pick (.t 23) (.c (.d (.bool .true))) (.t 29))⟩]
abbrev c_poundageref13_Price_r4 : List AO := [⟨(.some 6), .none, (.mov (.c (.d (.int .i64 0))))⟩,
  ⟨(.some 7), .none, (.mov (.c (.d (.int .i64 8))))⟩]
abbrev c_poundageref13_Price_r5 : List AO := [⟨(.some 31), .none, (.mov (.t 2))⟩,
  ⟨(.some 32), .none, (.len (.t 31))⟩,
  ⟨(.some 33), .none, (.mov (.c (.d (.int .i64 0))))⟩]
abbrev c_poundageref13_Price_r6 : List AO := [⟨(.some 34), .none, (.bin .lss (.t 33) (.t 32))⟩]
abbrev c_poundageref13_Price_r7 : List AO := [⟨(.some 35), .none, (.mov (.t 33))⟩,
  ⟨(.some 36), .none, (.elemAddr 1 (.t 31) (.t 33))⟩,
  ⟨(.some 37), .none, (.load .none (.t 36))⟩,
  ⟨(.some 8), .none, (.mov (.t 35))⟩,
  ⟨(.some 9), .none, (.mov (.t 37))⟩]
abbrev c_poundageref13_Price_r8 : List AO := [⟨(.some 38), .none, (.mov (.t 9))⟩,
  ⟨(.some 39), .none, (.bin .lss (.t 38) (.c (.d (.int .i64 0))))⟩,
  ⟨(.some 40), .none, (.mov (.t 39))⟩,
  ⟨(.some 41), (.some ⟨40, .false⟩), (.mov (.t 9))⟩,
  ⟨(.some 42), (.some ⟨40, .false⟩), (.fieldAddr 3 (.t 3))⟩,
  ⟨(.some 43), (.some ⟨40, .false⟩), (.load .none (.t 42))⟩,
  ⟨(.some 44), (.some ⟨40, .false⟩), (.mov (.t 8))⟩,
  ⟨(.some 45), (.some ⟨40, .false⟩), (.elemAddr 5 (.t 43) (.t 44))⟩,
  ⟨(.some 46), (.some ⟨40, .false⟩), (.fieldAddr 2 (.t 45))⟩,
  ⟨(.some 47), (.some ⟨40, .false⟩), (.load .none (.t 46))⟩,
  ⟨(.some 48), (.some ⟨40, .false⟩), (.bin .gtr (.t 41) (.t 47))⟩,
  ⟨(.some 49), .none, (.pick (.t 40) (.c (.d (.bool .true))) (.t 48))⟩]
abbrev c_poundageref13_Price_r9 : List AO := [⟨(.some 6), .none, (.mov (.c (.d (.int .i64 0))))⟩,
  ⟨(.some 7), .none, (.mov (.c (.d (.int .i64 8))))⟩]
abbrev c_poundageref13_Price_r10 : List AO := [⟨(.some 50), .none, (.bin .add (.t 33) (.c (.d (.int .i64 1))))⟩,
  ⟨(.some 33), .none, (.mov (.t 50))⟩]
abbrev c_poundageref13_Price_l0 : ACode := (.seq (.ops c_poundageref13_Price_r6) (.seq (.cond (.t 34) .skip (.exit 0)) (.seq (.block 1 (.seq (.ops c_poundageref13_Price_r7) (.seq (.ops c_poundageref13_Price_r8) (.cond (.t 49) (.seq (.ops c_poundageref13_Price_r9) .ret) .skip)))) (.ops c_poundageref13_Price_r10))))
abbrev c_poundageref13_Price_r11 : List AO := [⟨(.some 51), .none, (.load (.some 6) (.t 3))⟩,
  ⟨(.some 52), .none, (.mov (.t 1))⟩,
  ⟨(.some 53), .none, (.mov (.t 2))⟩,
  ⟨(.some 54), .none, (.call 24 [(.t 51), (.t 52), (.t 53)])⟩,
  ⟨(.some 55), .none, (.extract (.t 54) 0)⟩,
  ⟨(.some 56), .none, (.extract (.t 54) 1)⟩,
  ⟨(.some 6), .none, (.mov (.t 55))⟩,
  ⟨(.some 7), .none, (.mov (.t 56))⟩]
abbrev c_poundageref13_Price : AFunc := ⟨57, [(.tmp 6), (.tmp 7)], (.seq (.ops c_poundageref13_Price_r0) (.seq (.seq (.ops c_poundageref13_Price_r1) (.cond (.t 12) (.seq (.ops c_poundageref13_Price_r2) .ret) .skip)) (.seq (.seq (.ops c_poundageref13_Price_r3) (.cond (.t 30) (.seq (.ops c_poundageref13_Price_r4) .ret) .skip)) (.seq (.seq (.ops c_poundageref13_Price_r5) (.block 0 (.loop c_poundageref13_Price_l0))) (.seq (.ops c_poundageref13_Price_r11) .ret)))))⟩
theorem comp_poundageref13_Price : funcC Try.prog 11 = some c_poundageref13_Price := by kernel_rfl
/-! function 12 : poundage poundageref10.Part -/
abbrev f_poundageref10_Part : FuncId := 12
abbrev c_poundageref10_Part_r0 : List AO := [⟨(.some 2), .none, (.box 26 (.t 0))⟩,
  ⟨(.some 3), .none, (.box 39 (.t 1))⟩,
  ⟨(.some 4), .none, (.mov (.c (.d (.bool .false))))⟩]
abbrev c_poundageref10_Part_r1 : List AO := [⟨(.some 11), .none, (.fieldAddr 0 (.t 3))⟩,
  ⟨(.some 12), .none, (.load .none (.t 11))⟩,
  ⟨(.some 13), .none, (.bin .lss (.t 12) (.c (.d (.int .i64 0))))⟩,
  ⟨(.some 14), .none, (.mov (.t 13))⟩,
  ⟨(.some 15), (.some ⟨14, .false⟩), (.fieldAddr 0 (.t 3))⟩,
  ⟨(.some 16), (.some ⟨14, .false⟩), (.load .none (.t 15))⟩,
  ⟨(.some 17), (.some ⟨14, .false⟩), (.fieldAddr 3 (.t 2))⟩,
  ⟨(.some 18), (.some ⟨14, .false⟩), (.load .none (.t 17))⟩,
  ⟨(.some 19), (.some ⟨14, .false⟩), (.len (.t 18))⟩,
  ⟨(.some 20), (.some ⟨14, .false⟩), (.bin .geq (.t 16) (.t 19))⟩,
  ⟨(.some 21), .none, (.pick (.t 14) (.c (.d (.bool .true))) (.t 20))⟩,
  ⟨(.some 22), .none, (.mov (.t 21))⟩,
  ⟨(.some 23), (.some ⟨22, .false⟩), (.load (.some 6) (.t 2))⟩,
  ⟨(.some 24), (.some ⟨22, .false⟩), (.fieldAddr 1 (.t 3))⟩,
  ⟨(.some 25), (.some ⟨22, .false⟩), (.load .none (.t 24))⟩,
  ⟨(.some 26), (.some ⟨22, .false⟩), (.fieldAddr 2 (.t 3))⟩,
  ⟨(.some 27), (.some ⟨22, .false⟩), (.load .none (.t 26))⟩,
  ⟨(.some 28), (.some ⟨22, .false⟩), (.call 25 [(.t 23), (.t 25), (.t 27)])⟩,
  ⟨(.some 29), (.some ⟨22, .false⟩), (.un .not (.t 28))⟩,
  ⟨(.some 30), .none, (.pick (.t 22) (.c (.d (.bool .true))) (.t 29))⟩,
  ⟨(.some 31), .none, (.mov (.t 30))⟩,
  ⟨(.some 32), (.some ⟨31, .false⟩), (.fieldAddr 3 (.t 3))⟩,
  ⟨(.some 33), (.some ⟨31, .false⟩), (.load .none (.t 32))⟩,
  ⟨(.some 34), (.some ⟨31, .false⟩), (.call 26 [(.t 33), (.c (.d (.int .i64 0))), (.c (.d (.int .i64 1000000)))])⟩,
  ⟨(.some 35), (.some ⟨31, .false⟩), (.un .not (.t 34))⟩,
  ⟨(.some 36), .none, (.pick (.t 31) (.c (.d (.bool .true))) (.t 35))⟩,
  ⟨(.some 37), .none, (.mov (.t 36))⟩,
  ⟨(.some 38), (.some ⟨37, .false⟩), (.fieldAddr 4 (.t 3))⟩,
  ⟨(.some 39), (.some ⟨37, .false⟩), (.load .none (.t 38))⟩,
  ⟨(.some 40), (.some ⟨37, .false⟩), (.call 26 [(.t 39), (.c (.d (.int .i64 1))), (.c (.d (.int .i64 1000000)))])⟩,
  ⟨(.some 41), (.some ⟨37, .false⟩), (.un .not (.t 40))⟩,
  ⟨(.some 42), .none, (.pick (.t 37) (.c (.d (.bool .true))) (.t 41))⟩,
  ⟨(.some 43), .none, (.mov (.t 42))⟩,
  ⟨(.some 44), (.some ⟨43, .false⟩), (.fieldAddr 5 (.t 3))⟩,
  ⟨(.some 45), (.some ⟨43, .false⟩), (.load .none (.t 44))⟩,
  ⟨(.some 46), (.some ⟨43, .false⟩), (.bin .neq (.t 45) (.c (.d (.int .i64 1))))⟩,
  ⟨(.some 47), (.some ⟨43, .false⟩), (.mov (.t 46))⟩,
  ⟨(.some 48), (.some ⟨47, .true⟩), (.fieldAddr 5 (.t 3))⟩,
  ⟨(.some 49), (.some ⟨47, .true⟩), (.load .none (.t 48))⟩,
  ⟨(.some 50), (.some ⟨47, .true⟩), (.bin .neq (.t 49) (.c (.d (.int .i64 2))))⟩,
  ⟨(.some 51), (.some ⟨43, .false⟩), (.pick (.t 47) (.t 50) (.c (.d (.bool .false))))⟩,
  ⟨(.some 52), .none, (.pick (.t 43) (.c (.d (.bool .true))) (.t 51))⟩,
  ⟨(.some 53), .none, (.mov (.t 52))⟩,
  ⟨(.some 54), (.some ⟨53, .false⟩), (.fieldAddr 7 (.t 3))⟩,
  ⟨(.some 55), (.some ⟨53, .false⟩), (.load .none (.t 54))⟩,
  ⟨(.some 56), (.some ⟨53, .false⟩), (.call 26 [(.t 55), (.c (.d (.int .i64 0))), (.c (.d (.int .i64 3)))])⟩,
  ⟨(.some 57), (.some ⟨53, .false⟩), (.un .not (.t 56))⟩,
  ⟨(.some 58), .none, (.pick (.t 53) (.c (.d (.bool .true))) (.t 57))⟩,
  ⟨(.some 59), .none, (.mov (.t 58))⟩,
  ⟨(.some 60), (.some ⟨59, .false⟩), (.fieldAddr 6 (.t 3))⟩,
  ⟨(.some 61), (.some ⟨59, .false⟩), (.load .none (.t 60))⟩,
  ⟨(.some 62), (.some ⟨59, .false⟩), (.len (.t 61))⟩,
  ⟨(.some 63), (.some ⟨59, .false⟩), (.bin .lss (.t 62) (.c (.d (.int .i64 1))))⟩,
  ⟨(.some 64), .none, (.pick (.t 59) (.c (.d (.bool .true))) (.t 63))⟩,
  ⟨(.some 65), .none, (.mov (.t 64))⟩,
  ⟨(.some 66), (.some ⟨65, .false⟩), (.fieldAddr 6 (.t 3))⟩,
  ⟨(.some 67), (.some ⟨65, .false⟩), (.load .none (.t 66))⟩,
  ⟨(.some 68), (.some ⟨65, .false⟩), (.len (.t 67))⟩,
  ⟨(.some 69), (.some ⟨65, .false⟩), (.bin .gtr (.t 68) (.c (.d (.int .i64 8))))⟩,
  ⟨(.some 70), .none, (.pick (.t 65) (.c (.d (.bool .true))) (.t 69))⟩,
  ⟨(.some 71), .none, (.mov (.t 70))⟩,
  ⟨(.some 72), (.some ⟨71, .false⟩), (.fieldAddr 8 (.t 3))⟩,
  ⟨(.some 73), (.some ⟨71, .false⟩), (.load .none (.t 72))⟩,
  ⟨(.some 74), (.some ⟨71, .false⟩), (.len (.t 73))⟩,
  ⟨(.some 75), (.some ⟨71, .false⟩), (.bin .gtr (.t 74) (.c (.d (.int .i64 6))))⟩,
  ⟨(.some 76), .none, (.pick (.t 71) (.c (.d (.bool .true))) (.t 75))⟩]
abbrev c_poundageref10_Part_r2 : List AO := [⟨(.some 4), .none, (.mov (.c (.d (.bool .false))))⟩]
abbrev c_poundageref10_Part_r3 : List AO := [⟨(.some 77), .none, (.fieldAddr 6 (.t 3))⟩,
  ⟨(.some 78), .none, (.load .none (.t 77))⟩,
  ⟨(.some 79), .none, (.len (.t 78))⟩,
  ⟨(.some 80), .none, (.mov (.c (.d (.int .i64 0))))⟩]
abbrev c_poundageref10_Part_r4 : List AO := [⟨(.some 81), .none, (.bin .lss (.t 80) (.t 79))⟩]
abbrev c_poundageref10_Part_r5 : List AO := [⟨(.some 82), .none, (.mov (.t 80))⟩,
  ⟨(.some 83), .none, (.elemAddr 2 (.t 78) (.t 80))⟩,
  ⟨(.some 84), .none, (.load (.some 2) (.t 83))⟩,
  ⟨(.some 6), .none, (.alloc 62 [(.d (.int .i64 0)), (.d (.int .i64 0))])⟩,
  ⟨(.some 5), .none, (.mov (.t 82))⟩,
  ⟨.none, .none, (.store 2 (.t 6) (.t 84))⟩]
abbrev c_poundageref10_Part_r6 : List AO := [⟨(.some 7), .none, (.mov (.c (.d (.int .i64 1))))⟩,
  ⟨(.some 8), .none, (.mov (.c (.d (.int .i64 1000000))))⟩]
abbrev c_poundageref10_Part_r7 : List AO := [⟨(.some 85), .none, (.mov (.t 5))⟩,
  ⟨(.some 86), .none, (.bin .gtr (.t 85) (.c (.d (.int .i64 0))))⟩,
  ⟨(.some 87), .none, (.mov (.t 86))⟩,
  ⟨(.some 88), (.some ⟨87, .true⟩), (.fieldAddr 6 (.t 3))⟩,
  ⟨(.some 89), (.some ⟨87, .true⟩), (.load .none (.t 88))⟩,
  ⟨(.some 90), (.some ⟨87, .true⟩), (.mov (.t 5))⟩,
  ⟨(.some 91), (.some ⟨87, .true⟩), (.bin .sub (.t 90) (.c (.d (.int .i64 1))))⟩,
  ⟨(.some 92), (.some ⟨87, .true⟩), (.elemAddr 2 (.t 89) (.t 91))⟩,
  ⟨(.some 93), (.some ⟨87, .true⟩), (.fieldAddr 0 (.t 92))⟩,
  ⟨(.some 94), (.some ⟨87, .true⟩), (.load .none (.t 93))⟩,
  ⟨(.some 95), (.some ⟨87, .true⟩), (.bin .geq (.t 94) (.c (.d (.int .i64 1))))⟩,
  ⟨(.some 96), .none, (.pick (.t 87) (.t 95) (.c (.d (.bool .false))))⟩]
abbrev c_poundageref10_Part_r8 : List AO := [⟨(.some 97), .none, (.fieldAddr 6 (.t 3))⟩,
  ⟨(.some 98), .none, (.load .none (.t 97))⟩,
  ⟨(.some 99), .none, (.mov (.t 5))⟩,
  ⟨(.some 100), .none, (.bin .sub (.t 99) (.c (.d (.int .i64 1))))⟩,
  ⟨(.some 101), .none, (.elemAddr 2 (.t 98) (.t 100))⟩,
  ⟨(.some 102), .none, (.fieldAddr 0 (.t 101))⟩,
  ⟨(.some 103), .none, (.load .none (.t 102))⟩,
  ⟨(.some 104), .none, (.minmax .false (.t 103) [(.c (.d (.int .i64 1000000)))])⟩,
  ⟨(.some 105), .none, (.bin .add (.t 104) (.c (.d (.int .i64 1))))⟩,
  ⟨(.some 7), .none, (.mov (.t 105))⟩]
abbrev c_poundageref10_Part_r9 : List AO := [⟨(.some 106), .none, (.mov (.t 5))⟩,
  ⟨(.some 107), .none, (.fieldAddr 6 (.t 3))⟩,
  ⟨(.some 108), .none, (.load .none (.t 107))⟩,
  ⟨(.some 109), .none, (.len (.t 108))⟩,
  ⟨(.some 110), .none, (.bin .sub (.t 109) (.c (.d (.int .i64 1))))⟩,
  ⟨(.some 111), .none, (.bin .eql (.t 106) (.t 110))⟩]
abbrev c_poundageref10_Part_r10 : List AO := [⟨(.some 7), .none, (.mov (.c (.d (.int .i64 0))))⟩,
  ⟨(.some 8), .none, (.mov (.c (.d (.int .i64 0))))⟩]
abbrev c_poundageref10_Part_r11 : List AO := [⟨(.some 112), .none, (.fieldAddr 1 (.t 6))⟩,
  ⟨(.some 113), .none, (.load .none (.t 112))⟩,
  ⟨(.some 114), .none, (.call 26 [(.t 113), (.c (.d (.int .i64 0))), (.c (.d (.int .i64 1000000000000)))])⟩,
  ⟨(.some 115), .none, (.un .not (.t 114))⟩,
  ⟨(.some 116), .none, (.mov (.t 115))⟩,
  ⟨(.some 117), (.some ⟨116, .false⟩), (.fieldAddr 0 (.t 6))⟩,
  ⟨(.some 118), (.some ⟨116, .false⟩), (.load .none (.t 117))⟩,
  ⟨(.some 119), (.some ⟨116, .false⟩), (.mov (.t 7))⟩,
  ⟨(.some 120), (.some ⟨116, .false⟩), (.mov (.t 8))⟩,
  ⟨(.some 121), (.some ⟨116, .false⟩), (.call 26 [(.t 118), (.t 119), (.t 120)])⟩,
  ⟨(.some 122), (.some ⟨116, .false⟩), (.un .not (.t 121))⟩,
  ⟨(.some 123), .none, (.pick (.t 116) (.c (.d (.bool .true))) (.t 122))⟩]
abbrev c_poundageref10_Part_r12 : List AO := [⟨(.some 4), .none, (.mov (.c (.d (.bool .false))))⟩]
abbrev c_poundageref10_Part_r13 : List AO := [⟨(.some 124), .none, (.bin .add (.t 80) (.c (.d (.int .i64 1))))⟩,
  ⟨(.some 80), .none, (.mov (.t 124))⟩]
abbrev c_poundageref10_Part_l0 : ACode := (.seq (.ops c_poundageref10_Part_r4) (.seq (.cond (.t 81) .skip (.exit 0)) (.seq (.block 1 (.seq (.ops c_poundageref10_Part_r5) (.seq (.ops c_poundageref10_Part_r6) (.seq (.seq (.ops c_poundageref10_Part_r7) (.cond (.t 96) (.ops c_poundageref10_Part_r8) .skip)) (.seq (.seq (.ops c_poundageref10_Part_r9) (.cond (.t 111) (.ops c_poundageref10_Part_r10) .skip)) (.seq (.ops c_poundageref10_Part_r11) (.cond (.t 123) (.seq (.ops c_poundageref10_Part_r12) .ret) .skip))))))) (.ops c_poundageref10_Part_r13))))
abbrev c_poundageref10_Part_r14 : List AO := [⟨(.some 125), .none, (.fieldAddr 8 (.t 3))⟩,
  ⟨(.some 126), .none, (.load .none (.t 125))⟩,
  ⟨(.some 127), .none, (.len (.t 126))⟩,
  ⟨(.some 128), .none, (.mov (.c (.d (.int .i64 0))))⟩]
abbrev c_poundageref10_Part_r15 : List AO := [⟨(.some 129), .none, (.bin .lss (.t 128) (.t 127))⟩]
abbrev c_poundageref10_Part_r16 : List AO := [⟨(.some 130), .none, (.elemAddr 3 (.t 126) (.t 128))⟩,
  ⟨(.some 131), .none, (.load (.some 3) (.t 130))⟩,
  ⟨(.some 10), .none, (.alloc 70 [(.d (.int .i64 0)), (.d (.int .i64 0)), (.d (.int .i64 0))])⟩,
  ⟨.none, .none, (.store 3 (.t 10) (.t 131))⟩]
abbrev c_poundageref10_Part_r17 : List AO := [⟨(.some 132), .none, (.fieldAddr 0 (.t 10))⟩,
  ⟨(.some 133), .none, (.load .none (.t 132))⟩]
abbrev c_poundageref10_Part_r18 : List AO := [⟨(.some 135), .none, (.bin .eql (.t 133) (.c (.d (.int .i64 1))))⟩,
  ⟨(.some 134), .none, (.mov (.t 135))⟩]
abbrev c_poundageref10_Part_r19 : List AO := [⟨(.some 136), .none, (.fieldAddr 1 (.t 10))⟩,
  ⟨(.some 137), .none, (.load .none (.t 136))⟩,
  ⟨(.some 138), .none, (.call 26 [(.t 137), (.c (.d (.int .i64 0))), (.c (.d (.int .i64 100000000)))])⟩,
  ⟨(.some 139), .none, (.un .not (.t 138))⟩,
  ⟨(.some 140), .none, (.mov (.t 139))⟩,
  ⟨(.some 141), (.some ⟨140, .false⟩), (.fieldAddr 2 (.t 10))⟩,
  ⟨(.some 142), (.some ⟨140, .false⟩), (.load .none (.t 141))⟩,
  ⟨(.some 143), (.some ⟨140, .false⟩), (.call 26 [(.t 142), (.c (.d (.int .i64 0))), (.c (.d (.int .i64 3)))])⟩,
  ⟨(.some 144), (.some ⟨140, .false⟩), (.un .not (.t 143))⟩,
  ⟨(.some 145), .none, (.pick (.t 140) (.c (.d (.bool .true))) (.t 144))⟩]
abbrev c_poundageref10_Part_r20 : List AO := [⟨(.some 4), .none, (.mov (.c (.d (.bool .false))))⟩]
abbrev c_poundageref10_Part_r21 : List AO := [⟨(.some 147), .none, (.bin .eql (.t 133) (.c (.d (.int .i64 2))))⟩,
  ⟨(.some 146), .none, (.mov (.t 147))⟩]
abbrev c_poundageref10_Part_r22 : List AO := [⟨(.some 148), .none, (.bin .eql (.t 133) (.c (.d (.int .i64 3))))⟩,
  ⟨(.some 146), .none, (.mov (.t 148))⟩]
abbrev c_poundageref10_Part_r23 : List AO := [⟨(.some 149), .none, (.bin .eql (.t 133) (.c (.d (.int .i64 4))))⟩,
  ⟨(.some 146), .none, (.mov (.t 149))⟩]
abbrev c_poundageref10_Part_r24 : List AO := [⟨(.some 150), .none, (.fieldAddr 1 (.t 10))⟩,
  ⟨(.some 151), .none, (.load .none (.t 150))⟩,
  ⟨(.some 152), .none, (.call 26 [(.t 151), (.c (.d (.int .i64 0))), (.c (.d (.int .i64 1000000000000)))])⟩,
  ⟨(.some 153), .none, (.un .not (.t 152))⟩,
  ⟨(.some 154), .none, (.mov (.t 153))⟩,
  ⟨(.some 155), (.some ⟨154, .false⟩), (.fieldAddr 2 (.t 10))⟩,
  ⟨(.some 156), (.some ⟨154, .false⟩), (.load .none (.t 155))⟩,
  ⟨(.some 157), (.some ⟨154, .false⟩), (.bin .neq (.t 156) (.c (.d (.int .i64 0))))⟩,
  ⟨(.some 158), .none, (.pick (.t 154) (.c (.d (.bool .true))) (.t 157))⟩]
abbrev c_poundageref10_Part_r25 : List AO := [⟨(.some 4), .none, (.mov (.c (.d (.bool .false))))⟩]
abbrev c_poundageref10_Part_r26 : List AO := [⟨(.some 4), .none, (.mov (.c (.d (.bool .false))))⟩]
abbrev c_poundageref10_Part_r27 : List AO := [⟨(.some 159), .none, (.bin .add (.t 128) (.c (.d (.int .i64 1))))⟩,
  ⟨(.some 128), .none, (.mov (.t 159))⟩]
abbrev c_poundageref10_Part_l1 : ACode := (.seq (.ops c_poundageref10_Part_r15) (.seq (.cond (.t 129) .skip (.exit 2)) (.seq (.block 3 (.seq (.ops c_poundageref10_Part_r16) (.seq (.ops c_poundageref10_Part_r17) (.block 4 (.seq (.ops c_poundageref10_Part_r18) (.cond (.t 134) (.seq (.ops c_poundageref10_Part_r19) (.cond (.t 145) (.seq (.ops c_poundageref10_Part_r20) .ret) .skip)) (.seq (.seq (.ops c_poundageref10_Part_r21) (.cond (.t 146) .skip (.seq (.ops c_poundageref10_Part_r22) (.cond (.t 146) .skip (.ops c_poundageref10_Part_r23))))) (.cond (.t 146) (.seq (.ops c_poundageref10_Part_r24) (.cond (.t 158) (.seq (.ops c_poundageref10_Part_r25) .ret) .skip)) (.seq (.ops c_poundageref10_Part_r26) .ret))))))))) (.ops c_poundageref10_Part_r27))))
abbrev c_poundageref10_Part_r28 : List AO := [⟨(.some 4), .none, (.mov (.c (.d (.bool .true))))⟩]
abbrev c_poundageref10_Part : AFunc := ⟨160, [(.tmp 4)], (.seq (.ops c_poundageref10_Part_r0) (.seq (.seq (.ops c_poundageref10_Part_r1) (.cond (.t 76) (.seq (.ops c_poundageref10_Part_r2) .ret) .skip)) (.seq (.seq (.ops c_poundageref10_Part_r3) (.block 0 (.loop c_poundageref10_Part_l0))) (.seq (.seq (.ops c_poundageref10_Part_r14) (.block 2 (.loop c_poundageref10_Part_l1))) (.seq (.ops c_poundageref10_Part_r28) .ret)))))⟩
theorem comp_poundageref10_Part : funcC Try.prog 12 = some c_poundageref10_Part := by kernel_rfl
/-! function 13 : poundage price.Part -/
abbrev f_price_Part : FuncId := 13
abbrev c_price_Part_r0 : List AO := [⟨(.some 2), .none, (.box 39 (.t 0))⟩,
  ⟨(.some 4), .none, (.mov (.c (.d (.int .i64 0))))⟩,
  ⟨(.some 5), .none, (.mov (.c (.d (.bool .false))))⟩]
abbrev c_price_Part_r1 : List AO := [⟨(.some 9), .none, (.load (.some 9) (.t 2))⟩,
  ⟨(.some 10), .none, (.mov (.t 1))⟩,
  ⟨(.some 11), .none, (.call 27 [(.t 9), (.t 10)])⟩,
  ⟨(.some 8), .none, (.mov (.t 11))⟩,
  ⟨(.some 12), .none, (.extract (.t 8) 0)⟩,
  ⟨(.some 13), .none, (.extract (.t 8) 1)⟩,
  ⟨(.some 6), .none, (.mov (.t 12))⟩,
  ⟨(.some 7), .none, (.mov (.t 13))⟩]
abbrev c_price_Part_r2 : List AO := [⟨(.some 14), .none, (.mov (.t 7))⟩,
  ⟨(.some 15), .none, (.un .not (.t 14))⟩]
abbrev c_price_Part_r3 : List AO := [⟨(.some 4), .none, (.mov (.c (.d (.int .i64 0))))⟩,
  ⟨(.some 5), .none, (.mov (.c (.d (.bool .false))))⟩]
abbrev c_price_Part_r4 : List AO := [⟨(.some 16), .none, (.mov (.t 6))⟩,
  ⟨(.some 17), .none, (.fieldAddr 8 (.t 2))⟩,
  ⟨(.some 18), .none, (.load .none (.t 17))⟩,
  ⟨(.some 19), .none, (.call 28 [(.t 16), (.t 18)])⟩,
  ⟨(.some 20), .none, (.extract (.t 19) 0)⟩,
  ⟨(.some 21), .none, (.extract (.t 19) 1)⟩,
  ⟨(.some 4), .none, (.mov (.t 20))⟩,
  ⟨(.some 5), .none, (.mov (.t 21))⟩]
abbrev c_price_Part : AFunc := ⟨22, [(.tmp 4), (.tmp 5)], (.seq (.ops c_price_Part_r0) (.seq (.ops c_price_Part_r1) (.seq (.seq (.ops c_price_Part_r2) (.cond (.t 15) (.seq (.ops c_price_Part_r3) .ret) .skip)) (.seq (.ops c_price_Part_r4) .ret))))⟩
theorem comp_price_Part : funcC Try.prog 13 = some c_price_Part := by kernel_rfl
/-! function 14 : poundage poundageref13.Part -/
abbrev f_poundageref13_Part : FuncId := 14
abbrev c_poundageref13_Part_r0 : List AO := [⟨(.some 2), .none, (.box 39 (.t 0))⟩,
  ⟨(.some 4), .none, (.mov (.c (.d (.int .i64 0))))⟩,
  ⟨(.some 5), .none, (.mov (.c (.d (.bool .false))))⟩]
abbrev c_poundageref13_Part_r1 : List AO := [⟨(.some 9), .none, (.load (.some 9) (.t 2))⟩,
  ⟨(.some 10), .none, (.mov (.t 1))⟩,
  ⟨(.some 11), .none, (.call 29 [(.t 9), (.t 10)])⟩,
  ⟨(.some 8), .none, (.mov (.t 11))⟩,
  ⟨(.some 12), .none, (.extract (.t 8) 0)⟩,
  ⟨(.some 13), .none, (.extract (.t 8) 1)⟩,
  ⟨(.some 6), .none, (.mov (.t 12))⟩,
  ⟨(.some 7), .none, (.mov (.t 13))⟩]
abbrev c_poundageref13_Part_r2 : List AO := [⟨(.some 14), .none, (.mov (.t 7))⟩,
  ⟨(.some 15), .none, (.un .not (.t 14))⟩]
abbrev c_poundageref13_Part_r3 : List AO := [⟨(.some 4), .none, (.mov (.c (.d (.int .i64 0))))⟩,
  ⟨(.some 5), .none, (.mov (.c (.d (.bool .false))))⟩]
abbrev c_poundageref13_Part_r4 : List AO := [⟨(.some 16), .none, (.mov (.t 6))⟩,
  ⟨(.some 17), .none, (.fieldAddr 8 (.t 2))⟩,
  ⟨(.some 18), .none, (.load .none (.t 17))⟩,
  ⟨(.some 19), .none, (.call 30 [(.t 16), (.t 18)])⟩,
  ⟨(.some 20), .none, (.extract (.t 19) 0)⟩,
  ⟨(.some 21), .none, (.extract (.t 19) 1)⟩,
  ⟨(.some 4), .none, (.mov (.t 20))⟩,
  ⟨(.some 5), .none, (.mov (.t 21))⟩]
abbrev c_poundageref13_Part : AFunc := ⟨22, [(.tmp 4), (.tmp 5)], (.seq (.ops c_poundageref13_Part_r0) (.seq (.ops c_poundageref13_Part_r1) (.seq (.seq (.ops c_poundageref13_Part_r2) (.cond (.t 15) (.seq (.ops c_poundageref13_Part_r3) .ret) .skip)) (.seq (.ops c_poundageref13_Part_r4) .ret))))⟩
theorem comp_poundageref13_Part : funcC Try.prog 14 = some c_poundageref13_Part := by kernel_rfl
/-! function 18 : poundage poundageref10.Good -/
abbrev f_poundageref10_Good : FuncId := 18
abbrev c_poundageref10_Good_r0 : List AO := [⟨(.some 1), .none, (.box 26 (.t 0))⟩,
  ⟨(.some 2), .none, (.mov (.c (.d (.bool .false))))⟩]
abbrev c_poundageref10_Good_r1 : List AO := [⟨(.some 9), .none, (.fieldAddr 1 (.t 1))⟩,
  ⟨(.some 10), .none, (.load .none (.t 9))⟩,
  ⟨(.some 11), .none, (.call 26 [(.t 10), (.c (.d (.int .i64 0))), (.c (.d (.int .i64 3652058)))])⟩,
  ⟨(.some 12), .none, (.un .not (.t 11))⟩,
  ⟨(.some 13), .none, (.mov (.t 12))⟩,
  ⟨(.some 14), (.some ⟨13, .false⟩), (.fieldAddr 2 (.t 1))⟩,
  ⟨(.some 15), (.some ⟨13, .false⟩), (.load .none (.t 14))⟩,
  ⟨(.some 16), (.some ⟨13, .false⟩), (.fieldAddr 1 (.t 1))⟩,
  ⟨(.some 17), (.some ⟨13, .false⟩), (.load .none (.t 16))⟩,
  ⟨(.some 18), (.some ⟨13, .false⟩), (.call 26 [(.t 15), (.t 17), (.c (.d (.int .i64 3652058)))])⟩,
  ⟨(.some 19), (.some ⟨13, .false⟩), (.un .not (.t 18))⟩,
  ⟨(.some 20), .none, (.pick (.t 13) (.c (.d (.bool .true))) (.t 19))⟩,
  ⟨(.some 21), .none, (.mov (.t 20))⟩,
  ⟨(.some 22), (.some ⟨21, .false⟩), (.fieldAddr 2 (.t 1))⟩,
  ⟨(.some 23), (.some ⟨21, .false⟩), (.load .none (.t 22))⟩,
  ⟨(.some 24), (.some ⟨21, .false⟩), (.fieldAddr 1 (.t 1))⟩,
  ⟨(.some 25), (.some ⟨21, .false⟩), (.load .none (.t 24))⟩,
  ⟨(.some 26), (.some ⟨21, .false⟩), (.bin .sub (.t 23) (.t 25))⟩,
  ⟨(.some 27), (.some ⟨21, .false⟩), (.bin .gtr (.t 26) (.c (.d (.int .i64 3999))))⟩,
  ⟨(.some 28), .none, (.pick (.t 21) (.c (.d (.bool .true))) (.t 27))⟩,
  ⟨(.some 29), .none, (.mov (.t 28))⟩,
  ⟨(.some 30), (.some ⟨29, .false⟩), (.fieldAddr 3 (.t 1))⟩,
  ⟨(.some 31), (.some ⟨29, .false⟩), (.load .none (.t 30))⟩,
  ⟨(.some 32), (.some ⟨29, .false⟩), (.len (.t 31))⟩,
  ⟨(.some 33), (.some ⟨29, .false⟩), (.bin .gtr (.t 32) (.c (.d (.int .i64 4))))⟩,
  ⟨(.some 34), .none, (.pick (.t 29) (.c (.d (.bool .true))) (.t 33))⟩,
  ⟨(.some 35), .none, (.mov (.t 34))⟩,
  ⟨(.some 36), (.some ⟨35, .false⟩), (.fieldAddr 4 (.t 1))⟩,
  ⟨(.some 37), (.some ⟨35, .false⟩), (.load .none (.t 36))⟩,
  ⟨(.some 38), (.some ⟨35, .false⟩), (.len (.t 37))⟩,
  ⟨(.some 39), (.some ⟨35, .false⟩), (.bin .gtr (.t 38) (.c (.d (.int .i64 8))))⟩,
  ⟨(.some 40), .none, (.pick (.t 35) (.c (.d (.bool .true))) (.t 39))⟩,
  ⟨(.some 41), .none, (.mov (.t 40))⟩,
  ⟨(.some 42), (.some ⟨41, .false⟩), (.fieldAddr 5 (.t 1))⟩,
  ⟨(.some 43), (.some ⟨41, .false⟩), (.load .none (.t 42))⟩,
  ⟨(.some 44), (.some ⟨41, .false⟩), (.len (.t 43))⟩,
  ⟨(.some 45), (.some ⟨41, .false⟩), (.bin .gtr (.t 44) (.c (.d (.int .i64 8))))⟩,
  ⟨(.some 46), .none, (.pick (.t 41) (.c (.d (.bool .true))) (.t 45))⟩]
abbrev c_poundageref10_Good_r2 : List AO := [⟨(.some 2), .none, (.mov (.c (.d (.bool .false))))⟩]
abbrev c_poundageref10_Good_r3 : List AO := [⟨(.some 47), .none, (.fieldAddr 3 (.t 1))⟩,
  ⟨(.some 48), .none, (.load .none (.t 47))⟩,
  ⟨(.some 49), .none, (.len (.t 48))⟩,
  ⟨(.some 50), .none, (.mov (.c (.d (.int .i64 0))))⟩]
abbrev c_poundageref10_Good_r4 : List AO := [⟨(.some 51), .none, (.bin .lss (.t 50) (.t 49))⟩]
abbrev c_poundageref10_Good_r5 : List AO := [⟨(.some 52), .none, (.mov (.t 50))⟩,
  ⟨(.some 53), .none, (.elemAddr 5 (.t 48) (.t 50))⟩,
  ⟨(.some 54), .none, (.load (.some 5) (.t 53))⟩,
  ⟨(.some 4), .none, (.alloc 42 [(.d (.str ⟨⟨[]⟩⟩)), (.d (.str ⟨⟨[]⟩⟩)), (.d (.int .i64 0)), (.d (.int .i64 0)), (.d (.int .i64 0))])⟩,
  ⟨(.some 3), .none, (.mov (.t 52))⟩,
  ⟨.none, .none, (.store 5 (.t 4) (.t 54))⟩]
abbrev c_poundageref10_Good_r6 : List AO := [⟨(.some 55), .none, (.fieldAddr 2 (.t 4))⟩,
  ⟨(.some 56), .none, (.load .none (.t 55))⟩,
  ⟨(.some 57), .none, (.call 26 [(.t 56), (.c (.d (.int .i64 0))), (.c (.d (.int .i64 2000)))])⟩,
  ⟨(.some 58), .none, (.un .not (.t 57))⟩,
  ⟨(.some 59), .none, (.mov (.t 58))⟩,
  ⟨(.some 60), (.some ⟨59, .false⟩), (.fieldAddr 3 (.t 4))⟩,
  ⟨(.some 61), (.some ⟨59, .false⟩), (.load .none (.t 60))⟩,
  ⟨(.some 62), (.some ⟨59, .false⟩), (.bin .neq (.t 61) (.c (.d (.int .i64 0))))⟩,
  ⟨(.some 63), .none, (.pick (.t 59) (.c (.d (.bool .true))) (.t 62))⟩,
  ⟨(.some 64), .none, (.mov (.t 63))⟩,
  ⟨(.some 65), (.some ⟨64, .false⟩), (.fieldAddr 4 (.t 4))⟩,
  ⟨(.some 66), (.some ⟨64, .false⟩), (.load .none (.t 65))⟩,
  ⟨(.some 67), (.some ⟨64, .false⟩), (.bin .neq (.t 66) (.c (.d (.int .i64 0))))⟩,
  ⟨(.some 68), .none, (.pick (.t 64) (.c (.d (.bool .true))) (.t 67))⟩,
  ⟨(.some 69), .none, (.mov (.t 68))⟩,
  ⟨(.some 70), (.some ⟨69, .false⟩), (.mov (.t 3))⟩,
  ⟨(.some 71), (.some ⟨69, .false⟩), (.bin .gtr (.t 70) (.c (.d (.int .i64 0))))⟩,
  ⟨(.some 72), (.some ⟨69, .false⟩), (.mov (.t 71))⟩,
  ⟨(.some 73), (.some ⟨72, .true⟩), (.fieldAddr 3 (.t 1))⟩,
  ⟨(.some 75), (.some ⟨72, .true⟩), (.mov (.t 3))⟩,
  ⟨(.some 76), (.some ⟨72, .true⟩), (.bin .sub (.t 75) (.c (.d (.int .i64 1))))⟩,
  ⟨(.some 80), (.some ⟨72, .true⟩), (.fieldAddr 0 (.t 4))⟩,
  ⟨(.some 74), (.some ⟨72, .true⟩), (.load .none (.t 73))⟩,
  ⟨(.some 77), (.some ⟨72, .true⟩), (.elemAddr 5 (.t 74) (.t 76))⟩,
  ⟨(.some 78), (.some ⟨72, .true⟩), (.fieldAddr 0 (.t 77))⟩,
  ⟨(.some 79), (.some ⟨72, .true⟩), (.load .none (.t 78))⟩,
  ⟨(.some 81), (.some ⟨72, .true⟩), (.load .none (.t 80))⟩,
  ⟨(.some 82), (.some ⟨72, .true⟩), (.bin .lss (.t 79) (.t 81))⟩,
  ⟨(.some 83), (.some ⟨72, .true⟩), (.un .not (.t 82))⟩,
  ⟨(.some 84), (.some ⟨69, .false⟩), (.pick (.t 72) (.t 83) (.c (.d (.bool .false))))⟩,
  ⟨(.some 85), .none, (.pick (.t 69) (.c (.d (.bool .true))) (.t 84))⟩]
abbrev c_poundageref10_Good_r7 : List AO := [⟨(.some 2), .none, (.mov (.c (.d (.bool .false))))⟩]
abbrev c_poundageref10_Good_r8 : List AO := [⟨(.some 86), .none, (.bin .add (.t 50) (.c (.d (.int .i64 1))))⟩,
  ⟨(.some 50), .none, (.mov (.t 86))⟩]
abbrev c_poundageref10_Good_l0 : ACode := (.seq (.ops c_poundageref10_Good_r4) (.seq (.cond (.t 51) .skip (.exit 0)) (.seq (.block 1 (.seq (.ops c_poundageref10_Good_r5) (.seq (.dops c_poundageref10_Good_r6) (.cond (.t 85) (.seq (.ops c_poundageref10_Good_r7) .ret) .skip)))) (.ops c_poundageref10_Good_r8))))
abbrev c_poundageref10_Good_r9 : List AO := [⟨(.some 87), .none, (.fieldAddr 4 (.t 1))⟩,
  ⟨(.some 88), .none, (.load .none (.t 87))⟩,
  ⟨(.some 89), .none, (.len (.t 88))⟩,
  ⟨(.some 90), .none, (.mov (.c (.d (.int .i64 0))))⟩]
abbrev c_poundageref10_Good_r10 : List AO := [⟨(.some 91), .none, (.bin .lss (.t 90) (.t 89))⟩]
abbrev c_poundageref10_Good_r11 : List AO := [⟨(.some 92), .none, (.elemAddr 3 (.t 88) (.t 90))⟩,
  ⟨(.some 93), .none, (.load (.some 3) (.t 92))⟩,
  ⟨(.some 6), .none, (.alloc 59 [(.d (.int .i64 0)), (.d (.int .i64 0)), (.d (.int .i64 0))])⟩,
  ⟨.none, .none, (.store 3 (.t 6) (.t 93))⟩]
abbrev c_poundageref10_Good_r12 : List AO := [⟨(.some 94), .none, (.fieldAddr 0 (.t 6))⟩,
  ⟨(.some 95), .none, (.load .none (.t 94))⟩,
  ⟨(.some 96), .none, (.call 26 [(.t 95), (.c (.d (.int .i64 0))), (.c (.d (.int .i64 1000000000000)))])⟩,
  ⟨(.some 97), .none, (.un .not (.t 96))⟩,
  ⟨(.some 98), .none, (.mov (.t 97))⟩,
  ⟨(.some 99), (.some ⟨98, .false⟩), (.load (.some 6) (.t 1))⟩,
  ⟨(.some 100), (.some ⟨98, .false⟩), (.fieldAddr 1 (.t 6))⟩,
  ⟨(.some 101), (.some ⟨98, .false⟩), (.load .none (.t 100))⟩,
  ⟨(.some 102), (.some ⟨98, .false⟩), (.fieldAddr 2 (.t 6))⟩,
  ⟨(.some 103), (.some ⟨98, .false⟩), (.load .none (.t 102))⟩,
  ⟨(.some 104), (.some ⟨98, .false⟩), (.call 25 [(.t 99), (.t 101), (.t 103)])⟩,
  ⟨(.some 105), (.some ⟨98, .false⟩), (.un .not (.t 104))⟩,
  ⟨(.some 106), .none, (.pick (.t 98) (.c (.d (.bool .true))) (.t 105))⟩]
abbrev c_poundageref10_Good_r13 : List AO := [⟨(.some 2), .none, (.mov (.c (.d (.bool .false))))⟩]
abbrev c_poundageref10_Good_r14 : List AO := [⟨(.some 107), .none, (.bin .add (.t 90) (.c (.d (.int .i64 1))))⟩,
  ⟨(.some 90), .none, (.mov (.t 107))⟩]
abbrev c_poundageref10_Good_l1 : ACode := (.seq (.ops c_poundageref10_Good_r10) (.seq (.cond (.t 91) .skip (.exit 2)) (.seq (.block 3 (.seq (.ops c_poundageref10_Good_r11) (.seq (.ops c_poundageref10_Good_r12) (.cond (.t 106) (.seq (.ops c_poundageref10_Good_r13) .ret) .skip)))) (.ops c_poundageref10_Good_r14))))
abbrev c_poundageref10_Good_r15 : List AO := [⟨(.some 108), .none, (.fieldAddr 5 (.t 1))⟩,
  ⟨(.some 109), .none, (.load .none (.t 108))⟩,
  ⟨(.some 110), .none, (.len (.t 109))⟩,
  ⟨(.some 111), .none, (.mov (.c (.d (.int .i64 0))))⟩]
abbrev c_poundageref10_Good_r16 : List AO := [⟨(.some 112), .none, (.bin .lss (.t 111) (.t 110))⟩]
abbrev c_poundageref10_Good_r17 : List AO := [⟨(.some 113), .none, (.elemAddr 9 (.t 109) (.t 111))⟩,
  ⟨(.some 114), .none, (.load (.some 9) (.t 113))⟩,
  ⟨(.some 8), .none, (.alloc 39 [(.d (.int .i64 0)), (.d (.int .i64 0)), (.d (.int .i64 0)), (.d (.int .i64 0)), (.d (.int .i64 0)), (.d (.int .i64 0)), (.nilsl 2), (.d (.int .i64 0)), (.nilsl 3)])⟩,
  ⟨.none, .none, (.store 9 (.t 8) (.t 114))⟩]
abbrev c_poundageref10_Good_r18 : List AO := [⟨(.some 115), .none, (.load (.some 6) (.t 1))⟩,
  ⟨(.some 116), .none, (.load (.some 9) (.t 8))⟩,
  ⟨(.some 117), .none, (.call 12 [(.t 115), (.t 116)])⟩,
  ⟨(.some 118), .none, (.un .not (.t 117))⟩]
abbrev c_poundageref10_Good_r19 : List AO := [⟨(.some 2), .none, (.mov (.c (.d (.bool .false))))⟩]
abbrev c_poundageref10_Good_r20 : List AO := [⟨(.some 119), .none, (.bin .add (.t 111) (.c (.d (.int .i64 1))))⟩,
  ⟨(.some 111), .none, (.mov (.t 119))⟩]
abbrev c_poundageref10_Good_l2 : ACode := (.seq (.ops c_poundageref10_Good_r16) (.seq (.cond (.t 112) .skip (.exit 4)) (.seq (.block 5 (.seq (.ops c_poundageref10_Good_r17) (.seq (.ops c_poundageref10_Good_r18) (.cond (.t 118) (.seq (.ops c_poundageref10_Good_r19) .ret) .skip)))) (.ops c_poundageref10_Good_r20))))
abbrev c_poundageref10_Good_r21 : List AO := [⟨(.some 2), .none, (.mov (.c (.d (.bool .true))))⟩]
abbrev c_poundageref10_Good : AFunc := ⟨120, [(.tmp 2)], (.seq (.ops c_poundageref10_Good_r0) (.seq (.seq (.ops c_poundageref10_Good_r1) (.cond (.t 46) (.seq (.ops c_poundageref10_Good_r2) .ret) .skip)) (.seq (.seq (.ops c_poundageref10_Good_r3) (.block 0 (.loop c_poundageref10_Good_l0))) (.seq (.seq (.ops c_poundageref10_Good_r9) (.block 2 (.loop c_poundageref10_Good_l1))) (.seq (.seq (.ops c_poundageref10_Good_r15) (.block 4 (.loop c_poundageref10_Good_l2))) (.seq (.ops c_poundageref10_Good_r21) .ret))))))⟩
theorem comp_poundageref10_Good : funcC Try.prog 18 = some c_poundageref10_Good := by kernel_rfl
/-! function 19 : poundage core.Good -/
abbrev f_core_Good : FuncId := 19
abbrev c_core_Good_r0 : List AO := [⟨(.some 1), .none, (.box 26 (.t 0))⟩,
  ⟨(.some 2), .none, (.mov (.c (.d (.bool .false))))⟩]
abbrev c_core_Good_r1 : List AO := [⟨(.some 7), .none, (.fieldAddr 1 (.t 1))⟩,
  ⟨(.some 8), .none, (.load .none (.t 7))⟩,
  ⟨(.some 9), .none, (.bin .lss (.t 8) (.c (.d (.int .i64 0))))⟩,
  ⟨(.some 10), .none, (.mov (.t 9))⟩,
  ⟨(.some 11), (.some ⟨10, .false⟩), (.fieldAddr 2 (.t 1))⟩,
  ⟨(.some 12), (.some ⟨10, .false⟩), (.load .none (.t 11))⟩,
  ⟨(.some 13), (.some ⟨10, .false⟩), (.fieldAddr 1 (.t 1))⟩,
  ⟨(.some 14), (.some ⟨10, .false⟩), (.load .none (.t 13))⟩,
  ⟨(.some 15), (.some ⟨10, .false⟩), (.bin .lss (.t 12) (.t 14))⟩,
  ⟨(.some 16), .none, (.pick (.t 10) (.c (.d (.bool .true))) (.t 15))⟩,
  ⟨(.some 17), .none, (.mov (.t 16))⟩,
  ⟨(.some 18), (.some ⟨17, .false⟩), (.fieldAddr 2 (.t 1))⟩,
  ⟨(.some 19), (.some ⟨17, .false⟩), (.load .none (.t 18))⟩,
  ⟨(.some 20), (.some ⟨17, .false⟩), (.bin .geq (.t 19) (.c (.d (.int .i64 3652059))))⟩,
  ⟨(.some 21), .none, (.pick (.t 17) (.c (.d (.bool .true))) (.t 20))⟩,
  ⟨(.some 22), .none, (.mov (.t 21))⟩,
  ⟨(.some 23), (.some ⟨22, .false⟩), (.fieldAddr 2 (.t 1))⟩,
  ⟨(.some 24), (.some ⟨22, .false⟩), (.load .none (.t 23))⟩,
  ⟨(.some 25), (.some ⟨22, .false⟩), (.fieldAddr 1 (.t 1))⟩,
  ⟨(.some 26), (.some ⟨22, .false⟩), (.load .none (.t 25))⟩,
  ⟨(.some 27), (.some ⟨22, .false⟩), (.bin .sub (.t 24) (.t 26))⟩,
  ⟨(.some 28), (.some ⟨22, .false⟩), (.bin .geq (.t 27) (.c (.d (.int .i64 4000))))⟩,
  ⟨(.some 29), .none, (.pick (.t 22) (.c (.d (.bool .true))) (.t 28))⟩,
  ⟨(.some 30), .none, (.mov (.t 29))⟩,
  ⟨(.some 31), (.some ⟨30, .false⟩), (.fieldAddr 3 (.t 1))⟩,
  ⟨(.some 32), (.some ⟨30, .false⟩), (.load .none (.t 31))⟩,
  ⟨(.some 33), (.some ⟨30, .false⟩), (.len (.t 32))⟩,
  ⟨(.some 34), (.some ⟨30, .false⟩), (.bin .gtr (.t 33) (.c (.d (.int .i64 4))))⟩,
  ⟨(.some 35), .none, (.pick (.t 30) (.c (.d (.bool .true))) (.t 34))⟩,
  ⟨(.some 36), .none, (.mov (.t 35))⟩,
  ⟨(.some 37), (.some ⟨36, .false⟩), (.fieldAddr 4 (.t 1))⟩,
  ⟨(.some 38), (.some ⟨36, .false⟩), (.load .none (.t 37))⟩,
  ⟨(.some 39), (.some ⟨36, .false⟩), (.len (.t 38))⟩,
  ⟨(.some 40), (.some ⟨36, .false⟩), (.bin .gtr (.t 39) (.c (.d (.int .i64 8))))⟩,
  ⟨(.some 41), .none, (.pick (.t 36) (.c (.d (.bool .true))) (.t 40))⟩,
  ⟨(.some 42), .none, (.mov (.t 41))⟩,
  ⟨(.some 43), (.some ⟨42, .false⟩), (.fieldAddr 5 (.t 1))⟩,
  ⟨(.some 44), (.some ⟨42, .false⟩), (.load .none (.t 43))⟩,
  ⟨(.some 45), (.some ⟨42, .false⟩), (.len (.t 44))⟩,
  ⟨(.some 46), (.some ⟨42, .false⟩), (.bin .gtr (.t 45) (.c (.d (.int .i64 8))))⟩,
  ⟨(.some 47), .none, (.pick (.t 42) (.c (.d (.bool .true))) (.t 46))⟩]
abbrev c_core_Good_r2 : List AO := [⟨(.some 2), .none, (.mov (.c (.d (.bool .false))))⟩]
abbrev c_core_Good_r3 : List AO := [⟨(.some 48), .none, (.fieldAddr 3 (.t 1))⟩,
  ⟨(.some 49), .none, (.load .none (.t 48))⟩,
  ⟨(.some 50), .none, (.len (.t 49))⟩,
  ⟨(.some 51), .none, (.mov (.c (.d (.int .i64 0))))⟩]
abbrev c_core_Good_r4 : List AO := [⟨(.some 52), .none, (.bin .lss (.t 51) (.t 50))⟩]
abbrev c_core_Good_r5 : List AO := [⟨(.some 53), .none, (.mov (.t 51))⟩,
  ⟨(.some 54), .none, (.elemAddr 5 (.t 49) (.t 51))⟩,
  ⟨(.some 55), .none, (.load (.some 5) (.t 54))⟩,
  ⟨(.some 4), .none, (.alloc 42 [(.d (.str ⟨⟨[]⟩⟩)), (.d (.str ⟨⟨[]⟩⟩)), (.d (.int .i64 0)), (.d (.int .i64 0)), (.d (.int .i64 0))])⟩,
  ⟨(.some 3), .none, (.mov (.t 53))⟩,
  ⟨.none, .none, (.store 5 (.t 4) (.t 55))⟩]
abbrev c_core_Good_r6 : List AO := [⟨(.some 56), .none, (.fieldAddr 2 (.t 4))⟩,
  ⟨(.some 57), .none, (.load .none (.t 56))⟩,
  ⟨(.some 58), .none, (.call 44 [(.t 57), (.c (.d (.int .i64 0))), (.c (.d (.int .i64 2000)))])⟩,
  ⟨(.some 59), .none, (.un .not (.t 58))⟩,
  ⟨(.some 60), .none, (.mov (.t 59))⟩,
  ⟨(.some 61), (.some ⟨60, .false⟩), (.fieldAddr 3 (.t 4))⟩,
  ⟨(.some 62), (.some ⟨60, .false⟩), (.load .none (.t 61))⟩,
  ⟨(.some 63), (.some ⟨60, .false⟩), (.bin .neq (.t 62) (.c (.d (.int .i64 0))))⟩,
  ⟨(.some 64), .none, (.pick (.t 60) (.c (.d (.bool .true))) (.t 63))⟩,
  ⟨(.some 65), .none, (.mov (.t 64))⟩,
  ⟨(.some 66), (.some ⟨65, .false⟩), (.fieldAddr 4 (.t 4))⟩,
  ⟨(.some 67), (.some ⟨65, .false⟩), (.load .none (.t 66))⟩,
  ⟨(.some 68), (.some ⟨65, .false⟩), (.bin .neq (.t 67) (.c (.d (.int .i64 0))))⟩,
  ⟨(.some 69), .none, (.pick (.t 65) (.c (.d (.bool .true))) (.t 68))⟩,
  ⟨(.some 70), .none, (.mov (.t 69))⟩,
  ⟨(.some 71), (.some ⟨70, .false⟩), (.mov (.t 3))⟩,
  ⟨(.some 72), (.some ⟨70, .false⟩), (.bin .gtr (.t 71) (.c (.d (.int .i64 0))))⟩,
  ⟨(.some 73), (.some ⟨70, .false⟩), (.mov (.t 72))⟩,
  ⟨(.some 74), (.some ⟨73, .true⟩), (.fieldAddr 3 (.t 1))⟩,
  ⟨(.some 76), (.some ⟨73, .true⟩), (.mov (.t 3))⟩,
  ⟨(.some 77), (.some ⟨73, .true⟩), (.bin .sub (.t 76) (.c (.d (.int .i64 1))))⟩,
  ⟨(.some 81), (.some ⟨73, .true⟩), (.fieldAddr 0 (.t 4))⟩,
  ⟨(.some 75), (.some ⟨73, .true⟩), (.load .none (.t 74))⟩,
  ⟨(.some 78), (.some ⟨73, .true⟩), (.elemAddr 5 (.t 75) (.t 77))⟩,
  ⟨(.some 79), (.some ⟨73, .true⟩), (.fieldAddr 0 (.t 78))⟩,
  ⟨(.some 80), (.some ⟨73, .true⟩), (.load .none (.t 79))⟩,
  ⟨(.some 82), (.some ⟨73, .true⟩), (.load .none (.t 81))⟩,
  ⟨(.some 83), (.some ⟨73, .true⟩), (.bin .geq (.t 80) (.t 82))⟩,
  ⟨(.some 84), (.some ⟨70, .false⟩), (.pick (.t 73) (.t 83) (.c (.d (.bool .false))))⟩,
  ⟨(.some 85), .none, (.pick (.t 70) (.c (.d (.bool .true))) (.t 84))⟩]
abbrev c_core_Good_r7 : List AO := [⟨(.some 2), .none, (.mov (.c (.d (.bool .false))))⟩]
abbrev c_core_Good_r8 : List AO := [⟨(.some 86), .none, (.bin .add (.t 51) (.c (.d (.int .i64 1))))⟩,
  ⟨(.some 51), .none, (.mov (.t 86))⟩]
abbrev c_core_Good_l0 : ACode := (.seq (.ops c_core_Good_r4) (.seq (.cond (.t 52) .skip (.exit 0)) (.seq (.block 1 (.seq (.ops c_core_Good_r5) (.seq (.dops c_core_Good_r6) (.cond (.t 85) (.seq (.ops c_core_Good_r7) .ret) .skip)))) (.ops c_core_Good_r8))))
abbrev c_core_Good_r9 : List AO := [⟨(.some 87), .none, (.fieldAddr 4 (.t 1))⟩,
  ⟨(.some 88), .none, (.load .none (.t 87))⟩,
  ⟨(.some 89), .none, (.len (.t 88))⟩,
  ⟨(.some 90), .none, (.mov (.c (.d (.int .i64 0))))⟩]
abbrev c_core_Good_r10 : List AO := [⟨(.some 91), .none, (.bin .lss (.t 90) (.t 89))⟩]
abbrev c_core_Good_r11 : List AO := [⟨(.some 92), .none, (.elemAddr 3 (.t 88) (.t 90))⟩,
  ⟨(.some 93), .none, (.load (.some 3) (.t 92))⟩,
  ⟨(.some 6), .none, (.alloc 59 [(.d (.int .i64 0)), (.d (.int .i64 0)), (.d (.int .i64 0))])⟩,
  ⟨.none, .none, (.store 3 (.t 6) (.t 93))⟩]
abbrev c_core_Good_r12 : List AO := [⟨(.some 94), .none, (.fieldAddr 0 (.t 6))⟩,
  ⟨(.some 95), .none, (.load .none (.t 94))⟩,
  ⟨(.some 96), .none, (.call 44 [(.t 95), (.c (.d (.int .i64 0))), (.c (.d (.int .i64 1000000000000)))])⟩,
  ⟨(.some 97), .none, (.un .not (.t 96))⟩,
  ⟨(.some 98), .none, (.mov (.t 97))⟩,
  ⟨(.some 99), (.some ⟨98, .false⟩), (.fieldAddr 1 (.t 6))⟩,
  ⟨(.some 100), (.some ⟨98, .false⟩), (.load .none (.t 99))⟩,
  ⟨(.some 101), (.some ⟨98, .false⟩), (.fieldAddr 2 (.t 6))⟩,
  ⟨(.some 102), (.some ⟨98, .false⟩), (.load .none (.t 101))⟩,
  ⟨(.some 103), (.some ⟨98, .false⟩), (.bin .gtr (.t 100) (.t 102))⟩,
  ⟨(.some 104), .none, (.pick (.t 98) (.c (.d (.bool .true))) (.t 103))⟩,
  ⟨(.some 105), .none, (.mov (.t 104))⟩,
  ⟨(.some 106), (.some ⟨105, .false⟩), (.fieldAddr 1 (.t 6))⟩,
  ⟨(.some 107), (.some ⟨105, .false⟩), (.load .none (.t 106))⟩,
  ⟨(.some 108), (.some ⟨105, .false⟩), (.fieldAddr 1 (.t 1))⟩,
  ⟨(.some 109), (.some ⟨105, .false⟩), (.load .none (.t 108))⟩,
  ⟨(.some 110), (.some ⟨105, .false⟩), (.bin .lss (.t 107) (.t 109))⟩,
  ⟨(.some 111), .none, (.pick (.t 105) (.c (.d (.bool .true))) (.t 110))⟩,
  ⟨(.some 112), .none, (.mov (.t 111))⟩,
  ⟨(.some 113), (.some ⟨112, .false⟩), (.fieldAddr 2 (.t 6))⟩,
  ⟨(.some 114), (.some ⟨112, .false⟩), (.load .none (.t 113))⟩,
  ⟨(.some 115), (.some ⟨112, .false⟩), (.fieldAddr 2 (.t 1))⟩,
  ⟨(.some 116), (.some ⟨112, .false⟩), (.load .none (.t 115))⟩,
  ⟨(.some 117), (.some ⟨112, .false⟩), (.bin .gtr (.t 114) (.t 116))⟩,
  ⟨(.some 118), .none, (.pick (.t 112) (.c (.d (.bool .true))) (.t 117))⟩]
abbrev c_core_Good_r13 : List AO := [⟨(.some 2), .none, (.mov (.c (.d (.bool .false))))⟩]
abbrev c_core_Good_r14 : List AO := [⟨(.some 119), .none, (.bin .add (.t 90) (.c (.d (.int .i64 1))))⟩,
  ⟨(.some 90), .none, (.mov (.t 119))⟩]
abbrev c_core_Good_l1 : ACode := (.seq (.ops c_core_Good_r10) (.seq (.cond (.t 91) .skip (.exit 2)) (.seq (.block 3 (.seq (.ops c_core_Good_r11) (.seq (.ops c_core_Good_r12) (.cond (.t 118) (.seq (.ops c_core_Good_r13) .ret) .skip)))) (.ops c_core_Good_r14))))
abbrev c_core_Good_r15 : List AO := [⟨(.some 120), .none, (.fieldAddr 5 (.t 1))⟩,
  ⟨(.some 121), .none, (.load .none (.t 120))⟩,
  ⟨(.some 122), .none, (.mkfn 46 [(.t 1)])⟩,
  ⟨(.some 123), .none, (.call 45 [(.t 121), (.t 122)])⟩,
  ⟨(.some 124), .none, (.un .not (.t 123))⟩,
  ⟨(.some 2), .none, (.mov (.t 124))⟩]
abbrev c_core_Good : AFunc := ⟨125, [(.tmp 2)], (.seq (.ops c_core_Good_r0) (.seq (.seq (.ops c_core_Good_r1) (.cond (.t 47) (.seq (.ops c_core_Good_r2) .ret) .skip)) (.seq (.seq (.ops c_core_Good_r3) (.block 0 (.loop c_core_Good_l0))) (.seq (.seq (.ops c_core_Good_r9) (.block 2 (.loop c_core_Good_l1))) (.seq (.ops c_core_Good_r15) .ret)))))⟩
theorem comp_core_Good : funcC Try.prog 19 = some c_core_Good := by kernel_rfl
/-! function 20 : poundage price.holds -/
abbrev f_price_holds : FuncId := 20
abbrev c_price_holds_r0 : List AO := [⟨(.some 6), .none, (.mov (.c (.d (.bool .false))))⟩]
abbrev c_price_holds_r1 : List AO := [⟨(.some 7), .none, (.mov (.t 0))⟩,
  ⟨(.some 8), .none, (.mov (.t 1))⟩,
  ⟨(.some 9), .none, (.bin .geq (.t 7) (.t 8))⟩,
  ⟨(.some 10), .none, (.mov (.t 9))⟩,
  ⟨(.some 11), (.some ⟨10, .true⟩), (.mov (.t 0))⟩,
  ⟨(.some 12), (.some ⟨10, .true⟩), (.mov (.t 2))⟩,
  ⟨(.some 13), (.some ⟨10, .true⟩), (.bin .leq (.t 11) (.t 12))⟩,
  ⟨(.some 14), .none, (.pick (.t 10) (.t 13) (.c (.d (.bool .false))))⟩,
  ⟨(.some 6), .none, (.mov (.t 14))⟩]
abbrev c_price_holds : AFunc := ⟨15, [(.tmp 6)], (.seq (.ops c_price_holds_r0) (.seq (.ops c_price_holds_r1) .ret))⟩
theorem comp_price_holds : funcC Try.prog 20 = some c_price_holds := by kernel_rfl
/-! function 21 : poundage price.fits -/
abbrev f_price_fits : FuncId := 21
abbrev c_price_fits_r0 : List AO := [⟨(.some 2), .none, (.box 26 (.t 0))⟩,
  ⟨(.some 4), .none, (.mov (.c (.d (.bool .false))))⟩]
abbrev c_price_fits_r1 : List AO := [⟨(.some 7), .none, (.mov (.t 1))⟩,
  ⟨(.some 8), .none, (.len (.t 7))⟩,
  ⟨(.some 9), .none, (.fieldAddr 3 (.t 2))⟩,
  ⟨(.some 10), .none, (.load .none (.t 9))⟩,
  ⟨(.some 11), .none, (.len (.t 10))⟩,
  ⟨(.some 12), .none, (.bin .neq (.t 8) (.t 11))⟩]
abbrev c_price_fits_r2 : List AO := [⟨(.some 4), .none, (.mov (.c (.d (.bool .false))))⟩]
abbrev c_price_fits_r3 : List AO := [⟨(.some 13), .none, (.mov (.t 1))⟩,
  ⟨(.some 14), .none, (.len (.t 13))⟩,
  ⟨(.some 15), .none, (.mov (.c (.d (.int .i64 0))))⟩]
abbrev c_price_fits_r4 : List AO := [⟨(.some 16), .none, (.bin .lss (.t 15) (.t 14))⟩]
abbrev c_price_fits_r5 : List AO := [⟨(.some 17), .none, (.mov (.t 15))⟩,
  ⟨(.some 18), .none, (.elemAddr 1 (.t 13) (.t 15))⟩,
  ⟨(.some 19), .none, (.load .none (.t 18))⟩,
  ⟨(.some 5), .none, (.mov (.t 17))⟩,
  ⟨(.some 6), .none, (.mov (.t 19))⟩]
abbrev c_price_fits_r6 : List AO := [⟨(.some 20), .none, (.mov (.t 6))⟩,
  ⟨(.some 21), .none, (.bin .lss (.t 20) (.c (.d (.int .i64 0))))⟩,
  ⟨(.some 22), .none, (.mov (.t 21))⟩,
  ⟨(.some 23), (.some ⟨22, .false⟩), (.mov (.t 6))⟩,
  ⟨(.some 24), (.some ⟨22, .false⟩), (.fieldAddr 3 (.t 2))⟩,
  ⟨(.some 25), (.some ⟨22, .false⟩), (.load .none (.t 24))⟩,
  ⟨(.some 26), (.some ⟨22, .false⟩), (.mov (.t 5))⟩,
  ⟨(.some 27), (.some ⟨22, .false⟩), (.elemAddr 5 (.t 25) (.t 26))⟩,
  ⟨(.some 28), (.some ⟨22, .false⟩), (.fieldAddr 2 (.t 27))⟩,
  ⟨(.some 29), (.some ⟨22, .false⟩), (.load .none (.t 28))⟩,
  ⟨(.some 30), (.some ⟨22, .false⟩), (.bin .gtr (.t 23) (.t 29))⟩,
  ⟨(.some 31), .none, (.pick (.t 22) (.c (.d (.bool .true))) (.t 30))⟩]
abbrev c_price_fits_r7 : List AO := [⟨(.some 4), .none, (.mov (.c (.d (.bool .false))))⟩]
abbrev c_price_fits_r8 : List AO := [⟨(.some 32), .none, (.bin .add (.t 15) (.c (.d (.int .i64 1))))⟩,
  ⟨(.some 15), .none, (.mov (.t 32))⟩]
abbrev c_price_fits_l0 : ACode := (.seq (.ops c_price_fits_r4) (.seq (.cond (.t 16) .skip (.exit 0)) (.seq (.block 1 (.seq (.ops c_price_fits_r5) (.seq (.ops c_price_fits_r6) (.cond (.t 31) (.seq (.ops c_price_fits_r7) .ret) .skip)))) (.ops c_price_fits_r8))))
abbrev c_price_fits_r9 : List AO := [⟨(.some 4), .none, (.mov (.c (.d (.bool .true))))⟩]
abbrev c_price_fits : AFunc := ⟨33, [(.tmp 4)], (.seq (.ops c_price_fits_r0) (.seq (.seq (.ops c_price_fits_r1) (.cond (.t 12) (.seq (.ops c_price_fits_r2) .ret) .skip)) (.seq (.seq (.ops c_price_fits_r3) (.block 0 (.loop c_price_fits_l0))) (.seq (.ops c_price_fits_r9) .ret))))⟩
theorem comp_price_fits : funcC Try.prog 21 = some c_price_fits := by kernel_rfl
/-! function 22 : poundage price.items -/
abbrev f_price_items : FuncId := 22
abbrev c_price_items_r0 : List AO := [⟨(.some 3), .none, (.box 26 (.t 0))⟩,
  ⟨(.some 6), .none, (.mov (.c (.nilsl 0)))⟩,
  ⟨(.some 7), .none, (.mov (.c (.d (.bool .false))))⟩]
abbrev c_price_items_r1 : List AO := [⟨(.some 8), .none, (.mov (.c (.nilsl 0)))⟩]
abbrev c_price_items_r2 : List AO := [⟨(.some 15), .none, (.fieldAddr 4 (.t 3))⟩,
  ⟨(.some 16), .none, (.load .none (.t 15))⟩,
  ⟨(.some 17), .none, (.len (.t 16))⟩,
  ⟨(.some 18), .none, (.mov (.c (.d (.int .i64 0))))⟩]
abbrev c_price_items_r3 : List AO := [⟨(.some 19), .none, (.bin .lss (.t 18) (.t 17))⟩]
abbrev c_price_items_r4 : List AO := [⟨(.some 20), .none, (.elemAddr 3 (.t 16) (.t 18))⟩,
  ⟨(.some 21), .none, (.load (.some 3) (.t 20))⟩,
  ⟨(.some 10), .none, (.alloc 59 [(.d (.int .i64 0)), (.d (.int .i64 0)), (.d (.int .i64 0))])⟩,
  ⟨.none, .none, (.store 3 (.t 10) (.t 21))⟩]
abbrev c_price_items_r5 : List AO := [⟨(.some 22), .none, (.mov (.t 1))⟩,
  ⟨(.some 23), .none, (.fieldAddr 1 (.t 10))⟩,
  ⟨(.some 24), .none, (.load .none (.t 23))⟩,
  ⟨(.some 25), .none, (.fieldAddr 2 (.t 10))⟩,
  ⟨(.some 26), .none, (.load .none (.t 25))⟩,
  ⟨(.some 27), .none, (.call 20 [(.t 22), (.t 24), (.t 26)])⟩]
abbrev c_price_items_r6 : List AO := [⟨(.some 28), .none, (.mov (.t 8))⟩,
  ⟨(.some 29), .none, (.fieldAddr 0 (.t 10))⟩,
  ⟨(.some 30), .none, (.load .none (.t 29))⟩,
  ⟨(.some 31), .none, (.buildSlice 3 1 1 [(.d (.int .i64 0))] [⟨0, (.t 30)⟩])⟩,
  ⟨(.some 32), .none, (.append 3 1 8 [(.d (.int .i64 0))] (.t 28) (.t 31))⟩,
  ⟨(.some 8), .none, (.mov (.t 32))⟩]
abbrev c_price_items_r7 : List AO := [⟨(.some 33), .none, (.bin .add (.t 18) (.c (.d (.int .i64 1))))⟩,
  ⟨(.some 18), .none, (.mov (.t 33))⟩]
abbrev c_price_items_l0 : ACode := (.seq (.ops c_price_items_r3) (.seq (.cond (.t 19) .skip (.exit 0)) (.seq (.block 1 (.seq (.ops c_price_items_r4) (.seq (.ops c_price_items_r5) (.cond (.t 27) (.ops c_price_items_r6) .skip)))) (.ops c_price_items_r7))))
abbrev c_price_items_r8 : List AO := [⟨(.some 34), .none, (.fieldAddr 5 (.t 3))⟩,
  ⟨(.some 35), .none, (.load .none (.t 34))⟩,
  ⟨(.some 36), .none, (.len (.t 35))⟩,
  ⟨(.some 37), .none, (.mov (.c (.d (.int .i64 0))))⟩]
abbrev c_price_items_r9 : List AO := [⟨(.some 38), .none, (.bin .lss (.t 37) (.t 36))⟩]
abbrev c_price_items_r10 : List AO := [⟨(.some 39), .none, (.elemAddr 9 (.t 35) (.t 37))⟩,
  ⟨(.some 40), .none, (.load (.some 9) (.t 39))⟩,
  ⟨(.some 12), .none, (.alloc 39 [(.d (.int .i64 0)), (.d (.int .i64 0)), (.d (.int .i64 0)), (.d (.int .i64 0)), (.d (.int .i64 0)), (.d (.int .i64 0)), (.nilsl 2), (.d (.int .i64 0)), (.nilsl 3)])⟩,
  ⟨.none, .none, (.store 9 (.t 12) (.t 40))⟩]
abbrev c_price_items_r11 : List AO := [⟨(.some 41), .none, (.mov (.t 1))⟩,
  ⟨(.some 42), .none, (.fieldAddr 1 (.t 12))⟩,
  ⟨(.some 43), .none, (.load .none (.t 42))⟩,
  ⟨(.some 44), .none, (.fieldAddr 2 (.t 12))⟩,
  ⟨(.some 45), .none, (.load .none (.t 44))⟩,
  ⟨(.some 46), .none, (.call 20 [(.t 41), (.t 43), (.t 45)])⟩,
  ⟨(.some 47), .none, (.un .not (.t 46))⟩]
abbrev c_price_items_r12 : List AO := [⟨(.some 50), .none, (.mov (.t 2))⟩,
  ⟨(.some 51), .none, (.fieldAddr 0 (.t 12))⟩,
  ⟨(.some 49), .none, (.load (.some 9) (.t 12))⟩,
  ⟨(.some 52), .none, (.load .none (.t 51))⟩,
  ⟨(.some 53), .none, (.elemAddr 1 (.t 50) (.t 52))⟩,
  ⟨(.some 54), .none, (.load .none (.t 53))⟩,
  ⟨(.some 55), .none, (.call 13 [(.t 49), (.t 54)])⟩,
  ⟨(.some 48), .none, (.mov (.t 55))⟩,
  ⟨(.some 56), .none, (.extract (.t 48) 0)⟩,
  ⟨(.some 57), .none, (.extract (.t 48) 1)⟩,
  ⟨(.some 13), .none, (.mov (.t 56))⟩,
  ⟨(.some 14), .none, (.mov (.t 57))⟩]
abbrev c_price_items_r13 : List AO := [⟨(.some 58), .none, (.mov (.t 14))⟩,
  ⟨(.some 59), .none, (.un .not (.t 58))⟩]
abbrev c_price_items_r14 : List AO := [⟨(.some 6), .none, (.mov (.c (.nilsl 0)))⟩,
  ⟨(.some 7), .none, (.mov (.c (.d (.bool .false))))⟩]
abbrev c_price_items_r15 : List AO := [⟨(.some 60), .none, (.mov (.t 8))⟩,
  ⟨(.some 61), .none, (.mov (.t 13))⟩,
  ⟨(.some 62), .none, (.buildSlice 3 1 1 [(.d (.int .i64 0))] [⟨0, (.t 61)⟩])⟩,
  ⟨(.some 63), .none, (.append 3 1 8 [(.d (.int .i64 0))] (.t 60) (.t 62))⟩,
  ⟨(.some 8), .none, (.mov (.t 63))⟩]
abbrev c_price_items_r16 : List AO := [⟨(.some 64), .none, (.bin .add (.t 37) (.c (.d (.int .i64 1))))⟩,
  ⟨(.some 37), .none, (.mov (.t 64))⟩]
abbrev c_price_items_l1 : ACode := (.seq (.ops c_price_items_r9) (.seq (.cond (.t 38) .skip (.exit 2)) (.seq (.block 3 (.seq (.ops c_price_items_r10) (.seq (.seq (.ops c_price_items_r11) (.cond (.t 47) (.exit 3) .skip)) (.seq (.dops c_price_items_r12) (.seq (.seq (.ops c_price_items_r13) (.cond (.t 59) (.seq (.ops c_price_items_r14) .ret) .skip)) (.ops c_price_items_r15)))))) (.ops c_price_items_r16))))
abbrev c_price_items_r17 : List AO := [⟨(.some 65), .none, (.mov (.t 8))⟩,
  ⟨(.some 6), .none, (.mov (.t 65))⟩,
  ⟨(.some 7), .none, (.mov (.c (.d (.bool .true))))⟩]
abbrev c_price_items : AFunc := ⟨66, [(.tmp 6), (.tmp 7)], (.seq (.ops c_price_items_r0) (.seq (.ops c_price_items_r1) (.seq (.seq (.ops c_price_items_r2) (.block 0 (.loop c_price_items_l0))) (.seq (.seq (.ops c_price_items_r8) (.block 2 (.loop c_price_items_l1))) (.seq (.ops c_price_items_r17) .ret)))))⟩
theorem comp_price_items : funcC Try.prog 22 = some c_price_items := by kernel_rfl
/-! function 23 : poundage exact.Sum -/
abbrev f_exact_Sum : FuncId := 23
abbrev c_exact_Sum_r0 : List AO := [⟨(.some 2), .none, (.mov (.c (.d (.int .i64 0))))⟩,
  ⟨(.some 3), .none, (.mov (.c (.d (.bool .false))))⟩]
abbrev c_exact_Sum_r1 : List AO := [⟨(.some 4), .none, (.mov (.c (.d (.int .i64 0))))⟩,
  ⟨(.some 5), .none, (.mov (.c (.d (.bool .true))))⟩]
abbrev c_exact_Sum_r2 : List AO := [⟨(.some 8), .none, (.mov (.t 0))⟩,
  ⟨(.some 9), .none, (.len (.t 8))⟩,
  ⟨(.some 10), .none, (.mov (.c (.d (.int .i64 0))))⟩]
abbrev c_exact_Sum_r3 : List AO := [⟨(.some 11), .none, (.bin .lss (.t 10) (.t 9))⟩]
abbrev c_exact_Sum_r4 : List AO := [⟨(.some 12), .none, (.elemAddr 1 (.t 8) (.t 10))⟩,
  ⟨(.some 13), .none, (.load .none (.t 12))⟩,
  ⟨(.some 7), .none, (.mov (.t 13))⟩]
abbrev c_exact_Sum_r5 : List AO := [⟨(.some 15), .none, (.mov (.t 4))⟩,
  ⟨(.some 16), .none, (.mov (.t 7))⟩,
  ⟨(.some 17), .none, (.call 48 [(.t 15), (.t 16)])⟩,
  ⟨(.some 14), .none, (.mov (.t 17))⟩,
  ⟨(.some 18), .none, (.extract (.t 14) 0)⟩,
  ⟨(.some 19), .none, (.extract (.t 14) 1)⟩,
  ⟨(.some 4), .none, (.mov (.t 18))⟩,
  ⟨(.some 5), .none, (.mov (.t 19))⟩]
abbrev c_exact_Sum_r6 : List AO := [⟨(.some 20), .none, (.mov (.t 5))⟩,
  ⟨(.some 21), .none, (.un .not (.t 20))⟩]
abbrev c_exact_Sum_r7 : List AO := [⟨(.some 2), .none, (.mov (.c (.d (.int .i64 0))))⟩,
  ⟨(.some 3), .none, (.mov (.c (.d (.bool .false))))⟩]
abbrev c_exact_Sum_r8 : List AO := [⟨(.some 22), .none, (.bin .add (.t 10) (.c (.d (.int .i64 1))))⟩,
  ⟨(.some 10), .none, (.mov (.t 22))⟩]
abbrev c_exact_Sum_l0 : ACode := (.seq (.ops c_exact_Sum_r3) (.seq (.cond (.t 11) .skip (.exit 0)) (.seq (.block 1 (.seq (.ops c_exact_Sum_r4) (.seq (.ops c_exact_Sum_r5) (.seq (.ops c_exact_Sum_r6) (.cond (.t 21) (.seq (.ops c_exact_Sum_r7) .ret) .skip))))) (.ops c_exact_Sum_r8))))
abbrev c_exact_Sum_r9 : List AO := [⟨(.some 23), .none, (.mov (.t 4))⟩,
  ⟨(.some 2), .none, (.mov (.t 23))⟩,
  ⟨(.some 3), .none, (.mov (.c (.d (.bool .true))))⟩]
abbrev c_exact_Sum : AFunc := ⟨24, [(.tmp 2), (.tmp 3)], (.seq (.ops c_exact_Sum_r0) (.seq (.ops c_exact_Sum_r1) (.seq (.seq (.ops c_exact_Sum_r2) (.block 0 (.loop c_exact_Sum_l0))) (.seq (.ops c_exact_Sum_r9) .ret))))⟩
theorem comp_exact_Sum : funcC Try.prog 23 = some c_exact_Sum := by kernel_rfl
/-! function 24 : poundage poundageref13.Cost -/
abbrev f_poundageref13_Cost : FuncId := 24
abbrev c_poundageref13_Cost_r0 : List AO := [⟨(.some 3), .none, (.box 26 (.t 0))⟩,
  ⟨(.some 6), .none, (.mov (.c (.d (.int .i64 0))))⟩,
  ⟨(.some 7), .none, (.mov (.c (.d (.int .i64 0))))⟩]
abbrev c_poundageref13_Cost_r1 : List AO := [⟨(.some 8), .none, (.mov (.c (.nilsl 0)))⟩]
abbrev c_poundageref13_Cost_r2 : List AO := [⟨(.some 17), .none, (.fieldAddr 4 (.t 3))⟩,
  ⟨(.some 18), .none, (.load .none (.t 17))⟩,
  ⟨(.some 19), .none, (.len (.t 18))⟩,
  ⟨(.some 20), .none, (.mov (.c (.d (.int .i64 0))))⟩]
abbrev c_poundageref13_Cost_r3 : List AO := [⟨(.some 21), .none, (.bin .lss (.t 20) (.t 19))⟩]
abbrev c_poundageref13_Cost_r4 : List AO := [⟨(.some 22), .none, (.elemAddr 3 (.t 18) (.t 20))⟩,
  ⟨(.some 23), .none, (.load (.some 3) (.t 22))⟩,
  ⟨(.some 10), .none, (.alloc 59 [(.d (.int .i64 0)), (.d (.int .i64 0)), (.d (.int .i64 0))])⟩,
  ⟨.none, .none, (.store 3 (.t 10) (.t 23))⟩]
abbrev c_poundageref13_Cost_r5 : List AO := [⟨(.some 24), .none, (.fieldAddr 1 (.t 10))⟩,
  ⟨(.some 25), .none, (.load .none (.t 24))⟩,
  ⟨(.some 26), .none, (.mov (.t 1))⟩,
  ⟨(.some 27), .none, (.bin .leq (.t 25) (.t 26))⟩,
  ⟨(.some 28), .none, (.mov (.t 27))⟩,
  ⟨(.some 29), (.some ⟨28, .true⟩), (.mov (.t 1))⟩,
  ⟨(.some 30), (.some ⟨28, .true⟩), (.fieldAddr 2 (.t 10))⟩,
  ⟨(.some 31), (.some ⟨28, .true⟩), (.load .none (.t 30))⟩,
  ⟨(.some 32), (.some ⟨28, .true⟩), (.bin .leq (.t 29) (.t 31))⟩,
  ⟨(.some 33), .none, (.pick (.t 28) (.t 32) (.c (.d (.bool .false))))⟩]
abbrev c_poundageref13_Cost_r6 : List AO := [⟨(.some 34), .none, (.mov (.t 8))⟩,
  ⟨(.some 35), .none, (.fieldAddr 0 (.t 10))⟩,
  ⟨(.some 36), .none, (.load .none (.t 35))⟩,
  ⟨(.some 37), .none, (.buildSlice 3 1 1 [(.d (.int .i64 0))] [⟨0, (.t 36)⟩])⟩,
  ⟨(.some 38), .none, (.append 3 1 8 [(.d (.int .i64 0))] (.t 34) (.t 37))⟩,
  ⟨(.some 8), .none, (.mov (.t 38))⟩]
abbrev c_poundageref13_Cost_r7 : List AO := [⟨(.some 39), .none, (.bin .add (.t 20) (.c (.d (.int .i64 1))))⟩,
  ⟨(.some 20), .none, (.mov (.t 39))⟩]
abbrev c_poundageref13_Cost_l0 : ACode := (.seq (.ops c_poundageref13_Cost_r3) (.seq (.cond (.t 21) .skip (.exit 0)) (.seq (.block 1 (.seq (.ops c_poundageref13_Cost_r4) (.seq (.ops c_poundageref13_Cost_r5) (.cond (.t 33) (.ops c_poundageref13_Cost_r6) .skip)))) (.ops c_poundageref13_Cost_r7))))
abbrev c_poundageref13_Cost_r8 : List AO := [⟨(.some 40), .none, (.fieldAddr 5 (.t 3))⟩,
  ⟨(.some 41), .none, (.load .none (.t 40))⟩,
  ⟨(.some 42), .none, (.len (.t 41))⟩,
  ⟨(.some 43), .none, (.mov (.c (.d (.int .i64 0))))⟩]
abbrev c_poundageref13_Cost_r9 : List AO := [⟨(.some 44), .none, (.bin .lss (.t 43) (.t 42))⟩]
abbrev c_poundageref13_Cost_r10 : List AO := [⟨(.some 45), .none, (.elemAddr 9 (.t 41) (.t 43))⟩,
  ⟨(.some 46), .none, (.load (.some 9) (.t 45))⟩,
  ⟨(.some 12), .none, (.alloc 39 [(.d (.int .i64 0)), (.d (.int .i64 0)), (.d (.int .i64 0)), (.d (.int .i64 0)), (.d (.int .i64 0)), (.d (.int .i64 0)), (.nilsl 2), (.d (.int .i64 0)), (.nilsl 3)])⟩,
  ⟨.none, .none, (.store 9 (.t 12) (.t 46))⟩]
abbrev c_poundageref13_Cost_r11 : List AO := [⟨(.some 47), .none, (.fieldAddr 1 (.t 12))⟩,
  ⟨(.some 48), .none, (.load .none (.t 47))⟩,
  ⟨(.some 49), .none, (.mov (.t 1))⟩,
  ⟨(.some 50), .none, (.bin .leq (.t 48) (.t 49))⟩,
  ⟨(.some 51), .none, (.mov (.t 50))⟩,
  ⟨(.some 52), (.some ⟨51, .true⟩), (.mov (.t 1))⟩,
  ⟨(.some 53), (.some ⟨51, .true⟩), (.fieldAddr 2 (.t 12))⟩,
  ⟨(.some 54), (.some ⟨51, .true⟩), (.load .none (.t 53))⟩,
  ⟨(.some 55), (.some ⟨51, .true⟩), (.bin .leq (.t 52) (.t 54))⟩,
  ⟨(.some 56), .none, (.pick (.t 51) (.t 55) (.c (.d (.bool .false))))⟩]
abbrev c_poundageref13_Cost_r12 : List AO := [⟨(.some 59), .none, (.mov (.t 2))⟩,
  ⟨(.some 60), .none, (.fieldAddr 0 (.t 12))⟩,
  ⟨(.some 58), .none, (.load (.some 9) (.t 12))⟩,
  ⟨(.some 61), .none, (.load .none (.t 60))⟩,
  ⟨(.some 62), .none, (.elemAddr 1 (.t 59) (.t 61))⟩,
  ⟨(.some 63), .none, (.load .none (.t 62))⟩,
  ⟨(.some 64), .none, (.call 14 [(.t 58), (.t 63)])⟩,
  ⟨(.some 57), .none, (.mov (.t 64))⟩,
  ⟨(.some 65), .none, (.extract (.t 57) 0)⟩,
  ⟨(.some 66), .none, (.extract (.t 57) 1)⟩,
  ⟨(.some 13), .none, (.mov (.t 65))⟩,
  ⟨(.some 14), .none, (.mov (.t 66))⟩]
abbrev c_poundageref13_Cost_r13 : List AO := [⟨(.some 67), .none, (.mov (.t 14))⟩,
  ⟨(.some 68), .none, (.un .not (.t 67))⟩]
abbrev c_poundageref13_Cost_r14 : List AO := [⟨(.some 6), .none, (.mov (.c (.d (.int .i64 0))))⟩,
  ⟨(.some 7), .none, (.mov (.c (.d (.int .i64 2))))⟩]
abbrev c_poundageref13_Cost_r15 : List AO := [⟨(.some 69), .none, (.mov (.t 8))⟩,
  ⟨(.some 70), .none, (.mov (.t 13))⟩,
  ⟨(.some 71), .none, (.buildSlice 3 1 1 [(.d (.int .i64 0))] [⟨0, (.t 70)⟩])⟩,
  ⟨(.some 72), .none, (.append 3 1 8 [(.d (.int .i64 0))] (.t 69) (.t 71))⟩,
  ⟨(.some 8), .none, (.mov (.t 72))⟩]
abbrev c_poundageref13_Cost_r16 : List AO := [⟨(.some 73), .none, (.bin .add (.t 43) (.c (.d (.int .i64 1))))⟩,
  ⟨(.some 43), .none, (.mov (.t 73))⟩]
abbrev c_poundageref13_Cost_l1 : ACode := (.seq (.ops c_poundageref13_Cost_r9) (.seq (.cond (.t 44) .skip (.exit 2)) (.seq (.block 3 (.seq (.ops c_poundageref13_Cost_r10) (.seq (.ops c_poundageref13_Cost_r11) (.cond (.t 56) (.seq (.dops c_poundageref13_Cost_r12) (.seq (.seq (.ops c_poundageref13_Cost_r13) (.cond (.t 68) (.seq (.ops c_poundageref13_Cost_r14) .ret) .skip)) (.ops c_poundageref13_Cost_r15))) .skip)))) (.ops c_poundageref13_Cost_r16))))
abbrev c_poundageref13_Cost_r17 : List AO := [⟨(.some 75), .none, (.mov (.t 8))⟩,
  ⟨(.some 76), .none, (.call 49 [(.t 75)])⟩,
  ⟨(.some 74), .none, (.mov (.t 76))⟩,
  ⟨(.some 77), .none, (.extract (.t 74) 0)⟩,
  ⟨(.some 78), .none, (.extract (.t 74) 1)⟩,
  ⟨(.some 15), .none, (.mov (.t 77))⟩,
  ⟨(.some 16), .none, (.mov (.t 78))⟩]
abbrev c_poundageref13_Cost_r18 : List AO := [⟨(.some 79), .none, (.mov (.t 16))⟩,
  ⟨(.some 80), .none, (.un .not (.t 79))⟩]
abbrev c_poundageref13_Cost_r19 : List AO := [⟨(.some 6), .none, (.mov (.c (.d (.int .i64 0))))⟩,
  ⟨(.some 7), .none, (.mov (.c (.d (.int .i64 2))))⟩]
abbrev c_poundageref13_Cost_r20 : List AO := [⟨(.some 81), .none, (.mov (.t 15))⟩,
  ⟨(.some 6), .none, (.mov (.t 81))⟩,
  ⟨(.some 7), .none, (.mov (.c (.d (.int .i64 0))))⟩]
abbrev c_poundageref13_Cost : AFunc := ⟨82, [(.tmp 6), (.tmp 7)], (.seq (.ops c_poundageref13_Cost_r0) (.seq (.ops c_poundageref13_Cost_r1) (.seq (.seq (.ops c_poundageref13_Cost_r2) (.block 0 (.loop c_poundageref13_Cost_l0))) (.seq (.seq (.ops c_poundageref13_Cost_r8) (.block 2 (.loop c_poundageref13_Cost_l1))) (.seq (.ops c_poundageref13_Cost_r17) (.seq (.seq (.ops c_poundageref13_Cost_r18) (.cond (.t 80) (.seq (.ops c_poundageref13_Cost_r19) .ret) .skip)) (.seq (.ops c_poundageref13_Cost_r20) .ret)))))))⟩
theorem comp_poundageref13_Cost : funcC Try.prog 24 = some c_poundageref13_Cost := by kernel_rfl
/-! function 25 : poundage poundageref10.span -/
abbrev f_poundageref10_span : FuncId := 25
abbrev c_poundageref10_span_r0 : List AO := [⟨(.some 3), .none, (.box 26 (.t 0))⟩,
  ⟨(.some 6), .none, (.mov (.c (.d (.bool .false))))⟩]
abbrev c_poundageref10_span_r1 : List AO := [⟨(.some 7), .none, (.fieldAddr 1 (.t 3))⟩,
  ⟨(.some 8), .none, (.load .none (.t 7))⟩,
  ⟨(.some 9), .none, (.mov (.t 1))⟩,
  ⟨(.some 10), .none, (.bin .leq (.t 8) (.t 9))⟩,
  ⟨(.some 11), .none, (.mov (.t 10))⟩,
  ⟨(.some 12), (.some ⟨11, .true⟩), (.mov (.t 1))⟩,
  ⟨(.some 13), (.some ⟨11, .true⟩), (.mov (.t 2))⟩,
  ⟨(.some 14), (.some ⟨11, .true⟩), (.bin .leq (.t 12) (.t 13))⟩,
  ⟨(.some 15), .none, (.pick (.t 11) (.t 14) (.c (.d (.bool .false))))⟩,
  ⟨(.some 16), .none, (.mov (.t 15))⟩,
  ⟨(.some 17), (.some ⟨16, .true⟩), (.mov (.t 2))⟩,
  ⟨(.some 18), (.some ⟨16, .true⟩), (.fieldAddr 2 (.t 3))⟩,
  ⟨(.some 19), (.some ⟨16, .true⟩), (.load .none (.t 18))⟩,
  ⟨(.some 20), (.some ⟨16, .true⟩), (.bin .leq (.t 17) (.t 19))⟩,
  ⟨(.some 21), .none, (.pick (.t 16) (.t 20) (.c (.d (.bool .false))))⟩,
  ⟨(.some 6), .none, (.mov (.t 21))⟩]
abbrev c_poundageref10_span : AFunc := ⟨22, [(.tmp 6)], (.seq (.ops c_poundageref10_span_r0) (.seq (.ops c_poundageref10_span_r1) .ret))⟩
theorem comp_poundageref10_span : funcC Try.prog 25 = some c_poundageref10_span := by kernel_rfl
/-! function 26 : poundage poundageref10.in -/
abbrev f_poundageref10_in : FuncId := 26
abbrev c_poundageref10_in_r0 : List AO := [⟨(.some 6), .none, (.mov (.c (.d (.bool .false))))⟩]
abbrev c_poundageref10_in_r1 : List AO := [⟨(.some 7), .none, (.mov (.t 1))⟩,
  ⟨(.some 8), .none, (.mov (.t 0))⟩,
  ⟨(.some 9), .none, (.bin .leq (.t 7) (.t 8))⟩,
  ⟨(.some 10), .none, (.mov (.t 9))⟩,
  ⟨(.some 11), (.some ⟨10, .true⟩), (.mov (.t 0))⟩,
  ⟨(.some 12), (.some ⟨10, .true⟩), (.mov (.t 2))⟩,
  ⟨(.some 13), (.some ⟨10, .true⟩), (.bin .leq (.t 11) (.t 12))⟩,
  ⟨(.some 14), .none, (.pick (.t 10) (.t 13) (.c (.d (.bool .false))))⟩,
  ⟨(.some 6), .none, (.mov (.t 14))⟩]
abbrev c_poundageref10_in : AFunc := ⟨15, [(.tmp 6)], (.seq (.ops c_poundageref10_in_r0) (.seq (.ops c_poundageref10_in_r1) .ret))⟩
theorem comp_poundageref10_in : funcC Try.prog 26 = some c_poundageref10_in := by kernel_rfl
/-! function 27 : poundage tiers.Charge -/
abbrev f_tiers_Charge : FuncId := 27
abbrev c_tiers_Charge_r0 : List AO := [⟨(.some 2), .none, (.box 39 (.t 0))⟩,
  ⟨(.some 4), .none, (.mov (.c (.d (.int .i64 0))))⟩,
  ⟨(.some 5), .none, (.mov (.c (.d (.bool .false))))⟩]
abbrev c_tiers_Charge_r1 : List AO := [⟨(.some 9), .none, (.load (.some 9) (.t 2))⟩,
  ⟨(.some 10), .none, (.mov (.t 1))⟩,
  ⟨(.some 11), .none, (.call 50 [(.t 9), (.t 10)])⟩,
  ⟨(.some 8), .none, (.mov (.t 11))⟩,
  ⟨(.some 12), .none, (.extract (.t 8) 0)⟩,
  ⟨(.some 13), .none, (.extract (.t 8) 1)⟩,
  ⟨(.some 6), .none, (.mov (.t 12))⟩,
  ⟨(.some 7), .none, (.mov (.t 13))⟩]
abbrev c_tiers_Charge_r2 : List AO := [⟨(.some 14), .none, (.mov (.t 7))⟩,
  ⟨(.some 15), .none, (.un .not (.t 14))⟩]
abbrev c_tiers_Charge_r3 : List AO := [⟨(.some 4), .none, (.mov (.c (.d (.int .i64 0))))⟩,
  ⟨(.some 5), .none, (.mov (.c (.d (.bool .false))))⟩]
abbrev c_tiers_Charge_r4 : List AO := [⟨(.some 16), .none, (.mov (.t 6))⟩,
  ⟨(.some 17), .none, (.fieldAddr 7 (.t 2))⟩,
  ⟨(.some 18), .none, (.load .none (.t 17))⟩,
  ⟨(.some 19), .none, (.call 51 [(.t 16), (.c (.d (.int .i64 1000000))), (.t 18)])⟩,
  ⟨(.some 20), .none, (.extract (.t 19) 0)⟩,
  ⟨(.some 21), .none, (.extract (.t 19) 1)⟩,
  ⟨(.some 4), .none, (.mov (.t 20))⟩,
  ⟨(.some 5), .none, (.mov (.t 21))⟩]
abbrev c_tiers_Charge : AFunc := ⟨22, [(.tmp 4), (.tmp 5)], (.seq (.ops c_tiers_Charge_r0) (.seq (.ops c_tiers_Charge_r1) (.seq (.seq (.ops c_tiers_Charge_r2) (.cond (.t 15) (.seq (.ops c_tiers_Charge_r3) .ret) .skip)) (.seq (.ops c_tiers_Charge_r4) .ret))))⟩
theorem comp_tiers_Charge : funcC Try.prog 27 = some c_tiers_Charge := by kernel_rfl
/-! function 28 : poundage adjust.All -/
abbrev f_adjust_All : FuncId := 28
abbrev c_adjust_All_r0 : List AO := [⟨(.some 4), .none, (.mov (.c (.d (.int .i64 0))))⟩,
  ⟨(.some 5), .none, (.mov (.c (.d (.bool .false))))⟩]
abbrev c_adjust_All_r1 : List AO := [⟨(.some 6), .none, (.mov (.c (.d (.bool .true))))⟩]
abbrev c_adjust_All_r2 : List AO := [⟨(.some 9), .none, (.mov (.t 1))⟩,
  ⟨(.some 10), .none, (.len (.t 9))⟩,
  ⟨(.some 11), .none, (.mov (.c (.d (.int .i64 0))))⟩]
abbrev c_adjust_All_r3 : List AO := [⟨(.some 12), .none, (.bin .lss (.t 11) (.t 10))⟩]
abbrev c_adjust_All_r4 : List AO := [⟨(.some 13), .none, (.elemAddr 3 (.t 9) (.t 11))⟩,
  ⟨(.some 14), .none, (.load (.some 3) (.t 13))⟩,
  ⟨(.some 8), .none, (.alloc 70 [(.d (.int .i64 0)), (.d (.int .i64 0)), (.d (.int .i64 0))])⟩,
  ⟨.none, .none, (.store 3 (.t 8) (.t 14))⟩]
abbrev c_adjust_All_r5 : List AO := [⟨(.some 16), .none, (.load (.some 3) (.t 8))⟩,
  ⟨(.some 17), .none, (.mov (.t 0))⟩,
  ⟨(.some 18), .none, (.call 52 [(.t 16), (.t 17)])⟩,
  ⟨(.some 15), .none, (.mov (.t 18))⟩,
  ⟨(.some 19), .none, (.extract (.t 15) 0)⟩,
  ⟨(.some 20), .none, (.extract (.t 15) 1)⟩,
  ⟨(.some 0), .none, (.mov (.t 19))⟩,
  ⟨(.some 6), .none, (.mov (.t 20))⟩]
abbrev c_adjust_All_r6 : List AO := [⟨(.some 21), .none, (.mov (.t 6))⟩,
  ⟨(.some 22), .none, (.un .not (.t 21))⟩]
abbrev c_adjust_All_r7 : List AO := [⟨(.some 4), .none, (.mov (.c (.d (.int .i64 0))))⟩,
  ⟨(.some 5), .none, (.mov (.c (.d (.bool .false))))⟩]
abbrev c_adjust_All_r8 : List AO := [⟨(.some 23), .none, (.bin .add (.t 11) (.c (.d (.int .i64 1))))⟩,
  ⟨(.some 11), .none, (.mov (.t 23))⟩]
abbrev c_adjust_All_l0 : ACode := (.seq (.ops c_adjust_All_r3) (.seq (.cond (.t 12) .skip (.exit 0)) (.seq (.block 1 (.seq (.ops c_adjust_All_r4) (.seq (.ops c_adjust_All_r5) (.seq (.ops c_adjust_All_r6) (.cond (.t 22) (.seq (.ops c_adjust_All_r7) .ret) .skip))))) (.ops c_adjust_All_r8))))
abbrev c_adjust_All_r9 : List AO := [⟨(.some 24), .none, (.mov (.t 0))⟩,
  ⟨(.some 4), .none, (.mov (.t 24))⟩,
  ⟨(.some 5), .none, (.mov (.c (.d (.bool .true))))⟩]
abbrev c_adjust_All : AFunc := ⟨25, [(.tmp 4), (.tmp 5)], (.seq (.ops c_adjust_All_r0) (.seq (.ops c_adjust_All_r1) (.seq (.seq (.ops c_adjust_All_r2) (.block 0 (.loop c_adjust_All_l0))) (.seq (.ops c_adjust_All_r9) .ret))))⟩
theorem comp_adjust_All : funcC Try.prog 28 = some c_adjust_All := by kernel_rfl
/-! function 29 : poundage poundageref11.Charge -/
abbrev f_poundageref11_Charge : FuncId := 29
abbrev c_poundageref11_Charge_r0 : List AO := [⟨(.some 2), .none, (.box 39 (.t 0))⟩,
  ⟨(.some 4), .none, (.mov (.c (.d (.int .i64 0))))⟩,
  ⟨(.some 5), .none, (.mov (.c (.d (.bool .false))))⟩]
abbrev c_poundageref11_Charge_r1 : List AO := [⟨(.some 9), .none, (.load (.some 9) (.t 2))⟩,
  ⟨(.some 10), .none, (.mov (.t 1))⟩,
  ⟨(.some 11), .none, (.call 53 [(.t 9), (.t 10)])⟩,
  ⟨(.some 8), .none, (.mov (.t 11))⟩,
  ⟨(.some 12), .none, (.extract (.t 8) 0)⟩,
  ⟨(.some 13), .none, (.extract (.t 8) 1)⟩,
  ⟨(.some 6), .none, (.mov (.t 12))⟩,
  ⟨(.some 7), .none, (.mov (.t 13))⟩]
abbrev c_poundageref11_Charge_r2 : List AO := [⟨(.some 14), .none, (.mov (.t 7))⟩,
  ⟨(.some 15), .none, (.un .not (.t 14))⟩]
abbrev c_poundageref11_Charge_r3 : List AO := [⟨(.some 4), .none, (.mov (.c (.d (.int .i64 0))))⟩,
  ⟨(.some 5), .none, (.mov (.c (.d (.bool .false))))⟩]
abbrev c_poundageref11_Charge_r4 : List AO := [⟨(.some 16), .none, (.mov (.t 6))⟩,
  ⟨(.some 17), .none, (.fieldAddr 7 (.t 2))⟩,
  ⟨(.some 18), .none, (.load .none (.t 17))⟩,
  ⟨(.some 19), .none, (.call 54 [(.t 16), (.c (.d (.int .i64 1))), (.c (.d (.int .i64 1000000))), (.t 18)])⟩,
  ⟨(.some 20), .none, (.extract (.t 19) 0)⟩,
  ⟨(.some 21), .none, (.extract (.t 19) 1)⟩,
  ⟨(.some 4), .none, (.mov (.t 20))⟩,
  ⟨(.some 5), .none, (.mov (.t 21))⟩]
abbrev c_poundageref11_Charge : AFunc := ⟨22, [(.tmp 4), (.tmp 5)], (.seq (.ops c_poundageref11_Charge_r0) (.seq (.ops c_poundageref11_Charge_r1) (.seq (.seq (.ops c_poundageref11_Charge_r2) (.cond (.t 15) (.seq (.ops c_poundageref11_Charge_r3) .ret) .skip)) (.seq (.ops c_poundageref11_Charge_r4) .ret))))⟩
theorem comp_poundageref11_Charge : funcC Try.prog 29 = some c_poundageref11_Charge := by kernel_rfl
/-! function 30 : poundage poundageref12.All -/
abbrev f_poundageref12_All : FuncId := 30
abbrev c_poundageref12_All_r0 : List AO := [⟨(.some 4), .none, (.mov (.c (.d (.int .i64 0))))⟩,
  ⟨(.some 5), .none, (.mov (.c (.d (.bool .false))))⟩]
abbrev c_poundageref12_All_r1 : List AO := [⟨(.some 10), .none, (.mov (.t 1))⟩,
  ⟨(.some 11), .none, (.len (.t 10))⟩,
  ⟨(.some 12), .none, (.mov (.c (.d (.int .i64 0))))⟩]
abbrev c_poundageref12_All_r2 : List AO := [⟨(.some 13), .none, (.bin .lss (.t 12) (.t 11))⟩]
abbrev c_poundageref12_All_r3 : List AO := [⟨(.some 14), .none, (.elemAddr 3 (.t 10) (.t 12))⟩,
  ⟨(.some 15), .none, (.load (.some 3) (.t 14))⟩,
  ⟨(.some 7), .none, (.alloc 70 [(.d (.int .i64 0)), (.d (.int .i64 0)), (.d (.int .i64 0))])⟩,
  ⟨.none, .none, (.store 3 (.t 7) (.t 15))⟩]
abbrev c_poundageref12_All_r4 : List AO := [⟨(.some 17), .none, (.load (.some 3) (.t 7))⟩,
  ⟨(.some 18), .none, (.mov (.t 0))⟩,
  ⟨(.some 19), .none, (.call 55 [(.t 17), (.t 18)])⟩,
  ⟨(.some 16), .none, (.mov (.t 19))⟩,
  ⟨(.some 20), .none, (.extract (.t 16) 0)⟩,
  ⟨(.some 21), .none, (.extract (.t 16) 1)⟩,
  ⟨(.some 8), .none, (.mov (.t 20))⟩,
  ⟨(.some 9), .none, (.mov (.t 21))⟩]
abbrev c_poundageref12_All_r5 : List AO := [⟨(.some 22), .none, (.mov (.t 9))⟩,
  ⟨(.some 23), .none, (.un .not (.t 22))⟩]
abbrev c_poundageref12_All_r6 : List AO := [⟨(.some 4), .none, (.mov (.c (.d (.int .i64 0))))⟩,
  ⟨(.some 5), .none, (.mov (.c (.d (.bool .false))))⟩]
abbrev c_poundageref12_All_r7 : List AO := [⟨(.some 24), .none, (.mov (.t 8))⟩,
  ⟨(.some 0), .none, (.mov (.t 24))⟩]
abbrev c_poundageref12_All_r8 : List AO := [⟨(.some 25), .none, (.bin .add (.t 12) (.c (.d (.int .i64 1))))⟩,
  ⟨(.some 12), .none, (.mov (.t 25))⟩]
abbrev c_poundageref12_All_l0 : ACode := (.seq (.ops c_poundageref12_All_r2) (.seq (.cond (.t 13) .skip (.exit 0)) (.seq (.block 1 (.seq (.ops c_poundageref12_All_r3) (.seq (.ops c_poundageref12_All_r4) (.seq (.seq (.ops c_poundageref12_All_r5) (.cond (.t 23) (.seq (.ops c_poundageref12_All_r6) .ret) .skip)) (.ops c_poundageref12_All_r7))))) (.ops c_poundageref12_All_r8))))
abbrev c_poundageref12_All_r9 : List AO := [⟨(.some 26), .none, (.mov (.t 0))⟩,
  ⟨(.some 4), .none, (.mov (.t 26))⟩,
  ⟨(.some 5), .none, (.mov (.c (.d (.bool .true))))⟩]
abbrev c_poundageref12_All : AFunc := ⟨27, [(.tmp 4), (.tmp 5)], (.seq (.ops c_poundageref12_All_r0) (.seq (.seq (.ops c_poundageref12_All_r1) (.block 0 (.loop c_poundageref12_All_l0))) (.seq (.ops c_poundageref12_All_r9) .ret)))⟩
theorem comp_poundageref12_All : funcC Try.prog 30 = some c_poundageref12_All := by kernel_rfl
/-! function 44 : poundage core.between -/
abbrev f_core_between : FuncId := 44
abbrev c_core_between_r0 : List AO := [⟨(.some 6), .none, (.mov (.c (.d (.bool .false))))⟩]
abbrev c_core_between_r1 : List AO := [⟨(.some 7), .none, (.mov (.t 0))⟩,
  ⟨(.some 8), .none, (.mov (.t 1))⟩,
  ⟨(.some 9), .none, (.bin .geq (.t 7) (.t 8))⟩,
  ⟨(.some 10), .none, (.mov (.t 9))⟩,
  ⟨(.some 11), (.some ⟨10, .true⟩), (.mov (.t 0))⟩,
  ⟨(.some 12), (.some ⟨10, .true⟩), (.mov (.t 2))⟩,
  ⟨(.some 13), (.some ⟨10, .true⟩), (.bin .leq (.t 11) (.t 12))⟩,
  ⟨(.some 14), .none, (.pick (.t 10) (.t 13) (.c (.d (.bool .false))))⟩,
  ⟨(.some 6), .none, (.mov (.t 14))⟩]
abbrev c_core_between : AFunc := ⟨15, [(.tmp 6)], (.seq (.ops c_core_between_r0) (.seq (.ops c_core_between_r1) .ret))⟩
theorem comp_core_between : funcC Try.prog 44 = some c_core_between := by kernel_rfl
/-! function 45 : slices.ContainsFunc poundage api.Part poundage api.Part  -/
abbrev f_slices_ContainsFunc_api_Part : FuncId := 45
abbrev c_slices_ContainsFunc_api_Part_r0 : List AO := [⟨(.some 4), .none, (.mov (.c (.d (.bool .false))))⟩]
abbrev c_slices_ContainsFunc_api_Part_r1 : List AO := [⟨(.some 5), .none, (.mov (.t 0))⟩,
  ⟨(.some 6), .none, (.mov (.t 1))⟩,
  ⟨(.some 7), .none, (.call 69 [(.t 5), (.t 6)])⟩,
  ⟨(.some 8), .none, (.bin .geq (.t 7) (.c (.d (.int .i64 0))))⟩,
  ⟨(.some 4), .none, (.mov (.t 8))⟩]
abbrev c_slices_ContainsFunc_api_Part : AFunc := ⟨9, [(.tmp 4)], (.seq (.ops c_slices_ContainsFunc_api_Part_r0) (.seq (.ops c_slices_ContainsFunc_api_Part_r1) .ret))⟩
theorem comp_slices_ContainsFunc_api_Part : funcC Try.prog 45 = some c_slices_ContainsFunc_api_Part := by kernel_rfl
/-! function 46 : poundage core.Good 1 -/
abbrev f_core_Good_1 : FuncId := 46
abbrev c_core_Good_1_r0 : List AO := [⟨(.some 2), .none, (.box 39 (.t 0))⟩,
  ⟨(.some 3), .none, (.mov (.c (.d (.bool .false))))⟩]
abbrev c_core_Good_1_r1 : List AO := [⟨(.some 4), .none, (.load (.some 6) (.t 1))⟩,
  ⟨(.some 5), .none, (.load (.some 9) (.t 2))⟩,
  ⟨(.some 6), .none, (.call 47 [(.t 4), (.t 5)])⟩,
  ⟨(.some 7), .none, (.un .not (.t 6))⟩,
  ⟨(.some 3), .none, (.mov (.t 7))⟩]
abbrev c_core_Good_1 : AFunc := ⟨8, [(.tmp 3)], (.seq (.ops c_core_Good_1_r0) (.seq (.ops c_core_Good_1_r1) .ret))⟩
theorem comp_core_Good_1 : funcC Try.prog 46 = some c_core_Good_1 := by kernel_rfl
/-! function 47 : poundage core.part -/
abbrev f_core_part : FuncId := 47
abbrev c_core_part_r0 : List AO := [⟨(.some 2), .none, (.box 26 (.t 0))⟩,
  ⟨(.some 3), .none, (.box 39 (.t 1))⟩,
  ⟨(.some 4), .none, (.mov (.c (.d (.bool .false))))⟩]
abbrev c_core_part_r1 : List AO := [⟨(.some 5), .none, (.fieldAddr 0 (.t 3))⟩,
  ⟨(.some 6), .none, (.load .none (.t 5))⟩,
  ⟨(.some 7), .none, (.fieldAddr 3 (.t 2))⟩,
  ⟨(.some 8), .none, (.load .none (.t 7))⟩,
  ⟨(.some 9), .none, (.len (.t 8))⟩,
  ⟨(.some 10), .none, (.bin .sub (.t 9) (.c (.d (.int .i64 1))))⟩,
  ⟨(.some 11), .none, (.call 44 [(.t 6), (.c (.d (.int .i64 0))), (.t 10)])⟩,
  ⟨(.some 12), .none, (.un .not (.t 11))⟩,
  ⟨(.some 13), .none, (.mov (.t 12))⟩,
  ⟨(.some 14), (.some ⟨13, .false⟩), (.fieldAddr 1 (.t 3))⟩,
  ⟨(.some 15), (.some ⟨13, .false⟩), (.load .none (.t 14))⟩,
  ⟨(.some 16), (.some ⟨13, .false⟩), (.fieldAddr 2 (.t 3))⟩,
  ⟨(.some 17), (.some ⟨13, .false⟩), (.load .none (.t 16))⟩,
  ⟨(.some 18), (.some ⟨13, .false⟩), (.bin .gtr (.t 15) (.t 17))⟩,
  ⟨(.some 19), .none, (.pick (.t 13) (.c (.d (.bool .true))) (.t 18))⟩,
  ⟨(.some 20), .none, (.mov (.t 19))⟩,
  ⟨(.some 21), (.some ⟨20, .false⟩), (.fieldAddr 1 (.t 3))⟩,
  ⟨(.some 22), (.some ⟨20, .false⟩), (.load .none (.t 21))⟩,
  ⟨(.some 23), (.some ⟨20, .false⟩), (.fieldAddr 1 (.t 2))⟩,
  ⟨(.some 24), (.some ⟨20, .false⟩), (.load .none (.t 23))⟩,
  ⟨(.some 25), (.some ⟨20, .false⟩), (.bin .lss (.t 22) (.t 24))⟩,
  ⟨(.some 26), .none, (.pick (.t 20) (.c (.d (.bool .true))) (.t 25))⟩,
  ⟨(.some 27), .none, (.mov (.t 26))⟩,
  ⟨(.some 28), (.some ⟨27, .false⟩), (.fieldAddr 2 (.t 3))⟩,
  ⟨(.some 29), (.some ⟨27, .false⟩), (.load .none (.t 28))⟩,
  ⟨(.some 30), (.some ⟨27, .false⟩), (.fieldAddr 2 (.t 2))⟩,
  ⟨(.some 31), (.some ⟨27, .false⟩), (.load .none (.t 30))⟩,
  ⟨(.some 32), (.some ⟨27, .false⟩), (.bin .gtr (.t 29) (.t 31))⟩,
  ⟨(.some 33), .none, (.pick (.t 27) (.c (.d (.bool .true))) (.t 32))⟩]
abbrev c_core_part_r2 : List AO := [⟨(.some 4), .none, (.mov (.c (.d (.bool .false))))⟩]
abbrev c_core_part_r3 : List AO := [⟨(.some 34), .none, (.fieldAddr 3 (.t 3))⟩,
  ⟨(.some 35), .none, (.load .none (.t 34))⟩,
  ⟨(.some 36), .none, (.call 44 [(.t 35), (.c (.d (.int .i64 0))), (.c (.d (.int .i64 1000000)))])⟩,
  ⟨(.some 37), .none, (.un .not (.t 36))⟩,
  ⟨(.some 38), .none, (.mov (.t 37))⟩,
  ⟨(.some 39), (.some ⟨38, .false⟩), (.fieldAddr 4 (.t 3))⟩,
  ⟨(.some 40), (.some ⟨38, .false⟩), (.load .none (.t 39))⟩,
  ⟨(.some 41), (.some ⟨38, .false⟩), (.call 44 [(.t 40), (.c (.d (.int .i64 1))), (.c (.d (.int .i64 1000000)))])⟩,
  ⟨(.some 42), (.some ⟨38, .false⟩), (.un .not (.t 41))⟩,
  ⟨(.some 43), .none, (.pick (.t 38) (.c (.d (.bool .true))) (.t 42))⟩,
  ⟨(.some 44), .none, (.mov (.t 43))⟩,
  ⟨(.some 45), (.some ⟨44, .false⟩), (.fieldAddr 5 (.t 3))⟩,
  ⟨(.some 46), (.some ⟨44, .false⟩), (.load .none (.t 45))⟩,
  ⟨(.some 47), (.some ⟨44, .false⟩), (.call 44 [(.t 46), (.c (.d (.int .i64 1))), (.c (.d (.int .i64 2)))])⟩,
  ⟨(.some 48), (.some ⟨44, .false⟩), (.un .not (.t 47))⟩,
  ⟨(.some 49), .none, (.pick (.t 44) (.c (.d (.bool .true))) (.t 48))⟩,
  ⟨(.some 50), .none, (.mov (.t 49))⟩,
  ⟨(.some 51), (.some ⟨50, .false⟩), (.fieldAddr 7 (.t 3))⟩,
  ⟨(.some 52), (.some ⟨50, .false⟩), (.load .none (.t 51))⟩,
  ⟨(.some 53), (.some ⟨50, .false⟩), (.call 44 [(.t 52), (.c (.d (.int .i64 0))), (.c (.d (.int .i64 3)))])⟩,
  ⟨(.some 54), (.some ⟨50, .false⟩), (.un .not (.t 53))⟩,
  ⟨(.some 55), .none, (.pick (.t 50) (.c (.d (.bool .true))) (.t 54))⟩,
  ⟨(.some 56), .none, (.mov (.t 55))⟩,
  ⟨(.some 57), (.some ⟨56, .false⟩), (.fieldAddr 8 (.t 3))⟩,
  ⟨(.some 58), (.some ⟨56, .false⟩), (.load .none (.t 57))⟩,
  ⟨(.some 59), (.some ⟨56, .false⟩), (.len (.t 58))⟩,
  ⟨(.some 60), (.some ⟨56, .false⟩), (.bin .gtr (.t 59) (.c (.d (.int .i64 6))))⟩,
  ⟨(.some 61), .none, (.pick (.t 56) (.c (.d (.bool .true))) (.t 60))⟩]
abbrev c_core_part_r4 : List AO := [⟨(.some 4), .none, (.mov (.c (.d (.bool .false))))⟩]
abbrev c_core_part_r5 : List AO := [⟨(.some 62), .none, (.fieldAddr 6 (.t 3))⟩,
  ⟨(.some 63), .none, (.load .none (.t 62))⟩,
  ⟨(.some 64), .none, (.call 70 [(.t 63)])⟩,
  ⟨(.some 65), .none, (.mov (.t 64))⟩,
  ⟨(.some 66), (.some ⟨65, .true⟩), (.fieldAddr 8 (.t 3))⟩,
  ⟨(.some 67), (.some ⟨65, .true⟩), (.load .none (.t 66))⟩,
  ⟨(.some 68), (.some ⟨65, .true⟩), (.call 71 [(.t 67), (.c (.fn 72 []))])⟩,
  ⟨(.some 69), (.some ⟨65, .true⟩), (.un .not (.t 68))⟩,
  ⟨(.some 70), .none, (.pick (.t 65) (.t 69) (.c (.d (.bool .false))))⟩,
  ⟨(.some 4), .none, (.mov (.t 70))⟩]
abbrev c_core_part : AFunc := ⟨71, [(.tmp 4)], (.seq (.ops c_core_part_r0) (.seq (.seq (.ops c_core_part_r1) (.cond (.t 33) (.seq (.ops c_core_part_r2) .ret) .skip)) (.seq (.seq (.ops c_core_part_r3) (.cond (.t 61) (.seq (.ops c_core_part_r4) .ret) .skip)) (.seq (.ops c_core_part_r5) .ret))))⟩
theorem comp_core_part : funcC Try.prog 47 = some c_core_part := by kernel_rfl
/-! function 48 : poundage exact.Add -/
abbrev f_exact_Add : FuncId := 48
abbrev c_exact_Add_r0 : List AO := [⟨(.some 4), .none, (.mov (.c (.d (.int .i64 0))))⟩,
  ⟨(.some 5), .none, (.mov (.c (.d (.bool .false))))⟩]
abbrev c_exact_Add_r1 : List AO := [⟨(.some 6), .none, (.mov (.t 1))⟩,
  ⟨(.some 7), .none, (.bin .gtr (.t 6) (.c (.d (.int .i64 0))))⟩,
  ⟨(.some 8), .none, (.mov (.t 7))⟩,
  ⟨(.some 9), (.some ⟨8, .true⟩), (.mov (.t 0))⟩,
  ⟨(.some 10), (.some ⟨8, .true⟩), (.mov (.t 1))⟩,
  ⟨(.some 11), (.some ⟨8, .true⟩), (.bin .sub (.c (.d (.int .i64 9223372036854775807))) (.t 10))⟩,
  ⟨(.some 12), (.some ⟨8, .true⟩), (.bin .gtr (.t 9) (.t 11))⟩,
  ⟨(.some 13), .none, (.pick (.t 8) (.t 12) (.c (.d (.bool .false))))⟩,
  ⟨(.some 14), .none, (.mov (.t 13))⟩,
  ⟨(.some 15), (.some ⟨14, .false⟩), (.mov (.t 1))⟩,
  ⟨(.some 16), (.some ⟨14, .false⟩), (.bin .lss (.t 15) (.c (.d (.int .i64 0))))⟩,
  ⟨(.some 17), (.some ⟨14, .false⟩), (.mov (.t 16))⟩,
  ⟨(.some 18), (.some ⟨17, .true⟩), (.mov (.t 0))⟩,
  ⟨(.some 19), (.some ⟨17, .true⟩), (.mov (.t 1))⟩,
  ⟨(.some 20), (.some ⟨17, .true⟩), (.bin .sub (.c (.d (.int .i64 (-9223372036854775808)))) (.t 19))⟩,
  ⟨(.some 21), (.some ⟨17, .true⟩), (.bin .lss (.t 18) (.t 20))⟩,
  ⟨(.some 22), (.some ⟨14, .false⟩), (.pick (.t 17) (.t 21) (.c (.d (.bool .false))))⟩,
  ⟨(.some 23), .none, (.pick (.t 14) (.c (.d (.bool .true))) (.t 22))⟩]
abbrev c_exact_Add_r2 : List AO := [⟨(.some 4), .none, (.mov (.c (.d (.int .i64 0))))⟩,
  ⟨(.some 5), .none, (.mov (.c (.d (.bool .false))))⟩]
abbrev c_exact_Add_r3 : List AO := [⟨(.some 24), .none, (.mov (.t 0))⟩,
  ⟨(.some 25), .none, (.mov (.t 1))⟩,
  ⟨(.some 26), .none, (.bin .add (.t 24) (.t 25))⟩,
  ⟨(.some 4), .none, (.mov (.t 26))⟩,
  ⟨(.some 5), .none, (.mov (.c (.d (.bool .true))))⟩]
abbrev c_exact_Add : AFunc := ⟨27, [(.tmp 4), (.tmp 5)], (.seq (.ops c_exact_Add_r0) (.seq (.seq (.ops c_exact_Add_r1) (.cond (.t 23) (.seq (.ops c_exact_Add_r2) .ret) .skip)) (.seq (.ops c_exact_Add_r3) .ret)))⟩
theorem comp_exact_Add : funcC Try.prog 48 = some c_exact_Add := by kernel_rfl
/-! function 49 : poundage poundageref01.Sum -/
abbrev f_poundageref01_Sum : FuncId := 49
abbrev c_poundageref01_Sum_r0 : List AO := [⟨(.some 2), .none, (.mov (.c (.d (.int .i64 0))))⟩,
  ⟨(.some 3), .none, (.mov (.c (.d (.bool .false))))⟩]
abbrev c_poundageref01_Sum_r1 : List AO := [⟨(.some 4), .none, (.mov (.c (.d (.int .i64 0))))⟩]
abbrev c_poundageref01_Sum_r2 : List AO := [⟨(.some 9), .none, (.mov (.t 0))⟩,
  ⟨(.some 10), .none, (.len (.t 9))⟩,
  ⟨(.some 11), .none, (.mov (.c (.d (.int .i64 0))))⟩]
abbrev c_poundageref01_Sum_r3 : List AO := [⟨(.some 12), .none, (.bin .lss (.t 11) (.t 10))⟩]
abbrev c_poundageref01_Sum_r4 : List AO := [⟨(.some 13), .none, (.elemAddr 1 (.t 9) (.t 11))⟩,
  ⟨(.some 14), .none, (.load .none (.t 13))⟩,
  ⟨(.some 6), .none, (.mov (.t 14))⟩]
abbrev c_poundageref01_Sum_r5 : List AO := [⟨(.some 16), .none, (.mov (.t 4))⟩,
  ⟨(.some 17), .none, (.call 68 [(.t 16)])⟩,
  ⟨(.some 18), .none, (.mov (.t 6))⟩,
  ⟨(.some 19), .none, (.call 68 [(.t 18)])⟩,
  ⟨(.some 20), .none, (.call 67 [(.t 17), (.t 19)])⟩,
  ⟨(.some 21), .none, (.call 66 [(.t 20)])⟩,
  ⟨(.some 15), .none, (.mov (.t 21))⟩,
  ⟨(.some 22), .none, (.extract (.t 15) 0)⟩,
  ⟨(.some 23), .none, (.extract (.t 15) 1)⟩,
  ⟨(.some 7), .none, (.mov (.t 22))⟩,
  ⟨(.some 8), .none, (.mov (.t 23))⟩]
abbrev c_poundageref01_Sum_r6 : List AO := [⟨(.some 24), .none, (.mov (.t 8))⟩,
  ⟨(.some 25), .none, (.un .not (.t 24))⟩]
abbrev c_poundageref01_Sum_r7 : List AO := [⟨(.some 2), .none, (.mov (.c (.d (.int .i64 0))))⟩,
  ⟨(.some 3), .none, (.mov (.c (.d (.bool .false))))⟩]
abbrev c_poundageref01_Sum_r8 : List AO := [⟨(.some 26), .none, (.mov (.t 7))⟩,
  ⟨(.some 4), .none, (.mov (.t 26))⟩]
abbrev c_poundageref01_Sum_r9 : List AO := [⟨(.some 27), .none, (.bin .add (.t 11) (.c (.d (.int .i64 1))))⟩,
  ⟨(.some 11), .none, (.mov (.t 27))⟩]
abbrev c_poundageref01_Sum_l0 : ACode := (.seq (.ops c_poundageref01_Sum_r3) (.seq (.cond (.t 12) .skip (.exit 0)) (.seq (.block 1 (.seq (.ops c_poundageref01_Sum_r4) (.seq (.ops c_poundageref01_Sum_r5) (.seq (.seq (.ops c_poundageref01_Sum_r6) (.cond (.t 25) (.seq (.ops c_poundageref01_Sum_r7) .ret) .skip)) (.ops c_poundageref01_Sum_r8))))) (.ops c_poundageref01_Sum_r9))))
abbrev c_poundageref01_Sum_r10 : List AO := [⟨(.some 28), .none, (.mov (.t 4))⟩,
  ⟨(.some 2), .none, (.mov (.t 28))⟩,
  ⟨(.some 3), .none, (.mov (.c (.d (.bool .true))))⟩]
abbrev c_poundageref01_Sum : AFunc := ⟨29, [(.tmp 2), (.tmp 3)], (.seq (.ops c_poundageref01_Sum_r0) (.seq (.ops c_poundageref01_Sum_r1) (.seq (.seq (.ops c_poundageref01_Sum_r2) (.block 0 (.loop c_poundageref01_Sum_l0))) (.seq (.ops c_poundageref01_Sum_r10) .ret))))⟩
theorem comp_poundageref01_Sum : funcC Try.prog 49 = some c_poundageref01_Sum := by kernel_rfl
/-! function 50 : poundage tiers.Micro -/
abbrev f_tiers_Micro : FuncId := 50
abbrev c_tiers_Micro_r0 : List AO := [⟨(.some 2), .none, (.box 39 (.t 0))⟩,
  ⟨(.some 4), .none, (.alloc 3 [(.d (.int .i64 0))])⟩,
  ⟨(.some 5), .none, (.alloc 4 [(.d (.bool .false))])⟩]
abbrev c_tiers_Micro_r1 : List AO := [⟨(.some 15), .none, (.load (.some 9) (.t 2))⟩,
  ⟨(.some 16), .none, (.mov (.t 1))⟩,
  ⟨(.some 17), .none, (.call 74 [(.t 15), (.t 16)])⟩,
  ⟨(.some 14), .none, (.mov (.t 17))⟩,
  ⟨(.some 18), .none, (.extract (.t 14) 0)⟩,
  ⟨(.some 19), .none, (.extract (.t 14) 1)⟩,
  ⟨(.some 6), .none, (.mov (.t 18))⟩,
  ⟨(.some 7), .none, (.mov (.t 19))⟩]
abbrev c_tiers_Micro_r2 : List AO := [⟨(.some 20), .none, (.mov (.t 7))⟩,
  ⟨(.some 21), .none, (.un .not (.t 20))⟩]
abbrev c_tiers_Micro_r3 : List AO := [⟨.none, .none, (.store 1 (.t 4) (.c (.d (.int .i64 0))))⟩,
  ⟨.none, .none, (.store 1 (.t 5) (.c (.d (.bool .false))))⟩]
abbrev c_tiers_Micro_r4 : List AO := [⟨(.some 8), .none, (.alloc 3 [(.d (.int .i64 0))])⟩,
  ⟨.none, .none, (.store 1 (.t 8) (.c (.d (.int .i64 0))))⟩]
abbrev c_tiers_Micro_r5 : List AO := [⟨(.some 22), .none, (.load (.some 9) (.t 2))⟩,
  ⟨(.some 23), .none, (.mov (.t 6))⟩,
  ⟨(.some 24), .none, (.call 75 [(.t 22), (.t 23)])⟩]
abbrev c_tiers_Micro_r6 : List AO := [⟨(.some 9), .none, (.alloc 133 [(.d (.int .i64 0)), (.d (.int .i64 0)), (.d (.int .i64 0))])⟩,
  ⟨.none, .none, (.store 3 (.t 9) (.t 25))⟩]
abbrev c_tiers_Micro_r7 : List AO := [⟨(.some 27), .none, (.fieldAddr 2 (.t 9))⟩,
  ⟨(.some 28), .none, (.load .none (.t 27))⟩,
  ⟨(.some 29), .none, (.fieldAddr 1 (.t 9))⟩,
  ⟨(.some 30), .none, (.load .none (.t 29))⟩,
  ⟨(.some 31), .none, (.fieldAddr 0 (.t 9))⟩,
  ⟨(.some 32), .none, (.load .none (.t 31))⟩,
  ⟨(.some 33), .none, (.bin .sub (.t 30) (.t 32))⟩,
  ⟨(.some 34), .none, (.call 76 [(.t 28), (.t 33)])⟩,
  ⟨(.some 26), .none, (.mov (.t 34))⟩,
  ⟨(.some 35), .none, (.extract (.t 26) 0)⟩,
  ⟨(.some 36), .none, (.extract (.t 26) 1)⟩,
  ⟨(.some 10), .none, (.mov (.t 35))⟩,
  ⟨(.some 11), .none, (.mov (.t 36))⟩]
abbrev c_tiers_Micro_r8 : List AO := [⟨(.some 38), .none, (.load .none (.t 8))⟩,
  ⟨(.some 39), .none, (.mov (.t 10))⟩,
  ⟨(.some 40), .none, (.call 48 [(.t 38), (.t 39)])⟩,
  ⟨(.some 37), .none, (.mov (.t 40))⟩,
  ⟨(.some 41), .none, (.extract (.t 37) 0)⟩,
  ⟨(.some 42), .none, (.extract (.t 37) 1)⟩,
  ⟨(.some 12), .none, (.mov (.t 41))⟩,
  ⟨(.some 13), .none, (.mov (.t 42))⟩]
abbrev c_tiers_Micro_r9 : List AO := [⟨(.some 43), .none, (.mov (.t 11))⟩,
  ⟨(.some 44), .none, (.un .not (.t 43))⟩,
  ⟨(.some 45), .none, (.mov (.t 44))⟩,
  ⟨(.some 46), (.some ⟨45, .false⟩), (.mov (.t 13))⟩,
  ⟨(.some 47), (.some ⟨45, .false⟩), (.un .not (.t 46))⟩,
  ⟨(.some 48), .none, (.pick (.t 45) (.c (.d (.bool .true))) (.t 47))⟩]
abbrev c_tiers_Micro_r10 : List AO := [⟨.none, .none, (.store 1 (.t 4) (.c (.d (.int .i64 0))))⟩,
  ⟨.none, .none, (.store 1 (.t 5) (.c (.d (.bool .false))))⟩]
abbrev c_tiers_Micro_r11 : List AO := [⟨(.some 49), .none, (.mov (.t 12))⟩,
  ⟨.none, .none, (.store 1 (.t 8) (.t 49))⟩]
abbrev c_tiers_Micro_g0 : ACode := (.block 1 (.seq (.ops c_tiers_Micro_r7) (.seq (.ops c_tiers_Micro_r8) (.seq (.seq (.ops c_tiers_Micro_r9) (.cond (.t 48) (.seq (.ops c_tiers_Micro_r10) .ret) .skip)) (.ops c_tiers_Micro_r11)))))
abbrev c_tiers_Micro_r12 : List AO := [⟨(.some 50), .none, (.load .none (.t 8))⟩,
  ⟨.none, .none, (.store 1 (.t 4) (.t 50))⟩,
  ⟨.none, .none, (.store 1 (.t 5) (.c (.d (.bool .true))))⟩]
abbrev c_tiers_Micro : AFunc := ⟨51, [(.cell 4 .none), (.cell 5 .none)], (.seq (.ops c_tiers_Micro_r0) (.seq (.ops c_tiers_Micro_r1) (.seq (.seq (.ops c_tiers_Micro_r2) (.cond (.t 21) (.seq (.ops c_tiers_Micro_r3) .ret) .skip)) (.seq (.ops c_tiers_Micro_r4) (.seq (.seq (.ops c_tiers_Micro_r5) (.block 0 (.rangef (.t 24) [25] (.ops c_tiers_Micro_r6) c_tiers_Micro_g0))) (.seq (.ops c_tiers_Micro_r12) .ret))))))⟩
theorem comp_tiers_Micro : funcC Try.prog 50 = some c_tiers_Micro := by kernel_rfl
/-! function 51 : poundage round.Div -/
abbrev f_round_Div : FuncId := 51
abbrev c_round_Div_r0 : List AO := [⟨(.some 6), .none, (.mov (.c (.d (.int .i64 0))))⟩,
  ⟨(.some 7), .none, (.mov (.c (.d (.bool .false))))⟩]
abbrev c_round_Div_r1 : List AO := [⟨(.some 8), .none, (.mov (.t 0))⟩,
  ⟨(.some 9), .none, (.mov (.t 1))⟩,
  ⟨(.some 10), .none, (.mov (.t 2))⟩,
  ⟨(.some 11), .none, (.call 77 [(.t 8), (.c (.d (.int .i64 1))), (.t 9), (.t 10)])⟩,
  ⟨(.some 12), .none, (.extract (.t 11) 0)⟩,
  ⟨(.some 13), .none, (.extract (.t 11) 1)⟩,
  ⟨(.some 6), .none, (.mov (.t 12))⟩,
  ⟨(.some 7), .none, (.mov (.t 13))⟩]
abbrev c_round_Div : AFunc := ⟨14, [(.tmp 6), (.tmp 7)], (.seq (.ops c_round_Div_r0) (.seq (.ops c_round_Div_r1) .ret))⟩
theorem comp_round_Div : funcC Try.prog 51 = some c_round_Div := by kernel_rfl
/-! function 52 : poundage adjust.One -/
abbrev f_adjust_One : FuncId := 52
abbrev c_adjust_One_r0 : List AO := [⟨(.some 2), .none, (.box 70 (.t 0))⟩,
  ⟨(.some 4), .none, (.mov (.c (.d (.int .i64 0))))⟩,
  ⟨(.some 5), .none, (.mov (.c (.d (.bool .false))))⟩]
abbrev c_adjust_One_r1 : List AO := [⟨(.some 6), .none, (.fieldAddr 0 (.t 2))⟩,
  ⟨(.some 7), .none, (.load .none (.t 6))⟩]
abbrev c_adjust_One_r2 : List AO := [⟨(.some 9), .none, (.bin .eql (.t 7) (.c (.d (.int .i64 1))))⟩,
  ⟨(.some 8), .none, (.mov (.t 9))⟩]
abbrev c_adjust_One_r3 : List AO := [⟨(.some 10), .none, (.mov (.t 1))⟩,
  ⟨(.some 11), .none, (.fieldAddr 1 (.t 2))⟩,
  ⟨(.some 12), .none, (.load .none (.t 11))⟩,
  ⟨(.some 13), .none, (.fieldAddr 2 (.t 2))⟩,
  ⟨(.some 14), .none, (.load .none (.t 13))⟩,
  ⟨(.some 15), .none, (.call 77 [(.t 10), (.t 12), (.c (.d (.int .i64 100000))), (.t 14)])⟩,
  ⟨(.some 16), .none, (.extract (.t 15) 0)⟩,
  ⟨(.some 17), .none, (.extract (.t 15) 1)⟩,
  ⟨(.some 4), .none, (.mov (.t 16))⟩,
  ⟨(.some 5), .none, (.mov (.t 17))⟩]
abbrev c_adjust_One_r4 : List AO := [⟨(.some 19), .none, (.bin .eql (.t 7) (.c (.d (.int .i64 2))))⟩,
  ⟨(.some 18), .none, (.mov (.t 19))⟩]
abbrev c_adjust_One_r5 : List AO := [⟨(.some 20), .none, (.mov (.t 1))⟩,
  ⟨(.some 21), .none, (.fieldAddr 1 (.t 2))⟩,
  ⟨(.some 22), .none, (.load .none (.t 21))⟩,
  ⟨(.some 23), .none, (.minmax .false (.t 20) [(.t 22)])⟩,
  ⟨(.some 4), .none, (.mov (.t 23))⟩,
  ⟨(.some 5), .none, (.mov (.c (.d (.bool .true))))⟩]
abbrev c_adjust_One_r6 : List AO := [⟨(.some 25), .none, (.bin .eql (.t 7) (.c (.d (.int .i64 3))))⟩,
  ⟨(.some 24), .none, (.mov (.t 25))⟩]
abbrev c_adjust_One_r7 : List AO := [⟨(.some 26), .none, (.mov (.t 1))⟩,
  ⟨(.some 27), .none, (.fieldAddr 1 (.t 2))⟩,
  ⟨(.some 28), .none, (.load .none (.t 27))⟩,
  ⟨(.some 29), .none, (.minmax .true (.t 26) [(.t 28)])⟩,
  ⟨(.some 4), .none, (.mov (.t 29))⟩,
  ⟨(.some 5), .none, (.mov (.c (.d (.bool .true))))⟩]
abbrev c_adjust_One_r8 : List AO := [⟨(.some 31), .none, (.bin .eql (.t 7) (.c (.d (.int .i64 4))))⟩,
  ⟨(.some 30), .none, (.mov (.t 31))⟩]
abbrev c_adjust_One_r9 : List AO := [⟨(.some 32), .none, (.mov (.t 1))⟩,
  ⟨(.some 33), .none, (.fieldAddr 1 (.t 2))⟩,
  ⟨(.some 34), .none, (.load .none (.t 33))⟩,
  ⟨(.some 35), .none, (.call 48 [(.t 32), (.t 34)])⟩,
  ⟨(.some 36), .none, (.extract (.t 35) 0)⟩,
  ⟨(.some 37), .none, (.extract (.t 35) 1)⟩,
  ⟨(.some 4), .none, (.mov (.t 36))⟩,
  ⟨(.some 5), .none, (.mov (.t 37))⟩]
abbrev c_adjust_One_r10 : List AO := [⟨(.some 4), .none, (.mov (.c (.d (.int .i64 0))))⟩,
  ⟨(.some 5), .none, (.mov (.c (.d (.bool .false))))⟩]
abbrev c_adjust_One : AFunc := ⟨38, [(.tmp 4), (.tmp 5)], (.seq (.ops c_adjust_One_r0) (.seq (.seq (.ops c_adjust_One_r1) (.block 0 (.seq (.ops c_adjust_One_r2) (.cond (.t 8) (.seq (.ops c_adjust_One_r3) .ret) (.seq (.ops c_adjust_One_r4) (.cond (.t 18) (.seq (.ops c_adjust_One_r5) .ret) (.seq (.ops c_adjust_One_r6) (.cond (.t 24) (.seq (.ops c_adjust_One_r7) .ret) (.seq (.ops c_adjust_One_r8) (.cond (.t 30) (.seq (.ops c_adjust_One_r9) .ret) .skip)))))))))) (.seq (.ops c_adjust_One_r10) .ret)))⟩
theorem comp_adjust_One : funcC Try.prog 52 = some c_adjust_One := by kernel_rfl
/-! function 53 : poundage poundageref11.Micro -/
abbrev f_poundageref11_Micro : FuncId := 53
abbrev c_poundageref11_Micro_r0 : List AO := [⟨(.some 2), .none, (.box 39 (.t 0))⟩,
  ⟨(.some 4), .none, (.mov (.c (.d (.int .i64 0))))⟩,
  ⟨(.some 5), .none, (.mov (.c (.d (.bool .false))))⟩]
abbrev c_poundageref11_Micro_r1 : List AO := [⟨(.some 16), .none, (.load (.some 9) (.t 2))⟩,
  ⟨(.some 17), .none, (.mov (.t 1))⟩,
  ⟨(.some 18), .none, (.call 78 [(.t 16), (.t 17)])⟩,
  ⟨(.some 15), .none, (.mov (.t 18))⟩,
  ⟨(.some 19), .none, (.extract (.t 15) 0)⟩,
  ⟨(.some 20), .none, (.extract (.t 15) 1)⟩,
  ⟨(.some 6), .none, (.mov (.t 19))⟩,
  ⟨(.some 7), .none, (.mov (.t 20))⟩]
abbrev c_poundageref11_Micro_r2 : List AO := [⟨(.some 21), .none, (.mov (.t 7))⟩,
  ⟨(.some 22), .none, (.un .not (.t 21))⟩]
abbrev c_poundageref11_Micro_r3 : List AO := [⟨(.some 4), .none, (.mov (.c (.d (.int .i64 0))))⟩,
  ⟨(.some 5), .none, (.mov (.c (.d (.bool .false))))⟩]
abbrev c_poundageref11_Micro_r4 : List AO := [⟨(.some 8), .none, (.mov (.c (.d (.int .i64 0))))⟩]
abbrev c_poundageref11_Micro_r5 : List AO := [⟨(.some 23), .none, (.load (.some 9) (.t 2))⟩,
  ⟨(.some 24), .none, (.mov (.t 6))⟩,
  ⟨(.some 25), .none, (.call 79 [(.t 23), (.t 24)])⟩,
  ⟨(.some 26), .none, (.len (.t 25))⟩,
  ⟨(.some 27), .none, (.mov (.c (.d (.int .i64 0))))⟩]
abbrev c_poundageref11_Micro_r6 : List AO := [⟨(.some 28), .none, (.bin .lss (.t 27) (.t 26))⟩]
abbrev c_poundageref11_Micro_r7 : List AO := [⟨(.some 29), .none, (.elemAddr 3 (.t 25) (.t 27))⟩,
  ⟨(.some 30), .none, (.load (.some 3) (.t 29))⟩,
  ⟨(.some 10), .none, (.alloc 136 [(.d (.int .i64 0)), (.d (.int .i64 0)), (.d (.int .i64 0))])⟩,
  ⟨.none, .none, (.store 3 (.t 10) (.t 30))⟩]
abbrev c_poundageref11_Micro_r8 : List AO := [⟨(.some 32), .none, (.fieldAddr 2 (.t 10))⟩,
  ⟨(.some 33), .none, (.load .none (.t 32))⟩,
  ⟨(.some 34), .none, (.fieldAddr 1 (.t 10))⟩,
  ⟨(.some 35), .none, (.load .none (.t 34))⟩,
  ⟨(.some 36), .none, (.fieldAddr 0 (.t 10))⟩,
  ⟨(.some 37), .none, (.load .none (.t 36))⟩,
  ⟨(.some 38), .none, (.bin .sub (.t 35) (.t 37))⟩,
  ⟨(.some 39), .none, (.call 80 [(.t 33), (.t 38)])⟩,
  ⟨(.some 40), .none, (.call 66 [(.t 39)])⟩,
  ⟨(.some 31), .none, (.mov (.t 40))⟩,
  ⟨(.some 41), .none, (.extract (.t 31) 0)⟩,
  ⟨(.some 42), .none, (.extract (.t 31) 1)⟩,
  ⟨(.some 11), .none, (.mov (.t 41))⟩,
  ⟨(.some 12), .none, (.mov (.t 42))⟩]
abbrev c_poundageref11_Micro_r9 : List AO := [⟨(.some 44), .none, (.mov (.t 8))⟩,
  ⟨(.some 45), .none, (.call 68 [(.t 44)])⟩,
  ⟨(.some 46), .none, (.mov (.t 11))⟩,
  ⟨(.some 47), .none, (.call 68 [(.t 46)])⟩,
  ⟨(.some 48), .none, (.call 67 [(.t 45), (.t 47)])⟩,
  ⟨(.some 49), .none, (.call 66 [(.t 48)])⟩,
  ⟨(.some 43), .none, (.mov (.t 49))⟩,
  ⟨(.some 50), .none, (.extract (.t 43) 0)⟩,
  ⟨(.some 51), .none, (.extract (.t 43) 1)⟩,
  ⟨(.some 13), .none, (.mov (.t 50))⟩,
  ⟨(.some 14), .none, (.mov (.t 51))⟩]
abbrev c_poundageref11_Micro_r10 : List AO := [⟨(.some 52), .none, (.mov (.t 12))⟩,
  ⟨(.some 53), .none, (.un .not (.t 52))⟩,
  ⟨(.some 54), .none, (.mov (.t 53))⟩,
  ⟨(.some 55), (.some ⟨54, .false⟩), (.mov (.t 14))⟩,
  ⟨(.some 56), (.some ⟨54, .false⟩), (.un .not (.t 55))⟩,
  ⟨(.some 57), .none, (.pick (.t 54) (.c (.d (.bool .true))) (.t 56))⟩]
abbrev c_poundageref11_Micro_r11 : List AO := [⟨(.some 4), .none, (.mov (.c (.d (.int .i64 0))))⟩,
  ⟨(.some 5), .none, (.mov (.c (.d (.bool .false))))⟩]
abbrev c_poundageref11_Micro_r12 : List AO := [⟨(.some 58), .none, (.mov (.t 13))⟩,
  ⟨(.some 8), .none, (.mov (.t 58))⟩]
abbrev c_poundageref11_Micro_r13 : List AO := [⟨(.some 59), .none, (.bin .add (.t 27) (.c (.d (.int .i64 1))))⟩,
  ⟨(.some 27), .none, (.mov (.t 59))⟩]
abbrev c_poundageref11_Micro_l0 : ACode := (.seq (.ops c_poundageref11_Micro_r6) (.seq (.cond (.t 28) .skip (.exit 0)) (.seq (.block 1 (.seq (.ops c_poundageref11_Micro_r7) (.seq (.ops c_poundageref11_Micro_r8) (.seq (.ops c_poundageref11_Micro_r9) (.seq (.seq (.ops c_poundageref11_Micro_r10) (.cond (.t 57) (.seq (.ops c_poundageref11_Micro_r11) .ret) .skip)) (.ops c_poundageref11_Micro_r12)))))) (.ops c_poundageref11_Micro_r13))))
abbrev c_poundageref11_Micro_r14 : List AO := [⟨(.some 60), .none, (.mov (.t 8))⟩,
  ⟨(.some 4), .none, (.mov (.t 60))⟩,
  ⟨(.some 5), .none, (.mov (.c (.d (.bool .true))))⟩]
abbrev c_poundageref11_Micro : AFunc := ⟨61, [(.tmp 4), (.tmp 5)], (.seq (.ops c_poundageref11_Micro_r0) (.seq (.ops c_poundageref11_Micro_r1) (.seq (.seq (.ops c_poundageref11_Micro_r2) (.cond (.t 22) (.seq (.ops c_poundageref11_Micro_r3) .ret) .skip)) (.seq (.ops c_poundageref11_Micro_r4) (.seq (.seq (.ops c_poundageref11_Micro_r5) (.block 0 (.loop c_poundageref11_Micro_l0))) (.seq (.ops c_poundageref11_Micro_r14) .ret))))))⟩
theorem comp_poundageref11_Micro : funcC Try.prog 53 = some c_poundageref11_Micro := by kernel_rfl
/-! function 54 : poundage poundageref02.MulDiv -/
abbrev f_poundageref02_MulDiv : FuncId := 54
abbrev c_poundageref02_MulDiv_r0 : List AO := [⟨(.some 8), .none, (.mov (.c (.d (.int .i64 0))))⟩,
  ⟨(.some 9), .none, (.mov (.c (.d (.bool .false))))⟩]
abbrev c_poundageref02_MulDiv_r1 : List AO := [⟨(.some 18), .none, (.mov (.t 2))⟩,
  ⟨(.some 19), .none, (.bin .leq (.t 18) (.c (.d (.int .i64 0))))⟩,
  ⟨(.some 20), .none, (.mov (.t 19))⟩,
  ⟨(.some 21), (.some ⟨20, .false⟩), (.mov (.t 3))⟩,
  ⟨(.some 22), (.some ⟨20, .false⟩), (.bin .lss (.t 21) (.c (.d (.int .i64 0))))⟩,
  ⟨(.some 23), .none, (.pick (.t 20) (.c (.d (.bool .true))) (.t 22))⟩,
  ⟨(.some 24), .none, (.mov (.t 23))⟩,
  ⟨(.some 25), (.some ⟨24, .false⟩), (.mov (.t 3))⟩,
  ⟨(.some 26), (.some ⟨24, .false⟩), (.bin .gtr (.t 25) (.c (.d (.int .i64 3))))⟩,
  ⟨(.some 27), .none, (.pick (.t 24) (.c (.d (.bool .true))) (.t 26))⟩]
abbrev c_poundageref02_MulDiv_r2 : List AO := [⟨(.some 8), .none, (.mov (.c (.d (.int .i64 0))))⟩,
  ⟨(.some 9), .none, (.mov (.c (.d (.bool .false))))⟩]
abbrev c_poundageref02_MulDiv_r3 : List AO := [⟨(.some 28), .none, (.mov (.t 0))⟩,
  ⟨(.some 29), .none, (.mov (.t 1))⟩,
  ⟨(.some 30), .none, (.call 80 [(.t 28), (.t 29)])⟩,
  ⟨(.some 10), .none, (.alloc 122 [(.d (.bool .false)), (.d (.int .u64 0)), (.d (.int .u64 0))])⟩,
  ⟨.none, .none, (.store 3 (.t 10) (.t 30))⟩]
abbrev c_poundageref02_MulDiv_r4 : List AO := [⟨(.some 32), .none, (.load (.some 3) (.t 10))⟩,
  ⟨(.some 33), .none, (.mov (.t 2))⟩,
  ⟨(.some 34), .none, (.call 81 [(.t 32), (.t 33)])⟩,
  ⟨(.some 31), .none, (.mov (.t 34))⟩,
  ⟨(.some 35), .none, (.extract (.t 31) 0)⟩,
  ⟨(.some 36), .none, (.extract (.t 31) 1)⟩,
  ⟨(.some 11), .none, (.mov (.t 35))⟩,
  ⟨(.some 12), .none, (.mov (.t 36))⟩]
abbrev c_poundageref02_MulDiv_r5 : List AO := [⟨(.some 38), .none, (.mov (.t 11))⟩,
  ⟨(.some 39), .none, (.mov (.t 2))⟩,
  ⟨(.some 37), .none, (.loadS (.some 3) (.t 10) [13])⟩,
  ⟨(.some 40), .none, (.pcall 80 [(.t 38), (.t 39)])⟩,
  ⟨(.some 41), .none, (.pcall 82 [(.t 40)])⟩,
  ⟨(.some 42), .none, (.pcall 67 [(.t 37), (.t 41)])⟩,
  ⟨(.some 13), .none, (.alloc 122 [(.d (.bool .false)), (.d (.int .u64 0)), (.d (.int .u64 0))])⟩,
  ⟨.none, .none, (.storeS 3 13 (.t 42))⟩]
abbrev c_poundageref02_MulDiv_r6 : List AO := [⟨(.some 43), .none, (.mov (.t 12))⟩,
  ⟨(.some 44), .none, (.mov (.t 43))⟩,
  ⟨(.some 45), (.some ⟨44, .true⟩), (.fieldAddr 1 (.t 13))⟩,
  ⟨(.some 46), (.some ⟨44, .true⟩), (.load .none (.t 45))⟩,
  ⟨(.some 47), (.some ⟨44, .true⟩), (.bin .gtr (.t 46) (.c (.d (.int .u64 0))))⟩,
  ⟨(.some 48), .none, (.pick (.t 44) (.t 47) (.c (.d (.bool .false))))⟩,
  ⟨(.some 49), .none, (.mov (.t 48))⟩,
  ⟨(.some 50), (.some ⟨49, .false⟩), (.mov (.t 12))⟩,
  ⟨(.some 51), (.some ⟨49, .false⟩), (.mov (.t 50))⟩,
  ⟨(.some 52), (.some ⟨51, .true⟩), (.fieldAddr 2 (.t 13))⟩,
  ⟨(.some 53), (.some ⟨51, .true⟩), (.load .none (.t 52))⟩,
  ⟨(.some 54), (.some ⟨51, .true⟩), (.mov (.t 2))⟩,
  ⟨(.some 55), (.some ⟨51, .true⟩), (.conv .u64 (.t 54))⟩,
  ⟨(.some 56), (.some ⟨51, .true⟩), (.bin .geq (.t 53) (.t 55))⟩,
  ⟨(.some 57), (.some ⟨49, .false⟩), (.pick (.t 51) (.t 56) (.c (.d (.bool .false))))⟩,
  ⟨(.some 58), .none, (.pick (.t 49) (.c (.d (.bool .true))) (.t 57))⟩]
abbrev c_poundageref02_MulDiv_r7 : List AO := [⟨(.some 8), .none, (.mov (.c (.d (.int .i64 0))))⟩,
  ⟨(.some 9), .none, (.mov (.c (.d (.bool .false))))⟩]
abbrev c_poundageref02_MulDiv_r8 : List AO := [⟨(.some 59), .none, (.mov (.t 12))⟩,
  ⟨(.some 60), .none, (.un .not (.t 59))⟩]
abbrev c_poundageref02_MulDiv_r9 : List AO := [⟨(.some 62), .none, (.load (.some 3) (.t 10))⟩,
  ⟨(.some 63), .none, (.mov (.t 2))⟩,
  ⟨(.some 64), .none, (.mov (.t 3))⟩,
  ⟨(.some 65), .none, (.call 83 [(.t 62), (.t 63), (.t 64)])⟩,
  ⟨(.some 61), .none, (.mov (.t 65))⟩,
  ⟨(.some 66), .none, (.extract (.t 61) 0)⟩,
  ⟨(.some 67), .none, (.extract (.t 61) 1)⟩,
  ⟨(.some 14), .none, (.mov (.t 66))⟩,
  ⟨(.some 15), .none, (.mov (.t 67))⟩]
abbrev c_poundageref02_MulDiv_r10 : List AO := [⟨(.some 68), .none, (.mov (.t 15))⟩]
abbrev c_poundageref02_MulDiv_r11 : List AO := [⟨(.some 69), .none, (.mov (.t 14))⟩,
  ⟨(.some 8), .none, (.mov (.t 69))⟩,
  ⟨(.some 9), .none, (.mov (.c (.d (.bool .true))))⟩]
abbrev c_poundageref02_MulDiv_r12 : List AO := [⟨(.some 8), .none, (.mov (.c (.d (.int .i64 0))))⟩,
  ⟨(.some 9), .none, (.mov (.c (.d (.bool .false))))⟩]
abbrev c_poundageref02_MulDiv_r13 : List AO := [⟨(.some 16), .none, (.mov (.c (.d (.bool .false))))⟩]
abbrev c_poundageref02_MulDiv_r14 : List AO := [⟨(.some 70), .none, (.mov (.t 2))⟩,
  ⟨(.some 71), .none, (.conv .u64 (.t 70))⟩,
  ⟨(.some 72), .none, (.fieldAddr 2 (.t 13))⟩,
  ⟨(.some 73), .none, (.load .none (.t 72))⟩,
  ⟨(.some 74), .none, (.bin .sub (.t 71) (.t 73))⟩,
  ⟨(.some 17), .none, (.mov (.t 74))⟩]
abbrev c_poundageref02_MulDiv_r15 : List AO := [⟨(.some 75), .none, (.mov (.t 3))⟩]
abbrev c_poundageref02_MulDiv_r16 : List AO := [⟨(.some 77), .none, (.bin .eql (.t 75) (.c (.d (.int .i64 1))))⟩,
  ⟨(.some 76), .none, (.mov (.t 77))⟩]
abbrev c_poundageref02_MulDiv_r17 : List AO := [⟨(.some 78), .none, (.fieldAddr 2 (.t 13))⟩,
  ⟨(.some 79), .none, (.load .none (.t 78))⟩,
  ⟨(.some 80), .none, (.bin .gtr (.t 79) (.c (.d (.int .u64 0))))⟩,
  ⟨(.some 16), .none, (.mov (.t 80))⟩]
abbrev c_poundageref02_MulDiv_r18 : List AO := [⟨(.some 82), .none, (.bin .eql (.t 75) (.c (.d (.int .i64 2))))⟩,
  ⟨(.some 81), .none, (.mov (.t 82))⟩]
abbrev c_poundageref02_MulDiv_r19 : List AO := [⟨(.some 83), .none, (.fieldAddr 2 (.t 13))⟩,
  ⟨(.some 84), .none, (.load .none (.t 83))⟩,
  ⟨(.some 85), .none, (.mov (.t 17))⟩,
  ⟨(.some 86), .none, (.bin .geq (.t 84) (.t 85))⟩,
  ⟨(.some 16), .none, (.mov (.t 86))⟩]
abbrev c_poundageref02_MulDiv_r20 : List AO := [⟨(.some 88), .none, (.bin .eql (.t 75) (.c (.d (.int .i64 3))))⟩,
  ⟨(.some 87), .none, (.mov (.t 88))⟩]
abbrev c_poundageref02_MulDiv_r21 : List AO := [⟨(.some 89), .none, (.fieldAddr 2 (.t 13))⟩,
  ⟨(.some 90), .none, (.load .none (.t 89))⟩,
  ⟨(.some 91), .none, (.mov (.t 17))⟩,
  ⟨(.some 92), .none, (.bin .gtr (.t 90) (.t 91))⟩,
  ⟨(.some 93), .none, (.mov (.t 92))⟩,
  ⟨(.some 94), (.some ⟨93, .false⟩), (.fieldAddr 2 (.t 13))⟩,
  ⟨(.some 95), (.some ⟨93, .false⟩), (.load .none (.t 94))⟩,
  ⟨(.some 96), (.some ⟨93, .false⟩), (.mov (.t 17))⟩,
  ⟨(.some 97), (.some ⟨93, .false⟩), (.bin .eql (.t 95) (.t 96))⟩,
  ⟨(.some 98), (.some ⟨93, .false⟩), (.mov (.t 97))⟩,
  ⟨(.some 99), (.some ⟨98, .true⟩), (.mov (.t 11))⟩,
  ⟨(.some 100), (.some ⟨98, .true⟩), (.bin .rem (.t 99) (.c (.d (.int .i64 2))))⟩,
  ⟨(.some 101), (.some ⟨98, .true⟩), (.bin .neq (.t 100) (.c (.d (.int .i64 0))))⟩,
  ⟨(.some 102), (.some ⟨93, .false⟩), (.pick (.t 98) (.t 101) (.c (.d (.bool .false))))⟩,
  ⟨(.some 103), .none, (.pick (.t 93) (.c (.d (.bool .true))) (.t 102))⟩,
  ⟨(.some 16), .none, (.mov (.t 103))⟩]
abbrev c_poundageref02_MulDiv_r22 : List AO := [⟨(.some 104), .none, (.mov (.t 16))⟩,
  ⟨(.some 105), .none, (.un .not (.t 104))⟩]
abbrev c_poundageref02_MulDiv_r23 : List AO := [⟨(.some 106), .none, (.mov (.t 11))⟩,
  ⟨(.some 8), .none, (.mov (.t 106))⟩,
  ⟨(.some 9), .none, (.mov (.c (.d (.bool .true))))⟩]
abbrev c_poundageref02_MulDiv_r24 : List AO := [⟨(.some 107), .none, (.mov (.t 11))⟩,
  ⟨(.some 108), .none, (.bin .eql (.t 107) (.c (.d (.int .i64 9223372036854775807))))⟩]
abbrev c_poundageref02_MulDiv_r25 : List AO := [⟨(.some 8), .none, (.mov (.c (.d (.int .i64 0))))⟩,
  ⟨(.some 9), .none, (.mov (.c (.d (.bool .false))))⟩]
abbrev c_poundageref02_MulDiv_r26 : List AO := [⟨(.some 109), .none, (.mov (.t 11))⟩,
  ⟨(.some 110), .none, (.bin .add (.t 109) (.c (.d (.int .i64 1))))⟩,
  ⟨(.some 8), .none, (.mov (.t 110))⟩,
  ⟨(.some 9), .none, (.mov (.c (.d (.bool .true))))⟩]
abbrev c_poundageref02_MulDiv : AFunc := ⟨111, [(.tmp 8), (.tmp 9)], (.seq (.ops c_poundageref02_MulDiv_r0) (.seq (.seq (.ops c_poundageref02_MulDiv_r1) (.cond (.t 27) (.seq (.ops c_poundageref02_MulDiv_r2) .ret) .skip)) (.seq (.ops c_poundageref02_MulDiv_r3) (.seq (.ops c_poundageref02_MulDiv_r4) (.seq (.dops c_poundageref02_MulDiv_r5) (.seq (.seq (.ops c_poundageref02_MulDiv_r6) (.cond (.t 58) (.seq (.ops c_poundageref02_MulDiv_r7) .ret) .skip)) (.seq (.seq (.ops c_poundageref02_MulDiv_r8) (.cond (.t 60) (.seq (.seq (.ops c_poundageref02_MulDiv_r9) (.seq (.ops c_poundageref02_MulDiv_r10) (.cond (.t 68) (.seq (.ops c_poundageref02_MulDiv_r11) .ret) .skip))) (.seq (.ops c_poundageref02_MulDiv_r12) .ret)) .skip)) (.seq (.ops c_poundageref02_MulDiv_r13) (.seq (.ops c_poundageref02_MulDiv_r14) (.seq (.seq (.ops c_poundageref02_MulDiv_r15) (.block 0 (.seq (.ops c_poundageref02_MulDiv_r16) (.cond (.t 76) (.ops c_poundageref02_MulDiv_r17) (.seq (.ops c_poundageref02_MulDiv_r18) (.cond (.t 81) (.ops c_poundageref02_MulDiv_r19) (.seq (.ops c_poundageref02_MulDiv_r20) (.cond (.t 87) (.ops c_poundageref02_MulDiv_r21) .skip)))))))) (.seq (.seq (.ops c_poundageref02_MulDiv_r22) (.cond (.t 105) (.seq (.ops c_poundageref02_MulDiv_r23) .ret) .skip)) (.seq (.seq (.ops c_poundageref02_MulDiv_r24) (.cond (.t 108) (.seq (.ops c_poundageref02_MulDiv_r25) .ret) .skip)) (.seq (.ops c_poundageref02_MulDiv_r26) .ret)))))))))))))⟩
theorem comp_poundageref02_MulDiv : funcC Try.prog 54 = some c_poundageref02_MulDiv := by kernel_rfl
/-! function 55 : poundage poundageref12.One -/
abbrev f_poundageref12_One : FuncId := 55
abbrev c_poundageref12_One_r0 : List AO := [⟨(.some 2), .none, (.box 70 (.t 0))⟩,
  ⟨(.some 4), .none, (.mov (.c (.d (.int .i64 0))))⟩,
  ⟨(.some 5), .none, (.mov (.c (.d (.bool .false))))⟩]
abbrev c_poundageref12_One_r1 : List AO := [⟨(.some 6), .none, (.fieldAddr 0 (.t 2))⟩,
  ⟨(.some 7), .none, (.load .none (.t 6))⟩,
  ⟨(.some 8), .none, (.bin .eql (.t 7) (.c (.d (.int .i64 1))))⟩]
abbrev c_poundageref12_One_r2 : List AO := [⟨(.some 9), .none, (.mov (.t 1))⟩,
  ⟨(.some 10), .none, (.fieldAddr 1 (.t 2))⟩,
  ⟨(.some 11), .none, (.load .none (.t 10))⟩,
  ⟨(.some 12), .none, (.fieldAddr 2 (.t 2))⟩,
  ⟨(.some 13), .none, (.load .none (.t 12))⟩,
  ⟨(.some 14), .none, (.call 54 [(.t 9), (.t 11), (.c (.d (.int .i64 100000))), (.t 13)])⟩,
  ⟨(.some 15), .none, (.extract (.t 14) 0)⟩,
  ⟨(.some 16), .none, (.extract (.t 14) 1)⟩,
  ⟨(.some 4), .none, (.mov (.t 15))⟩,
  ⟨(.some 5), .none, (.mov (.t 16))⟩]
abbrev c_poundageref12_One_r3 : List AO := [⟨(.some 17), .none, (.fieldAddr 0 (.t 2))⟩,
  ⟨(.some 18), .none, (.load .none (.t 17))⟩,
  ⟨(.some 19), .none, (.bin .eql (.t 18) (.c (.d (.int .i64 2))))⟩,
  ⟨(.some 20), .none, (.mov (.t 19))⟩,
  ⟨(.some 21), (.some ⟨20, .false⟩), (.fieldAddr 0 (.t 2))⟩,
  ⟨(.some 22), (.some ⟨20, .false⟩), (.load .none (.t 21))⟩,
  ⟨(.some 23), (.some ⟨20, .false⟩), (.bin .eql (.t 22) (.c (.d (.int .i64 3))))⟩,
  ⟨(.some 24), .none, (.pick (.t 20) (.c (.d (.bool .true))) (.t 23))⟩]
abbrev c_poundageref12_One_r4 : List AO := [⟨(.some 25), .none, (.mov (.t 1))⟩,
  ⟨(.some 26), .none, (.fieldAddr 1 (.t 2))⟩,
  ⟨(.some 27), .none, (.load .none (.t 26))⟩,
  ⟨(.some 28), .none, (.bin .gtr (.t 25) (.t 27))⟩,
  ⟨(.some 29), .none, (.fieldAddr 0 (.t 2))⟩,
  ⟨(.some 30), .none, (.load .none (.t 29))⟩,
  ⟨(.some 31), .none, (.bin .eql (.t 30) (.c (.d (.int .i64 2))))⟩,
  ⟨(.some 32), .none, (.binb .false (.t 28) (.t 31))⟩]
abbrev c_poundageref12_One_r5 : List AO := [⟨(.some 33), .none, (.fieldAddr 1 (.t 2))⟩,
  ⟨(.some 34), .none, (.load .none (.t 33))⟩,
  ⟨(.some 4), .none, (.mov (.t 34))⟩,
  ⟨(.some 5), .none, (.mov (.c (.d (.bool .true))))⟩]
abbrev c_poundageref12_One_r6 : List AO := [⟨(.some 35), .none, (.mov (.t 1))⟩,
  ⟨(.some 4), .none, (.mov (.t 35))⟩,
  ⟨(.some 5), .none, (.mov (.c (.d (.bool .true))))⟩]
abbrev c_poundageref12_One_r7 : List AO := [⟨(.some 36), .none, (.fieldAddr 0 (.t 2))⟩,
  ⟨(.some 37), .none, (.load .none (.t 36))⟩,
  ⟨(.some 38), .none, (.bin .eql (.t 37) (.c (.d (.int .i64 4))))⟩]
abbrev c_poundageref12_One_r8 : List AO := [⟨(.some 39), .none, (.mov (.t 1))⟩,
  ⟨(.some 41), .none, (.fieldAddr 1 (.t 2))⟩,
  ⟨(.some 40), .none, (.pcall 68 [(.t 39)])⟩,
  ⟨(.some 42), .none, (.load .none (.t 41))⟩,
  ⟨(.some 43), .none, (.call 68 [(.t 42)])⟩,
  ⟨(.some 44), .none, (.call 67 [(.t 40), (.t 43)])⟩,
  ⟨(.some 45), .none, (.call 66 [(.t 44)])⟩,
  ⟨(.some 46), .none, (.extract (.t 45) 0)⟩,
  ⟨(.some 47), .none, (.extract (.t 45) 1)⟩,
  ⟨(.some 4), .none, (.mov (.t 46))⟩,
  ⟨(.some 5), .none, (.mov (.t 47))⟩]
abbrev c_poundageref12_One_r9 : List AO := [⟨(.some 4), .none, (.mov (.c (.d (.int .i64 0))))⟩,
  ⟨(.some 5), .none, (.mov (.c (.d (.bool .false))))⟩]
abbrev c_poundageref12_One : AFunc := ⟨48, [(.tmp 4), (.tmp 5)], (.seq (.ops c_poundageref12_One_r0) (.seq (.seq (.ops c_poundageref12_One_r1) (.cond (.t 8) (.seq (.ops c_poundageref12_One_r2) .ret) .skip)) (.seq (.seq (.ops c_poundageref12_One_r3) (.cond (.t 24) (.seq (.seq (.ops c_poundageref12_One_r4) (.cond (.t 32) (.seq (.ops c_poundageref12_One_r5) .ret) .skip)) (.seq (.ops c_poundageref12_One_r6) .ret)) .skip)) (.seq (.seq (.ops c_poundageref12_One_r7) (.cond (.t 38) (.seq (.dops c_poundageref12_One_r8) .ret) .skip)) (.seq (.ops c_poundageref12_One_r9) .ret)))))⟩
theorem comp_poundageref12_One : funcC Try.prog 55 = some c_poundageref12_One := by kernel_rfl
/-! function 66 : poundage poundageref01.Int -/
abbrev f_poundageref01_Int : FuncId := 66
abbrev c_poundageref01_Int_r0 : List AO := [⟨(.some 1), .none, (.box 122 (.t 0))⟩,
  ⟨(.some 2), .none, (.mov (.c (.d (.int .i64 0))))⟩,
  ⟨(.some 3), .none, (.mov (.c (.d (.bool .false))))⟩]
abbrev c_poundageref01_Int_r1 : List AO := [⟨(.some 4), .none, (.fieldAddr 1 (.t 1))⟩,
  ⟨(.some 5), .none, (.load .none (.t 4))⟩,
  ⟨(.some 6), .none, (.bin .neq (.t 5) (.c (.d (.int .u64 0))))⟩]
abbrev c_poundageref01_Int_r2 : List AO := [⟨(.some 2), .none, (.mov (.c (.d (.int .i64 0))))⟩,
  ⟨(.some 3), .none, (.mov (.c (.d (.bool .false))))⟩]
abbrev c_poundageref01_Int_r3 : List AO := [⟨(.some 7), .none, (.fieldAddr 0 (.t 1))⟩,
  ⟨(.some 8), .none, (.load .none (.t 7))⟩]
abbrev c_poundageref01_Int_r4 : List AO := [⟨(.some 9), .none, (.fieldAddr 2 (.t 1))⟩,
  ⟨(.some 10), .none, (.load .none (.t 9))⟩,
  ⟨(.some 11), .none, (.bin .gtr (.t 10) (.c (.d (.int .u64 9223372036854775808))))⟩]
abbrev c_poundageref01_Int_r5 : List AO := [⟨(.some 2), .none, (.mov (.c (.d (.int .i64 0))))⟩,
  ⟨(.some 3), .none, (.mov (.c (.d (.bool .false))))⟩]
abbrev c_poundageref01_Int_r6 : List AO := [⟨(.some 12), .none, (.fieldAddr 2 (.t 1))⟩,
  ⟨(.some 13), .none, (.load .none (.t 12))⟩,
  ⟨(.some 14), .none, (.bin .eql (.t 13) (.c (.d (.int .u64 0))))⟩]
abbrev c_poundageref01_Int_r7 : List AO := [⟨(.some 2), .none, (.mov (.c (.d (.int .i64 0))))⟩,
  ⟨(.some 3), .none, (.mov (.c (.d (.bool .true))))⟩]
abbrev c_poundageref01_Int_r8 : List AO := [⟨(.some 15), .none, (.fieldAddr 2 (.t 1))⟩,
  ⟨(.some 16), .none, (.load .none (.t 15))⟩,
  ⟨(.some 17), .none, (.bin .sub (.t 16) (.c (.d (.int .u64 1))))⟩,
  ⟨(.some 18), .none, (.conv .i64 (.t 17))⟩,
  ⟨(.some 19), .none, (.un .neg (.t 18))⟩,
  ⟨(.some 20), .none, (.bin .sub (.t 19) (.c (.d (.int .i64 1))))⟩,
  ⟨(.some 2), .none, (.mov (.t 20))⟩,
  ⟨(.some 3), .none, (.mov (.c (.d (.bool .true))))⟩]
abbrev c_poundageref01_Int_r9 : List AO := [⟨(.some 21), .none, (.fieldAddr 2 (.t 1))⟩,
  ⟨(.some 22), .none, (.load .none (.t 21))⟩,
  ⟨(.some 23), .none, (.bin .geq (.t 22) (.c (.d (.int .u64 9223372036854775808))))⟩]
abbrev c_poundageref01_Int_r10 : List AO := [⟨(.some 2), .none, (.mov (.c (.d (.int .i64 0))))⟩,
  ⟨(.some 3), .none, (.mov (.c (.d (.bool .false))))⟩]
abbrev c_poundageref01_Int_r11 : List AO := [⟨(.some 24), .none, (.fieldAddr 2 (.t 1))⟩,
  ⟨(.some 25), .none, (.load .none (.t 24))⟩,
  ⟨(.some 26), .none, (.conv .i64 (.t 25))⟩,
  ⟨(.some 2), .none, (.mov (.t 26))⟩,
  ⟨(.some 3), .none, (.mov (.c (.d (.bool .true))))⟩]
abbrev c_poundageref01_Int : AFunc := ⟨27, [(.tmp 2), (.tmp 3)], (.seq (.ops c_poundageref01_Int_r0) (.seq (.seq (.ops c_poundageref01_Int_r1) (.cond (.t 6) (.seq (.ops c_poundageref01_Int_r2) .ret) .skip)) (.seq (.seq (.ops c_poundageref01_Int_r3) (.cond (.t 8) (.seq (.seq (.ops c_poundageref01_Int_r4) (.cond (.t 11) (.seq (.ops c_poundageref01_Int_r5) .ret) .skip)) (.seq (.seq (.ops c_poundageref01_Int_r6) (.cond (.t 14) (.seq (.ops c_poundageref01_Int_r7) .ret) .skip)) (.seq (.ops c_poundageref01_Int_r8) .ret))) .skip)) (.seq (.seq (.ops c_poundageref01_Int_r9) (.cond (.t 23) (.seq (.ops c_poundageref01_Int_r10) .ret) .skip)) (.seq (.ops c_poundageref01_Int_r11) .ret)))))⟩
theorem comp_poundageref01_Int : funcC Try.prog 66 = some c_poundageref01_Int := by kernel_rfl
/-! function 67 : poundage poundageref01.Add -/
abbrev f_poundageref01_Add : FuncId := 67
abbrev c_poundageref01_Add_r0 : List AO := [⟨(.some 2), .none, (.box 122 (.t 0))⟩,
  ⟨(.some 3), .none, (.box 122 (.t 1))⟩,
  ⟨(.some 4), .none, (.alloc 122 [(.d (.bool .false)), (.d (.int .u64 0)), (.d (.int .u64 0))])⟩]
abbrev c_poundageref01_Add_r1 : List AO := [⟨(.some 8), .none, (.fieldAddr 0 (.t 2))⟩,
  ⟨(.some 9), .none, (.load .none (.t 8))⟩,
  ⟨(.some 10), .none, (.fieldAddr 0 (.t 3))⟩,
  ⟨(.some 11), .none, (.load .none (.t 10))⟩,
  ⟨(.some 12), .none, (.binb .false (.t 9) (.t 11))⟩]
abbrev c_poundageref01_Add_r2 : List AO := [⟨(.some 13), .none, (.load (.some 3) (.t 2))⟩,
  ⟨(.some 14), .none, (.load (.some 3) (.t 3))⟩,
  ⟨(.some 15), .none, (.call 92 [(.t 13), (.t 14)])⟩,
  ⟨(.some 5), .none, (.alloc 122 [(.d (.bool .false)), (.d (.int .u64 0)), (.d (.int .u64 0))])⟩,
  ⟨.none, .none, (.store 3 (.t 5) (.t 15))⟩]
abbrev c_poundageref01_Add_r3 : List AO := [⟨(.some 16), .none, (.fieldAddr 0 (.t 2))⟩,
  ⟨(.some 17), .none, (.load .none (.t 16))⟩,
  ⟨(.some 18), .none, (.mov (.t 17))⟩,
  ⟨(.some 19), (.some ⟨18, .true⟩), (.load (.some 3) (.t 5))⟩,
  ⟨(.some 20), (.some ⟨18, .true⟩), (.call 93 [(.t 19)])⟩,
  ⟨(.some 21), (.some ⟨18, .true⟩), (.un .not (.t 20))⟩,
  ⟨(.some 22), .none, (.pick (.t 18) (.t 21) (.c (.d (.bool .false))))⟩,
  ⟨(.some 23), .none, (.fieldAddr 0 (.t 5))⟩,
  ⟨.none, .none, (.store 1 (.t 23) (.t 22))⟩]
abbrev c_poundageref01_Add_r4 : List AO := [⟨(.some 24), .none, (.load (.some 3) (.t 5))⟩,
  ⟨.none, .none, (.store 3 (.t 4) (.t 24))⟩]
abbrev c_poundageref01_Add_r5 : List AO := [⟨(.some 25), .none, (.load (.some 3) (.t 2))⟩,
  ⟨(.some 26), .none, (.load (.some 3) (.t 3))⟩,
  ⟨(.some 27), .none, (.call 94 [(.t 25), (.t 26)])⟩]
abbrev c_poundageref01_Add_r6 : List AO := [⟨(.some 28), .none, (.load (.some 3) (.t 3))⟩,
  ⟨(.some 29), .none, (.load (.some 3) (.t 2))⟩,
  ⟨(.some 30), .none, (.call 95 [(.t 28), (.t 29)])⟩,
  ⟨(.some 6), .none, (.alloc 122 [(.d (.bool .false)), (.d (.int .u64 0)), (.d (.int .u64 0))])⟩,
  ⟨.none, .none, (.store 3 (.t 6) (.t 30))⟩]
abbrev c_poundageref01_Add_r7 : List AO := [⟨(.some 31), .none, (.fieldAddr 0 (.t 3))⟩,
  ⟨(.some 32), .none, (.load .none (.t 31))⟩,
  ⟨(.some 33), .none, (.mov (.t 32))⟩,
  ⟨(.some 34), (.some ⟨33, .true⟩), (.load (.some 3) (.t 6))⟩,
  ⟨(.some 35), (.some ⟨33, .true⟩), (.call 93 [(.t 34)])⟩,
  ⟨(.some 36), (.some ⟨33, .true⟩), (.un .not (.t 35))⟩,
  ⟨(.some 37), .none, (.pick (.t 33) (.t 36) (.c (.d (.bool .false))))⟩,
  ⟨(.some 38), .none, (.fieldAddr 0 (.t 6))⟩,
  ⟨.none, .none, (.store 1 (.t 38) (.t 37))⟩]
abbrev c_poundageref01_Add_r8 : List AO := [⟨(.some 39), .none, (.load (.some 3) (.t 6))⟩,
  ⟨.none, .none, (.store 3 (.t 4) (.t 39))⟩]
abbrev c_poundageref01_Add_r9 : List AO := [⟨(.some 40), .none, (.load (.some 3) (.t 2))⟩,
  ⟨(.some 41), .none, (.load (.some 3) (.t 3))⟩,
  ⟨(.some 42), .none, (.call 95 [(.t 40), (.t 41)])⟩,
  ⟨(.some 7), .none, (.alloc 122 [(.d (.bool .false)), (.d (.int .u64 0)), (.d (.int .u64 0))])⟩,
  ⟨.none, .none, (.store 3 (.t 7) (.t 42))⟩]
abbrev c_poundageref01_Add_r10 : List AO := [⟨(.some 43), .none, (.fieldAddr 0 (.t 2))⟩,
  ⟨(.some 44), .none, (.load .none (.t 43))⟩,
  ⟨(.some 45), .none, (.mov (.t 44))⟩,
  ⟨(.some 46), (.some ⟨45, .true⟩), (.load (.some 3) (.t 7))⟩,
  ⟨(.some 47), (.some ⟨45, .true⟩), (.call 93 [(.t 46)])⟩,
  ⟨(.some 48), (.some ⟨45, .true⟩), (.un .not (.t 47))⟩,
  ⟨(.some 49), .none, (.pick (.t 45) (.t 48) (.c (.d (.bool .false))))⟩,
  ⟨(.some 50), .none, (.fieldAddr 0 (.t 7))⟩,
  ⟨.none, .none, (.store 1 (.t 50) (.t 49))⟩]
abbrev c_poundageref01_Add_r11 : List AO := [⟨(.some 51), .none, (.load (.some 3) (.t 7))⟩,
  ⟨.none, .none, (.store 3 (.t 4) (.t 51))⟩]
abbrev c_poundageref01_Add : AFunc := ⟨52, [(.cell 4 (.some 3))], (.seq (.ops c_poundageref01_Add_r0) (.seq (.seq (.ops c_poundageref01_Add_r1) (.cond (.t 12) (.seq (.ops c_poundageref01_Add_r2) (.seq (.ops c_poundageref01_Add_r3) (.seq (.ops c_poundageref01_Add_r4) .ret))) .skip)) (.seq (.seq (.ops c_poundageref01_Add_r5) (.cond (.t 27) (.seq (.ops c_poundageref01_Add_r6) (.seq (.ops c_poundageref01_Add_r7) (.seq (.ops c_poundageref01_Add_r8) .ret))) .skip)) (.seq (.ops c_poundageref01_Add_r9) (.seq (.ops c_poundageref01_Add_r10) (.seq (.ops c_poundageref01_Add_r11) .ret))))))⟩
theorem comp_poundageref01_Add : funcC Try.prog 67 = some c_poundageref01_Add := by kernel_rfl
/-! function 68 : poundage poundageref01.Of -/
abbrev f_poundageref01_Of : FuncId := 68
abbrev c_poundageref01_Of_r0 : List AO := [⟨(.some 2), .none, (.alloc 122 [(.d (.bool .false)), (.d (.int .u64 0)), (.d (.int .u64 0))])⟩]
abbrev c_poundageref01_Of_r1 : List AO := [⟨(.some 3), .none, (.mov (.t 0))⟩,
  ⟨(.some 4), .none, (.bin .lss (.t 3) (.c (.d (.int .i64 0))))⟩]
abbrev c_poundageref01_Of_r2 : List AO := [⟨(.some 5), .none, (.mov (.t 0))⟩,
  ⟨(.some 6), .none, (.bin .add (.t 5) (.c (.d (.int .i64 1))))⟩,
  ⟨(.some 7), .none, (.un .neg (.t 6))⟩,
  ⟨(.some 8), .none, (.conv .u64 (.t 7))⟩,
  ⟨(.some 9), .none, (.bin .add (.t 8) (.c (.d (.int .u64 1))))⟩,
  ⟨(.some 10), .none, (.build [(.d (.bool .false)), (.d (.int .u64 0)), (.d (.int .u64 0))] [⟨0, ⟨1, (.c (.d (.bool .true)))⟩⟩, ⟨1, ⟨1, (.c (.d (.int .u64 0)))⟩⟩, ⟨2, ⟨1, (.t 9)⟩⟩])⟩,
  ⟨.none, .none, (.store 3 (.t 2) (.t 10))⟩]
abbrev c_poundageref01_Of_r3 : List AO := [⟨(.some 11), .none, (.mov (.t 0))⟩,
  ⟨(.some 12), .none, (.conv .u64 (.t 11))⟩,
  ⟨(.some 13), .none, (.build [(.d (.bool .false)), (.d (.int .u64 0)), (.d (.int .u64 0))] [⟨0, ⟨1, (.c (.d (.bool .false)))⟩⟩, ⟨1, ⟨1, (.c (.d (.int .u64 0)))⟩⟩, ⟨2, ⟨1, (.t 12)⟩⟩])⟩,
  ⟨.none, .none, (.store 3 (.t 2) (.t 13))⟩]
abbrev c_poundageref01_Of : AFunc := ⟨14, [(.cell 2 (.some 3))], (.seq (.ops c_poundageref01_Of_r0) (.seq (.seq (.ops c_poundageref01_Of_r1) (.cond (.t 4) (.seq (.ops c_poundageref01_Of_r2) .ret) .skip)) (.seq (.ops c_poundageref01_Of_r3) .ret)))⟩
theorem comp_poundageref01_Of : funcC Try.prog 68 = some c_poundageref01_Of := by kernel_rfl
/-! function 69 : slices.IndexFunc poundage api.Part poundage api.Part  -/
abbrev f_slices_IndexFunc_api_Part : FuncId := 69
abbrev c_slices_IndexFunc_api_Part_r0 : List AO := [⟨(.some 4), .none, (.mov (.c (.d (.int .i64 0))))⟩]
abbrev c_slices_IndexFunc_api_Part_r1 : List AO := [⟨(.some 6), .none, (.mov (.t 0))⟩,
  ⟨(.some 7), .none, (.len (.t 6))⟩,
  ⟨(.some 8), .none, (.mov (.c (.d (.int .i64 0))))⟩]
abbrev c_slices_IndexFunc_api_Part_r2 : List AO := [⟨(.some 9), .none, (.bin .lss (.t 8) (.t 7))⟩]
abbrev c_slices_IndexFunc_api_Part_r3 : List AO := [⟨(.some 10), .none, (.mov (.t 8))⟩,
  ⟨(.some 5), .none, (.mov (.t 10))⟩]
abbrev c_slices_IndexFunc_api_Part_r4 : List AO := [⟨(.some 11), .none, (.mov (.t 1))⟩,
  ⟨(.some 12), .none, (.mov (.t 0))⟩,
  ⟨(.some 13), .none, (.mov (.t 5))⟩,
  ⟨(.some 14), .none, (.elemAddr 9 (.t 12) (.t 13))⟩,
  ⟨(.some 15), .none, (.load (.some 9) (.t 14))⟩,
  ⟨(.some 16), .none, (.callv (.t 11) [(.t 15)])⟩]
abbrev c_slices_IndexFunc_api_Part_r5 : List AO := [⟨(.some 17), .none, (.mov (.t 5))⟩,
  ⟨(.some 4), .none, (.mov (.t 17))⟩]
abbrev c_slices_IndexFunc_api_Part_r6 : List AO := [⟨(.some 18), .none, (.bin .add (.t 8) (.c (.d (.int .i64 1))))⟩,
  ⟨(.some 8), .none, (.mov (.t 18))⟩]
abbrev c_slices_IndexFunc_api_Part_l0 : ACode := (.seq (.ops c_slices_IndexFunc_api_Part_r2) (.seq (.cond (.t 9) .skip (.exit 0)) (.seq (.block 1 (.seq (.ops c_slices_IndexFunc_api_Part_r3) (.seq (.ops c_slices_IndexFunc_api_Part_r4) (.cond (.t 16) (.seq (.ops c_slices_IndexFunc_api_Part_r5) .ret) .skip)))) (.ops c_slices_IndexFunc_api_Part_r6))))
abbrev c_slices_IndexFunc_api_Part_r7 : List AO := [⟨(.some 4), .none, (.mov (.c (.d (.int .i64 (-1)))))⟩]
abbrev c_slices_IndexFunc_api_Part : AFunc := ⟨19, [(.tmp 4)], (.seq (.ops c_slices_IndexFunc_api_Part_r0) (.seq (.seq (.ops c_slices_IndexFunc_api_Part_r1) (.block 0 (.loop c_slices_IndexFunc_api_Part_l0))) (.seq (.ops c_slices_IndexFunc_api_Part_r7) .ret)))⟩
theorem comp_slices_IndexFunc_api_Part : funcC Try.prog 69 = some c_slices_IndexFunc_api_Part := by kernel_rfl
/-! function 70 : poundage core.tiers -/
abbrev f_core_tiers : FuncId := 70
abbrev c_core_tiers_r0 : List AO := [⟨(.some 2), .none, (.mov (.c (.d (.bool .false))))⟩]
abbrev c_core_tiers_r1 : List AO := [⟨(.some 3), .none, (.mov (.c (.d (.int .i64 0))))⟩]
abbrev c_core_tiers_r2 : List AO := [⟨(.some 7), .none, (.mov (.t 0))⟩,
  ⟨(.some 8), .none, (.len (.t 7))⟩,
  ⟨(.some 9), .none, (.mov (.c (.d (.int .i64 0))))⟩]
abbrev c_core_tiers_r3 : List AO := [⟨(.some 10), .none, (.bin .lss (.t 9) (.t 8))⟩]
abbrev c_core_tiers_r4 : List AO := [⟨(.some 11), .none, (.mov (.t 9))⟩,
  ⟨(.some 12), .none, (.elemAddr 2 (.t 7) (.t 9))⟩,
  ⟨(.some 13), .none, (.load (.some 2) (.t 12))⟩,
  ⟨(.some 5), .none, (.alloc 62 [(.d (.int .i64 0)), (.d (.int .i64 0))])⟩,
  ⟨(.some 4), .none, (.mov (.t 11))⟩,
  ⟨.none, .none, (.store 2 (.t 5) (.t 13))⟩]
abbrev c_core_tiers_r5 : List AO := [⟨(.some 14), .none, (.mov (.t 4))⟩,
  ⟨(.some 15), .none, (.mov (.t 0))⟩,
  ⟨(.some 16), .none, (.len (.t 15))⟩,
  ⟨(.some 17), .none, (.bin .sub (.t 16) (.c (.d (.int .i64 1))))⟩,
  ⟨(.some 18), .none, (.bin .eql (.t 14) (.t 17))⟩,
  ⟨(.some 6), .none, (.mov (.t 18))⟩]
abbrev c_core_tiers_r6 : List AO := [⟨(.some 19), .none, (.fieldAddr 1 (.t 5))⟩,
  ⟨(.some 20), .none, (.load .none (.t 19))⟩,
  ⟨(.some 21), .none, (.call 44 [(.t 20), (.c (.d (.int .i64 0))), (.c (.d (.int .i64 1000000000000)))])⟩,
  ⟨(.some 22), .none, (.un .not (.t 21))⟩,
  ⟨(.some 23), .none, (.mov (.t 22))⟩,
  ⟨(.some 24), (.some ⟨23, .false⟩), (.mov (.t 6))⟩,
  ⟨(.some 25), (.some ⟨23, .false⟩), (.mov (.t 24))⟩,
  ⟨(.some 26), (.some ⟨25, .true⟩), (.fieldAddr 0 (.t 5))⟩,
  ⟨(.some 27), (.some ⟨25, .true⟩), (.load .none (.t 26))⟩,
  ⟨(.some 28), (.some ⟨25, .true⟩), (.bin .neq (.t 27) (.c (.d (.int .i64 0))))⟩,
  ⟨(.some 29), (.some ⟨23, .false⟩), (.pick (.t 25) (.t 28) (.c (.d (.bool .false))))⟩,
  ⟨(.some 30), .none, (.pick (.t 23) (.c (.d (.bool .true))) (.t 29))⟩,
  ⟨(.some 31), .none, (.mov (.t 30))⟩,
  ⟨(.some 32), (.some ⟨31, .false⟩), (.mov (.t 6))⟩,
  ⟨(.some 33), (.some ⟨31, .false⟩), (.un .not (.t 32))⟩,
  ⟨(.some 34), (.some ⟨31, .false⟩), (.mov (.t 33))⟩,
  ⟨(.some 35), (.some ⟨34, .true⟩), (.fieldAddr 0 (.t 5))⟩,
  ⟨(.some 36), (.some ⟨34, .true⟩), (.load .none (.t 35))⟩,
  ⟨(.some 37), (.some ⟨34, .true⟩), (.mov (.t 3))⟩,
  ⟨(.some 38), (.some ⟨34, .true⟩), (.bin .add (.t 37) (.c (.d (.int .i64 1))))⟩,
  ⟨(.some 39), (.some ⟨34, .true⟩), (.call 44 [(.t 36), (.t 38), (.c (.d (.int .i64 1000000)))])⟩,
  ⟨(.some 40), (.some ⟨34, .true⟩), (.un .not (.t 39))⟩,
  ⟨(.some 41), (.some ⟨31, .false⟩), (.pick (.t 34) (.t 40) (.c (.d (.bool .false))))⟩,
  ⟨(.some 42), .none, (.pick (.t 31) (.c (.d (.bool .true))) (.t 41))⟩]
abbrev c_core_tiers_r7 : List AO := [⟨(.some 2), .none, (.mov (.c (.d (.bool .false))))⟩]
abbrev c_core_tiers_r8 : List AO := [⟨(.some 43), .none, (.fieldAddr 0 (.t 5))⟩,
  ⟨(.some 44), .none, (.load .none (.t 43))⟩,
  ⟨(.some 3), .none, (.mov (.t 44))⟩]
abbrev c_core_tiers_r9 : List AO := [⟨(.some 45), .none, (.bin .add (.t 9) (.c (.d (.int .i64 1))))⟩,
  ⟨(.some 9), .none, (.mov (.t 45))⟩]
abbrev c_core_tiers_l0 : ACode := (.seq (.ops c_core_tiers_r3) (.seq (.cond (.t 10) .skip (.exit 0)) (.seq (.block 1 (.seq (.ops c_core_tiers_r4) (.seq (.ops c_core_tiers_r5) (.seq (.seq (.ops c_core_tiers_r6) (.cond (.t 42) (.seq (.ops c_core_tiers_r7) .ret) .skip)) (.ops c_core_tiers_r8))))) (.ops c_core_tiers_r9))))
abbrev c_core_tiers_r10 : List AO := [⟨(.some 46), .none, (.mov (.t 0))⟩,
  ⟨(.some 47), .none, (.len (.t 46))⟩,
  ⟨(.some 48), .none, (.call 44 [(.t 47), (.c (.d (.int .i64 1))), (.c (.d (.int .i64 8)))])⟩,
  ⟨(.some 2), .none, (.mov (.t 48))⟩]
abbrev c_core_tiers : AFunc := ⟨49, [(.tmp 2)], (.seq (.ops c_core_tiers_r0) (.seq (.ops c_core_tiers_r1) (.seq (.seq (.ops c_core_tiers_r2) (.block 0 (.loop c_core_tiers_l0))) (.seq (.ops c_core_tiers_r10) .ret))))⟩
theorem comp_core_tiers : funcC Try.prog 70 = some c_core_tiers := by kernel_rfl
/-! function 71 : slices.ContainsFunc poundage api.Adjust poundage api.Adjust  -/
abbrev f_slices_ContainsFunc_api_Adjust : FuncId := 71
abbrev c_slices_ContainsFunc_api_Adjust_r0 : List AO := [⟨(.some 4), .none, (.mov (.c (.d (.bool .false))))⟩]
abbrev c_slices_ContainsFunc_api_Adjust_r1 : List AO := [⟨(.some 5), .none, (.mov (.t 0))⟩,
  ⟨(.some 6), .none, (.mov (.t 1))⟩,
  ⟨(.some 7), .none, (.call 96 [(.t 5), (.t 6)])⟩,
  ⟨(.some 8), .none, (.bin .geq (.t 7) (.c (.d (.int .i64 0))))⟩,
  ⟨(.some 4), .none, (.mov (.t 8))⟩]
abbrev c_slices_ContainsFunc_api_Adjust : AFunc := ⟨9, [(.tmp 4)], (.seq (.ops c_slices_ContainsFunc_api_Adjust_r0) (.seq (.ops c_slices_ContainsFunc_api_Adjust_r1) .ret))⟩
theorem comp_slices_ContainsFunc_api_Adjust : funcC Try.prog 71 = some c_slices_ContainsFunc_api_Adjust := by kernel_rfl
/-! function 72 : poundage core.part 1 -/
abbrev f_core_part_1 : FuncId := 72
abbrev c_core_part_1_r0 : List AO := [⟨(.some 1), .none, (.box 70 (.t 0))⟩,
  ⟨(.some 2), .none, (.mov (.c (.d (.bool .false))))⟩]
abbrev c_core_part_1_r1 : List AO := [⟨(.some 3), .none, (.load (.some 3) (.t 1))⟩,
  ⟨(.some 4), .none, (.call 73 [(.t 3)])⟩,
  ⟨(.some 5), .none, (.un .not (.t 4))⟩,
  ⟨(.some 2), .none, (.mov (.t 5))⟩]
abbrev c_core_part_1 : AFunc := ⟨6, [(.tmp 2)], (.seq (.ops c_core_part_1_r0) (.seq (.ops c_core_part_1_r1) .ret))⟩
theorem comp_core_part_1 : funcC Try.prog 72 = some c_core_part_1 := by kernel_rfl
/-! function 73 : poundage core.adjust -/
abbrev f_core_adjust : FuncId := 73
abbrev c_core_adjust_r0 : List AO := [⟨(.some 1), .none, (.box 70 (.t 0))⟩,
  ⟨(.some 2), .none, (.mov (.c (.d (.bool .false))))⟩]
abbrev c_core_adjust_r1 : List AO := [⟨(.some 3), .none, (.fieldAddr 0 (.t 1))⟩,
  ⟨(.some 4), .none, (.load .none (.t 3))⟩,
  ⟨(.some 5), .none, (.bin .eql (.t 4) (.c (.d (.int .i64 1))))⟩]
abbrev c_core_adjust_r2 : List AO := [⟨(.some 6), .none, (.fieldAddr 1 (.t 1))⟩,
  ⟨(.some 7), .none, (.load .none (.t 6))⟩,
  ⟨(.some 8), .none, (.call 44 [(.t 7), (.c (.d (.int .i64 0))), (.c (.d (.int .i64 100000000)))])⟩,
  ⟨(.some 9), .none, (.mov (.t 8))⟩,
  ⟨(.some 10), (.some ⟨9, .true⟩), (.fieldAddr 2 (.t 1))⟩,
  ⟨(.some 11), (.some ⟨9, .true⟩), (.load .none (.t 10))⟩,
  ⟨(.some 12), (.some ⟨9, .true⟩), (.call 44 [(.t 11), (.c (.d (.int .i64 0))), (.c (.d (.int .i64 3)))])⟩,
  ⟨(.some 13), .none, (.pick (.t 9) (.t 12) (.c (.d (.bool .false))))⟩,
  ⟨(.some 2), .none, (.mov (.t 13))⟩]
abbrev c_core_adjust_r3 : List AO := [⟨(.some 14), .none, (.fieldAddr 0 (.t 1))⟩,
  ⟨(.some 15), .none, (.load .none (.t 14))⟩,
  ⟨(.some 16), .none, (.call 44 [(.t 15), (.c (.d (.int .i64 2))), (.c (.d (.int .i64 4)))])⟩,
  ⟨(.some 17), .none, (.mov (.t 16))⟩,
  ⟨(.some 18), (.some ⟨17, .true⟩), (.fieldAddr 1 (.t 1))⟩,
  ⟨(.some 19), (.some ⟨17, .true⟩), (.load .none (.t 18))⟩,
  ⟨(.some 20), (.some ⟨17, .true⟩), (.call 44 [(.t 19), (.c (.d (.int .i64 0))), (.c (.d (.int .i64 1000000000000)))])⟩,
  ⟨(.some 21), .none, (.pick (.t 17) (.t 20) (.c (.d (.bool .false))))⟩,
  ⟨(.some 22), .none, (.mov (.t 21))⟩,
  ⟨(.some 23), (.some ⟨22, .true⟩), (.fieldAddr 2 (.t 1))⟩,
  ⟨(.some 24), (.some ⟨22, .true⟩), (.load .none (.t 23))⟩,
  ⟨(.some 25), (.some ⟨22, .true⟩), (.bin .eql (.t 24) (.c (.d (.int .i64 0))))⟩,
  ⟨(.some 26), .none, (.pick (.t 22) (.t 25) (.c (.d (.bool .false))))⟩,
  ⟨(.some 2), .none, (.mov (.t 26))⟩]
abbrev c_core_adjust : AFunc := ⟨27, [(.tmp 2)], (.seq (.ops c_core_adjust_r0) (.seq (.seq (.ops c_core_adjust_r1) (.cond (.t 5) (.seq (.ops c_core_adjust_r2) .ret) .skip)) (.seq (.ops c_core_adjust_r3) .ret)))⟩
theorem comp_core_adjust : funcC Try.prog 73 = some c_core_adjust := by kernel_rfl
/-! function 74 : poundage tiers.Quantity -/
abbrev f_tiers_Quantity : FuncId := 74
abbrev c_tiers_Quantity_r0 : List AO := [⟨(.some 2), .none, (.box 39 (.t 0))⟩,
  ⟨(.some 4), .none, (.mov (.c (.d (.int .i64 0))))⟩,
  ⟨(.some 5), .none, (.mov (.c (.d (.bool .false))))⟩]
abbrev c_tiers_Quantity_r1 : List AO := [⟨(.some 6), .none, (.mov (.t 1))⟩,
  ⟨(.some 7), .none, (.bin .lss (.t 6) (.c (.d (.int .i64 0))))⟩,
  ⟨(.some 8), .none, (.mov (.t 7))⟩,
  ⟨(.some 9), (.some ⟨8, .false⟩), (.fieldAddr 3 (.t 2))⟩,
  ⟨(.some 10), (.some ⟨8, .false⟩), (.load .none (.t 9))⟩,
  ⟨(.some 11), (.some ⟨8, .false⟩), (.bin .lss (.t 10) (.c (.d (.int .i64 0))))⟩,
  ⟨(.some 12), .none, (.pick (.t 8) (.c (.d (.bool .true))) (.t 11))⟩,
  ⟨(.some 13), .none, (.mov (.t 12))⟩,
  ⟨(.some 14), (.some ⟨13, .false⟩), (.fieldAddr 4 (.t 2))⟩,
  ⟨(.some 15), (.some ⟨13, .false⟩), (.load .none (.t 14))⟩,
  ⟨(.some 16), (.some ⟨13, .false⟩), (.bin .lss (.t 15) (.c (.d (.int .i64 1))))⟩,
  ⟨(.some 17), .none, (.pick (.t 13) (.c (.d (.bool .true))) (.t 16))⟩]
abbrev c_tiers_Quantity_r2 : List AO := [⟨(.some 4), .none, (.mov (.c (.d (.int .i64 0))))⟩,
  ⟨(.some 5), .none, (.mov (.c (.d (.bool .false))))⟩]
abbrev c_tiers_Quantity_r3 : List AO := [⟨(.some 18), .none, (.mov (.t 1))⟩,
  ⟨(.some 19), .none, (.fieldAddr 3 (.t 2))⟩,
  ⟨(.some 20), .none, (.load .none (.t 19))⟩,
  ⟨(.some 21), .none, (.bin .sub (.t 18) (.t 20))⟩,
  ⟨(.some 22), .none, (.minmax .true (.t 21) [(.c (.d (.int .i64 0)))])⟩,
  ⟨(.some 23), .none, (.fieldAddr 4 (.t 2))⟩,
  ⟨(.some 24), .none, (.load .none (.t 23))⟩,
  ⟨(.some 25), .none, (.call 97 [(.t 22), (.t 24)])⟩,
  ⟨(.some 26), .none, (.extract (.t 25) 0)⟩,
  ⟨(.some 27), .none, (.extract (.t 25) 1)⟩,
  ⟨(.some 4), .none, (.mov (.t 26))⟩,
  ⟨(.some 5), .none, (.mov (.t 27))⟩]
abbrev c_tiers_Quantity : AFunc := ⟨28, [(.tmp 4), (.tmp 5)], (.seq (.ops c_tiers_Quantity_r0) (.seq (.seq (.ops c_tiers_Quantity_r1) (.cond (.t 17) (.seq (.ops c_tiers_Quantity_r2) .ret) .skip)) (.seq (.ops c_tiers_Quantity_r3) .ret)))⟩
theorem comp_tiers_Quantity : funcC Try.prog 74 = some c_tiers_Quantity := by kernel_rfl
/-! function 75 : poundage tiers.Steps -/
abbrev f_tiers_Steps : FuncId := 75
abbrev c_tiers_Steps_r0 : List AO := [⟨(.some 2), .none, (.box 39 (.t 0))⟩,
  ⟨(.some 4), .none, (.mov (.c .nilfn))⟩]
abbrev c_tiers_Steps_r1 : List AO := [⟨(.some 5), .none, (.fieldAddr 5 (.t 2))⟩,
  ⟨(.some 6), .none, (.load .none (.t 5))⟩,
  ⟨(.some 7), .none, (.bin .eql (.t 6) (.c (.d (.int .i64 2))))⟩]
abbrev c_tiers_Steps_r2 : List AO := [⟨(.some 8), .none, (.fieldAddr 6 (.t 2))⟩,
  ⟨(.some 9), .none, (.load .none (.t 8))⟩,
  ⟨(.some 10), .none, (.mov (.t 1))⟩,
  ⟨(.some 11), .none, (.call 98 [(.t 9), (.t 10)])⟩,
  ⟨(.some 4), .none, (.mov (.t 11))⟩]
abbrev c_tiers_Steps_r3 : List AO := [⟨(.some 12), .none, (.fieldAddr 6 (.t 2))⟩,
  ⟨(.some 13), .none, (.load .none (.t 12))⟩,
  ⟨(.some 14), .none, (.mov (.t 1))⟩,
  ⟨(.some 15), .none, (.call 99 [(.t 13), (.t 14)])⟩,
  ⟨(.some 4), .none, (.mov (.t 15))⟩]
abbrev c_tiers_Steps : AFunc := ⟨16, [(.tmp 4)], (.seq (.ops c_tiers_Steps_r0) (.seq (.seq (.ops c_tiers_Steps_r1) (.cond (.t 7) (.seq (.ops c_tiers_Steps_r2) .ret) .skip)) (.seq (.ops c_tiers_Steps_r3) .ret)))⟩
theorem comp_tiers_Steps : funcC Try.prog 75 = some c_tiers_Steps := by kernel_rfl
/-! function 76 : poundage exact.Mul -/
abbrev f_exact_Mul : FuncId := 76
abbrev c_exact_Mul_r0 : List AO := [⟨(.some 4), .none, (.mov (.c (.d (.int .i64 0))))⟩,
  ⟨(.some 5), .none, (.mov (.c (.d (.bool .false))))⟩]
abbrev c_exact_Mul_r1 : List AO := [⟨(.some 8), .none, (.mov (.t 0))⟩,
  ⟨(.some 9), .none, (.bin .eql (.t 8) (.c (.d (.int .i64 0))))⟩,
  ⟨(.some 10), .none, (.mov (.t 9))⟩,
  ⟨(.some 11), (.some ⟨10, .false⟩), (.mov (.t 1))⟩,
  ⟨(.some 12), (.some ⟨10, .false⟩), (.bin .eql (.t 11) (.c (.d (.int .i64 0))))⟩,
  ⟨(.some 13), .none, (.pick (.t 10) (.c (.d (.bool .true))) (.t 12))⟩,
  ⟨(.some 7), .none, (.mov (.t 13))⟩]
abbrev c_exact_Mul_r2 : List AO := [⟨(.some 4), .none, (.mov (.c (.d (.int .i64 0))))⟩,
  ⟨(.some 5), .none, (.mov (.c (.d (.bool .true))))⟩]
abbrev c_exact_Mul_r3 : List AO := [⟨(.some 15), .none, (.mov (.t 0))⟩,
  ⟨(.some 16), .none, (.bin .eql (.t 15) (.c (.d (.int .i64 (-1)))))⟩,
  ⟨(.some 14), .none, (.mov (.t 16))⟩]
abbrev c_exact_Mul_r4 : List AO := [⟨(.some 17), .none, (.mov (.t 1))⟩,
  ⟨(.some 18), .none, (.call 100 [(.c (.d (.int .i64 0))), (.t 17)])⟩,
  ⟨(.some 19), .none, (.extract (.t 18) 0)⟩,
  ⟨(.some 20), .none, (.extract (.t 18) 1)⟩,
  ⟨(.some 4), .none, (.mov (.t 19))⟩,
  ⟨(.some 5), .none, (.mov (.t 20))⟩]
abbrev c_exact_Mul_r5 : List AO := [⟨(.some 22), .none, (.mov (.t 1))⟩,
  ⟨(.some 23), .none, (.bin .eql (.t 22) (.c (.d (.int .i64 (-1)))))⟩,
  ⟨(.some 21), .none, (.mov (.t 23))⟩]
abbrev c_exact_Mul_r6 : List AO := [⟨(.some 24), .none, (.mov (.t 0))⟩,
  ⟨(.some 25), .none, (.call 100 [(.c (.d (.int .i64 0))), (.t 24)])⟩,
  ⟨(.some 26), .none, (.extract (.t 25) 0)⟩,
  ⟨(.some 27), .none, (.extract (.t 25) 1)⟩,
  ⟨(.some 4), .none, (.mov (.t 26))⟩,
  ⟨(.some 5), .none, (.mov (.t 27))⟩]
abbrev c_exact_Mul_r7 : List AO := [⟨(.some 28), .none, (.mov (.t 0))⟩,
  ⟨(.some 29), .none, (.mov (.t 1))⟩,
  ⟨(.some 30), .none, (.bin .mul (.t 28) (.t 29))⟩,
  ⟨(.some 6), .none, (.mov (.t 30))⟩]
abbrev c_exact_Mul_r8 : List AO := [⟨(.some 31), .none, (.mov (.t 6))⟩,
  ⟨(.some 32), .none, (.mov (.t 1))⟩,
  ⟨(.some 33), .none, (.bin .quo (.t 31) (.t 32))⟩,
  ⟨(.some 34), .none, (.mov (.t 0))⟩,
  ⟨(.some 35), .none, (.bin .eql (.t 33) (.t 34))⟩]
abbrev c_exact_Mul_r9 : List AO := [⟨(.some 36), .none, (.mov (.t 6))⟩,
  ⟨(.some 4), .none, (.mov (.t 36))⟩,
  ⟨(.some 5), .none, (.mov (.c (.d (.bool .true))))⟩]
abbrev c_exact_Mul_r10 : List AO := [⟨(.some 4), .none, (.mov (.c (.d (.int .i64 0))))⟩,
  ⟨(.some 5), .none, (.mov (.c (.d (.bool .false))))⟩]
abbrev c_exact_Mul : AFunc := ⟨37, [(.tmp 4), (.tmp 5)], (.seq (.ops c_exact_Mul_r0) (.seq (.block 0 (.seq (.ops c_exact_Mul_r1) (.cond (.t 7) (.seq (.ops c_exact_Mul_r2) .ret) (.seq (.ops c_exact_Mul_r3) (.cond (.t 14) (.seq (.ops c_exact_Mul_r4) .ret) (.seq (.ops c_exact_Mul_r5) (.cond (.t 21) (.seq (.ops c_exact_Mul_r6) .ret) .skip))))))) (.seq (.seq (.ops c_exact_Mul_r7) (.seq (.ops c_exact_Mul_r8) (.cond (.t 35) (.seq (.ops c_exact_Mul_r9) .ret) .skip))) (.seq (.ops c_exact_Mul_r10) .ret))))⟩
theorem comp_exact_Mul : funcC Try.prog 76 = some c_exact_Mul := by kernel_rfl
/-! function 77 : poundage round.MulDiv -/
abbrev f_round_MulDiv : FuncId := 77
abbrev c_round_MulDiv_r0 : List AO := [⟨(.some 8), .none, (.mov (.c (.d (.int .i64 0))))⟩,
  ⟨(.some 9), .none, (.mov (.c (.d (.bool .false))))⟩]
abbrev c_round_MulDiv_r1 : List AO := [⟨(.some 16), .none, (.mov (.t 2))⟩,
  ⟨(.some 17), .none, (.bin .leq (.t 16) (.c (.d (.int .i64 0))))⟩,
  ⟨(.some 18), .none, (.mov (.t 17))⟩,
  ⟨(.some 19), (.some ⟨18, .false⟩), (.mov (.t 3))⟩,
  ⟨(.some 20), (.some ⟨18, .false⟩), (.call 101 [(.t 19)])⟩,
  ⟨(.some 21), (.some ⟨18, .false⟩), (.un .not (.t 20))⟩,
  ⟨(.some 22), .none, (.pick (.t 18) (.c (.d (.bool .true))) (.t 21))⟩]
abbrev c_round_MulDiv_r2 : List AO := [⟨(.some 8), .none, (.mov (.c (.d (.int .i64 0))))⟩,
  ⟨(.some 9), .none, (.mov (.c (.d (.bool .false))))⟩]
abbrev c_round_MulDiv_r3 : List AO := [⟨(.some 23), .none, (.mov (.t 0))⟩,
  ⟨(.some 24), .none, (.bin .lss (.t 23) (.c (.d (.int .i64 0))))⟩,
  ⟨(.some 25), .none, (.mov (.t 1))⟩,
  ⟨(.some 26), .none, (.bin .lss (.t 25) (.c (.d (.int .i64 0))))⟩,
  ⟨(.some 27), .none, (.binb .true (.t 24) (.t 26))⟩,
  ⟨(.some 10), .none, (.mov (.t 27))⟩]
abbrev c_round_MulDiv_r4 : List AO := [⟨(.some 29), .none, (.mov (.t 0))⟩,
  ⟨(.some 30), .none, (.call 103 [(.t 29)])⟩,
  ⟨(.some 31), .none, (.mov (.t 1))⟩,
  ⟨(.some 32), .none, (.call 103 [(.t 31)])⟩,
  ⟨(.some 33), .none, (.call 102 [(.t 30), (.t 32)])⟩,
  ⟨(.some 28), .none, (.mov (.t 33))⟩,
  ⟨(.some 34), .none, (.extract (.t 28) 0)⟩,
  ⟨(.some 35), .none, (.extract (.t 28) 1)⟩,
  ⟨(.some 11), .none, (.mov (.t 34))⟩,
  ⟨(.some 12), .none, (.mov (.t 35))⟩]
abbrev c_round_MulDiv_r5 : List AO := [⟨(.some 36), .none, (.mov (.t 2))⟩,
  ⟨(.some 37), .none, (.conv .u64 (.t 36))⟩,
  ⟨(.some 13), .none, (.mov (.t 37))⟩]
abbrev c_round_MulDiv_r6 : List AO := [⟨(.some 38), .none, (.mov (.t 11))⟩,
  ⟨(.some 39), .none, (.mov (.t 13))⟩,
  ⟨(.some 40), .none, (.bin .geq (.t 38) (.t 39))⟩]
abbrev c_round_MulDiv_r7 : List AO := [⟨(.some 8), .none, (.mov (.c (.d (.int .i64 0))))⟩,
  ⟨(.some 9), .none, (.mov (.c (.d (.bool .false))))⟩]
abbrev c_round_MulDiv_r8 : List AO := [⟨(.some 42), .none, (.mov (.t 11))⟩,
  ⟨(.some 43), .none, (.mov (.t 12))⟩,
  ⟨(.some 44), .none, (.mov (.t 13))⟩,
  ⟨(.some 45), .none, (.call 104 [(.t 42), (.t 43), (.t 44)])⟩,
  ⟨(.some 41), .none, (.mov (.t 45))⟩,
  ⟨(.some 46), .none, (.extract (.t 41) 0)⟩,
  ⟨(.some 47), .none, (.extract (.t 41) 1)⟩,
  ⟨(.some 14), .none, (.mov (.t 46))⟩,
  ⟨(.some 15), .none, (.mov (.t 47))⟩]
abbrev c_round_MulDiv_r9 : List AO := [⟨(.some 48), .none, (.mov (.t 3))⟩,
  ⟨(.some 49), .none, (.mov (.t 10))⟩,
  ⟨(.some 50), .none, (.mov (.t 14))⟩,
  ⟨(.some 51), .none, (.mov (.t 15))⟩,
  ⟨(.some 52), .none, (.mov (.t 13))⟩,
  ⟨(.some 53), .none, (.call 105 [(.t 48), (.t 49), (.t 50), (.t 51), (.t 52)])⟩]
abbrev c_round_MulDiv_r10 : List AO := [⟨(.some 54), .none, (.mov (.t 14))⟩,
  ⟨(.some 55), .none, (.bin .add (.t 54) (.c (.d (.int .u64 1))))⟩,
  ⟨(.some 14), .none, (.mov (.t 55))⟩]
abbrev c_round_MulDiv_r11 : List AO := [⟨(.some 56), .none, (.mov (.t 14))⟩,
  ⟨(.some 57), .none, (.bin .eql (.t 56) (.c (.d (.int .u64 0))))⟩]
abbrev c_round_MulDiv_r12 : List AO := [⟨(.some 8), .none, (.mov (.c (.d (.int .i64 0))))⟩,
  ⟨(.some 9), .none, (.mov (.c (.d (.bool .false))))⟩]
abbrev c_round_MulDiv_r13 : List AO := [⟨(.some 58), .none, (.mov (.t 10))⟩,
  ⟨(.some 59), .none, (.mov (.t 14))⟩,
  ⟨(.some 60), .none, (.call 106 [(.t 58), (.t 59)])⟩,
  ⟨(.some 61), .none, (.extract (.t 60) 0)⟩,
  ⟨(.some 62), .none, (.extract (.t 60) 1)⟩,
  ⟨(.some 8), .none, (.mov (.t 61))⟩,
  ⟨(.some 9), .none, (.mov (.t 62))⟩]
abbrev c_round_MulDiv : AFunc := ⟨63, [(.tmp 8), (.tmp 9)], (.seq (.ops c_round_MulDiv_r0) (.seq (.seq (.ops c_round_MulDiv_r1) (.cond (.t 22) (.seq (.ops c_round_MulDiv_r2) .ret) .skip)) (.seq (.ops c_round_MulDiv_r3) (.seq (.ops c_round_MulDiv_r4) (.seq (.ops c_round_MulDiv_r5) (.seq (.seq (.ops c_round_MulDiv_r6) (.cond (.t 40) (.seq (.ops c_round_MulDiv_r7) .ret) .skip)) (.seq (.ops c_round_MulDiv_r8) (.seq (.seq (.ops c_round_MulDiv_r9) (.cond (.t 53) (.seq (.ops c_round_MulDiv_r10) (.seq (.ops c_round_MulDiv_r11) (.cond (.t 57) (.seq (.ops c_round_MulDiv_r12) .ret) .skip))) .skip)) (.seq (.ops c_round_MulDiv_r13) .ret)))))))))⟩
theorem comp_round_MulDiv : funcC Try.prog 77 = some c_round_MulDiv := by kernel_rfl
/-! function 78 : poundage poundageref11.Left -/
abbrev f_poundageref11_Left : FuncId := 78
abbrev c_poundageref11_Left_r0 : List AO := [⟨(.some 2), .none, (.box 39 (.t 0))⟩,
  ⟨(.some 4), .none, (.mov (.c (.d (.int .i64 0))))⟩,
  ⟨(.some 5), .none, (.mov (.c (.d (.bool .false))))⟩]
abbrev c_poundageref11_Left_r1 : List AO := [⟨(.some 9), .none, (.mov (.t 1))⟩,
  ⟨(.some 10), .none, (.bin .lss (.t 9) (.c (.d (.int .i64 0))))⟩]
abbrev c_poundageref11_Left_r2 : List AO := [⟨(.some 4), .none, (.mov (.c (.d (.int .i64 0))))⟩,
  ⟨(.some 5), .none, (.mov (.c (.d (.bool .false))))⟩]
abbrev c_poundageref11_Left_r3 : List AO := [⟨(.some 11), .none, (.mov (.t 1))⟩,
  ⟨(.some 12), .none, (.fieldAddr 3 (.t 2))⟩,
  ⟨(.some 13), .none, (.load .none (.t 12))⟩,
  ⟨(.some 14), .none, (.bin .sub (.t 11) (.t 13))⟩,
  ⟨(.some 15), .none, (.minmax .true (.t 14) [(.c (.d (.int .i64 0)))])⟩,
  ⟨(.some 6), .none, (.mov (.t 15))⟩]
abbrev c_poundageref11_Left_r4 : List AO := [⟨(.some 17), .none, (.mov (.t 6))⟩,
  ⟨(.some 18), .none, (.fieldAddr 4 (.t 2))⟩,
  ⟨(.some 19), .none, (.load .none (.t 18))⟩,
  ⟨(.some 20), .none, (.call 54 [(.t 17), (.c (.d (.int .i64 1))), (.t 19), (.c (.d (.int .i64 1)))])⟩,
  ⟨(.some 16), .none, (.mov (.t 20))⟩,
  ⟨(.some 21), .none, (.extract (.t 16) 0)⟩,
  ⟨(.some 22), .none, (.extract (.t 16) 1)⟩,
  ⟨(.some 7), .none, (.mov (.t 21))⟩,
  ⟨(.some 8), .none, (.mov (.t 22))⟩]
abbrev c_poundageref11_Left_r5 : List AO := [⟨(.some 23), .none, (.mov (.t 8))⟩,
  ⟨(.some 24), .none, (.un .not (.t 23))⟩]
abbrev c_poundageref11_Left_r6 : List AO := [⟨(.some 4), .none, (.mov (.c (.d (.int .i64 0))))⟩,
  ⟨(.some 5), .none, (.mov (.c (.d (.bool .false))))⟩]
abbrev c_poundageref11_Left_r7 : List AO := [⟨(.some 25), .none, (.mov (.t 7))⟩,
  ⟨(.some 26), .none, (.fieldAddr 4 (.t 2))⟩,
  ⟨(.some 27), .none, (.load .none (.t 26))⟩,
  ⟨(.some 28), .none, (.call 80 [(.t 25), (.t 27)])⟩,
  ⟨(.some 29), .none, (.call 66 [(.t 28)])⟩,
  ⟨(.some 30), .none, (.extract (.t 29) 0)⟩,
  ⟨(.some 31), .none, (.extract (.t 29) 1)⟩,
  ⟨(.some 4), .none, (.mov (.t 30))⟩,
  ⟨(.some 5), .none, (.mov (.t 31))⟩]
abbrev c_poundageref11_Left : AFunc := ⟨32, [(.tmp 4), (.tmp 5)], (.seq (.ops c_poundageref11_Left_r0) (.seq (.seq (.ops c_poundageref11_Left_r1) (.cond (.t 10) (.seq (.ops c_poundageref11_Left_r2) .ret) .skip)) (.seq (.ops c_poundageref11_Left_r3) (.seq (.ops c_poundageref11_Left_r4) (.seq (.seq (.ops c_poundageref11_Left_r5) (.cond (.t 24) (.seq (.ops c_poundageref11_Left_r6) .ret) .skip)) (.seq (.ops c_poundageref11_Left_r7) .ret))))))⟩
theorem comp_poundageref11_Left : funcC Try.prog 78 = some c_poundageref11_Left := by kernel_rfl
/-! function 79 : poundage poundageref11.Steps -/
abbrev f_poundageref11_Steps : FuncId := 79
abbrev c_poundageref11_Steps_r0 : List AO := [⟨(.some 2), .none, (.box 39 (.t 0))⟩,
  ⟨(.some 4), .none, (.mov (.c (.nilsl 0)))⟩]
abbrev c_poundageref11_Steps_r1 : List AO := [⟨(.some 5), .none, (.mov (.c (.nilsl 0)))⟩]
abbrev c_poundageref11_Steps_r2 : List AO := [⟨(.some 13), .none, (.fieldAddr 6 (.t 2))⟩,
  ⟨(.some 14), .none, (.load .none (.t 13))⟩,
  ⟨(.some 15), .none, (.len (.t 14))⟩,
  ⟨(.some 16), .none, (.bin .sub (.t 15) (.c (.d (.int .i64 1))))⟩,
  ⟨(.some 6), .none, (.mov (.t 16))⟩]
abbrev c_poundageref11_Steps_r3 : List AO := [⟨(.some 17), .none, (.fieldAddr 5 (.t 2))⟩,
  ⟨(.some 18), .none, (.load .none (.t 17))⟩,
  ⟨(.some 19), .none, (.bin .eql (.t 18) (.c (.d (.int .i64 2))))⟩]
abbrev c_poundageref11_Steps_r4 : List AO := [⟨(.some 20), .none, (.fieldAddr 6 (.t 2))⟩,
  ⟨(.some 21), .none, (.load .none (.t 20))⟩,
  ⟨(.some 22), .none, (.len (.t 21))⟩,
  ⟨(.some 23), .none, (.mov (.c (.d (.int .i64 0))))⟩]
abbrev c_poundageref11_Steps_r5 : List AO := [⟨(.some 24), .none, (.bin .lss (.t 23) (.t 22))⟩]
abbrev c_poundageref11_Steps_r6 : List AO := [⟨(.some 25), .none, (.mov (.t 23))⟩,
  ⟨(.some 26), .none, (.elemAddr 2 (.t 21) (.t 23))⟩,
  ⟨(.some 27), .none, (.load (.some 2) (.t 26))⟩,
  ⟨(.some 8), .none, (.alloc 62 [(.d (.int .i64 0)), (.d (.int .i64 0))])⟩,
  ⟨(.some 7), .none, (.mov (.t 25))⟩,
  ⟨.none, .none, (.store 2 (.t 8) (.t 27))⟩]
abbrev c_poundageref11_Steps_r7 : List AO := [⟨(.some 28), .none, (.mov (.t 7))⟩,
  ⟨(.some 29), .none, (.mov (.t 6))⟩,
  ⟨(.some 30), .none, (.bin .eql (.t 28) (.t 29))⟩,
  ⟨(.some 31), .none, (.mov (.t 30))⟩,
  ⟨(.some 32), (.some ⟨31, .false⟩), (.mov (.t 1))⟩,
  ⟨(.some 33), (.some ⟨31, .false⟩), (.fieldAddr 0 (.t 8))⟩,
  ⟨(.some 34), (.some ⟨31, .false⟩), (.load .none (.t 33))⟩,
  ⟨(.some 35), (.some ⟨31, .false⟩), (.bin .leq (.t 32) (.t 34))⟩,
  ⟨(.some 36), .none, (.pick (.t 31) (.c (.d (.bool .true))) (.t 35))⟩]
abbrev c_poundageref11_Steps_r8 : List AO := [⟨(.some 37), .none, (.mov (.t 1))⟩,
  ⟨(.some 38), .none, (.bin .gtr (.t 37) (.c (.d (.int .i64 0))))⟩]
abbrev c_poundageref11_Steps_r9 : List AO := [⟨(.some 39), .none, (.mov (.t 5))⟩,
  ⟨(.some 40), .none, (.mov (.t 1))⟩,
  ⟨(.some 41), .none, (.fieldAddr 1 (.t 8))⟩,
  ⟨(.some 42), .none, (.load .none (.t 41))⟩,
  ⟨(.some 43), .none, (.build [(.d (.int .i64 0)), (.d (.int .i64 0)), (.d (.int .i64 0))] [⟨0, ⟨1, (.c (.d (.int .i64 0)))⟩⟩, ⟨1, ⟨1, (.t 40)⟩⟩, ⟨2, ⟨1, (.t 42)⟩⟩])⟩,
  ⟨(.some 44), .none, (.buildSlice 136 3 1 [(.d (.int .i64 0)), (.d (.int .i64 0)), (.d (.int .i64 0))] [⟨0, (.t 43)⟩])⟩,
  ⟨(.some 45), .none, (.append 136 3 24 [(.d (.int .i64 0)), (.d (.int .i64 0)), (.d (.int .i64 0))] (.t 39) (.t 44))⟩,
  ⟨(.some 5), .none, (.mov (.t 45))⟩]
abbrev c_poundageref11_Steps_r10 : List AO := [⟨(.some 46), .none, (.mov (.t 5))⟩,
  ⟨(.some 4), .none, (.mov (.t 46))⟩]
abbrev c_poundageref11_Steps_r11 : List AO := [⟨(.some 47), .none, (.bin .add (.t 23) (.c (.d (.int .i64 1))))⟩,
  ⟨(.some 23), .none, (.mov (.t 47))⟩]
abbrev c_poundageref11_Steps_l0 : ACode := (.seq (.ops c_poundageref11_Steps_r5) (.seq (.cond (.t 24) .skip (.exit 0)) (.seq (.block 1 (.seq (.ops c_poundageref11_Steps_r6) (.seq (.ops c_poundageref11_Steps_r7) (.cond (.t 36) (.seq (.seq (.ops c_poundageref11_Steps_r8) (.cond (.t 38) (.ops c_poundageref11_Steps_r9) .skip)) (.seq (.ops c_poundageref11_Steps_r10) .ret)) .skip)))) (.ops c_poundageref11_Steps_r11))))
abbrev c_poundageref11_Steps_r12 : List AO := [⟨(.some 48), .none, (.mov (.t 5))⟩,
  ⟨(.some 4), .none, (.mov (.t 48))⟩]
abbrev c_poundageref11_Steps_r13 : List AO := [⟨(.some 49), .none, (.fieldAddr 6 (.t 2))⟩,
  ⟨(.some 50), .none, (.load .none (.t 49))⟩,
  ⟨(.some 51), .none, (.len (.t 50))⟩,
  ⟨(.some 52), .none, (.mov (.c (.d (.int .i64 0))))⟩]
abbrev c_poundageref11_Steps_r14 : List AO := [⟨(.some 53), .none, (.bin .lss (.t 52) (.t 51))⟩]
abbrev c_poundageref11_Steps_r15 : List AO := [⟨(.some 54), .none, (.mov (.t 52))⟩,
  ⟨(.some 55), .none, (.elemAddr 2 (.t 50) (.t 52))⟩,
  ⟨(.some 56), .none, (.load (.some 2) (.t 55))⟩,
  ⟨(.some 10), .none, (.alloc 62 [(.d (.int .i64 0)), (.d (.int .i64 0))])⟩,
  ⟨(.some 9), .none, (.mov (.t 54))⟩,
  ⟨.none, .none, (.store 2 (.t 10) (.t 56))⟩]
abbrev c_poundageref11_Steps_r16 : List AO := [⟨(.some 57), .none, (.mov (.t 1))⟩,
  ⟨(.some 11), .none, (.mov (.c (.d (.int .i64 0))))⟩,
  ⟨(.some 12), .none, (.mov (.t 57))⟩]
abbrev c_poundageref11_Steps_r17 : List AO := [⟨(.some 58), .none, (.mov (.t 9))⟩,
  ⟨(.some 59), .none, (.bin .gtr (.t 58) (.c (.d (.int .i64 0))))⟩]
abbrev c_poundageref11_Steps_r18 : List AO := [⟨(.some 60), .none, (.fieldAddr 6 (.t 2))⟩,
  ⟨(.some 61), .none, (.load .none (.t 60))⟩,
  ⟨(.some 62), .none, (.mov (.t 9))⟩,
  ⟨(.some 63), .none, (.bin .sub (.t 62) (.c (.d (.int .i64 1))))⟩,
  ⟨(.some 64), .none, (.elemAddr 2 (.t 61) (.t 63))⟩,
  ⟨(.some 65), .none, (.fieldAddr 0 (.t 64))⟩,
  ⟨(.some 66), .none, (.load .none (.t 65))⟩,
  ⟨(.some 11), .none, (.mov (.t 66))⟩]
abbrev c_poundageref11_Steps_r19 : List AO := [⟨(.some 67), .none, (.mov (.t 9))⟩,
  ⟨(.some 68), .none, (.mov (.t 6))⟩,
  ⟨(.some 69), .none, (.bin .lss (.t 67) (.t 68))⟩,
  ⟨(.some 70), .none, (.mov (.t 69))⟩,
  ⟨(.some 71), (.some ⟨70, .true⟩), (.fieldAddr 0 (.t 10))⟩,
  ⟨(.some 72), (.some ⟨70, .true⟩), (.load .none (.t 71))⟩,
  ⟨(.some 73), (.some ⟨70, .true⟩), (.mov (.t 1))⟩,
  ⟨(.some 74), (.some ⟨70, .true⟩), (.bin .lss (.t 72) (.t 73))⟩,
  ⟨(.some 75), .none, (.pick (.t 70) (.t 74) (.c (.d (.bool .false))))⟩]
abbrev c_poundageref11_Steps_r20 : List AO := [⟨(.some 76), .none, (.fieldAddr 0 (.t 10))⟩,
  ⟨(.some 77), .none, (.load .none (.t 76))⟩,
  ⟨(.some 12), .none, (.mov (.t 77))⟩]
abbrev c_poundageref11_Steps_r21 : List AO := [⟨(.some 78), .none, (.mov (.t 12))⟩,
  ⟨(.some 79), .none, (.mov (.t 11))⟩,
  ⟨(.some 80), .none, (.bin .gtr (.t 78) (.t 79))⟩]
abbrev c_poundageref11_Steps_r22 : List AO := [⟨(.some 81), .none, (.mov (.t 5))⟩,
  ⟨(.some 82), .none, (.mov (.t 11))⟩,
  ⟨(.some 83), .none, (.mov (.t 12))⟩,
  ⟨(.some 84), .none, (.fieldAddr 1 (.t 10))⟩,
  ⟨(.some 85), .none, (.load .none (.t 84))⟩,
  ⟨(.some 86), .none, (.build [(.d (.int .i64 0)), (.d (.int .i64 0)), (.d (.int .i64 0))] [⟨0, ⟨1, (.t 82)⟩⟩, ⟨1, ⟨1, (.t 83)⟩⟩, ⟨2, ⟨1, (.t 85)⟩⟩])⟩,
  ⟨(.some 87), .none, (.buildSlice 136 3 1 [(.d (.int .i64 0)), (.d (.int .i64 0)), (.d (.int .i64 0))] [⟨0, (.t 86)⟩])⟩,
  ⟨(.some 88), .none, (.append 136 3 24 [(.d (.int .i64 0)), (.d (.int .i64 0)), (.d (.int .i64 0))] (.t 81) (.t 87))⟩,
  ⟨(.some 5), .none, (.mov (.t 88))⟩]
abbrev c_poundageref11_Steps_r23 : List AO := [⟨(.some 89), .none, (.bin .add (.t 52) (.c (.d (.int .i64 1))))⟩,
  ⟨(.some 52), .none, (.mov (.t 89))⟩]
abbrev c_poundageref11_Steps_l1 : ACode := (.seq (.ops c_poundageref11_Steps_r14) (.seq (.cond (.t 53) .skip (.exit 2)) (.seq (.block 3 (.seq (.ops c_poundageref11_Steps_r15) (.seq (.ops c_poundageref11_Steps_r16) (.seq (.seq (.ops c_poundageref11_Steps_r17) (.cond (.t 59) (.ops c_poundageref11_Steps_r18) .skip)) (.seq (.seq (.ops c_poundageref11_Steps_r19) (.cond (.t 75) (.ops c_poundageref11_Steps_r20) .skip)) (.seq (.ops c_poundageref11_Steps_r21) (.cond (.t 80) (.ops c_poundageref11_Steps_r22) .skip))))))) (.ops c_poundageref11_Steps_r23))))
abbrev c_poundageref11_Steps_r24 : List AO := [⟨(.some 90), .none, (.mov (.t 5))⟩,
  ⟨(.some 4), .none, (.mov (.t 90))⟩]
abbrev c_poundageref11_Steps : AFunc := ⟨91, [(.tmp 4)], (.seq (.ops c_poundageref11_Steps_r0) (.seq (.ops c_poundageref11_Steps_r1) (.seq (.ops c_poundageref11_Steps_r2) (.seq (.seq (.ops c_poundageref11_Steps_r3) (.cond (.t 19) (.seq (.seq (.ops c_poundageref11_Steps_r4) (.block 0 (.loop c_poundageref11_Steps_l0))) (.seq (.ops c_poundageref11_Steps_r12) .ret)) .skip)) (.seq (.seq (.ops c_poundageref11_Steps_r13) (.block 2 (.loop c_poundageref11_Steps_l1))) (.seq (.ops c_poundageref11_Steps_r24) .ret))))))⟩
theorem comp_poundageref11_Steps : funcC Try.prog 79 = some c_poundageref11_Steps := by kernel_rfl
/-! function 80 : poundage poundageref01.Mul -/
abbrev f_poundageref01_Mul : FuncId := 80
abbrev c_poundageref01_Mul_r0 : List AO := [⟨(.some 4), .none, (.alloc 122 [(.d (.bool .false)), (.d (.int .u64 0)), (.d (.int .u64 0))])⟩]
abbrev c_poundageref01_Mul_r1 : List AO := [⟨(.some 14), .none, (.mov (.t 0))⟩,
  ⟨(.some 15), .none, (.call 68 [(.t 14)])⟩,
  ⟨(.some 16), .none, (.mov (.t 1))⟩,
  ⟨(.some 17), .none, (.call 68 [(.t 16)])⟩,
  ⟨(.some 5), .none, (.alloc 122 [(.d (.bool .false)), (.d (.int .u64 0)), (.d (.int .u64 0))])⟩,
  ⟨(.some 6), .none, (.alloc 122 [(.d (.bool .false)), (.d (.int .u64 0)), (.d (.int .u64 0))])⟩,
  ⟨.none, .none, (.store 3 (.t 5) (.t 15))⟩,
  ⟨.none, .none, (.store 3 (.t 6) (.t 17))⟩]
abbrev c_poundageref01_Mul_r2 : List AO := [⟨(.some 18), .none, (.fieldAddr 2 (.t 5))⟩,
  ⟨(.some 21), .none, (.fieldAddr 2 (.t 5))⟩,
  ⟨(.some 19), .none, (.load .none (.t 18))⟩,
  ⟨(.some 20), .none, (.bin .rem (.t 19) (.c (.d (.int .u64 4294967296))))⟩,
  ⟨(.some 7), .none, (.mov (.t 20))⟩,
  ⟨(.some 22), .none, (.load .none (.t 21))⟩,
  ⟨(.some 23), .none, (.bin .shr (.t 22) (.c (.d (.int .u64 32))))⟩,
  ⟨(.some 8), .none, (.mov (.t 23))⟩]
abbrev c_poundageref01_Mul_r3 : List AO := [⟨(.some 24), .none, (.fieldAddr 2 (.t 6))⟩,
  ⟨(.some 27), .none, (.fieldAddr 2 (.t 6))⟩,
  ⟨(.some 25), .none, (.load .none (.t 24))⟩,
  ⟨(.some 26), .none, (.bin .rem (.t 25) (.c (.d (.int .u64 4294967296))))⟩,
  ⟨(.some 9), .none, (.mov (.t 26))⟩,
  ⟨(.some 28), .none, (.load .none (.t 27))⟩,
  ⟨(.some 29), .none, (.bin .shr (.t 28) (.c (.d (.int .u64 32))))⟩,
  ⟨(.some 10), .none, (.mov (.t 29))⟩]
abbrev c_poundageref01_Mul_r4 : List AO := [⟨(.some 30), .none, (.mov (.t 8))⟩,
  ⟨(.some 31), .none, (.mov (.t 10))⟩,
  ⟨(.some 32), .none, (.bin .mul (.t 30) (.t 31))⟩,
  ⟨(.some 33), .none, (.mov (.t 7))⟩,
  ⟨(.some 34), .none, (.mov (.t 9))⟩,
  ⟨(.some 35), .none, (.bin .mul (.t 33) (.t 34))⟩,
  ⟨(.some 36), .none, (.build [(.d (.bool .false)), (.d (.int .u64 0)), (.d (.int .u64 0))] [⟨0, ⟨1, (.c (.d (.bool .false)))⟩⟩, ⟨1, ⟨1, (.t 32)⟩⟩, ⟨2, ⟨1, (.t 35)⟩⟩])⟩,
  ⟨(.some 11), .none, (.alloc 122 [(.d (.bool .false)), (.d (.int .u64 0)), (.d (.int .u64 0))])⟩,
  ⟨.none, .none, (.store 3 (.t 11) (.t 36))⟩]
abbrev c_poundageref01_Mul_r5 : List AO := [⟨(.some 37), .none, (.mov (.t 7))⟩,
  ⟨(.some 38), .none, (.mov (.t 10))⟩,
  ⟨(.some 39), .none, (.bin .mul (.t 37) (.t 38))⟩,
  ⟨(.some 40), .none, (.mov (.t 8))⟩,
  ⟨(.some 41), .none, (.mov (.t 9))⟩,
  ⟨(.some 42), .none, (.bin .mul (.t 40) (.t 41))⟩,
  ⟨(.some 43), .none, (.buildSlice 120 1 2 [(.d (.int .u64 0))] [⟨0, (.t 39)⟩, ⟨1, (.t 42)⟩])⟩,
  ⟨(.some 44), .none, (.len (.t 43))⟩,
  ⟨(.some 45), .none, (.mov (.c (.d (.int .i64 0))))⟩]
abbrev c_poundageref01_Mul_r6 : List AO := [⟨(.some 46), .none, (.bin .lss (.t 45) (.t 44))⟩]
abbrev c_poundageref01_Mul_r7 : List AO := [⟨(.some 47), .none, (.elemAddr 1 (.t 43) (.t 45))⟩,
  ⟨(.some 48), .none, (.load .none (.t 47))⟩,
  ⟨(.some 13), .none, (.mov (.t 48))⟩]
abbrev c_poundageref01_Mul_r8 : List AO := [⟨(.some 49), .none, (.load (.some 3) (.t 11))⟩,
  ⟨(.some 50), .none, (.mov (.t 13))⟩,
  ⟨(.some 51), .none, (.bin .shr (.t 50) (.c (.d (.int .u64 32))))⟩,
  ⟨(.some 52), .none, (.mov (.t 13))⟩,
  ⟨(.some 53), .none, (.bin .shl (.t 52) (.c (.d (.int .u64 32))))⟩,
  ⟨(.some 54), .none, (.build [(.d (.bool .false)), (.d (.int .u64 0)), (.d (.int .u64 0))] [⟨0, ⟨1, (.c (.d (.bool .false)))⟩⟩, ⟨1, ⟨1, (.t 51)⟩⟩, ⟨2, ⟨1, (.t 53)⟩⟩])⟩,
  ⟨(.some 55), .none, (.call 92 [(.t 49), (.t 54)])⟩,
  ⟨.none, .none, (.store 3 (.t 11) (.t 55))⟩]
abbrev c_poundageref01_Mul_r9 : List AO := [⟨(.some 56), .none, (.bin .add (.t 45) (.c (.d (.int .i64 1))))⟩,
  ⟨(.some 45), .none, (.mov (.t 56))⟩]
abbrev c_poundageref01_Mul_l0 : ACode := (.seq (.ops c_poundageref01_Mul_r6) (.seq (.cond (.t 46) .skip (.exit 0)) (.seq (.block 1 (.seq (.ops c_poundageref01_Mul_r7) (.ops c_poundageref01_Mul_r8))) (.ops c_poundageref01_Mul_r9))))
abbrev c_poundageref01_Mul_r10 : List AO := [⟨(.some 57), .none, (.fieldAddr 0 (.t 5))⟩,
  ⟨(.some 58), .none, (.load .none (.t 57))⟩,
  ⟨(.some 59), .none, (.fieldAddr 0 (.t 6))⟩,
  ⟨(.some 60), .none, (.load .none (.t 59))⟩,
  ⟨(.some 61), .none, (.binb .true (.t 58) (.t 60))⟩,
  ⟨(.some 62), .none, (.mov (.t 61))⟩,
  ⟨(.some 63), (.some ⟨62, .true⟩), (.load (.some 3) (.t 11))⟩,
  ⟨(.some 64), (.some ⟨62, .true⟩), (.call 93 [(.t 63)])⟩,
  ⟨(.some 65), (.some ⟨62, .true⟩), (.un .not (.t 64))⟩,
  ⟨(.some 66), .none, (.pick (.t 62) (.t 65) (.c (.d (.bool .false))))⟩,
  ⟨(.some 67), .none, (.fieldAddr 0 (.t 11))⟩,
  ⟨.none, .none, (.store 1 (.t 67) (.t 66))⟩]
abbrev c_poundageref01_Mul_r11 : List AO := [⟨(.some 68), .none, (.load (.some 3) (.t 11))⟩,
  ⟨.none, .none, (.store 3 (.t 4) (.t 68))⟩]
abbrev c_poundageref01_Mul : AFunc := ⟨69, [(.cell 4 (.some 3))], (.seq (.ops c_poundageref01_Mul_r0) (.seq (.ops c_poundageref01_Mul_r1) (.seq (.dops c_poundageref01_Mul_r2) (.seq (.dops c_poundageref01_Mul_r3) (.seq (.ops c_poundageref01_Mul_r4) (.seq (.seq (.ops c_poundageref01_Mul_r5) (.block 0 (.loop c_poundageref01_Mul_l0))) (.seq (.ops c_poundageref01_Mul_r10) (.seq (.ops c_poundageref01_Mul_r11) .ret))))))))⟩
theorem comp_poundageref01_Mul : funcC Try.prog 80 = some c_poundageref01_Mul := by kernel_rfl
/-! function 81 : poundage poundageref02.Floor -/
abbrev f_poundageref02_Floor : FuncId := 81
abbrev c_poundageref02_Floor_r0 : List AO := [⟨(.some 2), .none, (.box 122 (.t 0))⟩,
  ⟨(.some 4), .none, (.mov (.c (.d (.int .i64 0))))⟩,
  ⟨(.some 5), .none, (.mov (.c (.d (.bool .false))))⟩]
abbrev c_poundageref02_Floor_r1 : List AO := [⟨(.some 11), .none, (.mov (.t 1))⟩,
  ⟨(.some 12), .none, (.load (.some 3) (.t 2))⟩,
  ⟨(.some 13), .none, (.call 107 [(.c (.d (.int .i64 (-9223372036854775808)))), (.t 11), (.t 12)])⟩,
  ⟨(.some 14), .none, (.un .not (.t 13))⟩]
abbrev c_poundageref02_Floor_r2 : List AO := [⟨(.some 4), .none, (.mov (.c (.d (.int .i64 0))))⟩,
  ⟨(.some 5), .none, (.mov (.c (.d (.bool .false))))⟩]
abbrev c_poundageref02_Floor_r3 : List AO := [⟨(.some 6), .none, (.mov (.c (.d (.int .i64 (-9223372036854775808)))))⟩]
abbrev c_poundageref02_Floor_r4 : List AO := [⟨(.some 7), .none, (.mov (.c (.d (.int .i64 63))))⟩]
abbrev c_poundageref02_Floor_r5 : List AO := [⟨(.some 15), .none, (.mov (.t 7))⟩,
  ⟨(.some 16), .none, (.bin .geq (.t 15) (.c (.d (.int .i64 0))))⟩]
abbrev c_poundageref02_Floor_r6 : List AO := [⟨(.some 19), .none, (.mov (.t 7))⟩,
  ⟨(.some 20), .none, (.conv .u64 (.t 19))⟩,
  ⟨(.some 21), .none, (.bin .shl (.c (.d (.int .u64 1))) (.t 20))⟩,
  ⟨(.some 8), .none, (.mov (.t 21))⟩]
abbrev c_poundageref02_Floor_r7 : List AO := [⟨(.some 22), .none, (.mov (.t 6))⟩,
  ⟨(.some 23), .none, (.conv .u64 (.t 22))⟩,
  ⟨(.some 24), .none, (.mov (.t 8))⟩,
  ⟨(.some 25), .none, (.bin .add (.t 23) (.t 24))⟩,
  ⟨(.some 9), .none, (.mov (.t 25))⟩]
abbrev c_poundageref02_Floor_r8 : List AO := [⟨(.some 26), .none, (.mov (.t 9))⟩,
  ⟨(.some 27), .none, (.conv .i64 (.t 26))⟩,
  ⟨(.some 10), .none, (.mov (.t 27))⟩]
abbrev c_poundageref02_Floor_r9 : List AO := [⟨(.some 28), .none, (.mov (.t 10))⟩,
  ⟨(.some 29), .none, (.mov (.t 6))⟩,
  ⟨(.some 30), .none, (.bin .gtr (.t 28) (.t 29))⟩,
  ⟨(.some 31), .none, (.mov (.t 30))⟩,
  ⟨(.some 32), (.some ⟨31, .true⟩), (.mov (.t 10))⟩,
  ⟨(.some 33), (.some ⟨31, .true⟩), (.mov (.t 1))⟩,
  ⟨(.some 34), (.some ⟨31, .true⟩), (.load (.some 3) (.t 2))⟩,
  ⟨(.some 35), (.some ⟨31, .true⟩), (.call 107 [(.t 32), (.t 33), (.t 34)])⟩,
  ⟨(.some 36), .none, (.pick (.t 31) (.t 35) (.c (.d (.bool .false))))⟩]
abbrev c_poundageref02_Floor_r10 : List AO := [⟨(.some 37), .none, (.mov (.t 10))⟩,
  ⟨(.some 6), .none, (.mov (.t 37))⟩]
abbrev c_poundageref02_Floor_r11 : List AO := [⟨(.some 17), .none, (.mov (.t 7))⟩,
  ⟨(.some 18), .none, (.bin .sub (.t 17) (.c (.d (.int .i64 1))))⟩,
  ⟨(.some 7), .none, (.mov (.t 18))⟩]
abbrev c_poundageref02_Floor_l0 : ACode := (.seq (.seq (.ops c_poundageref02_Floor_r5) (.cond (.t 16) .skip (.exit 0))) (.seq (.block 1 (.seq (.ops c_poundageref02_Floor_r6) (.seq (.ops c_poundageref02_Floor_r7) (.seq (.ops c_poundageref02_Floor_r8) (.seq (.ops c_poundageref02_Floor_r9) (.cond (.t 36) (.ops c_poundageref02_Floor_r10) .skip)))))) (.ops c_poundageref02_Floor_r11)))
abbrev c_poundageref02_Floor_r12 : List AO := [⟨(.some 38), .none, (.mov (.t 6))⟩,
  ⟨(.some 4), .none, (.mov (.t 38))⟩,
  ⟨(.some 5), .none, (.mov (.c (.d (.bool .true))))⟩]
abbrev c_poundageref02_Floor : AFunc := ⟨39, [(.tmp 4), (.tmp 5)], (.seq (.ops c_poundageref02_Floor_r0) (.seq (.seq (.ops c_poundageref02_Floor_r1) (.cond (.t 14) (.seq (.ops c_poundageref02_Floor_r2) .ret) .skip)) (.seq (.ops c_poundageref02_Floor_r3) (.seq (.seq (.ops c_poundageref02_Floor_r4) (.block 0 (.loop c_poundageref02_Floor_l0))) (.seq (.ops c_poundageref02_Floor_r12) .ret)))))⟩
theorem comp_poundageref02_Floor : funcC Try.prog 81 = some c_poundageref02_Floor := by kernel_rfl
/-! function 82 : poundage poundageref01.Opposite -/
abbrev f_poundageref01_Opposite : FuncId := 82
abbrev c_poundageref01_Opposite_r0 : List AO := [⟨(.some 1), .none, (.box 122 (.t 0))⟩,
  ⟨(.some 2), .none, (.alloc 122 [(.d (.bool .false)), (.d (.int .u64 0)), (.d (.int .u64 0))])⟩]
abbrev c_poundageref01_Opposite_r1 : List AO := [⟨(.some 3), .none, (.load (.some 3) (.t 1))⟩,
  ⟨(.some 4), .none, (.call 93 [(.t 3)])⟩]
abbrev c_poundageref01_Opposite_r2 : List AO := [⟨(.some 5), .none, (.load (.some 3) (.t 1))⟩,
  ⟨.none, .none, (.store 3 (.t 2) (.t 5))⟩]
abbrev c_poundageref01_Opposite_r3 : List AO := [⟨(.some 6), .none, (.fieldAddr 0 (.t 1))⟩,
  ⟨(.some 7), .none, (.load .none (.t 6))⟩,
  ⟨(.some 8), .none, (.un .not (.t 7))⟩,
  ⟨(.some 9), .none, (.fieldAddr 1 (.t 1))⟩,
  ⟨(.some 10), .none, (.load .none (.t 9))⟩,
  ⟨(.some 11), .none, (.fieldAddr 2 (.t 1))⟩,
  ⟨(.some 12), .none, (.load .none (.t 11))⟩,
  ⟨(.some 13), .none, (.build [(.d (.bool .false)), (.d (.int .u64 0)), (.d (.int .u64 0))] [⟨0, ⟨1, (.t 8)⟩⟩, ⟨1, ⟨1, (.t 10)⟩⟩, ⟨2, ⟨1, (.t 12)⟩⟩])⟩,
  ⟨.none, .none, (.store 3 (.t 2) (.t 13))⟩]
abbrev c_poundageref01_Opposite : AFunc := ⟨14, [(.cell 2 (.some 3))], (.seq (.ops c_poundageref01_Opposite_r0) (.seq (.seq (.ops c_poundageref01_Opposite_r1) (.cond (.t 4) (.seq (.ops c_poundageref01_Opposite_r2) .ret) .skip)) (.seq (.ops c_poundageref01_Opposite_r3) .ret)))⟩
theorem comp_poundageref01_Opposite : funcC Try.prog 82 = some c_poundageref01_Opposite := by kernel_rfl
/-! function 83 : poundage poundageref02.edge -/
abbrev f_poundageref02_edge : FuncId := 83
abbrev c_poundageref02_edge_r0 : List AO := [⟨(.some 3), .none, (.box 122 (.t 0))⟩,
  ⟨(.some 6), .none, (.mov (.c (.d (.int .i64 0))))⟩,
  ⟨(.some 7), .none, (.mov (.c (.d (.bool .false))))⟩]
abbrev c_poundageref02_edge_r1 : List AO := [⟨(.some 8), .none, (.mov (.c (.d (.int .i64 (-9223372036854775808)))))⟩]
abbrev c_poundageref02_edge_r2 : List AO := [⟨(.some 11), .none, (.mov (.t 8))⟩,
  ⟨(.some 12), .none, (.mov (.t 1))⟩,
  ⟨(.some 13), .none, (.pcall 80 [(.t 11), (.t 12)])⟩,
  ⟨(.some 14), .none, (.loadS (.some 3) (.t 3) [9])⟩,
  ⟨(.some 15), .none, (.pcall 82 [(.t 14)])⟩,
  ⟨(.some 16), .none, (.pcall 67 [(.t 13), (.t 15)])⟩,
  ⟨(.some 9), .none, (.alloc 122 [(.d (.bool .false)), (.d (.int .u64 0)), (.d (.int .u64 0))])⟩,
  ⟨.none, .none, (.storeS 3 9 (.t 16))⟩]
abbrev c_poundageref02_edge_r3 : List AO := [⟨(.some 17), .none, (.fieldAddr 0 (.t 9))⟩,
  ⟨(.some 18), .none, (.load .none (.t 17))⟩,
  ⟨(.some 19), .none, (.mov (.t 18))⟩,
  ⟨(.some 20), (.some ⟨19, .false⟩), (.fieldAddr 1 (.t 9))⟩,
  ⟨(.some 21), (.some ⟨19, .false⟩), (.load .none (.t 20))⟩,
  ⟨(.some 22), (.some ⟨19, .false⟩), (.bin .gtr (.t 21) (.c (.d (.int .u64 0))))⟩,
  ⟨(.some 23), .none, (.pick (.t 19) (.c (.d (.bool .true))) (.t 22))⟩,
  ⟨(.some 24), .none, (.mov (.t 23))⟩,
  ⟨(.some 25), (.some ⟨24, .false⟩), (.fieldAddr 2 (.t 9))⟩,
  ⟨(.some 26), (.some ⟨24, .false⟩), (.load .none (.t 25))⟩,
  ⟨(.some 27), (.some ⟨24, .false⟩), (.mov (.t 1))⟩,
  ⟨(.some 28), (.some ⟨24, .false⟩), (.conv .u64 (.t 27))⟩,
  ⟨(.some 29), (.some ⟨24, .false⟩), (.bin .geq (.t 26) (.t 28))⟩,
  ⟨(.some 30), .none, (.pick (.t 24) (.c (.d (.bool .true))) (.t 29))⟩]
abbrev c_poundageref02_edge_r4 : List AO := [⟨(.some 6), .none, (.mov (.c (.d (.int .i64 0))))⟩,
  ⟨(.some 7), .none, (.mov (.c (.d (.bool .false))))⟩]
abbrev c_poundageref02_edge_r5 : List AO := [⟨(.some 31), .none, (.mov (.t 1))⟩,
  ⟨(.some 32), .none, (.conv .u64 (.t 31))⟩,
  ⟨(.some 33), .none, (.fieldAddr 2 (.t 9))⟩,
  ⟨(.some 34), .none, (.load .none (.t 33))⟩,
  ⟨(.some 35), .none, (.bin .sub (.t 32) (.t 34))⟩,
  ⟨(.some 10), .none, (.mov (.t 35))⟩]
abbrev c_poundageref02_edge_r6 : List AO := [⟨(.some 36), .none, (.mov (.t 2))⟩,
  ⟨(.some 37), .none, (.bin .eql (.t 36) (.c (.d (.int .i64 1))))⟩,
  ⟨(.some 38), .none, (.mov (.t 37))⟩,
  ⟨(.some 39), (.some ⟨38, .false⟩), (.mov (.t 2))⟩,
  ⟨(.some 40), (.some ⟨38, .false⟩), (.bin .gtr (.t 39) (.c (.d (.int .i64 1))))⟩,
  ⟨(.some 41), (.some ⟨38, .false⟩), (.mov (.t 40))⟩,
  ⟨(.some 42), (.some ⟨41, .true⟩), (.fieldAddr 2 (.t 9))⟩,
  ⟨(.some 43), (.some ⟨41, .true⟩), (.load .none (.t 42))⟩,
  ⟨(.some 44), (.some ⟨41, .true⟩), (.mov (.t 10))⟩,
  ⟨(.some 45), (.some ⟨41, .true⟩), (.bin .lss (.t 43) (.t 44))⟩,
  ⟨(.some 46), (.some ⟨41, .true⟩), (.mov (.t 45))⟩,
  ⟨(.some 47), (.some ⟨46, .false⟩), (.fieldAddr 2 (.t 9))⟩,
  ⟨(.some 48), (.some ⟨46, .false⟩), (.load .none (.t 47))⟩,
  ⟨(.some 49), (.some ⟨46, .false⟩), (.mov (.t 10))⟩,
  ⟨(.some 50), (.some ⟨46, .false⟩), (.bin .eql (.t 48) (.t 49))⟩,
  ⟨(.some 51), (.some ⟨41, .true⟩), (.pick (.t 46) (.c (.d (.bool .true))) (.t 50))⟩,
  ⟨(.some 52), (.some ⟨38, .false⟩), (.pick (.t 41) (.t 51) (.c (.d (.bool .false))))⟩,
  ⟨(.some 53), .none, (.pick (.t 38) (.c (.d (.bool .true))) (.t 52))⟩]
abbrev c_poundageref02_edge_r7 : List AO := [⟨(.some 54), .none, (.mov (.t 8))⟩,
  ⟨(.some 6), .none, (.mov (.t 54))⟩,
  ⟨(.some 7), .none, (.mov (.c (.d (.bool .true))))⟩]
abbrev c_poundageref02_edge_r8 : List AO := [⟨(.some 6), .none, (.mov (.c (.d (.int .i64 0))))⟩,
  ⟨(.some 7), .none, (.mov (.c (.d (.bool .false))))⟩]
abbrev c_poundageref02_edge : AFunc := ⟨55, [(.tmp 6), (.tmp 7)], (.seq (.ops c_poundageref02_edge_r0) (.seq (.ops c_poundageref02_edge_r1) (.seq (.dops c_poundageref02_edge_r2) (.seq (.seq (.ops c_poundageref02_edge_r3) (.cond (.t 30) (.seq (.ops c_poundageref02_edge_r4) .ret) .skip)) (.seq (.ops c_poundageref02_edge_r5) (.seq (.seq (.ops c_poundageref02_edge_r6) (.cond (.t 53) (.seq (.ops c_poundageref02_edge_r7) .ret) .skip)) (.seq (.ops c_poundageref02_edge_r8) .ret)))))))⟩
theorem comp_poundageref02_edge : funcC Try.prog 83 = some c_poundageref02_edge := by kernel_rfl
/-! function 92 : poundage poundageref01.plus -/
abbrev f_poundageref01_plus : FuncId := 92
abbrev c_poundageref01_plus_r0 : List AO := [⟨(.some 2), .none, (.box 122 (.t 0))⟩,
  ⟨(.some 3), .none, (.box 122 (.t 1))⟩,
  ⟨(.some 4), .none, (.alloc 122 [(.d (.bool .false)), (.d (.int .u64 0)), (.d (.int .u64 0))])⟩]
abbrev c_poundageref01_plus_r1 : List AO := [⟨(.some 7), .none, (.fieldAddr 2 (.t 2))⟩,
  ⟨(.some 8), .none, (.load .none (.t 7))⟩,
  ⟨(.some 9), .none, (.fieldAddr 2 (.t 3))⟩,
  ⟨(.some 10), .none, (.load .none (.t 9))⟩,
  ⟨(.some 11), .none, (.bin .add (.t 8) (.t 10))⟩,
  ⟨(.some 5), .none, (.mov (.t 11))⟩]
abbrev c_poundageref01_plus_r2 : List AO := [⟨(.some 12), .none, (.fieldAddr 1 (.t 2))⟩,
  ⟨(.some 13), .none, (.load .none (.t 12))⟩,
  ⟨(.some 14), .none, (.fieldAddr 1 (.t 3))⟩,
  ⟨(.some 15), .none, (.load .none (.t 14))⟩,
  ⟨(.some 16), .none, (.bin .add (.t 13) (.t 15))⟩,
  ⟨(.some 6), .none, (.mov (.t 16))⟩]
abbrev c_poundageref01_plus_r3 : List AO := [⟨(.some 17), .none, (.mov (.t 5))⟩,
  ⟨(.some 18), .none, (.fieldAddr 2 (.t 2))⟩,
  ⟨(.some 19), .none, (.load .none (.t 18))⟩,
  ⟨(.some 20), .none, (.bin .lss (.t 17) (.t 19))⟩]
abbrev c_poundageref01_plus_r4 : List AO := [⟨(.some 21), .none, (.mov (.t 6))⟩,
  ⟨(.some 22), .none, (.bin .add (.t 21) (.c (.d (.int .u64 1))))⟩,
  ⟨(.some 6), .none, (.mov (.t 22))⟩]
abbrev c_poundageref01_plus_r5 : List AO := [⟨(.some 23), .none, (.mov (.t 6))⟩,
  ⟨(.some 24), .none, (.mov (.t 5))⟩,
  ⟨(.some 25), .none, (.build [(.d (.bool .false)), (.d (.int .u64 0)), (.d (.int .u64 0))] [⟨0, ⟨1, (.c (.d (.bool .false)))⟩⟩, ⟨1, ⟨1, (.t 23)⟩⟩, ⟨2, ⟨1, (.t 24)⟩⟩])⟩,
  ⟨.none, .none, (.store 3 (.t 4) (.t 25))⟩]
abbrev c_poundageref01_plus : AFunc := ⟨26, [(.cell 4 (.some 3))], (.seq (.ops c_poundageref01_plus_r0) (.seq (.ops c_poundageref01_plus_r1) (.seq (.ops c_poundageref01_plus_r2) (.seq (.seq (.ops c_poundageref01_plus_r3) (.cond (.t 20) (.ops c_poundageref01_plus_r4) .skip)) (.seq (.ops c_poundageref01_plus_r5) .ret)))))⟩
theorem comp_poundageref01_plus : funcC Try.prog 92 = some c_poundageref01_plus := by kernel_rfl
/-! function 93 : poundage poundageref01.Zero -/
abbrev f_poundageref01_Zero : FuncId := 93
abbrev c_poundageref01_Zero_r0 : List AO := [⟨(.some 1), .none, (.box 122 (.t 0))⟩,
  ⟨(.some 2), .none, (.mov (.c (.d (.bool .false))))⟩]
abbrev c_poundageref01_Zero_r1 : List AO := [⟨(.some 3), .none, (.fieldAddr 1 (.t 1))⟩,
  ⟨(.some 4), .none, (.load .none (.t 3))⟩,
  ⟨(.some 5), .none, (.bin .eql (.t 4) (.c (.d (.int .u64 0))))⟩,
  ⟨(.some 6), .none, (.mov (.t 5))⟩,
  ⟨(.some 7), (.some ⟨6, .true⟩), (.fieldAddr 2 (.t 1))⟩,
  ⟨(.some 8), (.some ⟨6, .true⟩), (.load .none (.t 7))⟩,
  ⟨(.some 9), (.some ⟨6, .true⟩), (.bin .eql (.t 8) (.c (.d (.int .u64 0))))⟩,
  ⟨(.some 10), .none, (.pick (.t 6) (.t 9) (.c (.d (.bool .false))))⟩,
  ⟨(.some 2), .none, (.mov (.t 10))⟩]
abbrev c_poundageref01_Zero : AFunc := ⟨11, [(.tmp 2)], (.seq (.ops c_poundageref01_Zero_r0) (.seq (.ops c_poundageref01_Zero_r1) .ret))⟩
theorem comp_poundageref01_Zero : funcC Try.prog 93 = some c_poundageref01_Zero := by kernel_rfl
/-! function 94 : poundage poundageref01.size -/
abbrev f_poundageref01_size : FuncId := 94
abbrev c_poundageref01_size_r0 : List AO := [⟨(.some 2), .none, (.box 122 (.t 0))⟩,
  ⟨(.some 3), .none, (.box 122 (.t 1))⟩,
  ⟨(.some 4), .none, (.mov (.c (.d (.bool .false))))⟩]
abbrev c_poundageref01_size_r1 : List AO := [⟨(.some 5), .none, (.fieldAddr 1 (.t 2))⟩,
  ⟨(.some 6), .none, (.load .none (.t 5))⟩,
  ⟨(.some 7), .none, (.fieldAddr 1 (.t 3))⟩,
  ⟨(.some 8), .none, (.load .none (.t 7))⟩,
  ⟨(.some 9), .none, (.bin .lss (.t 6) (.t 8))⟩,
  ⟨(.some 10), .none, (.mov (.t 9))⟩,
  ⟨(.some 11), (.some ⟨10, .false⟩), (.fieldAddr 1 (.t 2))⟩,
  ⟨(.some 12), (.some ⟨10, .false⟩), (.load .none (.t 11))⟩,
  ⟨(.some 13), (.some ⟨10, .false⟩), (.fieldAddr 1 (.t 3))⟩,
  ⟨(.some 14), (.some ⟨10, .false⟩), (.load .none (.t 13))⟩,
  ⟨(.some 15), (.some ⟨10, .false⟩), (.bin .eql (.t 12) (.t 14))⟩,
  ⟨(.some 16), (.some ⟨10, .false⟩), (.mov (.t 15))⟩,
  ⟨(.some 17), (.some ⟨16, .true⟩), (.fieldAddr 2 (.t 2))⟩,
  ⟨(.some 18), (.some ⟨16, .true⟩), (.load .none (.t 17))⟩,
  ⟨(.some 19), (.some ⟨16, .true⟩), (.fieldAddr 2 (.t 3))⟩,
  ⟨(.some 20), (.some ⟨16, .true⟩), (.load .none (.t 19))⟩,
  ⟨(.some 21), (.some ⟨16, .true⟩), (.bin .lss (.t 18) (.t 20))⟩,
  ⟨(.some 22), (.some ⟨10, .false⟩), (.pick (.t 16) (.t 21) (.c (.d (.bool .false))))⟩,
  ⟨(.some 23), .none, (.pick (.t 10) (.c (.d (.bool .true))) (.t 22))⟩,
  ⟨(.some 4), .none, (.mov (.t 23))⟩]
abbrev c_poundageref01_size : AFunc := ⟨24, [(.tmp 4)], (.seq (.ops c_poundageref01_size_r0) (.seq (.ops c_poundageref01_size_r1) .ret))⟩
theorem comp_poundageref01_size : funcC Try.prog 94 = some c_poundageref01_size := by kernel_rfl
/-! function 95 : poundage poundageref01.minus -/
abbrev f_poundageref01_minus : FuncId := 95
abbrev c_poundageref01_minus_r0 : List AO := [⟨(.some 2), .none, (.box 122 (.t 0))⟩,
  ⟨(.some 3), .none, (.box 122 (.t 1))⟩,
  ⟨(.some 4), .none, (.alloc 122 [(.d (.bool .false)), (.d (.int .u64 0)), (.d (.int .u64 0))])⟩]
abbrev c_poundageref01_minus_r1 : List AO := [⟨(.some 7), .none, (.fieldAddr 2 (.t 2))⟩,
  ⟨(.some 8), .none, (.load .none (.t 7))⟩,
  ⟨(.some 9), .none, (.fieldAddr 2 (.t 3))⟩,
  ⟨(.some 10), .none, (.load .none (.t 9))⟩,
  ⟨(.some 11), .none, (.bin .sub (.t 8) (.t 10))⟩,
  ⟨(.some 5), .none, (.mov (.t 11))⟩]
abbrev c_poundageref01_minus_r2 : List AO := [⟨(.some 12), .none, (.fieldAddr 1 (.t 2))⟩,
  ⟨(.some 13), .none, (.load .none (.t 12))⟩,
  ⟨(.some 14), .none, (.fieldAddr 1 (.t 3))⟩,
  ⟨(.some 15), .none, (.load .none (.t 14))⟩,
  ⟨(.some 16), .none, (.bin .sub (.t 13) (.t 15))⟩,
  ⟨(.some 6), .none, (.mov (.t 16))⟩]
abbrev c_poundageref01_minus_r3 : List AO := [⟨(.some 17), .none, (.fieldAddr 2 (.t 2))⟩,
  ⟨(.some 18), .none, (.load .none (.t 17))⟩,
  ⟨(.some 19), .none, (.fieldAddr 2 (.t 3))⟩,
  ⟨(.some 20), .none, (.load .none (.t 19))⟩,
  ⟨(.some 21), .none, (.bin .lss (.t 18) (.t 20))⟩]
abbrev c_poundageref01_minus_r4 : List AO := [⟨(.some 22), .none, (.mov (.t 6))⟩,
  ⟨(.some 23), .none, (.bin .sub (.t 22) (.c (.d (.int .u64 1))))⟩,
  ⟨(.some 6), .none, (.mov (.t 23))⟩]
abbrev c_poundageref01_minus_r5 : List AO := [⟨(.some 24), .none, (.mov (.t 6))⟩,
  ⟨(.some 25), .none, (.mov (.t 5))⟩,
  ⟨(.some 26), .none, (.build [(.d (.bool .false)), (.d (.int .u64 0)), (.d (.int .u64 0))] [⟨0, ⟨1, (.c (.d (.bool .false)))⟩⟩, ⟨1, ⟨1, (.t 24)⟩⟩, ⟨2, ⟨1, (.t 25)⟩⟩])⟩,
  ⟨.none, .none, (.store 3 (.t 4) (.t 26))⟩]
abbrev c_poundageref01_minus : AFunc := ⟨27, [(.cell 4 (.some 3))], (.seq (.ops c_poundageref01_minus_r0) (.seq (.ops c_poundageref01_minus_r1) (.seq (.ops c_poundageref01_minus_r2) (.seq (.seq (.ops c_poundageref01_minus_r3) (.cond (.t 21) (.ops c_poundageref01_minus_r4) .skip)) (.seq (.ops c_poundageref01_minus_r5) .ret)))))⟩
theorem comp_poundageref01_minus : funcC Try.prog 95 = some c_poundageref01_minus := by kernel_rfl
/-! function 96 : slices.IndexFunc poundage api.Adjust poundage api.Adjust  -/
abbrev f_slices_IndexFunc_api_Adjust : FuncId := 96
abbrev c_slices_IndexFunc_api_Adjust_r0 : List AO := [⟨(.some 4), .none, (.mov (.c (.d (.int .i64 0))))⟩]
abbrev c_slices_IndexFunc_api_Adjust_r1 : List AO := [⟨(.some 6), .none, (.mov (.t 0))⟩,
  ⟨(.some 7), .none, (.len (.t 6))⟩,
  ⟨(.some 8), .none, (.mov (.c (.d (.int .i64 0))))⟩]
abbrev c_slices_IndexFunc_api_Adjust_r2 : List AO := [⟨(.some 9), .none, (.bin .lss (.t 8) (.t 7))⟩]
abbrev c_slices_IndexFunc_api_Adjust_r3 : List AO := [⟨(.some 10), .none, (.mov (.t 8))⟩,
  ⟨(.some 5), .none, (.mov (.t 10))⟩]
abbrev c_slices_IndexFunc_api_Adjust_r4 : List AO := [⟨(.some 11), .none, (.mov (.t 1))⟩,
  ⟨(.some 12), .none, (.mov (.t 0))⟩,
  ⟨(.some 13), .none, (.mov (.t 5))⟩,
  ⟨(.some 14), .none, (.elemAddr 3 (.t 12) (.t 13))⟩,
  ⟨(.some 15), .none, (.load (.some 3) (.t 14))⟩,
  ⟨(.some 16), .none, (.callv (.t 11) [(.t 15)])⟩]
abbrev c_slices_IndexFunc_api_Adjust_r5 : List AO := [⟨(.some 17), .none, (.mov (.t 5))⟩,
  ⟨(.some 4), .none, (.mov (.t 17))⟩]
abbrev c_slices_IndexFunc_api_Adjust_r6 : List AO := [⟨(.some 18), .none, (.bin .add (.t 8) (.c (.d (.int .i64 1))))⟩,
  ⟨(.some 8), .none, (.mov (.t 18))⟩]
abbrev c_slices_IndexFunc_api_Adjust_l0 : ACode := (.seq (.ops c_slices_IndexFunc_api_Adjust_r2) (.seq (.cond (.t 9) .skip (.exit 0)) (.seq (.block 1 (.seq (.ops c_slices_IndexFunc_api_Adjust_r3) (.seq (.ops c_slices_IndexFunc_api_Adjust_r4) (.cond (.t 16) (.seq (.ops c_slices_IndexFunc_api_Adjust_r5) .ret) .skip)))) (.ops c_slices_IndexFunc_api_Adjust_r6))))
abbrev c_slices_IndexFunc_api_Adjust_r7 : List AO := [⟨(.some 4), .none, (.mov (.c (.d (.int .i64 (-1)))))⟩]
abbrev c_slices_IndexFunc_api_Adjust : AFunc := ⟨19, [(.tmp 4)], (.seq (.ops c_slices_IndexFunc_api_Adjust_r0) (.seq (.seq (.ops c_slices_IndexFunc_api_Adjust_r1) (.block 0 (.loop c_slices_IndexFunc_api_Adjust_l0))) (.seq (.ops c_slices_IndexFunc_api_Adjust_r7) .ret)))⟩
theorem comp_slices_IndexFunc_api_Adjust : funcC Try.prog 96 = some c_slices_IndexFunc_api_Adjust := by kernel_rfl
/-! function 97 : poundage round.Up -/
abbrev f_round_Up : FuncId := 97
abbrev c_round_Up_r0 : List AO := [⟨(.some 4), .none, (.mov (.c (.d (.int .i64 0))))⟩,
  ⟨(.some 5), .none, (.mov (.c (.d (.bool .false))))⟩]
abbrev c_round_Up_r1 : List AO := [⟨(.some 9), .none, (.mov (.t 0))⟩,
  ⟨(.some 10), .none, (.mov (.t 1))⟩,
  ⟨(.some 11), .none, (.call 51 [(.t 9), (.t 10), (.c (.d (.int .i64 1)))])⟩,
  ⟨(.some 8), .none, (.mov (.t 11))⟩,
  ⟨(.some 12), .none, (.extract (.t 8) 0)⟩,
  ⟨(.some 13), .none, (.extract (.t 8) 1)⟩,
  ⟨(.some 6), .none, (.mov (.t 12))⟩,
  ⟨(.some 7), .none, (.mov (.t 13))⟩]
abbrev c_round_Up_r2 : List AO := [⟨(.some 14), .none, (.mov (.t 7))⟩,
  ⟨(.some 15), .none, (.un .not (.t 14))⟩]
abbrev c_round_Up_r3 : List AO := [⟨(.some 4), .none, (.mov (.c (.d (.int .i64 0))))⟩,
  ⟨(.some 5), .none, (.mov (.c (.d (.bool .false))))⟩]
abbrev c_round_Up_r4 : List AO := [⟨(.some 16), .none, (.mov (.t 6))⟩,
  ⟨(.some 17), .none, (.mov (.t 1))⟩,
  ⟨(.some 18), .none, (.call 77 [(.t 16), (.t 17), (.c (.d (.int .i64 1))), (.c (.d (.int .i64 0)))])⟩,
  ⟨(.some 19), .none, (.extract (.t 18) 0)⟩,
  ⟨(.some 20), .none, (.extract (.t 18) 1)⟩,
  ⟨(.some 4), .none, (.mov (.t 19))⟩,
  ⟨(.some 5), .none, (.mov (.t 20))⟩]
abbrev c_round_Up : AFunc := ⟨21, [(.tmp 4), (.tmp 5)], (.seq (.ops c_round_Up_r0) (.seq (.ops c_round_Up_r1) (.seq (.seq (.ops c_round_Up_r2) (.cond (.t 15) (.seq (.ops c_round_Up_r3) .ret) .skip)) (.seq (.ops c_round_Up_r4) .ret))))⟩
theorem comp_round_Up : funcC Try.prog 97 = some c_round_Up := by kernel_rfl
/-! function 98 : poundage tiers.volume -/
abbrev f_tiers_volume : FuncId := 98
abbrev c_tiers_volume_r0 : List AO := [⟨(.some 2), .none, (.box 36 (.t 0))⟩,
  ⟨(.some 3), .none, (.box 3 (.t 1))⟩,
  ⟨(.some 4), .none, (.mov (.c .nilfn))⟩]
abbrev c_tiers_volume_r1 : List AO := [⟨(.some 5), .none, (.mkfn 109 [(.t 2), (.t 3)])⟩,
  ⟨(.some 4), .none, (.mov (.t 5))⟩]
abbrev c_tiers_volume : AFunc := ⟨6, [(.tmp 4)], (.seq (.ops c_tiers_volume_r0) (.seq (.ops c_tiers_volume_r1) .ret))⟩
theorem comp_tiers_volume : funcC Try.prog 98 = some c_tiers_volume := by kernel_rfl
/-! function 99 : poundage tiers.graduated -/
abbrev f_tiers_graduated : FuncId := 99
abbrev c_tiers_graduated_r0 : List AO := [⟨(.some 2), .none, (.box 36 (.t 0))⟩,
  ⟨(.some 3), .none, (.box 3 (.t 1))⟩,
  ⟨(.some 4), .none, (.mov (.c .nilfn))⟩]
abbrev c_tiers_graduated_r1 : List AO := [⟨(.some 5), .none, (.mkfn 110 [(.t 2), (.t 3)])⟩,
  ⟨(.some 4), .none, (.mov (.t 5))⟩]
abbrev c_tiers_graduated : AFunc := ⟨6, [(.tmp 4)], (.seq (.ops c_tiers_graduated_r0) (.seq (.ops c_tiers_graduated_r1) .ret))⟩
theorem comp_tiers_graduated : funcC Try.prog 99 = some c_tiers_graduated := by kernel_rfl
/-! function 100 : poundage exact.Sub -/
abbrev f_exact_Sub : FuncId := 100
abbrev c_exact_Sub_r0 : List AO := [⟨(.some 4), .none, (.mov (.c (.d (.int .i64 0))))⟩,
  ⟨(.some 5), .none, (.mov (.c (.d (.bool .false))))⟩]
abbrev c_exact_Sub_r1 : List AO := [⟨(.some 6), .none, (.mov (.t 1))⟩,
  ⟨(.some 7), .none, (.bin .lss (.t 6) (.c (.d (.int .i64 0))))⟩,
  ⟨(.some 8), .none, (.mov (.t 7))⟩,
  ⟨(.some 9), (.some ⟨8, .true⟩), (.mov (.t 0))⟩,
  ⟨(.some 10), (.some ⟨8, .true⟩), (.mov (.t 1))⟩,
  ⟨(.some 11), (.some ⟨8, .true⟩), (.bin .add (.c (.d (.int .i64 9223372036854775807))) (.t 10))⟩,
  ⟨(.some 12), (.some ⟨8, .true⟩), (.bin .gtr (.t 9) (.t 11))⟩,
  ⟨(.some 13), .none, (.pick (.t 8) (.t 12) (.c (.d (.bool .false))))⟩,
  ⟨(.some 14), .none, (.mov (.t 13))⟩,
  ⟨(.some 15), (.some ⟨14, .false⟩), (.mov (.t 1))⟩,
  ⟨(.some 16), (.some ⟨14, .false⟩), (.bin .gtr (.t 15) (.c (.d (.int .i64 0))))⟩,
  ⟨(.some 17), (.some ⟨14, .false⟩), (.mov (.t 16))⟩,
  ⟨(.some 18), (.some ⟨17, .true⟩), (.mov (.t 0))⟩,
  ⟨(.some 19), (.some ⟨17, .true⟩), (.mov (.t 1))⟩,
  ⟨(.some 20), (.some ⟨17, .true⟩), (.bin .add (.c (.d (.int .i64 (-9223372036854775808)))) (.t 19))⟩,
  ⟨(.some 21), (.some ⟨17, .true⟩), (.bin .lss (.t 18) (.t 20))⟩,
  ⟨(.some 22), (.some ⟨14, .false⟩), (.pick (.t 17) (.t 21) (.c (.d (.bool .false))))⟩,
  ⟨(.some 23), .none, (.pick (.t 14) (.c (.d (.bool .true))) (.t 22))⟩]
abbrev c_exact_Sub_r2 : List AO := [⟨(.some 4), .none, (.mov (.c (.d (.int .i64 0))))⟩,
  ⟨(.some 5), .none, (.mov (.c (.d (.bool .false))))⟩]
abbrev c_exact_Sub_r3 : List AO := [⟨(.some 24), .none, (.mov (.t 0))⟩,
  ⟨(.some 25), .none, (.mov (.t 1))⟩,
  ⟨(.some 26), .none, (.bin .sub (.t 24) (.t 25))⟩,
  ⟨(.some 4), .none, (.mov (.t 26))⟩,
  ⟨(.some 5), .none, (.mov (.c (.d (.bool .true))))⟩]
abbrev c_exact_Sub : AFunc := ⟨27, [(.tmp 4), (.tmp 5)], (.seq (.ops c_exact_Sub_r0) (.seq (.seq (.ops c_exact_Sub_r1) (.cond (.t 23) (.seq (.ops c_exact_Sub_r2) .ret) .skip)) (.seq (.ops c_exact_Sub_r3) .ret)))⟩
theorem comp_exact_Sub : funcC Try.prog 100 = some c_exact_Sub := by kernel_rfl
/-! function 101 : poundage round.Good -/
abbrev f_round_Good : FuncId := 101
abbrev c_round_Good_r0 : List AO := [⟨(.some 2), .none, (.mov (.c (.d (.bool .false))))⟩]
abbrev c_round_Good_r1 : List AO := [⟨(.some 3), .none, (.mov (.t 0))⟩,
  ⟨(.some 4), .none, (.bin .geq (.t 3) (.c (.d (.int .i64 0))))⟩,
  ⟨(.some 5), .none, (.mov (.t 4))⟩,
  ⟨(.some 6), (.some ⟨5, .true⟩), (.mov (.t 0))⟩,
  ⟨(.some 7), (.some ⟨5, .true⟩), (.bin .leq (.t 6) (.c (.d (.int .i64 3))))⟩,
  ⟨(.some 8), .none, (.pick (.t 5) (.t 7) (.c (.d (.bool .false))))⟩,
  ⟨(.some 2), .none, (.mov (.t 8))⟩]
abbrev c_round_Good : AFunc := ⟨9, [(.tmp 2)], (.seq (.ops c_round_Good_r0) (.seq (.ops c_round_Good_r1) .ret))⟩
theorem comp_round_Good : funcC Try.prog 101 = some c_round_Good := by kernel_rfl
/-! function 102 : math bits.Mul64 -/
abbrev f_bits_Mul64 : FuncId := 102
abbrev c_bits_Mul64_r0 : List AO := [⟨(.some 4), .none, (.mov (.c (.d (.int .u64 0))))⟩,
  ⟨(.some 5), .none, (.mov (.c (.d (.int .u64 0))))⟩]
abbrev c_bits_Mul64_r1 : List AO := [⟨(.some 14), .none, (.mov (.t 0))⟩,
  ⟨(.some 15), .none, (.bin .and (.t 14) (.c (.d (.int .u64 4294967295))))⟩,
  ⟨(.some 6), .none, (.mov (.t 15))⟩]
abbrev c_bits_Mul64_r2 : List AO := [⟨(.some 16), .none, (.mov (.t 0))⟩,
  ⟨(.some 17), .none, (.bin .shr (.t 16) (.c (.d (.int .u64 32))))⟩,
  ⟨(.some 7), .none, (.mov (.t 17))⟩]
abbrev c_bits_Mul64_r3 : List AO := [⟨(.some 18), .none, (.mov (.t 1))⟩,
  ⟨(.some 19), .none, (.bin .and (.t 18) (.c (.d (.int .u64 4294967295))))⟩,
  ⟨(.some 8), .none, (.mov (.t 19))⟩]
abbrev c_bits_Mul64_r4 : List AO := [⟨(.some 20), .none, (.mov (.t 1))⟩,
  ⟨(.some 21), .none, (.bin .shr (.t 20) (.c (.d (.int .u64 32))))⟩,
  ⟨(.some 9), .none, (.mov (.t 21))⟩]
abbrev c_bits_Mul64_r5 : List AO := [⟨(.some 22), .none, (.mov (.t 6))⟩,
  ⟨(.some 23), .none, (.mov (.t 8))⟩,
  ⟨(.some 24), .none, (.bin .mul (.t 22) (.t 23))⟩,
  ⟨(.some 10), .none, (.mov (.t 24))⟩]
abbrev c_bits_Mul64_r6 : List AO := [⟨(.some 25), .none, (.mov (.t 7))⟩,
  ⟨(.some 26), .none, (.mov (.t 8))⟩,
  ⟨(.some 27), .none, (.bin .mul (.t 25) (.t 26))⟩,
  ⟨(.some 28), .none, (.mov (.t 10))⟩,
  ⟨(.some 29), .none, (.bin .shr (.t 28) (.c (.d (.int .u64 32))))⟩,
  ⟨(.some 30), .none, (.bin .add (.t 27) (.t 29))⟩,
  ⟨(.some 11), .none, (.mov (.t 30))⟩]
abbrev c_bits_Mul64_r7 : List AO := [⟨(.some 31), .none, (.mov (.t 11))⟩,
  ⟨(.some 32), .none, (.bin .and (.t 31) (.c (.d (.int .u64 4294967295))))⟩,
  ⟨(.some 12), .none, (.mov (.t 32))⟩]
abbrev c_bits_Mul64_r8 : List AO := [⟨(.some 33), .none, (.mov (.t 11))⟩,
  ⟨(.some 34), .none, (.bin .shr (.t 33) (.c (.d (.int .u64 32))))⟩,
  ⟨(.some 13), .none, (.mov (.t 34))⟩]
abbrev c_bits_Mul64_r9 : List AO := [⟨(.some 35), .none, (.mov (.t 12))⟩,
  ⟨(.some 36), .none, (.mov (.t 6))⟩,
  ⟨(.some 37), .none, (.mov (.t 9))⟩,
  ⟨(.some 38), .none, (.bin .mul (.t 36) (.t 37))⟩,
  ⟨(.some 39), .none, (.bin .add (.t 35) (.t 38))⟩,
  ⟨(.some 12), .none, (.mov (.t 39))⟩]
abbrev c_bits_Mul64_r10 : List AO := [⟨(.some 40), .none, (.mov (.t 7))⟩,
  ⟨(.some 41), .none, (.mov (.t 9))⟩,
  ⟨(.some 42), .none, (.bin .mul (.t 40) (.t 41))⟩,
  ⟨(.some 43), .none, (.mov (.t 13))⟩,
  ⟨(.some 44), .none, (.bin .add (.t 42) (.t 43))⟩,
  ⟨(.some 45), .none, (.mov (.t 12))⟩,
  ⟨(.some 46), .none, (.bin .shr (.t 45) (.c (.d (.int .u64 32))))⟩,
  ⟨(.some 47), .none, (.bin .add (.t 44) (.t 46))⟩,
  ⟨(.some 4), .none, (.mov (.t 47))⟩]
abbrev c_bits_Mul64_r11 : List AO := [⟨(.some 48), .none, (.mov (.t 0))⟩,
  ⟨(.some 49), .none, (.mov (.t 1))⟩,
  ⟨(.some 50), .none, (.bin .mul (.t 48) (.t 49))⟩,
  ⟨(.some 5), .none, (.mov (.t 50))⟩]
abbrev c_bits_Mul64 : AFunc := ⟨51, [(.tmp 4), (.tmp 5)], (.seq (.ops c_bits_Mul64_r0) (.seq (.ops c_bits_Mul64_r1) (.seq (.ops c_bits_Mul64_r2) (.seq (.ops c_bits_Mul64_r3) (.seq (.ops c_bits_Mul64_r4) (.seq (.ops c_bits_Mul64_r5) (.seq (.ops c_bits_Mul64_r6) (.seq (.ops c_bits_Mul64_r7) (.seq (.ops c_bits_Mul64_r8) (.seq (.ops c_bits_Mul64_r9) (.seq (.ops c_bits_Mul64_r10) (.seq (.ops c_bits_Mul64_r11) .ret))))))))))))⟩
theorem comp_bits_Mul64 : funcC Try.prog 102 = some c_bits_Mul64 := by kernel_rfl
/-! function 103 : poundage round.abs -/
abbrev f_round_abs : FuncId := 103
abbrev c_round_abs_r0 : List AO := [⟨(.some 2), .none, (.mov (.c (.d (.int .u64 0))))⟩]
abbrev c_round_abs_r1 : List AO := [⟨(.some 3), .none, (.mov (.t 0))⟩,
  ⟨(.some 4), .none, (.bin .lss (.t 3) (.c (.d (.int .i64 0))))⟩]
abbrev c_round_abs_r2 : List AO := [⟨(.some 5), .none, (.mov (.t 0))⟩,
  ⟨(.some 6), .none, (.conv .u64 (.t 5))⟩,
  ⟨(.some 7), .none, (.un .neg (.t 6))⟩,
  ⟨(.some 2), .none, (.mov (.t 7))⟩]
abbrev c_round_abs_r3 : List AO := [⟨(.some 8), .none, (.mov (.t 0))⟩,
  ⟨(.some 9), .none, (.conv .u64 (.t 8))⟩,
  ⟨(.some 2), .none, (.mov (.t 9))⟩]
abbrev c_round_abs : AFunc := ⟨10, [(.tmp 2)], (.seq (.ops c_round_abs_r0) (.seq (.seq (.ops c_round_abs_r1) (.cond (.t 4) (.seq (.ops c_round_abs_r2) .ret) .skip)) (.seq (.ops c_round_abs_r3) .ret)))⟩
theorem comp_round_abs : funcC Try.prog 103 = some c_round_abs := by kernel_rfl
end Go.Proofs.Ytlflfciebidddaa.Abs
