/- The code of the machine and the contracts of one law (joined by kmerge.py). No claim stands here. -/
import Derived.KernelRfl
import Derived.Test.YtndepejgafppmaaProg
import Derived.Test.YtndepejgafppmaaMab
set_option maxRecDepth 100000
set_option linter.unusedSimpArgs false
set_option linter.unusedVariables false
namespace Go.Proofs.Ytndepejgafppmaa.Abs
open Go Go.RowKit Go.Proofs
abbrev f_poundagelaw06_TreeRows : FuncId := 4
abbrev c_poundagelaw06_TreeRows_r0 : List AO := [⟨(.some 5), .none, (.box 3 (.t 2))⟩,
  ⟨(.some 6), .none, (.mov (.c (.d (.bool .false))))⟩]
abbrev c_poundagelaw06_TreeRows_r1 : List AO := [⟨(.some 11), .none, (.call 8 [])⟩,
  ⟨(.some 12), .none, (.un .not (.t 11))⟩]
abbrev c_poundagelaw06_TreeRows_r2 : List AO := [⟨(.some 6), .none, (.mov (.c (.d (.bool .false))))⟩]
abbrev c_poundagelaw06_TreeRows_r3 : List AO := [⟨(.some 13), .none, (.mov (.t 0))⟩,
  ⟨(.some 14), .none, (.len (.t 13))⟩,
  ⟨(.some 15), .none, (.bin .gtr (.t 14) (.c (.d (.int .i64 200))))⟩,
  ⟨(.some 16), .none, (.mov (.t 15))⟩,
  ⟨(.some 17), (.some ⟨16, .false⟩), (.mov (.t 1))⟩,
  ⟨(.some 18), (.some ⟨16, .false⟩), (.len (.t 17))⟩,
  ⟨(.some 19), (.some ⟨16, .false⟩), (.bin .gtr (.t 18) (.c (.d (.int .i64 200))))⟩,
  ⟨(.some 20), .none, (.pick (.t 16) (.c (.d (.bool .true))) (.t 19))⟩]
abbrev c_poundagelaw06_TreeRows_r4 : List AO := [⟨(.some 6), .none, (.mov (.c (.d (.bool .true))))⟩]
abbrev c_poundagelaw06_TreeRows_r5 : List AO := [⟨(.some 21), .none, (.mov (.t 0))⟩,
  ⟨(.some 22), .none, (.len (.t 21))⟩,
  ⟨(.some 23), .none, (.mov (.t 1))⟩,
  ⟨(.some 24), .none, (.len (.t 23))⟩,
  ⟨(.some 25), .none, (.bin .eql (.t 22) (.t 24))⟩,
  ⟨(.some 7), .none, (.mov (.t 25))⟩]
abbrev c_poundagelaw06_TreeRows_r6 : List AO := [⟨(.some 26), .none, (.mov (.t 0))⟩,
  ⟨(.some 27), .none, (.len (.t 26))⟩,
  ⟨(.some 28), .none, (.mov (.c (.d (.int .i64 0))))⟩]
abbrev c_poundagelaw06_TreeRows_r7 : List AO := [⟨(.some 29), .none, (.bin .lss (.t 28) (.t 27))⟩]
abbrev c_poundagelaw06_TreeRows_r8 : List AO := [⟨(.some 30), .none, (.mov (.t 28))⟩,
  ⟨(.some 8), .none, (.mov (.t 30))⟩]
abbrev c_poundagelaw06_TreeRows_r9 : List AO := [⟨(.some 31), .none, (.mov (.t 7))⟩,
  ⟨(.some 32), .none, (.mov (.t 31))⟩,
  ⟨(.some 33), (.some ⟨32, .true⟩), (.mov (.t 8))⟩,
  ⟨(.some 34), (.some ⟨32, .true⟩), (.mov (.t 1))⟩,
  ⟨(.some 35), (.some ⟨32, .true⟩), (.len (.t 34))⟩,
  ⟨(.some 36), (.some ⟨32, .true⟩), (.bin .lss (.t 33) (.t 35))⟩,
  ⟨(.some 37), .none, (.pick (.t 32) (.t 36) (.c (.d (.bool .false))))⟩,
  ⟨(.some 38), .none, (.mov (.t 37))⟩,
  ⟨(.some 39), (.some ⟨38, .true⟩), (.mov (.t 1))⟩,
  ⟨(.some 40), (.some ⟨38, .true⟩), (.mov (.t 8))⟩,
  ⟨(.some 41), (.some ⟨38, .true⟩), (.elemAddr 1 (.t 39) (.t 40))⟩,
  ⟨(.some 43), (.some ⟨38, .true⟩), (.mov (.t 0))⟩,
  ⟨(.some 44), (.some ⟨38, .true⟩), (.mov (.t 8))⟩,
  ⟨(.some 45), (.some ⟨38, .true⟩), (.elemAddr 1 (.t 43) (.t 44))⟩,
  ⟨(.some 42), (.some ⟨38, .true⟩), (.load .none (.t 41))⟩,
  ⟨(.some 46), (.some ⟨38, .true⟩), (.load .none (.t 45))⟩,
  ⟨(.some 47), (.some ⟨38, .true⟩), (.call 12 [(.t 42), (.t 46)])⟩,
  ⟨(.some 48), .none, (.pick (.t 38) (.t 47) (.c (.d (.bool .false))))⟩,
  ⟨(.some 7), .none, (.mov (.t 48))⟩]
abbrev c_poundagelaw06_TreeRows_r10 : List AO := [⟨(.some 49), .none, (.bin .add (.t 28) (.c (.d (.int .i64 1))))⟩,
  ⟨(.some 28), .none, (.mov (.t 49))⟩]
abbrev c_poundagelaw06_TreeRows_l0 : ACode := (.seq (.ops c_poundagelaw06_TreeRows_r7) (.seq (.cond (.t 29) .skip (.exit 0)) (.seq (.block 1 (.seq (.ops c_poundagelaw06_TreeRows_r8) (.dops c_poundagelaw06_TreeRows_r9))) (.ops c_poundagelaw06_TreeRows_r10))))
abbrev c_poundagelaw06_TreeRows_r11 : List AO := [⟨(.some 9), .none, (.mov (.c (.d (.int .i64 (-1)))))⟩]
abbrev c_poundagelaw06_TreeRows_r12 : List AO := [⟨(.some 50), .none, (.mov (.t 0))⟩,
  ⟨(.some 51), .none, (.len (.t 50))⟩,
  ⟨(.some 52), .none, (.bin .sub (.t 51) (.c (.d (.int .i64 1))))⟩,
  ⟨(.some 10), .none, (.mov (.t 52))⟩]
abbrev c_poundagelaw06_TreeRows_r13 : List AO := [⟨(.some 53), .none, (.mov (.t 10))⟩,
  ⟨(.some 54), .none, (.bin .geq (.t 53) (.c (.d (.int .i64 0))))⟩]
abbrev c_poundagelaw06_TreeRows_r14 : List AO := [⟨(.some 57), .none, (.mov (.t 0))⟩,
  ⟨(.some 58), .none, (.mov (.t 10))⟩,
  ⟨(.some 59), .none, (.elemAddr 1 (.t 57) (.t 58))⟩,
  ⟨(.some 60), .none, (.load .none (.t 59))⟩,
  ⟨(.some 61), .none, (.load .none (.t 5))⟩,
  ⟨(.some 62), .none, (.call 12 [(.t 60), (.t 61)])⟩]
abbrev c_poundagelaw06_TreeRows_r15 : List AO := [⟨(.some 63), .none, (.mov (.t 10))⟩,
  ⟨(.some 9), .none, (.mov (.t 63))⟩]
abbrev c_poundagelaw06_TreeRows_r16 : List AO := [⟨(.some 55), .none, (.mov (.t 10))⟩,
  ⟨(.some 56), .none, (.bin .sub (.t 55) (.c (.d (.int .i64 1))))⟩,
  ⟨(.some 10), .none, (.mov (.t 56))⟩]
abbrev c_poundagelaw06_TreeRows_l1 : ACode := (.seq (.seq (.ops c_poundagelaw06_TreeRows_r13) (.cond (.t 54) .skip (.exit 2))) (.seq (.block 3 (.seq (.dops c_poundagelaw06_TreeRows_r14) (.cond (.t 62) (.ops c_poundagelaw06_TreeRows_r15) .skip))) (.ops c_poundagelaw06_TreeRows_r16)))
abbrev c_poundagelaw06_TreeRows_r17 : List AO := [⟨(.some 64), .none, (.mov (.t 0))⟩,
  ⟨(.some 65), .none, (.mov (.t 1))⟩,
  ⟨(.some 66), .none, (.call 13 [(.t 64), (.t 65), (.c (.fn 14 []))])⟩,
  ⟨(.some 67), .none, (.mov (.t 7))⟩,
  ⟨(.some 68), .none, (.binb .false (.t 66) (.t 67))⟩,
  ⟨(.some 69), .none, (.mov (.t 68))⟩,
  ⟨(.some 70), (.some ⟨69, .true⟩), (.mov (.t 0))⟩,
  ⟨(.some 71), (.some ⟨69, .true⟩), (.mkfn 16 [(.t 5)])⟩,
  ⟨(.some 72), (.some ⟨69, .true⟩), (.call 15 [(.t 70), (.t 71)])⟩,
  ⟨(.some 73), (.some ⟨69, .true⟩), (.mov (.t 9))⟩,
  ⟨(.some 74), (.some ⟨69, .true⟩), (.bin .eql (.t 72) (.t 73))⟩,
  ⟨(.some 75), .none, (.pick (.t 69) (.t 74) (.c (.d (.bool .false))))⟩,
  ⟨(.some 6), .none, (.mov (.t 75))⟩]
abbrev c_poundagelaw06_TreeRows : AFunc := ⟨76, [(.tmp 6)], (.seq (.ops c_poundagelaw06_TreeRows_r0) (.seq (.seq (.ops c_poundagelaw06_TreeRows_r1) (.cond (.t 12) (.seq (.ops c_poundagelaw06_TreeRows_r2) .ret) .skip)) (.seq (.seq (.ops c_poundagelaw06_TreeRows_r3) (.cond (.t 20) (.seq (.ops c_poundagelaw06_TreeRows_r4) .ret) .skip)) (.seq (.ops c_poundagelaw06_TreeRows_r5) (.seq (.seq (.ops c_poundagelaw06_TreeRows_r6) (.block 0 (.loop c_poundagelaw06_TreeRows_l0))) (.seq (.ops c_poundagelaw06_TreeRows_r11) (.seq (.seq (.ops c_poundagelaw06_TreeRows_r12) (.block 2 (.loop c_poundagelaw06_TreeRows_l1))) (.seq (.ops c_poundagelaw06_TreeRows_r17) .ret))))))))⟩
theorem comp_poundagelaw06_TreeRows : funcC Try.prog 4 = some c_poundagelaw06_TreeRows := by kernel_rfl
abbrev f_poundagelaw06_alive : FuncId := 8
abbrev c_poundagelaw06_alive_r0 : List AO := [⟨(.some 0), .none, (.mov (.c (.d (.bool .false))))⟩]
abbrev c_poundagelaw06_alive_r1 : List AO := [⟨(.some 4), .none, (.build [(.d (.str ⟨⟨[]⟩⟩)), (.d (.str ⟨⟨[]⟩⟩)), (.d (.int .i64 0)), (.d (.int .i64 0)), (.d (.int .i64 0))] [⟨0, ⟨1, (.c (.d (.str ⟨⟨[98]⟩⟩)))⟩⟩])⟩,
  ⟨(.some 5), .none, (.build [(.d (.str ⟨⟨[]⟩⟩)), (.d (.str ⟨⟨[]⟩⟩)), (.d (.int .i64 0)), (.d (.int .i64 0)), (.d (.int .i64 0))] [⟨0, ⟨1, (.c (.d (.str ⟨⟨[97]⟩⟩)))⟩⟩])⟩,
  ⟨(.some 6), .none, (.buildSlice 34 5 2 [(.d (.str ⟨⟨[]⟩⟩)), (.d (.str ⟨⟨[]⟩⟩)), (.d (.int .i64 0)), (.d (.int .i64 0)), (.d (.int .i64 0))] [⟨0, (.t 4)⟩, ⟨1, (.t 5)⟩])⟩,
  ⟨(.some 7), .none, (.build [(.d (.str ⟨⟨[]⟩⟩)), (.d (.str ⟨⟨[]⟩⟩)), (.d (.int .i64 0)), (.d (.int .i64 0)), (.d (.int .i64 0)), (.d (.int .i64 0)), (.d (.int .i64 0)), (.d (.int .i64 0)), (.nilsl 5), (.nilsl 10), (.nilsl 16), (.d (.int .i64 0)), (.d (.int .i64 0))] [⟨0, ⟨1, (.c (.d (.str ⟨⟨[112]⟩⟩)))⟩⟩, ⟨8, ⟨1, (.t 6)⟩⟩])⟩,
  ⟨(.some 1), .none, (.alloc 28 [(.d (.str ⟨⟨[]⟩⟩)), (.d (.str ⟨⟨[]⟩⟩)), (.d (.int .i64 0)), (.d (.int .i64 0)), (.d (.int .i64 0)), (.d (.int .i64 0)), (.d (.int .i64 0)), (.d (.int .i64 0)), (.nilsl 5), (.nilsl 10), (.nilsl 16), (.d (.int .i64 0)), (.d (.int .i64 0))])⟩,
  ⟨.none, .none, (.store 13 (.t 1) (.t 7))⟩]
abbrev c_poundagelaw06_alive_r2 : List AO := [⟨(.some 8), .none, (.build [(.d (.str ⟨⟨[]⟩⟩)), (.d (.str ⟨⟨[]⟩⟩)), (.d (.int .i64 0)), (.d (.int .i64 0)), (.d (.int .i64 0))] [⟨0, ⟨1, (.c (.d (.str ⟨⟨[98]⟩⟩)))⟩⟩, ⟨4, ⟨1, (.c (.d (.int .i64 7)))⟩⟩])⟩,
  ⟨(.some 9), .none, (.build [(.d (.str ⟨⟨[]⟩⟩)), (.d (.str ⟨⟨[]⟩⟩)), (.d (.int .i64 0)), (.d (.int .i64 0)), (.d (.int .i64 0))] [⟨0, ⟨1, (.c (.d (.str ⟨⟨[97]⟩⟩)))⟩⟩])⟩,
  ⟨(.some 10), .none, (.buildSlice 34 5 2 [(.d (.str ⟨⟨[]⟩⟩)), (.d (.str ⟨⟨[]⟩⟩)), (.d (.int .i64 0)), (.d (.int .i64 0)), (.d (.int .i64 0))] [⟨0, (.t 8)⟩, ⟨1, (.t 9)⟩])⟩,
  ⟨(.some 11), .none, (.build [(.d (.int .i64 0)), (.d (.bool .false)), (.d (.int .i64 0)), (.d (.int .i64 0)), (.d (.int .i64 0)), (.d (.int .i64 0)), (.d (.int .i64 0)), (.d (.int .i64 0)), (.d (.int .i64 0)), (.d (.int .i64 0))] [⟨0, ⟨1, (.c (.d (.int .i64 5)))⟩⟩])⟩,
  ⟨(.some 12), .none, (.buildSlice 51 10 1 [(.d (.int .i64 0)), (.d (.bool .false)), (.d (.int .i64 0)), (.d (.int .i64 0)), (.d (.int .i64 0)), (.d (.int .i64 0)), (.d (.int .i64 0)), (.d (.int .i64 0)), (.d (.int .i64 0)), (.d (.int .i64 0))] [⟨0, (.t 11)⟩])⟩,
  ⟨(.some 13), .none, (.build [(.d (.str ⟨⟨[]⟩⟩)), (.d (.str ⟨⟨[]⟩⟩)), (.d (.int .i64 0)), (.d (.int .i64 0)), (.d (.int .i64 0)), (.d (.int .i64 0)), (.d (.int .i64 0)), (.d (.int .i64 0)), (.nilsl 5), (.nilsl 10), (.nilsl 16), (.d (.int .i64 0)), (.d (.int .i64 0))] [⟨0, ⟨1, (.c (.d (.str ⟨⟨[112]⟩⟩)))⟩⟩, ⟨11, ⟨1, (.c (.d (.int .i64 3)))⟩⟩, ⟨8, ⟨1, (.t 10)⟩⟩, ⟨9, ⟨1, (.t 12)⟩⟩])⟩,
  ⟨(.some 2), .none, (.alloc 28 [(.d (.str ⟨⟨[]⟩⟩)), (.d (.str ⟨⟨[]⟩⟩)), (.d (.int .i64 0)), (.d (.int .i64 0)), (.d (.int .i64 0)), (.d (.int .i64 0)), (.d (.int .i64 0)), (.d (.int .i64 0)), (.nilsl 5), (.nilsl 10), (.nilsl 16), (.d (.int .i64 0)), (.d (.int .i64 0))])⟩,
  ⟨.none, .none, (.store 13 (.t 2) (.t 13))⟩]
abbrev c_poundagelaw06_alive_r3 : List AO := [⟨(.some 14), .none, (.load (.some 13) (.t 1))⟩,
  ⟨(.some 15), .none, (.call 10 [(.t 14)])⟩,
  ⟨(.some 3), .none, (.mov (.t 15))⟩]
abbrev c_poundagelaw06_alive_r4 : List AO := [⟨(.some 16), .none, (.load (.some 13) (.t 1))⟩,
  ⟨(.some 17), .none, (.load (.some 13) (.t 1))⟩,
  ⟨(.some 18), .none, (.call 19 [(.t 16), (.t 17)])⟩,
  ⟨(.some 19), .none, (.mov (.t 18))⟩,
  ⟨(.some 20), (.some ⟨19, .true⟩), (.load (.some 13) (.t 1))⟩,
  ⟨(.some 21), (.some ⟨19, .true⟩), (.load (.some 13) (.t 2))⟩,
  ⟨(.some 22), (.some ⟨19, .true⟩), (.call 19 [(.t 20), (.t 21)])⟩,
  ⟨(.some 23), (.some ⟨19, .true⟩), (.un .not (.t 22))⟩,
  ⟨(.some 24), .none, (.pick (.t 19) (.t 23) (.c (.d (.bool .false))))⟩,
  ⟨(.some 25), .none, (.mov (.t 24))⟩,
  ⟨(.some 26), (.some ⟨25, .true⟩), (.load (.some 13) (.t 1))⟩,
  ⟨(.some 27), (.some ⟨25, .true⟩), (.call 11 [(.t 26), (.c (.d (.str ⟨⟨[97]⟩⟩)))])⟩,
  ⟨(.some 28), (.some ⟨25, .true⟩), (.bin .eql (.t 27) (.c (.d (.int .i64 1))))⟩,
  ⟨(.some 29), .none, (.pick (.t 25) (.t 28) (.c (.d (.bool .false))))⟩,
  ⟨(.some 30), .none, (.mov (.t 29))⟩,
  ⟨(.some 31), (.some ⟨30, .true⟩), (.mov (.t 3))⟩,
  ⟨(.some 32), (.some ⟨30, .true⟩), (.len (.t 31))⟩,
  ⟨(.some 33), (.some ⟨30, .true⟩), (.bin .eql (.t 32) (.c (.d (.int .i64 2))))⟩,
  ⟨(.some 34), .none, (.pick (.t 30) (.t 33) (.c (.d (.bool .false))))⟩,
  ⟨(.some 35), .none, (.mov (.t 34))⟩,
  ⟨(.some 36), (.some ⟨35, .true⟩), (.mov (.t 3))⟩,
  ⟨(.some 37), (.some ⟨35, .true⟩), (.elemAddr 1 (.t 36) (.c (.d (.int .i64 0))))⟩,
  ⟨(.some 38), (.some ⟨35, .true⟩), (.load .none (.t 37))⟩,
  ⟨(.some 39), (.some ⟨35, .true⟩), (.bin .eql (.t 38) (.c (.d (.str ⟨⟨[97]⟩⟩))))⟩,
  ⟨(.some 40), .none, (.pick (.t 35) (.t 39) (.c (.d (.bool .false))))⟩,
  ⟨(.some 0), .none, (.mov (.t 40))⟩]
abbrev c_poundagelaw06_alive : AFunc := ⟨41, [(.tmp 0)], (.seq (.ops c_poundagelaw06_alive_r0) (.seq (.ops c_poundagelaw06_alive_r1) (.seq (.ops c_poundagelaw06_alive_r2) (.seq (.ops c_poundagelaw06_alive_r3) (.seq (.ops c_poundagelaw06_alive_r4) .ret)))))⟩
theorem comp_poundagelaw06_alive : funcC Try.prog 8 = some c_poundagelaw06_alive := by kernel_rfl
abbrev f_tree_Names : FuncId := 10
abbrev c_tree_Names_r0 : List AO := [⟨(.some 1), .none, (.box 28 (.t 0))⟩,
  ⟨(.some 2), .none, (.mov (.c (.nilsl 0)))⟩]
abbrev c_tree_Names_r1 : List AO := [⟨(.some 3), .none, (.mov (.c (.nilsl 0)))⟩]
abbrev c_tree_Names_r2 : List AO := [⟨(.some 6), .none, (.fieldAddr 8 (.t 1))⟩,
  ⟨(.some 7), .none, (.load .none (.t 6))⟩,
  ⟨(.some 8), .none, (.len (.t 7))⟩,
  ⟨(.some 9), .none, (.mov (.c (.d (.int .i64 0))))⟩]
abbrev c_tree_Names_r3 : List AO := [⟨(.some 10), .none, (.bin .lss (.t 9) (.t 8))⟩]
abbrev c_tree_Names_r4 : List AO := [⟨(.some 11), .none, (.elemAddr 5 (.t 7) (.t 9))⟩,
  ⟨(.some 12), .none, (.load (.some 5) (.t 11))⟩,
  ⟨(.some 5), .none, (.alloc 34 [(.d (.str ⟨⟨[]⟩⟩)), (.d (.str ⟨⟨[]⟩⟩)), (.d (.int .i64 0)), (.d (.int .i64 0)), (.d (.int .i64 0))])⟩,
  ⟨.none, .none, (.store 5 (.t 5) (.t 12))⟩]
abbrev c_tree_Names_r5 : List AO := [⟨(.some 13), .none, (.mov (.t 3))⟩,
  ⟨(.some 14), .none, (.fieldAddr 0 (.t 5))⟩,
  ⟨(.some 15), .none, (.load .none (.t 14))⟩,
  ⟨(.some 16), .none, (.buildSlice 9 1 1 [(.d (.str ⟨⟨[]⟩⟩))] [⟨0, (.t 15)⟩])⟩,
  ⟨(.some 17), .none, (.append 9 1 16 [(.d (.str ⟨⟨[]⟩⟩))] (.t 13) (.t 16))⟩,
  ⟨(.some 3), .none, (.mov (.t 17))⟩]
abbrev c_tree_Names_r6 : List AO := [⟨(.some 18), .none, (.bin .add (.t 9) (.c (.d (.int .i64 1))))⟩,
  ⟨(.some 9), .none, (.mov (.t 18))⟩]
abbrev c_tree_Names_l0 : ACode := (.seq (.ops c_tree_Names_r3) (.seq (.cond (.t 10) .skip (.exit 0)) (.seq (.block 1 (.seq (.ops c_tree_Names_r4) (.ops c_tree_Names_r5))) (.ops c_tree_Names_r6))))
abbrev c_tree_Names_r7 : List AO := [⟨(.some 19), .none, (.mov (.t 3))⟩,
  ⟨(.some 20), .none, (.call 22 [(.t 19)])⟩]
abbrev c_tree_Names_r8 : List AO := [⟨(.some 21), .none, (.mov (.t 3))⟩,
  ⟨(.some 2), .none, (.mov (.t 21))⟩]
abbrev c_tree_Names : AFunc := ⟨22, [(.tmp 2)], (.seq (.ops c_tree_Names_r0) (.seq (.ops c_tree_Names_r1) (.seq (.seq (.ops c_tree_Names_r2) (.block 0 (.loop c_tree_Names_l0))) (.seq (.ops c_tree_Names_r7) (.seq (.ops c_tree_Names_r8) .ret)))))⟩
theorem comp_tree_Names : funcC Try.prog 10 = some c_tree_Names := by kernel_rfl
abbrev f_tree_Meter : FuncId := 11
abbrev c_tree_Meter_r0 : List AO := [⟨(.some 2), .none, (.box 28 (.t 0))⟩,
  ⟨(.some 3), .none, (.box 9 (.t 1))⟩,
  ⟨(.some 4), .none, (.mov (.c (.d (.int .i64 0))))⟩]
abbrev c_tree_Meter_r1 : List AO := [⟨(.some 5), .none, (.fieldAddr 8 (.t 2))⟩,
  ⟨(.some 6), .none, (.load .none (.t 5))⟩,
  ⟨(.some 7), .none, (.mkfn 24 [(.t 3)])⟩,
  ⟨(.some 8), .none, (.call 23 [(.t 6), (.t 7)])⟩,
  ⟨(.some 4), .none, (.mov (.t 8))⟩]
abbrev c_tree_Meter : AFunc := ⟨9, [(.tmp 4)], (.seq (.ops c_tree_Meter_r0) (.seq (.ops c_tree_Meter_r1) .ret))⟩
theorem comp_tree_Meter : funcC Try.prog 11 = some c_tree_Meter := by kernel_rfl
abbrev f_poundagelaw06_above : FuncId := 12
abbrev c_poundagelaw06_above_r0 : List AO := [⟨(.some 4), .none, (.mov (.c (.d (.bool .false))))⟩]
abbrev c_poundagelaw06_above_r1 : List AO := [⟨(.some 5), .none, (.mov (.t 0))⟩,
  ⟨(.some 6), .none, (.mov (.t 1))⟩,
  ⟨(.some 7), .none, (.bin .gtr (.t 5) (.t 6))⟩,
  ⟨(.some 4), .none, (.mov (.t 7))⟩]
abbrev c_poundagelaw06_above : AFunc := ⟨8, [(.tmp 4)], (.seq (.ops c_poundagelaw06_above_r0) (.seq (.ops c_poundagelaw06_above_r1) .ret))⟩
theorem comp_poundagelaw06_above : funcC Try.prog 12 = some c_poundagelaw06_above := by kernel_rfl
abbrev f_tree_Each_int : FuncId := 13
abbrev c_tree_Each_int_r0 : List AO := [⟨(.some 6), .none, (.mov (.c (.d (.bool .false))))⟩]
abbrev c_tree_Each_int_r1 : List AO := [⟨(.some 7), .none, (.mov (.t 0))⟩,
  ⟨(.some 8), .none, (.mov (.t 1))⟩,
  ⟨(.some 9), .none, (.mov (.t 2))⟩,
  ⟨(.some 10), .none, (.call 25 [(.t 7), (.t 8), (.t 9)])⟩,
  ⟨(.some 6), .none, (.mov (.t 10))⟩]
abbrev c_tree_Each_int : AFunc := ⟨11, [(.tmp 6)], (.seq (.ops c_tree_Each_int_r0) (.seq (.ops c_tree_Each_int_r1) .ret))⟩
theorem comp_tree_Each_int : funcC Try.prog 13 = some c_tree_Each_int := by kernel_rfl
abbrev f_poundagelaw06_TreeRows_1 : FuncId := 14
abbrev c_poundagelaw06_TreeRows_1_r0 : List AO := [⟨(.some 4), .none, (.mov (.c (.d (.bool .false))))⟩]
abbrev c_poundagelaw06_TreeRows_1_r1 : List AO := [⟨(.some 5), .none, (.mov (.t 1))⟩,
  ⟨(.some 6), .none, (.mov (.t 0))⟩,
  ⟨(.some 7), .none, (.call 12 [(.t 5), (.t 6)])⟩,
  ⟨(.some 4), .none, (.mov (.t 7))⟩]
abbrev c_poundagelaw06_TreeRows_1 : AFunc := ⟨8, [(.tmp 4)], (.seq (.ops c_poundagelaw06_TreeRows_1_r0) (.seq (.ops c_poundagelaw06_TreeRows_1_r1) .ret))⟩
theorem comp_poundagelaw06_TreeRows_1 : funcC Try.prog 14 = some c_poundagelaw06_TreeRows_1 := by kernel_rfl
abbrev f_tree_Find_int : FuncId := 15
abbrev c_tree_Find_int_r0 : List AO := [⟨(.some 4), .none, (.mov (.c (.d (.int .i64 0))))⟩]
abbrev c_tree_Find_int_r1 : List AO := [⟨(.some 5), .none, (.mov (.t 0))⟩,
  ⟨(.some 6), .none, (.mov (.t 1))⟩,
  ⟨(.some 7), .none, (.call 26 [(.t 5), (.t 6)])⟩,
  ⟨(.some 4), .none, (.mov (.t 7))⟩]
abbrev c_tree_Find_int : AFunc := ⟨8, [(.tmp 4)], (.seq (.ops c_tree_Find_int_r0) (.seq (.ops c_tree_Find_int_r1) .ret))⟩
theorem comp_tree_Find_int : funcC Try.prog 15 = some c_tree_Find_int := by kernel_rfl
abbrev f_poundagelaw06_TreeRows_2 : FuncId := 16
abbrev c_poundagelaw06_TreeRows_2_r0 : List AO := [⟨(.some 3), .none, (.mov (.c (.d (.bool .false))))⟩]
abbrev c_poundagelaw06_TreeRows_2_r1 : List AO := [⟨(.some 4), .none, (.mov (.t 0))⟩,
  ⟨(.some 5), .none, (.load .none (.t 1))⟩,
  ⟨(.some 6), .none, (.call 12 [(.t 4), (.t 5)])⟩,
  ⟨(.some 3), .none, (.mov (.t 6))⟩]
abbrev c_poundagelaw06_TreeRows_2 : AFunc := ⟨7, [(.tmp 3)], (.seq (.ops c_poundagelaw06_TreeRows_2_r0) (.seq (.ops c_poundagelaw06_TreeRows_2_r1) .ret))⟩
theorem comp_poundagelaw06_TreeRows_2 : funcC Try.prog 16 = some c_poundagelaw06_TreeRows_2 := by kernel_rfl
abbrev f_tree_Same : FuncId := 19
abbrev c_tree_Same_r0 : List AO := [⟨(.some 2), .none, (.box 28 (.t 0))⟩,
  ⟨(.some 3), .none, (.box 28 (.t 1))⟩,
  ⟨(.some 4), .none, (.mov (.c (.d (.bool .false))))⟩]
abbrev c_tree_Same_r1 : List AO := [⟨(.some 5), .none, (.fieldAddr 0 (.t 2))⟩,
  ⟨(.some 6), .none, (.load .none (.t 5))⟩,
  ⟨(.some 7), .none, (.fieldAddr 0 (.t 3))⟩,
  ⟨(.some 8), .none, (.load .none (.t 7))⟩,
  ⟨(.some 9), .none, (.bin .eql (.t 6) (.t 8))⟩,
  ⟨(.some 10), .none, (.mov (.t 9))⟩,
  ⟨(.some 11), (.some ⟨10, .true⟩), (.fieldAddr 1 (.t 2))⟩,
  ⟨(.some 12), (.some ⟨10, .true⟩), (.load .none (.t 11))⟩,
  ⟨(.some 13), (.some ⟨10, .true⟩), (.fieldAddr 1 (.t 3))⟩,
  ⟨(.some 14), (.some ⟨10, .true⟩), (.load .none (.t 13))⟩,
  ⟨(.some 15), (.some ⟨10, .true⟩), (.bin .eql (.t 12) (.t 14))⟩,
  ⟨(.some 16), .none, (.pick (.t 10) (.t 15) (.c (.d (.bool .false))))⟩,
  ⟨(.some 17), .none, (.mov (.t 16))⟩,
  ⟨(.some 18), (.some ⟨17, .true⟩), (.fieldAddr 2 (.t 2))⟩,
  ⟨(.some 19), (.some ⟨17, .true⟩), (.load (.some 3) (.t 18))⟩,
  ⟨(.some 20), (.some ⟨17, .true⟩), (.fieldAddr 2 (.t 3))⟩,
  ⟨(.some 21), (.some ⟨17, .true⟩), (.load (.some 3) (.t 20))⟩,
  ⟨(.some 22), (.some ⟨17, .true⟩), (.eqAgg .false [0, 0, 0] (.t 19) (.t 21))⟩,
  ⟨(.some 23), .none, (.pick (.t 17) (.t 22) (.c (.d (.bool .false))))⟩,
  ⟨(.some 24), .none, (.mov (.t 23))⟩,
  ⟨(.some 25), (.some ⟨24, .true⟩), (.fieldAddr 5 (.t 2))⟩,
  ⟨(.some 26), (.some ⟨24, .true⟩), (.load (.some 3) (.t 25))⟩,
  ⟨(.some 27), (.some ⟨24, .true⟩), (.fieldAddr 5 (.t 3))⟩,
  ⟨(.some 28), (.some ⟨24, .true⟩), (.load (.some 3) (.t 27))⟩,
  ⟨(.some 29), (.some ⟨24, .true⟩), (.eqAgg .false [0, 0, 0] (.t 26) (.t 28))⟩,
  ⟨(.some 30), .none, (.pick (.t 24) (.t 29) (.c (.d (.bool .false))))⟩,
  ⟨(.some 31), .none, (.mov (.t 30))⟩,
  ⟨(.some 32), (.some ⟨31, .true⟩), (.fieldAddr 8 (.t 2))⟩,
  ⟨(.some 33), (.some ⟨31, .true⟩), (.load .none (.t 32))⟩,
  ⟨(.some 34), (.some ⟨31, .true⟩), (.fieldAddr 8 (.t 3))⟩,
  ⟨(.some 35), (.some ⟨31, .true⟩), (.load .none (.t 34))⟩,
  ⟨(.some 36), (.some ⟨31, .true⟩), (.call 32 [(.t 33), (.t 35), (.c (.fn 33 []))])⟩,
  ⟨(.some 37), .none, (.pick (.t 31) (.t 36) (.c (.d (.bool .false))))⟩,
  ⟨(.some 38), .none, (.mov (.t 37))⟩,
  ⟨(.some 39), (.some ⟨38, .true⟩), (.fieldAddr 9 (.t 2))⟩,
  ⟨(.some 40), (.some ⟨38, .true⟩), (.load .none (.t 39))⟩,
  ⟨(.some 41), (.some ⟨38, .true⟩), (.fieldAddr 9 (.t 3))⟩,
  ⟨(.some 42), (.some ⟨38, .true⟩), (.load .none (.t 41))⟩,
  ⟨(.some 43), (.some ⟨38, .true⟩), (.call 34 [(.t 40), (.t 42), (.c (.fn 35 []))])⟩,
  ⟨(.some 44), .none, (.pick (.t 38) (.t 43) (.c (.d (.bool .false))))⟩,
  ⟨(.some 45), .none, (.mov (.t 44))⟩,
  ⟨(.some 46), (.some ⟨45, .true⟩), (.fieldAddr 10 (.t 2))⟩,
  ⟨(.some 47), (.some ⟨45, .true⟩), (.load .none (.t 46))⟩,
  ⟨(.some 48), (.some ⟨45, .true⟩), (.fieldAddr 10 (.t 3))⟩,
  ⟨(.some 49), (.some ⟨45, .true⟩), (.load .none (.t 48))⟩,
  ⟨(.some 50), (.some ⟨45, .true⟩), (.call 36 [(.t 47), (.t 49), (.c (.fn 37 []))])⟩,
  ⟨(.some 51), .none, (.pick (.t 45) (.t 50) (.c (.d (.bool .false))))⟩,
  ⟨(.some 4), .none, (.mov (.t 51))⟩]
abbrev c_tree_Same : AFunc := ⟨52, [(.tmp 4)], (.seq (.ops c_tree_Same_r0) (.seq (.ops c_tree_Same_r1) .ret))⟩
theorem comp_tree_Same : funcC Try.prog 19 = some c_tree_Same := by kernel_rfl
abbrev f_slices_Sort_string_string : FuncId := 22
abbrev c_slices_Sort_string_string_r0 : List AO := [⟨(.some 3), .none, (.mov (.t 0))⟩,
  ⟨(.some 4), .none, (.len (.t 3))⟩,
  ⟨(.some 2), .none, (.mov (.t 4))⟩]
abbrev c_slices_Sort_string_string_r1 : List AO := [⟨(.some 5), .none, (.mov (.t 0))⟩,
  ⟨(.some 6), .none, (.mov (.t 2))⟩,
  ⟨(.some 7), .none, (.mov (.t 2))⟩,
  ⟨(.some 8), .none, (.conv .u64 (.t 7))⟩,
  ⟨(.some 9), .none, (.call 41 [(.t 8)])⟩,
  ⟨(.some 10), .none, (.call 40 [(.t 5), (.c (.d (.int .i64 0))), (.t 6), (.t 9)])⟩]
abbrev c_slices_Sort_string_string : AFunc := ⟨11, [], (.seq (.ops c_slices_Sort_string_string_r0) (.ops c_slices_Sort_string_string_r1))⟩
theorem comp_slices_Sort_string_string : funcC Try.prog 22 = some c_slices_Sort_string_string := by kernel_rfl
abbrev f_tree_Find_api_Meter : FuncId := 23
abbrev c_tree_Find_api_Meter_r0 : List AO := [⟨(.some 4), .none, (.mov (.c (.d (.int .i64 0))))⟩]
abbrev c_tree_Find_api_Meter_r1 : List AO := [⟨(.some 5), .none, (.mov (.t 0))⟩,
  ⟨(.some 6), .none, (.mov (.t 1))⟩,
  ⟨(.some 7), .none, (.call 42 [(.t 5), (.t 6)])⟩,
  ⟨(.some 4), .none, (.mov (.t 7))⟩]
abbrev c_tree_Find_api_Meter : AFunc := ⟨8, [(.tmp 4)], (.seq (.ops c_tree_Find_api_Meter_r0) (.seq (.ops c_tree_Find_api_Meter_r1) .ret))⟩
theorem comp_tree_Find_api_Meter : funcC Try.prog 23 = some c_tree_Find_api_Meter := by kernel_rfl
abbrev f_tree_Meter_1 : FuncId := 24
abbrev c_tree_Meter_1_r0 : List AO := [⟨(.some 2), .none, (.box 34 (.t 0))⟩,
  ⟨(.some 3), .none, (.mov (.c (.d (.bool .false))))⟩]
abbrev c_tree_Meter_1_r1 : List AO := [⟨(.some 4), .none, (.fieldAddr 0 (.t 2))⟩,
  ⟨(.some 5), .none, (.load .none (.t 4))⟩,
  ⟨(.some 6), .none, (.load .none (.t 1))⟩,
  ⟨(.some 7), .none, (.bin .eql (.t 5) (.t 6))⟩,
  ⟨(.some 3), .none, (.mov (.t 7))⟩]
abbrev c_tree_Meter_1 : AFunc := ⟨8, [(.tmp 3)], (.seq (.ops c_tree_Meter_1_r0) (.seq (.ops c_tree_Meter_1_r1) .ret))⟩
theorem comp_tree_Meter_1 : funcC Try.prog 24 = some c_tree_Meter_1 := by kernel_rfl
abbrev f_slices_EqualFunc_int_int_int_int : FuncId := 25
abbrev c_slices_EqualFunc_int_int_int_int_r0 : List AO := [⟨(.some 6), .none, (.mov (.c (.d (.bool .false))))⟩]
abbrev c_slices_EqualFunc_int_int_int_int_r1 : List AO := [⟨(.some 10), .none, (.mov (.t 0))⟩,
  ⟨(.some 11), .none, (.len (.t 10))⟩,
  ⟨(.some 12), .none, (.mov (.t 1))⟩,
  ⟨(.some 13), .none, (.len (.t 12))⟩,
  ⟨(.some 14), .none, (.bin .neq (.t 11) (.t 13))⟩]
abbrev c_slices_EqualFunc_int_int_int_int_r2 : List AO := [⟨(.some 6), .none, (.mov (.c (.d (.bool .false))))⟩]
abbrev c_slices_EqualFunc_int_int_int_int_r3 : List AO := [⟨(.some 15), .none, (.mov (.t 0))⟩,
  ⟨(.some 16), .none, (.len (.t 15))⟩,
  ⟨(.some 17), .none, (.mov (.c (.d (.int .i64 0))))⟩]
abbrev c_slices_EqualFunc_int_int_int_int_r4 : List AO := [⟨(.some 18), .none, (.bin .lss (.t 17) (.t 16))⟩]
abbrev c_slices_EqualFunc_int_int_int_int_r5 : List AO := [⟨(.some 19), .none, (.mov (.t 17))⟩,
  ⟨(.some 20), .none, (.elemAddr 1 (.t 15) (.t 17))⟩,
  ⟨(.some 21), .none, (.load .none (.t 20))⟩,
  ⟨(.some 7), .none, (.mov (.t 19))⟩,
  ⟨(.some 8), .none, (.mov (.t 21))⟩]
abbrev c_slices_EqualFunc_int_int_int_int_r6 : List AO := [⟨(.some 22), .none, (.mov (.t 1))⟩,
  ⟨(.some 23), .none, (.mov (.t 7))⟩,
  ⟨(.some 24), .none, (.elemAddr 1 (.t 22) (.t 23))⟩,
  ⟨(.some 25), .none, (.load .none (.t 24))⟩,
  ⟨(.some 9), .none, (.mov (.t 25))⟩]
abbrev c_slices_EqualFunc_int_int_int_int_r7 : List AO := [⟨(.some 26), .none, (.mov (.t 2))⟩,
  ⟨(.some 27), .none, (.mov (.t 8))⟩,
  ⟨(.some 28), .none, (.mov (.t 9))⟩,
  ⟨(.some 29), .none, (.callv (.t 26) [(.t 27), (.t 28)])⟩,
  ⟨(.some 30), .none, (.un .not (.t 29))⟩]
abbrev c_slices_EqualFunc_int_int_int_int_r8 : List AO := [⟨(.some 6), .none, (.mov (.c (.d (.bool .false))))⟩]
abbrev c_slices_EqualFunc_int_int_int_int_r9 : List AO := [⟨(.some 31), .none, (.bin .add (.t 17) (.c (.d (.int .i64 1))))⟩,
  ⟨(.some 17), .none, (.mov (.t 31))⟩]
abbrev c_slices_EqualFunc_int_int_int_int_l0 : ACode := (.seq (.ops c_slices_EqualFunc_int_int_int_int_r4) (.seq (.cond (.t 18) .skip (.exit 0)) (.seq (.block 1 (.seq (.ops c_slices_EqualFunc_int_int_int_int_r5) (.seq (.ops c_slices_EqualFunc_int_int_int_int_r6) (.seq (.ops c_slices_EqualFunc_int_int_int_int_r7) (.cond (.t 30) (.seq (.ops c_slices_EqualFunc_int_int_int_int_r8) .ret) .skip))))) (.ops c_slices_EqualFunc_int_int_int_int_r9))))
abbrev c_slices_EqualFunc_int_int_int_int_r10 : List AO := [⟨(.some 6), .none, (.mov (.c (.d (.bool .true))))⟩]
abbrev c_slices_EqualFunc_int_int_int_int : AFunc := ⟨32, [(.tmp 6)], (.seq (.ops c_slices_EqualFunc_int_int_int_int_r0) (.seq (.seq (.ops c_slices_EqualFunc_int_int_int_int_r1) (.cond (.t 14) (.seq (.ops c_slices_EqualFunc_int_int_int_int_r2) .ret) .skip)) (.seq (.seq (.ops c_slices_EqualFunc_int_int_int_int_r3) (.block 0 (.loop c_slices_EqualFunc_int_int_int_int_l0))) (.seq (.ops c_slices_EqualFunc_int_int_int_int_r10) .ret))))⟩
theorem comp_slices_EqualFunc_int_int_int_int : funcC Try.prog 25 = some c_slices_EqualFunc_int_int_int_int := by kernel_rfl
abbrev f_slices_IndexFunc_int_int : FuncId := 26
abbrev c_slices_IndexFunc_int_int_r0 : List AO := [⟨(.some 4), .none, (.mov (.c (.d (.int .i64 0))))⟩]
abbrev c_slices_IndexFunc_int_int_r1 : List AO := [⟨(.some 6), .none, (.mov (.t 0))⟩,
  ⟨(.some 7), .none, (.len (.t 6))⟩,
  ⟨(.some 8), .none, (.mov (.c (.d (.int .i64 0))))⟩]
abbrev c_slices_IndexFunc_int_int_r2 : List AO := [⟨(.some 9), .none, (.bin .lss (.t 8) (.t 7))⟩]
abbrev c_slices_IndexFunc_int_int_r3 : List AO := [⟨(.some 10), .none, (.mov (.t 8))⟩,
  ⟨(.some 5), .none, (.mov (.t 10))⟩]
abbrev c_slices_IndexFunc_int_int_r4 : List AO := [⟨(.some 11), .none, (.mov (.t 1))⟩,
  ⟨(.some 12), .none, (.mov (.t 0))⟩,
  ⟨(.some 13), .none, (.mov (.t 5))⟩,
  ⟨(.some 14), .none, (.elemAddr 1 (.t 12) (.t 13))⟩,
  ⟨(.some 15), .none, (.load .none (.t 14))⟩,
  ⟨(.some 16), .none, (.callv (.t 11) [(.t 15)])⟩]
abbrev c_slices_IndexFunc_int_int_r5 : List AO := [⟨(.some 17), .none, (.mov (.t 5))⟩,
  ⟨(.some 4), .none, (.mov (.t 17))⟩]
abbrev c_slices_IndexFunc_int_int_r6 : List AO := [⟨(.some 18), .none, (.bin .add (.t 8) (.c (.d (.int .i64 1))))⟩,
  ⟨(.some 8), .none, (.mov (.t 18))⟩]
abbrev c_slices_IndexFunc_int_int_l0 : ACode := (.seq (.ops c_slices_IndexFunc_int_int_r2) (.seq (.cond (.t 9) .skip (.exit 0)) (.seq (.block 1 (.seq (.ops c_slices_IndexFunc_int_int_r3) (.seq (.ops c_slices_IndexFunc_int_int_r4) (.cond (.t 16) (.seq (.ops c_slices_IndexFunc_int_int_r5) .ret) .skip)))) (.ops c_slices_IndexFunc_int_int_r6))))
abbrev c_slices_IndexFunc_int_int_r7 : List AO := [⟨(.some 4), .none, (.mov (.c (.d (.int .i64 (-1)))))⟩]
abbrev c_slices_IndexFunc_int_int : AFunc := ⟨19, [(.tmp 4)], (.seq (.ops c_slices_IndexFunc_int_int_r0) (.seq (.seq (.ops c_slices_IndexFunc_int_int_r1) (.block 0 (.loop c_slices_IndexFunc_int_int_l0))) (.seq (.ops c_slices_IndexFunc_int_int_r7) .ret)))⟩
theorem comp_slices_IndexFunc_int_int : funcC Try.prog 26 = some c_slices_IndexFunc_int_int := by kernel_rfl
abbrev f_tree_Each_api_Meter : FuncId := 32
abbrev c_tree_Each_api_Meter_r0 : List AO := [⟨(.some 6), .none, (.mov (.c (.d (.bool .false))))⟩]
abbrev c_tree_Each_api_Meter_r1 : List AO := [⟨(.some 7), .none, (.mov (.t 0))⟩,
  ⟨(.some 8), .none, (.mov (.t 1))⟩,
  ⟨(.some 9), .none, (.mov (.t 2))⟩,
  ⟨(.some 10), .none, (.call 43 [(.t 7), (.t 8), (.t 9)])⟩,
  ⟨(.some 6), .none, (.mov (.t 10))⟩]
abbrev c_tree_Each_api_Meter : AFunc := ⟨11, [(.tmp 6)], (.seq (.ops c_tree_Each_api_Meter_r0) (.seq (.ops c_tree_Each_api_Meter_r1) .ret))⟩
theorem comp_tree_Each_api_Meter : funcC Try.prog 32 = some c_tree_Each_api_Meter := by kernel_rfl
abbrev f_tree_meter : FuncId := 33
abbrev c_tree_meter_r0 : List AO := [⟨(.some 2), .none, (.box 34 (.t 0))⟩,
  ⟨(.some 3), .none, (.box 34 (.t 1))⟩,
  ⟨(.some 4), .none, (.mov (.c (.d (.bool .false))))⟩]
abbrev c_tree_meter_r1 : List AO := [⟨(.some 5), .none, (.fieldAddr 0 (.t 2))⟩,
  ⟨(.some 6), .none, (.load .none (.t 5))⟩,
  ⟨(.some 7), .none, (.fieldAddr 0 (.t 3))⟩,
  ⟨(.some 8), .none, (.load .none (.t 7))⟩,
  ⟨(.some 9), .none, (.bin .eql (.t 6) (.t 8))⟩,
  ⟨(.some 10), .none, (.mov (.t 9))⟩,
  ⟨(.some 11), (.some ⟨10, .true⟩), (.fieldAddr 1 (.t 2))⟩,
  ⟨(.some 12), (.some ⟨10, .true⟩), (.load .none (.t 11))⟩,
  ⟨(.some 13), (.some ⟨10, .true⟩), (.fieldAddr 1 (.t 3))⟩,
  ⟨(.some 14), (.some ⟨10, .true⟩), (.load .none (.t 13))⟩,
  ⟨(.some 15), (.some ⟨10, .true⟩), (.bin .eql (.t 12) (.t 14))⟩,
  ⟨(.some 16), .none, (.pick (.t 10) (.t 15) (.c (.d (.bool .false))))⟩,
  ⟨(.some 17), .none, (.mov (.t 16))⟩,
  ⟨(.some 18), (.some ⟨17, .true⟩), (.fieldAddr 2 (.t 2))⟩,
  ⟨(.some 19), (.some ⟨17, .true⟩), (.load .none (.t 18))⟩,
  ⟨(.some 20), (.some ⟨17, .true⟩), (.fieldAddr 2 (.t 3))⟩,
  ⟨(.some 21), (.some ⟨17, .true⟩), (.load .none (.t 20))⟩,
  ⟨(.some 22), (.some ⟨17, .true⟩), (.bin .eql (.t 19) (.t 21))⟩,
  ⟨(.some 23), .none, (.pick (.t 17) (.t 22) (.c (.d (.bool .false))))⟩,
  ⟨(.some 4), .none, (.mov (.t 23))⟩]
abbrev c_tree_meter : AFunc := ⟨24, [(.tmp 4)], (.seq (.ops c_tree_meter_r0) (.seq (.ops c_tree_meter_r1) .ret))⟩
theorem comp_tree_meter : funcC Try.prog 33 = some c_tree_meter := by kernel_rfl
abbrev f_tree_Each_api_Fee : FuncId := 34
abbrev c_tree_Each_api_Fee_r0 : List AO := [⟨(.some 6), .none, (.mov (.c (.d (.bool .false))))⟩]
abbrev c_tree_Each_api_Fee_r1 : List AO := [⟨(.some 7), .none, (.mov (.t 0))⟩,
  ⟨(.some 8), .none, (.mov (.t 1))⟩,
  ⟨(.some 9), .none, (.mov (.t 2))⟩,
  ⟨(.some 10), .none, (.call 44 [(.t 7), (.t 8), (.t 9)])⟩,
  ⟨(.some 6), .none, (.mov (.t 10))⟩]
abbrev c_tree_Each_api_Fee : AFunc := ⟨11, [(.tmp 6)], (.seq (.ops c_tree_Each_api_Fee_r0) (.seq (.ops c_tree_Each_api_Fee_r1) .ret))⟩
theorem comp_tree_Each_api_Fee : funcC Try.prog 34 = some c_tree_Each_api_Fee := by kernel_rfl
abbrev f_tree_fee : FuncId := 35
abbrev f_tree_Each_api_Charge : FuncId := 36
abbrev c_tree_Each_api_Charge_r0 : List AO := [⟨(.some 6), .none, (.mov (.c (.d (.bool .false))))⟩]
abbrev c_tree_Each_api_Charge_r1 : List AO := [⟨(.some 7), .none, (.mov (.t 0))⟩,
  ⟨(.some 8), .none, (.mov (.t 1))⟩,
  ⟨(.some 9), .none, (.mov (.t 2))⟩,
  ⟨(.some 10), .none, (.call 45 [(.t 7), (.t 8), (.t 9)])⟩,
  ⟨(.some 6), .none, (.mov (.t 10))⟩]
abbrev c_tree_Each_api_Charge : AFunc := ⟨11, [(.tmp 6)], (.seq (.ops c_tree_Each_api_Charge_r0) (.seq (.ops c_tree_Each_api_Charge_r1) .ret))⟩
theorem comp_tree_Each_api_Charge : funcC Try.prog 36 = some c_tree_Each_api_Charge := by kernel_rfl
abbrev f_tree_charge : FuncId := 37
abbrev f_slices_pdqsortOrdered_string : FuncId := 40
abbrev c_slices_pdqsortOrdered_string_r0 : List AO := [⟨(.some 8), .none, (.mov (.c (.d (.bool .true))))⟩]
abbrev c_slices_pdqsortOrdered_string_r1 : List AO := [⟨(.some 9), .none, (.mov (.c (.d (.bool .true))))⟩]
abbrev c_slices_pdqsortOrdered_string_r2 : List AO := [⟨(.some 19), .none, (.mov (.t 2))⟩,
  ⟨(.some 20), .none, (.mov (.t 1))⟩,
  ⟨(.some 21), .none, (.bin .sub (.t 19) (.t 20))⟩,
  ⟨(.some 10), .none, (.mov (.t 21))⟩]
abbrev c_slices_pdqsortOrdered_string_r3 : List AO := [⟨(.some 22), .none, (.mov (.t 10))⟩,
  ⟨(.some 23), .none, (.bin .leq (.t 22) (.c (.d (.int .i64 12))))⟩]
abbrev c_slices_pdqsortOrdered_string_r4 : List AO := [⟨(.some 24), .none, (.mov (.t 0))⟩,
  ⟨(.some 25), .none, (.mov (.t 1))⟩,
  ⟨(.some 26), .none, (.mov (.t 2))⟩,
  ⟨(.some 27), .none, (.call 50 [(.t 24), (.t 25), (.t 26)])⟩]
abbrev c_slices_pdqsortOrdered_string_r5 : List AO := [⟨(.some 28), .none, (.mov (.t 3))⟩,
  ⟨(.some 29), .none, (.bin .eql (.t 28) (.c (.d (.int .i64 0))))⟩]
abbrev c_slices_pdqsortOrdered_string_r6 : List AO := [⟨(.some 30), .none, (.mov (.t 0))⟩,
  ⟨(.some 31), .none, (.mov (.t 1))⟩,
  ⟨(.some 32), .none, (.mov (.t 2))⟩,
  ⟨(.some 33), .none, (.call 51 [(.t 30), (.t 31), (.t 32)])⟩]
abbrev c_slices_pdqsortOrdered_string_r7 : List AO := [⟨(.some 34), .none, (.mov (.t 8))⟩,
  ⟨(.some 35), .none, (.un .not (.t 34))⟩]
abbrev c_slices_pdqsortOrdered_string_r8 : List AO := [⟨(.some 36), .none, (.mov (.t 0))⟩,
  ⟨(.some 37), .none, (.mov (.t 1))⟩,
  ⟨(.some 38), .none, (.mov (.t 2))⟩,
  ⟨(.some 39), .none, (.call 52 [(.t 36), (.t 37), (.t 38)])⟩]
abbrev c_slices_pdqsortOrdered_string_r9 : List AO := [⟨(.some 40), .none, (.mov (.t 3))⟩,
  ⟨(.some 41), .none, (.bin .sub (.t 40) (.c (.d (.int .i64 1))))⟩,
  ⟨(.some 3), .none, (.mov (.t 41))⟩]
abbrev c_slices_pdqsortOrdered_string_r10 : List AO := [⟨(.some 43), .none, (.mov (.t 0))⟩,
  ⟨(.some 44), .none, (.mov (.t 1))⟩,
  ⟨(.some 45), .none, (.mov (.t 2))⟩,
  ⟨(.some 46), .none, (.call 53 [(.t 43), (.t 44), (.t 45)])⟩,
  ⟨(.some 42), .none, (.mov (.t 46))⟩,
  ⟨(.some 47), .none, (.extract (.t 42) 0)⟩,
  ⟨(.some 48), .none, (.extract (.t 42) 1)⟩,
  ⟨(.some 11), .none, (.mov (.t 47))⟩,
  ⟨(.some 12), .none, (.mov (.t 48))⟩]
abbrev c_slices_pdqsortOrdered_string_r11 : List AO := [⟨(.some 49), .none, (.mov (.t 12))⟩,
  ⟨(.some 50), .none, (.bin .eql (.t 49) (.c (.d (.int .i64 2))))⟩]
abbrev c_slices_pdqsortOrdered_string_r12 : List AO := [⟨(.some 51), .none, (.mov (.t 0))⟩,
  ⟨(.some 52), .none, (.mov (.t 1))⟩,
  ⟨(.some 53), .none, (.mov (.t 2))⟩,
  ⟨(.some 54), .none, (.call 54 [(.t 51), (.t 52), (.t 53)])⟩]
abbrev c_slices_pdqsortOrdered_string_r13 : List AO := [⟨(.some 55), .none, (.mov (.t 2))⟩,
  ⟨(.some 56), .none, (.bin .sub (.t 55) (.c (.d (.int .i64 1))))⟩,
  ⟨(.some 57), .none, (.mov (.t 11))⟩,
  ⟨(.some 58), .none, (.mov (.t 1))⟩,
  ⟨(.some 59), .none, (.bin .sub (.t 57) (.t 58))⟩,
  ⟨(.some 60), .none, (.bin .sub (.t 56) (.t 59))⟩,
  ⟨(.some 11), .none, (.mov (.t 60))⟩]
abbrev c_slices_pdqsortOrdered_string_r14 : List AO := [⟨(.some 12), .none, (.mov (.c (.d (.int .i64 1))))⟩]
abbrev c_slices_pdqsortOrdered_string_r15 : List AO := [⟨(.some 61), .none, (.mov (.t 8))⟩,
  ⟨(.some 62), .none, (.mov (.t 61))⟩,
  ⟨(.some 63), (.some ⟨62, .true⟩), (.mov (.t 9))⟩,
  ⟨(.some 64), .none, (.pick (.t 62) (.t 63) (.c (.d (.bool .false))))⟩,
  ⟨(.some 65), .none, (.mov (.t 64))⟩,
  ⟨(.some 66), (.some ⟨65, .true⟩), (.mov (.t 12))⟩,
  ⟨(.some 67), (.some ⟨65, .true⟩), (.bin .eql (.t 66) (.c (.d (.int .i64 1))))⟩,
  ⟨(.some 68), .none, (.pick (.t 65) (.t 67) (.c (.d (.bool .false))))⟩]
abbrev c_slices_pdqsortOrdered_string_r16 : List AO := [⟨(.some 69), .none, (.mov (.t 0))⟩,
  ⟨(.some 70), .none, (.mov (.t 1))⟩,
  ⟨(.some 71), .none, (.mov (.t 2))⟩,
  ⟨(.some 72), .none, (.call 55 [(.t 69), (.t 70), (.t 71)])⟩]
abbrev c_slices_pdqsortOrdered_string_r17 : List AO := [⟨(.some 73), .none, (.mov (.t 1))⟩,
  ⟨(.some 74), .none, (.bin .gtr (.t 73) (.c (.d (.int .i64 0))))⟩,
  ⟨(.some 75), .none, (.mov (.t 74))⟩,
  ⟨(.some 76), (.some ⟨75, .true⟩), (.mov (.t 0))⟩,
  ⟨(.some 77), (.some ⟨75, .true⟩), (.mov (.t 1))⟩,
  ⟨(.some 78), (.some ⟨75, .true⟩), (.bin .sub (.t 77) (.c (.d (.int .i64 1))))⟩,
  ⟨(.some 79), (.some ⟨75, .true⟩), (.elemAddr 1 (.t 76) (.t 78))⟩,
  ⟨(.some 81), (.some ⟨75, .true⟩), (.mov (.t 0))⟩,
  ⟨(.some 82), (.some ⟨75, .true⟩), (.mov (.t 11))⟩,
  ⟨(.some 83), (.some ⟨75, .true⟩), (.elemAddr 1 (.t 81) (.t 82))⟩,
  ⟨(.some 80), (.some ⟨75, .true⟩), (.load .none (.t 79))⟩,
  ⟨(.some 84), (.some ⟨75, .true⟩), (.load .none (.t 83))⟩,
  ⟨(.some 85), (.some ⟨75, .true⟩), (.call 56 [(.t 80), (.t 84)])⟩,
  ⟨(.some 86), (.some ⟨75, .true⟩), (.un .not (.t 85))⟩,
  ⟨(.some 87), .none, (.pick (.t 75) (.t 86) (.c (.d (.bool .false))))⟩]
abbrev c_slices_pdqsortOrdered_string_r18 : List AO := [⟨(.some 88), .none, (.mov (.t 0))⟩,
  ⟨(.some 89), .none, (.mov (.t 1))⟩,
  ⟨(.some 90), .none, (.mov (.t 2))⟩,
  ⟨(.some 91), .none, (.mov (.t 11))⟩,
  ⟨(.some 92), .none, (.call 57 [(.t 88), (.t 89), (.t 90), (.t 91)])⟩,
  ⟨(.some 13), .none, (.mov (.t 92))⟩]
abbrev c_slices_pdqsortOrdered_string_r19 : List AO := [⟨(.some 93), .none, (.mov (.t 13))⟩,
  ⟨(.some 1), .none, (.mov (.t 93))⟩]
abbrev c_slices_pdqsortOrdered_string_r20 : List AO := [⟨(.some 95), .none, (.mov (.t 0))⟩,
  ⟨(.some 96), .none, (.mov (.t 1))⟩,
  ⟨(.some 97), .none, (.mov (.t 2))⟩,
  ⟨(.some 98), .none, (.mov (.t 11))⟩,
  ⟨(.some 99), .none, (.call 58 [(.t 95), (.t 96), (.t 97), (.t 98)])⟩,
  ⟨(.some 94), .none, (.mov (.t 99))⟩,
  ⟨(.some 100), .none, (.extract (.t 94) 0)⟩,
  ⟨(.some 101), .none, (.extract (.t 94) 1)⟩,
  ⟨(.some 14), .none, (.mov (.t 100))⟩,
  ⟨(.some 15), .none, (.mov (.t 101))⟩]
abbrev c_slices_pdqsortOrdered_string_r21 : List AO := [⟨(.some 102), .none, (.mov (.t 15))⟩,
  ⟨(.some 9), .none, (.mov (.t 102))⟩]
abbrev c_slices_pdqsortOrdered_string_r22 : List AO := [⟨(.some 103), .none, (.mov (.t 14))⟩,
  ⟨(.some 104), .none, (.mov (.t 1))⟩,
  ⟨(.some 105), .none, (.bin .sub (.t 103) (.t 104))⟩,
  ⟨(.some 106), .none, (.mov (.t 2))⟩,
  ⟨(.some 107), .none, (.mov (.t 14))⟩,
  ⟨(.some 108), .none, (.bin .sub (.t 106) (.t 107))⟩,
  ⟨(.some 16), .none, (.mov (.t 105))⟩,
  ⟨(.some 17), .none, (.mov (.t 108))⟩]
abbrev c_slices_pdqsortOrdered_string_r23 : List AO := [⟨(.some 109), .none, (.mov (.t 10))⟩,
  ⟨(.some 110), .none, (.bin .quo (.t 109) (.c (.d (.int .i64 8))))⟩,
  ⟨(.some 18), .none, (.mov (.t 110))⟩]
abbrev c_slices_pdqsortOrdered_string_r24 : List AO := [⟨(.some 111), .none, (.mov (.t 16))⟩,
  ⟨(.some 112), .none, (.mov (.t 17))⟩,
  ⟨(.some 113), .none, (.bin .lss (.t 111) (.t 112))⟩]
abbrev c_slices_pdqsortOrdered_string_r25 : List AO := [⟨(.some 114), .none, (.mov (.t 16))⟩,
  ⟨(.some 115), .none, (.mov (.t 18))⟩,
  ⟨(.some 116), .none, (.bin .geq (.t 114) (.t 115))⟩,
  ⟨(.some 8), .none, (.mov (.t 116))⟩]
abbrev c_slices_pdqsortOrdered_string_r26 : List AO := [⟨(.some 117), .none, (.mov (.t 0))⟩,
  ⟨(.some 118), .none, (.mov (.t 1))⟩,
  ⟨(.some 119), .none, (.mov (.t 14))⟩,
  ⟨(.some 120), .none, (.mov (.t 3))⟩,
  ⟨(.some 121), .none, (.call 40 [(.t 117), (.t 118), (.t 119), (.t 120)])⟩]
abbrev c_slices_pdqsortOrdered_string_r27 : List AO := [⟨(.some 122), .none, (.mov (.t 14))⟩,
  ⟨(.some 123), .none, (.bin .add (.t 122) (.c (.d (.int .i64 1))))⟩,
  ⟨(.some 1), .none, (.mov (.t 123))⟩]
abbrev c_slices_pdqsortOrdered_string_r28 : List AO := [⟨(.some 124), .none, (.mov (.t 17))⟩,
  ⟨(.some 125), .none, (.mov (.t 18))⟩,
  ⟨(.some 126), .none, (.bin .geq (.t 124) (.t 125))⟩,
  ⟨(.some 8), .none, (.mov (.t 126))⟩]
abbrev c_slices_pdqsortOrdered_string_r29 : List AO := [⟨(.some 127), .none, (.mov (.t 0))⟩,
  ⟨(.some 128), .none, (.mov (.t 14))⟩,
  ⟨(.some 129), .none, (.bin .add (.t 128) (.c (.d (.int .i64 1))))⟩,
  ⟨(.some 130), .none, (.mov (.t 2))⟩,
  ⟨(.some 131), .none, (.mov (.t 3))⟩,
  ⟨(.some 132), .none, (.call 40 [(.t 127), (.t 129), (.t 130), (.t 131)])⟩]
abbrev c_slices_pdqsortOrdered_string_r30 : List AO := [⟨(.some 133), .none, (.mov (.t 14))⟩,
  ⟨(.some 2), .none, (.mov (.t 133))⟩]
abbrev c_slices_pdqsortOrdered_string_l0 : ACode := (.block 1 (.seq (.ops c_slices_pdqsortOrdered_string_r2) (.seq (.seq (.ops c_slices_pdqsortOrdered_string_r3) (.cond (.t 23) (.seq (.ops c_slices_pdqsortOrdered_string_r4) .ret) .skip)) (.seq (.seq (.ops c_slices_pdqsortOrdered_string_r5) (.cond (.t 29) (.seq (.ops c_slices_pdqsortOrdered_string_r6) .ret) .skip)) (.seq (.seq (.ops c_slices_pdqsortOrdered_string_r7) (.cond (.t 35) (.seq (.ops c_slices_pdqsortOrdered_string_r8) (.ops c_slices_pdqsortOrdered_string_r9)) .skip)) (.seq (.ops c_slices_pdqsortOrdered_string_r10) (.seq (.seq (.ops c_slices_pdqsortOrdered_string_r11) (.cond (.t 50) (.seq (.ops c_slices_pdqsortOrdered_string_r12) (.seq (.ops c_slices_pdqsortOrdered_string_r13) (.ops c_slices_pdqsortOrdered_string_r14))) .skip)) (.seq (.seq (.ops c_slices_pdqsortOrdered_string_r15) (.cond (.t 68) (.seq (.ops c_slices_pdqsortOrdered_string_r16) (.cond (.t 72) .ret .skip)) .skip)) (.seq (.seq (.dops c_slices_pdqsortOrdered_string_r17) (.cond (.t 87) (.seq (.ops c_slices_pdqsortOrdered_string_r18) (.seq (.ops c_slices_pdqsortOrdered_string_r19) (.exit 1))) .skip)) (.seq (.ops c_slices_pdqsortOrdered_string_r20) (.seq (.ops c_slices_pdqsortOrdered_string_r21) (.seq (.ops c_slices_pdqsortOrdered_string_r22) (.seq (.ops c_slices_pdqsortOrdered_string_r23) (.seq (.ops c_slices_pdqsortOrdered_string_r24) (.cond (.t 113) (.seq (.ops c_slices_pdqsortOrdered_string_r25) (.seq (.ops c_slices_pdqsortOrdered_string_r26) (.ops c_slices_pdqsortOrdered_string_r27))) (.seq (.ops c_slices_pdqsortOrdered_string_r28) (.seq (.ops c_slices_pdqsortOrdered_string_r29) (.ops c_slices_pdqsortOrdered_string_r30))))))))))))))))))
abbrev c_slices_pdqsortOrdered_string : AFunc := ⟨134, [], (.seq (.ops c_slices_pdqsortOrdered_string_r0) (.seq (.ops c_slices_pdqsortOrdered_string_r1) (.block 0 (.loop c_slices_pdqsortOrdered_string_l0))))⟩
theorem comp_slices_pdqsortOrdered_string : funcC Try.prog 40 = some c_slices_pdqsortOrdered_string := by kernel_rfl
abbrev f_bits_Len : FuncId := 41
abbrev c_bits_Len_r0 : List AO := [⟨(.some 2), .none, (.mov (.c (.d (.int .i64 0))))⟩]
abbrev c_bits_Len_r1 : List AO := [⟨(.some 3), .none, (.mov (.t 0))⟩,
  ⟨(.some 4), .none, (.conv .u32 (.t 3))⟩,
  ⟨(.some 5), .none, (.call 59 [(.t 4)])⟩,
  ⟨(.some 2), .none, (.mov (.t 5))⟩]
abbrev c_bits_Len_r2 : List AO := [⟨(.some 6), .none, (.mov (.t 0))⟩,
  ⟨(.some 7), .none, (.call 60 [(.t 6)])⟩,
  ⟨(.some 2), .none, (.mov (.t 7))⟩]
abbrev c_bits_Len : AFunc := ⟨8, [(.tmp 2)], (.seq (.ops c_bits_Len_r0) (.seq (.cond (.c (.d (.bool .false))) (.seq (.ops c_bits_Len_r1) .ret) .skip) (.seq (.ops c_bits_Len_r2) .ret)))⟩
theorem comp_bits_Len : funcC Try.prog 41 = some c_bits_Len := by kernel_rfl
abbrev f_slices_IndexFunc_api_Meter : FuncId := 42
abbrev c_slices_IndexFunc_api_Meter_r0 : List AO := [⟨(.some 4), .none, (.mov (.c (.d (.int .i64 0))))⟩]
abbrev c_slices_IndexFunc_api_Meter_r1 : List AO := [⟨(.some 6), .none, (.mov (.t 0))⟩,
  ⟨(.some 7), .none, (.len (.t 6))⟩,
  ⟨(.some 8), .none, (.mov (.c (.d (.int .i64 0))))⟩]
abbrev c_slices_IndexFunc_api_Meter_r2 : List AO := [⟨(.some 9), .none, (.bin .lss (.t 8) (.t 7))⟩]
abbrev c_slices_IndexFunc_api_Meter_r3 : List AO := [⟨(.some 10), .none, (.mov (.t 8))⟩,
  ⟨(.some 5), .none, (.mov (.t 10))⟩]
abbrev c_slices_IndexFunc_api_Meter_r4 : List AO := [⟨(.some 11), .none, (.mov (.t 1))⟩,
  ⟨(.some 12), .none, (.mov (.t 0))⟩,
  ⟨(.some 13), .none, (.mov (.t 5))⟩,
  ⟨(.some 14), .none, (.elemAddr 5 (.t 12) (.t 13))⟩,
  ⟨(.some 15), .none, (.load (.some 5) (.t 14))⟩,
  ⟨(.some 16), .none, (.callv (.t 11) [(.t 15)])⟩]
abbrev c_slices_IndexFunc_api_Meter_r5 : List AO := [⟨(.some 17), .none, (.mov (.t 5))⟩,
  ⟨(.some 4), .none, (.mov (.t 17))⟩]
abbrev c_slices_IndexFunc_api_Meter_r6 : List AO := [⟨(.some 18), .none, (.bin .add (.t 8) (.c (.d (.int .i64 1))))⟩,
  ⟨(.some 8), .none, (.mov (.t 18))⟩]
abbrev c_slices_IndexFunc_api_Meter_l0 : ACode := (.seq (.ops c_slices_IndexFunc_api_Meter_r2) (.seq (.cond (.t 9) .skip (.exit 0)) (.seq (.block 1 (.seq (.ops c_slices_IndexFunc_api_Meter_r3) (.seq (.ops c_slices_IndexFunc_api_Meter_r4) (.cond (.t 16) (.seq (.ops c_slices_IndexFunc_api_Meter_r5) .ret) .skip)))) (.ops c_slices_IndexFunc_api_Meter_r6))))
abbrev c_slices_IndexFunc_api_Meter_r7 : List AO := [⟨(.some 4), .none, (.mov (.c (.d (.int .i64 (-1)))))⟩]
abbrev c_slices_IndexFunc_api_Meter : AFunc := ⟨19, [(.tmp 4)], (.seq (.ops c_slices_IndexFunc_api_Meter_r0) (.seq (.seq (.ops c_slices_IndexFunc_api_Meter_r1) (.block 0 (.loop c_slices_IndexFunc_api_Meter_l0))) (.seq (.ops c_slices_IndexFunc_api_Meter_r7) .ret)))⟩
theorem comp_slices_IndexFunc_api_Meter : funcC Try.prog 42 = some c_slices_IndexFunc_api_Meter := by kernel_rfl
abbrev f_slices_EqualFunc_api_Meter : FuncId := 43
abbrev c_slices_EqualFunc_api_Meter_r0 : List AO := [⟨(.some 6), .none, (.mov (.c (.d (.bool .false))))⟩]
abbrev c_slices_EqualFunc_api_Meter_r1 : List AO := [⟨(.some 10), .none, (.mov (.t 0))⟩,
  ⟨(.some 11), .none, (.len (.t 10))⟩,
  ⟨(.some 12), .none, (.mov (.t 1))⟩,
  ⟨(.some 13), .none, (.len (.t 12))⟩,
  ⟨(.some 14), .none, (.bin .neq (.t 11) (.t 13))⟩]
abbrev c_slices_EqualFunc_api_Meter_r2 : List AO := [⟨(.some 6), .none, (.mov (.c (.d (.bool .false))))⟩]
abbrev c_slices_EqualFunc_api_Meter_r3 : List AO := [⟨(.some 15), .none, (.mov (.t 0))⟩,
  ⟨(.some 16), .none, (.len (.t 15))⟩,
  ⟨(.some 17), .none, (.mov (.c (.d (.int .i64 0))))⟩]
abbrev c_slices_EqualFunc_api_Meter_r4 : List AO := [⟨(.some 18), .none, (.bin .lss (.t 17) (.t 16))⟩]
abbrev c_slices_EqualFunc_api_Meter_r5 : List AO := [⟨(.some 19), .none, (.mov (.t 17))⟩,
  ⟨(.some 20), .none, (.elemAddr 5 (.t 15) (.t 17))⟩,
  ⟨(.some 21), .none, (.load (.some 5) (.t 20))⟩,
  ⟨(.some 8), .none, (.alloc 34 [(.d (.str ⟨⟨[]⟩⟩)), (.d (.str ⟨⟨[]⟩⟩)), (.d (.int .i64 0)), (.d (.int .i64 0)), (.d (.int .i64 0))])⟩,
  ⟨(.some 7), .none, (.mov (.t 19))⟩,
  ⟨.none, .none, (.store 5 (.t 8) (.t 21))⟩]
abbrev c_slices_EqualFunc_api_Meter_r6 : List AO := [⟨(.some 22), .none, (.mov (.t 1))⟩,
  ⟨(.some 23), .none, (.mov (.t 7))⟩,
  ⟨(.some 24), .none, (.elemAddr 5 (.t 22) (.t 23))⟩,
  ⟨(.some 25), .none, (.load (.some 5) (.t 24))⟩,
  ⟨(.some 9), .none, (.alloc 34 [(.d (.str ⟨⟨[]⟩⟩)), (.d (.str ⟨⟨[]⟩⟩)), (.d (.int .i64 0)), (.d (.int .i64 0)), (.d (.int .i64 0))])⟩,
  ⟨.none, .none, (.store 5 (.t 9) (.t 25))⟩]
abbrev c_slices_EqualFunc_api_Meter_r7 : List AO := [⟨(.some 26), .none, (.mov (.t 2))⟩,
  ⟨(.some 27), .none, (.load (.some 5) (.t 8))⟩,
  ⟨(.some 28), .none, (.load (.some 5) (.t 9))⟩,
  ⟨(.some 29), .none, (.callv (.t 26) [(.t 27), (.t 28)])⟩,
  ⟨(.some 30), .none, (.un .not (.t 29))⟩]
abbrev c_slices_EqualFunc_api_Meter_r8 : List AO := [⟨(.some 6), .none, (.mov (.c (.d (.bool .false))))⟩]
abbrev c_slices_EqualFunc_api_Meter_r9 : List AO := [⟨(.some 31), .none, (.bin .add (.t 17) (.c (.d (.int .i64 1))))⟩,
  ⟨(.some 17), .none, (.mov (.t 31))⟩]
abbrev c_slices_EqualFunc_api_Meter_l0 : ACode := (.seq (.ops c_slices_EqualFunc_api_Meter_r4) (.seq (.cond (.t 18) .skip (.exit 0)) (.seq (.block 1 (.seq (.ops c_slices_EqualFunc_api_Meter_r5) (.seq (.ops c_slices_EqualFunc_api_Meter_r6) (.seq (.ops c_slices_EqualFunc_api_Meter_r7) (.cond (.t 30) (.seq (.ops c_slices_EqualFunc_api_Meter_r8) .ret) .skip))))) (.ops c_slices_EqualFunc_api_Meter_r9))))
abbrev c_slices_EqualFunc_api_Meter_r10 : List AO := [⟨(.some 6), .none, (.mov (.c (.d (.bool .true))))⟩]
abbrev c_slices_EqualFunc_api_Meter : AFunc := ⟨32, [(.tmp 6)], (.seq (.ops c_slices_EqualFunc_api_Meter_r0) (.seq (.seq (.ops c_slices_EqualFunc_api_Meter_r1) (.cond (.t 14) (.seq (.ops c_slices_EqualFunc_api_Meter_r2) .ret) .skip)) (.seq (.seq (.ops c_slices_EqualFunc_api_Meter_r3) (.block 0 (.loop c_slices_EqualFunc_api_Meter_l0))) (.seq (.ops c_slices_EqualFunc_api_Meter_r10) .ret))))⟩
theorem comp_slices_EqualFunc_api_Meter : funcC Try.prog 43 = some c_slices_EqualFunc_api_Meter := by kernel_rfl
abbrev f_slices_EqualFunc_api_Fee : FuncId := 44
abbrev c_slices_EqualFunc_api_Fee_r0 : List AO := [⟨(.some 6), .none, (.mov (.c (.d (.bool .false))))⟩]
abbrev c_slices_EqualFunc_api_Fee_r1 : List AO := [⟨(.some 10), .none, (.mov (.t 0))⟩,
  ⟨(.some 11), .none, (.len (.t 10))⟩,
  ⟨(.some 12), .none, (.mov (.t 1))⟩,
  ⟨(.some 13), .none, (.len (.t 12))⟩,
  ⟨(.some 14), .none, (.bin .neq (.t 11) (.t 13))⟩]
abbrev c_slices_EqualFunc_api_Fee_r2 : List AO := [⟨(.some 6), .none, (.mov (.c (.d (.bool .false))))⟩]
abbrev c_slices_EqualFunc_api_Fee_r3 : List AO := [⟨(.some 15), .none, (.mov (.t 0))⟩,
  ⟨(.some 16), .none, (.len (.t 15))⟩,
  ⟨(.some 17), .none, (.mov (.c (.d (.int .i64 0))))⟩]
abbrev c_slices_EqualFunc_api_Fee_r4 : List AO := [⟨(.some 18), .none, (.bin .lss (.t 17) (.t 16))⟩]
abbrev c_slices_EqualFunc_api_Fee_r5 : List AO := [⟨(.some 19), .none, (.mov (.t 17))⟩,
  ⟨(.some 20), .none, (.elemAddr 10 (.t 15) (.t 17))⟩,
  ⟨(.some 21), .none, (.load (.some 10) (.t 20))⟩,
  ⟨(.some 8), .none, (.alloc 51 [(.d (.int .i64 0)), (.d (.bool .false)), (.d (.int .i64 0)), (.d (.int .i64 0)), (.d (.int .i64 0)), (.d (.int .i64 0)), (.d (.int .i64 0)), (.d (.int .i64 0)), (.d (.int .i64 0)), (.d (.int .i64 0))])⟩,
  ⟨(.some 7), .none, (.mov (.t 19))⟩,
  ⟨.none, .none, (.store 10 (.t 8) (.t 21))⟩]
abbrev c_slices_EqualFunc_api_Fee_r6 : List AO := [⟨(.some 22), .none, (.mov (.t 1))⟩,
  ⟨(.some 23), .none, (.mov (.t 7))⟩,
  ⟨(.some 24), .none, (.elemAddr 10 (.t 22) (.t 23))⟩,
  ⟨(.some 25), .none, (.load (.some 10) (.t 24))⟩,
  ⟨(.some 9), .none, (.alloc 51 [(.d (.int .i64 0)), (.d (.bool .false)), (.d (.int .i64 0)), (.d (.int .i64 0)), (.d (.int .i64 0)), (.d (.int .i64 0)), (.d (.int .i64 0)), (.d (.int .i64 0)), (.d (.int .i64 0)), (.d (.int .i64 0))])⟩,
  ⟨.none, .none, (.store 10 (.t 9) (.t 25))⟩]
abbrev c_slices_EqualFunc_api_Fee_r7 : List AO := [⟨(.some 26), .none, (.mov (.t 2))⟩,
  ⟨(.some 27), .none, (.load (.some 10) (.t 8))⟩,
  ⟨(.some 28), .none, (.load (.some 10) (.t 9))⟩,
  ⟨(.some 29), .none, (.callv (.t 26) [(.t 27), (.t 28)])⟩,
  ⟨(.some 30), .none, (.un .not (.t 29))⟩]
abbrev c_slices_EqualFunc_api_Fee_r8 : List AO := [⟨(.some 6), .none, (.mov (.c (.d (.bool .false))))⟩]
abbrev c_slices_EqualFunc_api_Fee_r9 : List AO := [⟨(.some 31), .none, (.bin .add (.t 17) (.c (.d (.int .i64 1))))⟩,
  ⟨(.some 17), .none, (.mov (.t 31))⟩]
abbrev c_slices_EqualFunc_api_Fee_l0 : ACode := (.seq (.ops c_slices_EqualFunc_api_Fee_r4) (.seq (.cond (.t 18) .skip (.exit 0)) (.seq (.block 1 (.seq (.ops c_slices_EqualFunc_api_Fee_r5) (.seq (.ops c_slices_EqualFunc_api_Fee_r6) (.seq (.ops c_slices_EqualFunc_api_Fee_r7) (.cond (.t 30) (.seq (.ops c_slices_EqualFunc_api_Fee_r8) .ret) .skip))))) (.ops c_slices_EqualFunc_api_Fee_r9))))
abbrev c_slices_EqualFunc_api_Fee_r10 : List AO := [⟨(.some 6), .none, (.mov (.c (.d (.bool .true))))⟩]
abbrev c_slices_EqualFunc_api_Fee : AFunc := ⟨32, [(.tmp 6)], (.seq (.ops c_slices_EqualFunc_api_Fee_r0) (.seq (.seq (.ops c_slices_EqualFunc_api_Fee_r1) (.cond (.t 14) (.seq (.ops c_slices_EqualFunc_api_Fee_r2) .ret) .skip)) (.seq (.seq (.ops c_slices_EqualFunc_api_Fee_r3) (.block 0 (.loop c_slices_EqualFunc_api_Fee_l0))) (.seq (.ops c_slices_EqualFunc_api_Fee_r10) .ret))))⟩
theorem comp_slices_EqualFunc_api_Fee : funcC Try.prog 44 = some c_slices_EqualFunc_api_Fee := by kernel_rfl
abbrev f_slices_EqualFunc_api_Charge : FuncId := 45
abbrev c_slices_EqualFunc_api_Charge_r0 : List AO := [⟨(.some 6), .none, (.mov (.c (.d (.bool .false))))⟩]
abbrev c_slices_EqualFunc_api_Charge_r1 : List AO := [⟨(.some 10), .none, (.mov (.t 0))⟩,
  ⟨(.some 11), .none, (.len (.t 10))⟩,
  ⟨(.some 12), .none, (.mov (.t 1))⟩,
  ⟨(.some 13), .none, (.len (.t 12))⟩,
  ⟨(.some 14), .none, (.bin .neq (.t 11) (.t 13))⟩]
abbrev c_slices_EqualFunc_api_Charge_r2 : List AO := [⟨(.some 6), .none, (.mov (.c (.d (.bool .false))))⟩]
abbrev c_slices_EqualFunc_api_Charge_r3 : List AO := [⟨(.some 15), .none, (.mov (.t 0))⟩,
  ⟨(.some 16), .none, (.len (.t 15))⟩,
  ⟨(.some 17), .none, (.mov (.c (.d (.int .i64 0))))⟩]
abbrev c_slices_EqualFunc_api_Charge_r4 : List AO := [⟨(.some 18), .none, (.bin .lss (.t 17) (.t 16))⟩]
abbrev c_slices_EqualFunc_api_Charge_r5 : List AO := [⟨(.some 19), .none, (.mov (.t 17))⟩,
  ⟨(.some 20), .none, (.elemAddr 16 (.t 15) (.t 17))⟩,
  ⟨(.some 21), .none, (.load (.some 16) (.t 20))⟩,
  ⟨(.some 8), .none, (.alloc 55 [(.d (.str ⟨⟨[]⟩⟩)), (.d (.bool .false)), (.d (.int .i64 0)), (.d (.int .i64 0)), (.d (.int .i64 0)), (.d (.int .i64 0)), (.d (.int .i64 0)), (.d (.int .i64 0)), (.d (.int .i64 0)), (.d (.int .i64 0)), (.d (.int .i64 0)), (.nilsl 2), (.d (.int .i64 0)), (.nilsl 3), (.d (.int .i64 0)), (.d (.int .i64 0))])⟩,
  ⟨(.some 7), .none, (.mov (.t 19))⟩,
  ⟨.none, .none, (.store 16 (.t 8) (.t 21))⟩]
abbrev c_slices_EqualFunc_api_Charge_r6 : List AO := [⟨(.some 22), .none, (.mov (.t 1))⟩,
  ⟨(.some 23), .none, (.mov (.t 7))⟩,
  ⟨(.some 24), .none, (.elemAddr 16 (.t 22) (.t 23))⟩,
  ⟨(.some 25), .none, (.load (.some 16) (.t 24))⟩,
  ⟨(.some 9), .none, (.alloc 55 [(.d (.str ⟨⟨[]⟩⟩)), (.d (.bool .false)), (.d (.int .i64 0)), (.d (.int .i64 0)), (.d (.int .i64 0)), (.d (.int .i64 0)), (.d (.int .i64 0)), (.d (.int .i64 0)), (.d (.int .i64 0)), (.d (.int .i64 0)), (.d (.int .i64 0)), (.nilsl 2), (.d (.int .i64 0)), (.nilsl 3), (.d (.int .i64 0)), (.d (.int .i64 0))])⟩,
  ⟨.none, .none, (.store 16 (.t 9) (.t 25))⟩]
abbrev c_slices_EqualFunc_api_Charge_r7 : List AO := [⟨(.some 26), .none, (.mov (.t 2))⟩,
  ⟨(.some 27), .none, (.load (.some 16) (.t 8))⟩,
  ⟨(.some 28), .none, (.load (.some 16) (.t 9))⟩,
  ⟨(.some 29), .none, (.callv (.t 26) [(.t 27), (.t 28)])⟩,
  ⟨(.some 30), .none, (.un .not (.t 29))⟩]
abbrev c_slices_EqualFunc_api_Charge_r8 : List AO := [⟨(.some 6), .none, (.mov (.c (.d (.bool .false))))⟩]
abbrev c_slices_EqualFunc_api_Charge_r9 : List AO := [⟨(.some 31), .none, (.bin .add (.t 17) (.c (.d (.int .i64 1))))⟩,
  ⟨(.some 17), .none, (.mov (.t 31))⟩]
abbrev c_slices_EqualFunc_api_Charge_l0 : ACode := (.seq (.ops c_slices_EqualFunc_api_Charge_r4) (.seq (.cond (.t 18) .skip (.exit 0)) (.seq (.block 1 (.seq (.ops c_slices_EqualFunc_api_Charge_r5) (.seq (.ops c_slices_EqualFunc_api_Charge_r6) (.seq (.ops c_slices_EqualFunc_api_Charge_r7) (.cond (.t 30) (.seq (.ops c_slices_EqualFunc_api_Charge_r8) .ret) .skip))))) (.ops c_slices_EqualFunc_api_Charge_r9))))
abbrev c_slices_EqualFunc_api_Charge_r10 : List AO := [⟨(.some 6), .none, (.mov (.c (.d (.bool .true))))⟩]
abbrev c_slices_EqualFunc_api_Charge : AFunc := ⟨32, [(.tmp 6)], (.seq (.ops c_slices_EqualFunc_api_Charge_r0) (.seq (.seq (.ops c_slices_EqualFunc_api_Charge_r1) (.cond (.t 14) (.seq (.ops c_slices_EqualFunc_api_Charge_r2) .ret) .skip)) (.seq (.seq (.ops c_slices_EqualFunc_api_Charge_r3) (.block 0 (.loop c_slices_EqualFunc_api_Charge_l0))) (.seq (.ops c_slices_EqualFunc_api_Charge_r10) .ret))))⟩
theorem comp_slices_EqualFunc_api_Charge : funcC Try.prog 45 = some c_slices_EqualFunc_api_Charge := by kernel_rfl
abbrev f_slices_insertionSortOrdered_string : FuncId := 50
abbrev c_slices_insertionSortOrdered_string_r0 : List AO := [⟨(.some 8), .none, (.mov (.t 1))⟩,
  ⟨(.some 9), .none, (.bin .add (.t 8) (.c (.d (.int .i64 1))))⟩,
  ⟨(.some 6), .none, (.mov (.t 9))⟩]
abbrev c_slices_insertionSortOrdered_string_r1 : List AO := [⟨(.some 10), .none, (.mov (.t 6))⟩,
  ⟨(.some 11), .none, (.mov (.t 2))⟩,
  ⟨(.some 12), .none, (.bin .lss (.t 10) (.t 11))⟩]
abbrev c_slices_insertionSortOrdered_string_r2 : List AO := [⟨(.some 15), .none, (.mov (.t 6))⟩,
  ⟨(.some 7), .none, (.mov (.t 15))⟩]
abbrev c_slices_insertionSortOrdered_string_r3 : List AO := [⟨(.some 16), .none, (.mov (.t 7))⟩,
  ⟨(.some 17), .none, (.mov (.t 1))⟩,
  ⟨(.some 18), .none, (.bin .gtr (.t 16) (.t 17))⟩,
  ⟨(.some 19), .none, (.mov (.t 18))⟩,
  ⟨(.some 20), (.some ⟨19, .true⟩), (.mov (.t 0))⟩,
  ⟨(.some 21), (.some ⟨19, .true⟩), (.mov (.t 7))⟩,
  ⟨(.some 22), (.some ⟨19, .true⟩), (.elemAddr 1 (.t 20) (.t 21))⟩,
  ⟨(.some 24), (.some ⟨19, .true⟩), (.mov (.t 0))⟩,
  ⟨(.some 25), (.some ⟨19, .true⟩), (.mov (.t 7))⟩,
  ⟨(.some 26), (.some ⟨19, .true⟩), (.bin .sub (.t 25) (.c (.d (.int .i64 1))))⟩,
  ⟨(.some 27), (.some ⟨19, .true⟩), (.elemAddr 1 (.t 24) (.t 26))⟩,
  ⟨(.some 23), (.some ⟨19, .true⟩), (.load .none (.t 22))⟩,
  ⟨(.some 28), (.some ⟨19, .true⟩), (.load .none (.t 27))⟩,
  ⟨(.some 29), (.some ⟨19, .true⟩), (.call 56 [(.t 23), (.t 28)])⟩,
  ⟨(.some 30), .none, (.pick (.t 19) (.t 29) (.c (.d (.bool .false))))⟩]
abbrev c_slices_insertionSortOrdered_string_r4 : List AO := [⟨(.some 33), .none, (.mov (.t 0))⟩,
  ⟨(.some 34), .none, (.mov (.t 7))⟩,
  ⟨(.some 35), .none, (.mov (.t 0))⟩,
  ⟨(.some 36), .none, (.mov (.t 7))⟩,
  ⟨(.some 37), .none, (.bin .sub (.t 36) (.c (.d (.int .i64 1))))⟩,
  ⟨(.some 38), .none, (.mov (.t 0))⟩,
  ⟨(.some 39), .none, (.mov (.t 7))⟩,
  ⟨(.some 40), .none, (.bin .sub (.t 39) (.c (.d (.int .i64 1))))⟩,
  ⟨(.some 41), .none, (.elemAddr 1 (.t 38) (.t 40))⟩,
  ⟨(.some 43), .none, (.mov (.t 0))⟩,
  ⟨(.some 44), .none, (.mov (.t 7))⟩,
  ⟨(.some 45), .none, (.elemAddr 1 (.t 43) (.t 44))⟩,
  ⟨(.some 42), .none, (.load .none (.t 41))⟩,
  ⟨(.some 46), .none, (.load .none (.t 45))⟩,
  ⟨(.some 47), .none, (.elemAddr 1 (.t 33) (.t 34))⟩,
  ⟨.none, .none, (.store 1 (.t 47) (.t 42))⟩,
  ⟨(.some 48), .none, (.elemAddr 1 (.t 35) (.t 37))⟩,
  ⟨.none, .none, (.store 1 (.t 48) (.t 46))⟩]
abbrev c_slices_insertionSortOrdered_string_r5 : List AO := [⟨(.some 31), .none, (.mov (.t 7))⟩,
  ⟨(.some 32), .none, (.bin .sub (.t 31) (.c (.d (.int .i64 1))))⟩,
  ⟨(.some 7), .none, (.mov (.t 32))⟩]
abbrev c_slices_insertionSortOrdered_string_l0 : ACode := (.seq (.seq (.dops c_slices_insertionSortOrdered_string_r3) (.cond (.t 30) .skip (.exit 2))) (.seq (.block 3 (.dops c_slices_insertionSortOrdered_string_r4)) (.ops c_slices_insertionSortOrdered_string_r5)))
abbrev c_slices_insertionSortOrdered_string_r6 : List AO := [⟨(.some 13), .none, (.mov (.t 6))⟩,
  ⟨(.some 14), .none, (.bin .add (.t 13) (.c (.d (.int .i64 1))))⟩,
  ⟨(.some 6), .none, (.mov (.t 14))⟩]
abbrev c_slices_insertionSortOrdered_string_l1 : ACode := (.seq (.seq (.ops c_slices_insertionSortOrdered_string_r1) (.cond (.t 12) .skip (.exit 0))) (.seq (.block 1 (.seq (.ops c_slices_insertionSortOrdered_string_r2) (.block 2 (.loop c_slices_insertionSortOrdered_string_l0)))) (.ops c_slices_insertionSortOrdered_string_r6)))
abbrev c_slices_insertionSortOrdered_string : AFunc := ⟨49, [], (.seq (.ops c_slices_insertionSortOrdered_string_r0) (.block 0 (.loop c_slices_insertionSortOrdered_string_l1)))⟩
theorem comp_slices_insertionSortOrdered_string : funcC Try.prog 50 = some c_slices_insertionSortOrdered_string := by kernel_rfl
abbrev f_cmp_Less_string : FuncId := 56
abbrev c_cmp_Less_string_r0 : List AO := [⟨(.some 4), .none, (.mov (.c (.d (.bool .false))))⟩]
abbrev c_cmp_Less_string_r1 : List AO := [⟨(.some 5), .none, (.mov (.t 0))⟩,
  ⟨(.some 6), .none, (.call 66 [(.t 5)])⟩,
  ⟨(.some 7), .none, (.mov (.t 6))⟩,
  ⟨(.some 8), (.some ⟨7, .true⟩), (.mov (.t 1))⟩,
  ⟨(.some 9), (.some ⟨7, .true⟩), (.call 66 [(.t 8)])⟩,
  ⟨(.some 10), (.some ⟨7, .true⟩), (.un .not (.t 9))⟩,
  ⟨(.some 11), .none, (.pick (.t 7) (.t 10) (.c (.d (.bool .false))))⟩,
  ⟨(.some 12), .none, (.mov (.t 11))⟩,
  ⟨(.some 13), (.some ⟨12, .false⟩), (.mov (.t 0))⟩,
  ⟨(.some 14), (.some ⟨12, .false⟩), (.mov (.t 1))⟩,
  ⟨(.some 15), (.some ⟨12, .false⟩), (.bin .lss (.t 13) (.t 14))⟩,
  ⟨(.some 16), .none, (.pick (.t 12) (.c (.d (.bool .true))) (.t 15))⟩,
  ⟨(.some 4), .none, (.mov (.t 16))⟩]
abbrev c_cmp_Less_string : AFunc := ⟨17, [(.tmp 4)], (.seq (.ops c_cmp_Less_string_r0) (.seq (.ops c_cmp_Less_string_r1) .ret))⟩
theorem comp_cmp_Less_string : funcC Try.prog 56 = some c_cmp_Less_string := by kernel_rfl
abbrev f_bits_Len64 : FuncId := 60
abbrev c_bits_Len64_r0 : List AO := [⟨(.some 2), .none, (.mov (.c (.d (.int .i64 0))))⟩]
abbrev c_bits_Len64_r1 : List AO := [⟨(.some 3), .none, (.mov (.t 0))⟩,
  ⟨(.some 4), .none, (.bin .geq (.t 3) (.c (.d (.int .u64 4294967296))))⟩]
abbrev c_bits_Len64_r2 : List AO := [⟨(.some 5), .none, (.mov (.t 0))⟩,
  ⟨(.some 6), .none, (.bin .shr (.t 5) (.c (.d (.int .u64 32))))⟩,
  ⟨(.some 0), .none, (.mov (.t 6))⟩]
abbrev c_bits_Len64_r3 : List AO := [⟨(.some 2), .none, (.mov (.c (.d (.int .i64 32))))⟩]
abbrev c_bits_Len64_r4 : List AO := [⟨(.some 7), .none, (.mov (.t 0))⟩,
  ⟨(.some 8), .none, (.bin .geq (.t 7) (.c (.d (.int .u64 65536))))⟩]
abbrev c_bits_Len64_r5 : List AO := [⟨(.some 9), .none, (.mov (.t 0))⟩,
  ⟨(.some 10), .none, (.bin .shr (.t 9) (.c (.d (.int .u64 16))))⟩,
  ⟨(.some 0), .none, (.mov (.t 10))⟩]
abbrev c_bits_Len64_r6 : List AO := [⟨(.some 11), .none, (.mov (.t 2))⟩,
  ⟨(.some 12), .none, (.bin .add (.t 11) (.c (.d (.int .i64 16))))⟩,
  ⟨(.some 2), .none, (.mov (.t 12))⟩]
abbrev c_bits_Len64_r7 : List AO := [⟨(.some 13), .none, (.mov (.t 0))⟩,
  ⟨(.some 14), .none, (.bin .geq (.t 13) (.c (.d (.int .u64 256))))⟩]
abbrev c_bits_Len64_r8 : List AO := [⟨(.some 15), .none, (.mov (.t 0))⟩,
  ⟨(.some 16), .none, (.bin .shr (.t 15) (.c (.d (.int .u64 8))))⟩,
  ⟨(.some 0), .none, (.mov (.t 16))⟩]
abbrev c_bits_Len64_r9 : List AO := [⟨(.some 17), .none, (.mov (.t 2))⟩,
  ⟨(.some 18), .none, (.bin .add (.t 17) (.c (.d (.int .i64 8))))⟩,
  ⟨(.some 2), .none, (.mov (.t 18))⟩]
abbrev c_bits_Len64_r10 : List AO := [⟨(.some 19), .none, (.mov (.t 2))⟩,
  ⟨(.some 20), .none, (.mov (.t 0))⟩,
  ⟨(.some 21), .none, (.conv .u8 (.t 20))⟩,
  ⟨(.some 22), .none, (.idxStr (.c (.d (.str ⟨⟨[0, 1, 2, 2, 3, 3, 3, 3, 4, 4, 4, 4, 4, 4, 4, 4, 5, 5, 5, 5, 5, 5, 5, 5, 5, 5, 5, 5, 5, 5, 5, 5, 6, 6, 6, 6, 6, 6, 6, 6, 6, 6, 6, 6, 6, 6, 6, 6, 6, 6, 6, 6, 6, 6, 6, 6, 6, 6, 6, 6, 6, 6, 6, 6, 7, 7, 7, 7, 7, 7, 7, 7, 7, 7, 7, 7, 7, 7, 7, 7, 7, 7, 7, 7, 7, 7, 7, 7, 7, 7, 7, 7, 7, 7, 7, 7, 7, 7, 7, 7, 7, 7, 7, 7, 7, 7, 7, 7, 7, 7, 7, 7, 7, 7, 7, 7, 7, 7, 7, 7, 7, 7, 7, 7, 7, 7, 7, 7, 8, 8, 8, 8, 8, 8, 8, 8, 8, 8, 8, 8, 8, 8, 8, 8, 8, 8, 8, 8, 8, 8, 8, 8, 8, 8, 8, 8, 8, 8, 8, 8, 8, 8, 8, 8, 8, 8, 8, 8, 8, 8, 8, 8, 8, 8, 8, 8, 8, 8, 8, 8, 8, 8, 8, 8, 8, 8, 8, 8, 8, 8, 8, 8, 8, 8, 8, 8, 8, 8, 8, 8, 8, 8, 8, 8, 8, 8, 8, 8, 8, 8, 8, 8, 8, 8, 8, 8, 8, 8, 8, 8, 8, 8, 8, 8, 8, 8, 8, 8, 8, 8, 8, 8, 8, 8, 8, 8, 8, 8, 8, 8, 8, 8, 8, 8, 8, 8, 8, 8, 8, 8, 8, 8, 8, 8, 8, 8]⟩⟩))) (.t 21))⟩,
  ⟨(.some 23), .none, (.conv .i64 (.t 22))⟩,
  ⟨(.some 24), .none, (.bin .add (.t 19) (.t 23))⟩,
  ⟨(.some 2), .none, (.mov (.t 24))⟩]
abbrev c_bits_Len64 : AFunc := ⟨25, [(.tmp 2)], (.seq (.ops c_bits_Len64_r0) (.seq (.seq (.ops c_bits_Len64_r1) (.cond (.t 4) (.seq (.ops c_bits_Len64_r2) (.ops c_bits_Len64_r3)) .skip)) (.seq (.seq (.ops c_bits_Len64_r4) (.cond (.t 8) (.seq (.ops c_bits_Len64_r5) (.ops c_bits_Len64_r6)) .skip)) (.seq (.seq (.ops c_bits_Len64_r7) (.cond (.t 14) (.seq (.ops c_bits_Len64_r8) (.ops c_bits_Len64_r9)) .skip)) (.seq (.ops c_bits_Len64_r10) .ret)))))⟩
theorem comp_bits_Len64 : funcC Try.prog 60 = some c_bits_Len64 := by kernel_rfl
abbrev f_cmp_isNaN_string : FuncId := 66
abbrev c_cmp_isNaN_string_r0 : List AO := [⟨(.some 2), .none, (.mov (.c (.d (.bool .false))))⟩]
abbrev c_cmp_isNaN_string_r1 : List AO := [⟨(.some 3), .none, (.mov (.t 0))⟩,
  ⟨(.some 4), .none, (.mov (.t 0))⟩,
  ⟨(.some 5), .none, (.bin .neq (.t 3) (.t 4))⟩,
  ⟨(.some 2), .none, (.mov (.t 5))⟩]
abbrev c_cmp_isNaN_string : AFunc := ⟨6, [(.tmp 2)], (.seq (.ops c_cmp_isNaN_string_r0) (.seq (.ops c_cmp_isNaN_string_r1) .ret))⟩
theorem comp_cmp_isNaN_string : funcC Try.prog 66 = some c_cmp_isNaN_string := by kernel_rfl
end Go.Proofs.Ytndepejgafppmaa.Abs
