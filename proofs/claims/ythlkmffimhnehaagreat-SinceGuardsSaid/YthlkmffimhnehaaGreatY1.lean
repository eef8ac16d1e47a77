/- Functions of the program in the evaluator's code, printed by Gen2; no condition. -/
import Derived.Test.YthlkmffimhnehaaGreatMa
namespace Go.Proofs.YthlkmffimhnehaaGreat
open Go Go.Ev
set_option maxRecDepth 10000
/-- (*libevolution/libevolutionref05.resolver).expr -/
def x139 : XF := ⟨(.seq (.reg 
[⟨some 3, none, (.e (.box 11 (.t 1)))⟩,
 ⟨some 4, none, (.e (.alloc [(.int .i64 0), (.str []), (.str []), (.int .i64 0), .nils, .nils, .nils, .nils, (.str []), .nils, (.int .i64 0)]))⟩]) (.seq (.seq (.reg 
[⟨some 11, none, (.p (.move (.t 0)))⟩,
 ⟨some 12, none, (.p (.nilc (.t 11)))⟩,
 ⟨some 13, none, (.p (.faddr 14 (.t 12)))⟩,
 ⟨some 14, none, (.l (.load 1 false (.t 13)))⟩,
 ⟨some 15, none, (.p (.bin .neq .int (.t 14) (.c (.int .i64 0))))⟩]) (.cond (.t 15) (.seq (.reg 
[⟨some 16, none, (.p (.build [(.int .i64 0), (.str []), (.str []), (.int .i64 0), .nils, .nils, .nils, .nils, (.str []), .nils, (.int .i64 0)] []))⟩,
 ⟨none, none, (.e (.store 11 (.t 4) (.t 16)))⟩]) .ret) .skip)) (.seq (.seq (.reg 
[⟨some 17, none, (.l (.load 11 true (.t 3)))⟩,
 ⟨some 18, none, (.e (.call (.c (.fn 194 [] [])) [(.t 17)]))⟩]) (.cond (.t 18) (.seq (.reg 
[⟨some 19, none, (.l (.load 11 true (.t 3)))⟩,
 ⟨none, none, (.e (.store 11 (.t 4) (.t 19)))⟩]) .ret) .skip)) (.seq (.reg 
[⟨some 20, none, (.l (.load 11 true (.t 3)))⟩,
 ⟨some 5, none, (.e (.alloc [(.int .i64 0), (.str []), (.str []), (.int .i64 0), .nils, .nils, .nils, .nils, (.str []), .nils, (.int .i64 0)]))⟩,
 ⟨none, none, (.e (.store 11 (.t 5) (.t 20)))⟩]) (.seq (.reg 
[⟨some 21, none, (.p (.move (.t 0)))⟩,
 ⟨some 22, none, (.p (.faddr 10 (.t 3)))⟩,
 ⟨some 23, none, (.l (.load 1 false (.t 22)))⟩,
 ⟨some 24, none, (.p (.nilc (.t 21)))⟩,
 ⟨some 25, none, (.p (.faddr 12 (.t 24)))⟩,
 ⟨none, none, (.e (.store 1 (.t 25) (.t 23)))⟩]) (.seq (.seq (.reg 
[⟨some 26, none, (.p (.faddr 0 (.t 3)))⟩,
 ⟨some 27, none, (.l (.load 1 false (.t 26)))⟩]) (.block 0 (.seq (.reg 
[⟨some 29, none, (.p (.bin .eql .int (.t 27) (.c (.int .i64 9))))⟩,
 ⟨some 28, none, (.p (.move (.t 29)))⟩]) (.cond (.t 28) (.reg 
[⟨some 30, none, (.p (.move (.t 0)))⟩,
 ⟨some 31, none, (.p (.faddr 1 (.t 3)))⟩,
 ⟨some 32, none, (.l (.load 1 false (.t 31)))⟩,
 ⟨some 33, none, (.e (.call (.c (.fn 137 [] [])) [(.t 30), (.t 32), (.c (.int .i64 3))]))⟩,
 ⟨some 34, none, (.p (.faddr 1 (.t 5)))⟩,
 ⟨none, none, (.e (.store 1 (.t 34) (.t 33)))⟩]) (.seq (.reg 
[⟨some 36, none, (.p (.bin .eql .int (.t 27) (.c (.int .i64 10))))⟩,
 ⟨some 35, none, (.p (.move (.t 36)))⟩]) (.cond (.t 35) (.reg 
[⟨some 37, none, (.p (.move (.t 0)))⟩,
 ⟨some 38, none, (.p (.faddr 1 (.t 3)))⟩,
 ⟨some 39, none, (.l (.load 1 false (.t 38)))⟩,
 ⟨some 40, none, (.e (.call (.c (.fn 137 [] [])) [(.t 37), (.t 39), (.c (.int .i64 2))]))⟩,
 ⟨some 41, none, (.p (.faddr 1 (.t 5)))⟩,
 ⟨none, none, (.e (.store 1 (.t 41) (.t 40)))⟩]) (.seq (.reg 
[⟨some 43, none, (.p (.bin .eql .int (.t 27) (.c (.int .i64 11))))⟩,
 ⟨some 42, none, (.p (.move (.t 43)))⟩]) (.cond (.t 42) (.seq (.reg 
[⟨some 44, none, (.p (.move (.t 0)))⟩,
 ⟨some 45, none, (.l (.load 11 true (.t 3)))⟩,
 ⟨some 46, none, (.e (.call (.c (.fn 207 [] [])) [(.t 44), (.t 45)]))⟩,
 ⟨some 6, none, (.e (.alloc [(.str []), .nils]))⟩,
 ⟨none, none, (.e (.store 2 (.t 6) (.t 46)))⟩]) (.reg 
[⟨some 47, none, (.p (.faddr 0 (.t 6)))⟩,
 ⟨some 48, none, (.l (.load 1 false (.t 47)))⟩,
 ⟨some 49, none, (.p (.faddr 1 (.t 5)))⟩,
 ⟨none, none, (.e (.store 1 (.t 49) (.t 48)))⟩])) (.seq (.reg 
[⟨some 51, none, (.p (.bin .eql .int (.t 27) (.c (.int .i64 20))))⟩,
 ⟨some 50, none, (.p (.move (.t 51)))⟩]) (.cond (.t 50) (.seq (.regd [] 
[⟨some 52, none, (.p (.move (.t 0)))⟩,
 ⟨some 53, none, (.p (.faddr 1 (.t 3)))⟩,
 ⟨some 54, none, (.l (.load 1 false (.t 53)))⟩,
 ⟨some 55, none, (.e (.call (.c (.fn 206 [] [])) [(.t 52), (.t 54)]))⟩,
 ⟨some 56, none, (.p (.not (.t 55)))⟩,
 ⟨some 57, none, (.p (.move (.t 56)))⟩,
 ⟨some 58, some (57, false), (.p (.faddr 1 (.t 3)))⟩,
 ⟨some 59, some (57, false), (.l (.load 1 false (.t 58)))⟩,
 ⟨some 60, some (57, false), (.p (.move (.t 0)))⟩,
 ⟨some 61, some (57, false), (.p (.nilc (.t 60)))⟩,
 ⟨some 62, some (57, false), (.p (.faddr 0 (.t 61)))⟩,
 ⟨some 63, some (57, false), (.p (.faddr 1 (.t 62)))⟩,
 ⟨some 64, some (57, false), (.l (.load 1 false (.t 63)))⟩,
 ⟨some 65, some (57, false), (.p (.bin .eql .str (.t 59) (.t 64)))⟩,
 ⟨some 66, some (57, false), (.p (.move (.t 65)))⟩,
 ⟨some 67, some (66, true), (.p (.move (.t 0)))⟩,
 ⟨some 68, some (66, true), (.p (.nilc (.t 67)))⟩,
 ⟨some 69, some (66, true), (.p (.faddr 0 (.t 68)))⟩,
 ⟨some 70, some (66, true), (.p (.faddr 0 (.t 69)))⟩,
 ⟨some 71, some (66, true), (.l (.load 1 false (.t 70)))⟩,
 ⟨some 72, some (66, true), (.p (.bin .eql .int (.t 71) (.c (.int .i64 2))))⟩,
 ⟨some 73, some (57, false), (.p (.pick (.t 66) (.t 72) (.c (.bool false))))⟩,
 ⟨some 74, none, (.p (.pick (.t 57) (.c (.bool true)) (.t 73)))⟩] []) (.cond (.t 74) (.reg 
[⟨some 75, none, (.p (.move (.t 0)))⟩,
 ⟨some 76, none, (.e (.call (.c (.fn 202 [] [])) [(.t 75), (.c (.int .i64 8))]))⟩]) .skip)) .skip)))))))))) (.seq (.reg 
[⟨some 77, none, (.p (.move (.t 0)))⟩,
 ⟨some 78, none, (.p (.faddr 4 (.t 3)))⟩,
 ⟨some 79, none, (.l (.load 1 false (.t 78)))⟩,
 ⟨some 80, none, (.e (.call (.c (.fn 135 [] [])) [(.t 77), (.t 79)]))⟩,
 ⟨some 81, none, (.p (.faddr 4 (.t 5)))⟩,
 ⟨none, none, (.e (.store 1 (.t 81) (.t 80)))⟩]) (.seq (.reg 
[⟨some 82, none, (.p (.faddr 5 (.t 3)))⟩,
 ⟨some 83, none, (.l (.load 1 false (.t 82)))⟩,
 ⟨some 84, none, (.e (.app 1 16 (.c .nils) (.t 83)))⟩,
 ⟨some 85, none, (.p (.faddr 5 (.t 5)))⟩,
 ⟨none, none, (.e (.store 1 (.t 85) (.t 84)))⟩]) (.seq (.reg 
[⟨some 86, none, (.p (.faddr 6 (.t 5)))⟩,
 ⟨none, none, (.e (.store 1 (.t 86) (.c .nils)))⟩]) (.seq (.seq (.reg 
[⟨some 87, none, (.p (.faddr 6 (.t 3)))⟩,
 ⟨some 88, none, (.l (.load 1 false (.t 87)))⟩,
 ⟨some 89, none, (.p (.lenl (.t 88)))⟩,
 ⟨some 90, none, (.p (.move (.c (.int .i64 0))))⟩]) (.block 1 (.loop (.seq (.reg 
[⟨some 91, none, (.p (.bin .lss .int (.t 90) (.t 89)))⟩]) (.seq (.cond (.t 91) .skip (.exit 1)) (.seq (.block 2 (.seq (.reg 
[⟨some 92, none, (.p (.iaddr 3 (.t 88) (.t 90)))⟩,
 ⟨some 93, none, (.l (.load 3 true (.t 92)))⟩,
 ⟨some 8, none, (.e (.alloc [(.bool false), (.str []), .nils]))⟩,
 ⟨none, none, (.e (.store 3 (.t 8) (.t 93)))⟩]) (.seq (.reg 
[⟨some 94, none, (.p (.faddr 2 (.t 8)))⟩,
 ⟨some 95, none, (.l (.load 1 false (.t 94)))⟩,
 ⟨some 96, none, (.e (.app 1 16 (.c .nils) (.t 95)))⟩,
 ⟨some 97, none, (.p (.faddr 2 (.t 8)))⟩,
 ⟨none, none, (.e (.store 1 (.t 97) (.t 96)))⟩]) (.reg 
[⟨some 98, none, (.p (.faddr 6 (.t 5)))⟩,
 ⟨some 99, none, (.l (.load 1 false (.t 98)))⟩,
 ⟨some 100, none, (.l (.load 3 true (.t 8)))⟩,
 ⟨some 101, none, (.p (.bslice 3 [(.agg [(.bool false), (.str []), .nils])] [(0, (.t 100))]))⟩,
 ⟨some 102, none, (.e (.app 3 48 (.t 99) (.t 101)))⟩,
 ⟨some 103, none, (.p (.faddr 6 (.t 5)))⟩,
 ⟨none, none, (.e (.store 1 (.t 103) (.t 102)))⟩])))) (.reg 
[⟨some 104, none, (.p (.bin .add .int (.t 90) (.c (.int .i64 1))))⟩,
 ⟨some 90, none, (.p (.move (.t 104)))⟩]))))))) (.seq (.reg 
[⟨some 105, none, (.p (.faddr 7 (.t 5)))⟩,
 ⟨none, none, (.e (.store 1 (.t 105) (.c .nils)))⟩]) (.seq (.seq (.reg 
[⟨some 106, none, (.p (.faddr 7 (.t 3)))⟩,
 ⟨some 107, none, (.l (.load 1 false (.t 106)))⟩,
 ⟨some 108, none, (.p (.lenl (.t 107)))⟩,
 ⟨some 109, none, (.p (.move (.c (.int .i64 0))))⟩]) (.block 3 (.loop (.seq (.reg 
[⟨some 110, none, (.p (.bin .lss .int (.t 109) (.t 108)))⟩]) (.seq (.cond (.t 110) .skip (.exit 3)) (.seq (.block 4 (.seq (.reg 
[⟨some 111, none, (.p (.iaddr 11 (.t 107) (.t 109)))⟩,
 ⟨some 112, none, (.l (.load 11 true (.t 111)))⟩,
 ⟨some 10, none, (.e (.alloc [(.int .i64 0), (.str []), (.str []), (.int .i64 0), .nils, .nils, .nils, .nils, (.str []), .nils, (.int .i64 0)]))⟩,
 ⟨none, none, (.e (.store 11 (.t 10) (.t 112)))⟩]) (.regd [] 
[⟨some 113, none, (.p (.faddr 7 (.t 5)))⟩,
 ⟨some 114, none, (.l (.load 1 false (.t 113)))⟩,
 ⟨some 115, none, (.p (.move (.t 0)))⟩,
 ⟨some 116, none, (.l (.load 11 true (.t 10)))⟩,
 ⟨some 117, none, (.e (.call (.c (.fn 139 [] [])) [(.t 115), (.t 116)]))⟩,
 ⟨some 118, none, (.p (.bslice 11 [(.agg [(.int .i64 0), (.str []), (.str []), (.int .i64 0), .nils, .nils, .nils, .nils, (.str []), .nils, (.int .i64 0)])] [(0, (.t 117))]))⟩,
 ⟨some 119, none, (.e (.app 11 192 (.t 114) (.t 118)))⟩,
 ⟨some 120, none, (.p (.faddr 7 (.t 5)))⟩,
 ⟨none, none, (.e (.store 1 (.t 120) (.t 119)))⟩] [(1, 4)]))) (.reg 
[⟨some 121, none, (.p (.bin .add .int (.t 109) (.c (.int .i64 1))))⟩,
 ⟨some 109, none, (.p (.move (.t 121)))⟩]))))))) (.seq (.reg 
[⟨some 122, none, (.l (.load 11 true (.t 5)))⟩,
 ⟨none, none, (.e (.store 11 (.t 4) (.t 122)))⟩]) .ret))))))))))))), [.cell 4 11 true]⟩
/-- libevolution/libevolutionref01.letter -/
def x163 : XF := ⟨(.seq (.reg 
[⟨some 2, none, (.p (.move (.c (.bool false))))⟩]) (.seq (.reg 
[⟨some 3, none, (.p (.move (.t 0)))⟩,
 ⟨some 4, none, (.p (.bin .geq .int (.t 3) (.c (.int .u8 97))))⟩,
 ⟨some 5, none, (.p (.move (.t 4)))⟩,
 ⟨some 6, some (5, true), (.p (.move (.t 0)))⟩,
 ⟨some 7, some (5, true), (.p (.bin .leq .int (.t 6) (.c (.int .u8 122))))⟩,
 ⟨some 8, none, (.p (.pick (.t 5) (.t 7) (.c (.bool false))))⟩,
 ⟨some 9, none, (.p (.move (.t 8)))⟩,
 ⟨some 10, some (9, false), (.p (.move (.t 0)))⟩,
 ⟨some 11, some (9, false), (.p (.bin .geq .int (.t 10) (.c (.int .u8 65))))⟩,
 ⟨some 12, some (9, false), (.p (.move (.t 11)))⟩,
 ⟨some 13, some (12, true), (.p (.move (.t 0)))⟩,
 ⟨some 14, some (12, true), (.p (.bin .leq .int (.t 13) (.c (.int .u8 90))))⟩,
 ⟨some 15, some (9, false), (.p (.pick (.t 12) (.t 14) (.c (.bool false))))⟩,
 ⟨some 16, none, (.p (.pick (.t 9) (.c (.bool true)) (.t 15)))⟩,
 ⟨some 2, none, (.p (.move (.t 16)))⟩]) .ret)), [.t 2]⟩
/-- libevolution/libevolutionref01.word -/
def x164 : XF := ⟨(.seq (.reg 
[⟨some 4, none, (.p (.move (.c (.int .i64 0))))⟩]) (.seq (.block 0 (.loop (.seq (.seq (.reg 
[⟨some 5, none, (.p (.move (.t 1)))⟩,
 ⟨some 6, none, (.p (.move (.t 0)))⟩,
 ⟨some 7, none, (.p (.lens (.t 6)))⟩,
 ⟨some 8, none, (.p (.bin .lss .int (.t 5) (.t 7)))⟩,
 ⟨some 9, none, (.p (.move (.t 8)))⟩,
 ⟨some 10, some (9, true), (.p (.move (.t 0)))⟩,
 ⟨some 11, some (9, true), (.p (.move (.t 1)))⟩,
 ⟨some 12, some (9, true), (.p (.ixs (.t 10) (.t 11)))⟩,
 ⟨some 13, some (9, true), (.e (.call (.c (.fn 163 [] [])) [(.t 12)]))⟩,
 ⟨some 14, some (9, true), (.p (.move (.t 13)))⟩,
 ⟨some 15, some (14, false), (.p (.move (.t 0)))⟩,
 ⟨some 16, some (14, false), (.p (.move (.t 1)))⟩,
 ⟨some 17, some (14, false), (.p (.ixs (.t 15) (.t 16)))⟩,
 ⟨some 18, some (14, false), (.e (.call (.c (.fn 165 [] [])) [(.t 17)]))⟩,
 ⟨some 19, some (9, true), (.p (.pick (.t 14) (.c (.bool true)) (.t 18)))⟩,
 ⟨some 20, none, (.p (.pick (.t 9) (.t 19) (.c (.bool false))))⟩]) (.cond (.t 20) .skip (.exit 0))) (.block 1 (.reg 
[⟨some 21, none, (.p (.move (.t 1)))⟩,
 ⟨some 22, none, (.p (.bin .add .int (.t 21) (.c (.int .i64 1))))⟩,
 ⟨some 1, none, (.p (.move (.t 22)))⟩]))))) (.seq (.reg 
[⟨some 23, none, (.p (.move (.t 1)))⟩,
 ⟨some 4, none, (.p (.move (.t 23)))⟩]) .ret))), [.t 4]⟩
/-- libevolution/libevolutionref01.digit -/
def x165 : XF := ⟨(.seq (.reg 
[⟨some 2, none, (.p (.move (.c (.bool false))))⟩]) (.seq (.reg 
[⟨some 3, none, (.p (.move (.t 0)))⟩,
 ⟨some 4, none, (.p (.bin .geq .int (.t 3) (.c (.int .u8 48))))⟩,
 ⟨some 5, none, (.p (.move (.t 4)))⟩,
 ⟨some 6, some (5, true), (.p (.move (.t 0)))⟩,
 ⟨some 7, some (5, true), (.p (.bin .leq .int (.t 6) (.c (.int .u8 57))))⟩,
 ⟨some 8, none, (.p (.pick (.t 5) (.t 7) (.c (.bool false))))⟩,
 ⟨some 2, none, (.p (.move (.t 8)))⟩]) .ret)), [.t 2]⟩
/-- libevolution/libevolutionref01.numeral -/
def x166 : XF := ⟨(.seq (.reg 
[⟨some 4, none, (.p (.move (.c (.int .i64 0))))⟩]) (.seq (.block 0 (.loop (.seq (.seq (.reg 
[⟨some 5, none, (.p (.move (.t 1)))⟩,
 ⟨some 6, none, (.p (.move (.t 0)))⟩,
 ⟨some 7, none, (.p (.lens (.t 6)))⟩,
 ⟨some 8, none, (.p (.bin .lss .int (.t 5) (.t 7)))⟩,
 ⟨some 9, none, (.p (.move (.t 8)))⟩,
 ⟨some 10, some (9, true), (.p (.move (.t 0)))⟩,
 ⟨some 11, some (9, true), (.p (.move (.t 1)))⟩,
 ⟨some 12, some (9, true), (.p (.ixs (.t 10) (.t 11)))⟩,
 ⟨some 13, some (9, true), (.e (.call (.c (.fn 165 [] [])) [(.t 12)]))⟩,
 ⟨some 14, none, (.p (.pick (.t 9) (.t 13) (.c (.bool false))))⟩]) (.cond (.t 14) .skip (.exit 0))) (.block 1 (.reg 
[⟨some 15, none, (.p (.move (.t 1)))⟩,
 ⟨some 16, none, (.p (.bin .add .int (.t 15) (.c (.int .i64 1))))⟩,
 ⟨some 1, none, (.p (.move (.t 16)))⟩]))))) (.seq (.reg 
[⟨some 17, none, (.p (.move (.t 1)))⟩,
 ⟨some 4, none, (.p (.move (.t 17)))⟩]) .ret))), [.t 4]⟩
/-- libevolution/libevolutionref01.TooLarge -/
def x167 : XF := ⟨(.seq (.reg 
[⟨some 2, none, (.p (.move (.c (.bool false))))⟩]) (.seq (.reg 
[⟨some 3, none, (.p (.move (.c (.str [57, 50, 50, 51, 51, 55, 50, 48, 51, 54, 56, 53, 52, 55, 55, 53, 56, 48, 56]))))⟩]) (.seq (.reg 
[⟨some 4, none, (.p (.move (.t 0)))⟩,
 ⟨some 5, none, (.p (.lens (.t 4)))⟩,
 ⟨some 6, none, (.p (.move (.t 3)))⟩,
 ⟨some 7, none, (.p (.lens (.t 6)))⟩,
 ⟨some 8, none, (.p (.bin .gtr .int (.t 5) (.t 7)))⟩,
 ⟨some 9, none, (.p (.move (.t 8)))⟩,
 ⟨some 10, some (9, false), (.p (.move (.t 0)))⟩,
 ⟨some 11, some (9, false), (.p (.lens (.t 10)))⟩,
 ⟨some 12, some (9, false), (.p (.move (.t 3)))⟩,
 ⟨some 13, some (9, false), (.p (.lens (.t 12)))⟩,
 ⟨some 14, some (9, false), (.p (.bin .eql .int (.t 11) (.t 13)))⟩,
 ⟨some 15, some (9, false), (.p (.move (.t 14)))⟩,
 ⟨some 16, some (15, true), (.p (.move (.t 0)))⟩,
 ⟨some 17, some (15, true), (.p (.move (.t 3)))⟩,
 ⟨some 18, some (15, true), (.p (.bin .gtr .str (.t 16) (.t 17)))⟩,
 ⟨some 19, some (9, false), (.p (.pick (.t 15) (.t 18) (.c (.bool false))))⟩,
 ⟨some 20, none, (.p (.pick (.t 9) (.c (.bool true)) (.t 19)))⟩,
 ⟨some 2, none, (.p (.move (.t 20)))⟩]) .ret))), [.t 2]⟩
/-- libevolution/libevolutionref01.sign -/
def x168 : XF := ⟨(.seq (.reg 
[⟨some 4, none, (.p (.move (.c (.int .i64 0))))⟩]) (.seq (.seq (.reg 
[⟨some 7, none, (.p (.move (.t 1)))⟩,
 ⟨some 8, none, (.p (.bin .add .int (.t 7) (.c (.int .i64 1))))⟩,
 ⟨some 9, none, (.p (.move (.t 0)))⟩,
 ⟨some 10, none, (.p (.lens (.t 9)))⟩,
 ⟨some 11, none, (.p (.bin .lss .int (.t 8) (.t 10)))⟩,
 ⟨some 12, none, (.p (.move (.t 11)))⟩,
 ⟨some 13, some (12, true), (.p (.move (.t 0)))⟩,
 ⟨some 14, some (12, true), (.p (.move (.t 1)))⟩,
 ⟨some 15, some (12, true), (.p (.move (.t 1)))⟩,
 ⟨some 16, some (12, true), (.p (.bin .add .int (.t 15) (.c (.int .i64 2))))⟩,
 ⟨some 17, some (12, true), (.p (.subs (.t 13) (some (.t 14)) (some (.t 16))))⟩,
 ⟨some 18, some (12, true), (.p (.bin .eql .str (.t 17) (.c (.str [61, 61]))))⟩,
 ⟨some 19, some (12, true), (.p (.move (.t 18)))⟩,
 ⟨some 20, some (19, false), (.p (.move (.t 0)))⟩,
 ⟨some 21, some (19, false), (.p (.move (.t 1)))⟩,
 ⟨some 22, some (19, false), (.p (.move (.t 1)))⟩,
 ⟨some 23, some (19, false), (.p (.bin .add .int (.t 22) (.c (.int .i64 2))))⟩,
 ⟨some 24, some (19, false), (.p (.subs (.t 20) (some (.t 21)) (some (.t 23))))⟩,
 ⟨some 25, some (19, false), (.p (.bin .eql .str (.t 24) (.c (.str [45, 62]))))⟩,
 ⟨some 26, some (12, true), (.p (.pick (.t 19) (.c (.bool true)) (.t 25)))⟩,
 ⟨some 27, none, (.p (.pick (.t 12) (.t 26) (.c (.bool false))))⟩]) (.cond (.t 27) (.seq (.reg 
[⟨some 28, none, (.p (.move (.t 1)))⟩,
 ⟨some 29, none, (.p (.bin .add .int (.t 28) (.c (.int .i64 2))))⟩,
 ⟨some 4, none, (.p (.move (.t 29)))⟩]) .ret) .skip)) (.seq (.reg 
[⟨some 5, none, (.p (.move (.c (.str [123, 125, 91, 93, 40, 41, 59, 58, 44, 46, 61, 60, 43, 45, 42, 47, 37]))))⟩]) (.seq (.seq (.reg 
[⟨some 6, none, (.p (.move (.c (.int .i64 0))))⟩]) (.block 0 (.loop (.seq (.seq (.reg 
[⟨some 30, none, (.p (.move (.t 6)))⟩,
 ⟨some 31, none, (.p (.move (.t 5)))⟩,
 ⟨some 32, none, (.p (.lens (.t 31)))⟩,
 ⟨some 33, none, (.p (.bin .lss .int (.t 30) (.t 32)))⟩]) (.cond (.t 33) .skip (.exit 0))) (.seq (.block 1 (.seq (.regd [] 
[⟨some 36, none, (.p (.move (.t 0)))⟩,
 ⟨some 37, none, (.p (.move (.t 1)))⟩,
 ⟨some 38, none, (.p (.ixs (.t 36) (.t 37)))⟩,
 ⟨some 39, none, (.p (.move (.t 5)))⟩,
 ⟨some 40, none, (.p (.move (.t 6)))⟩,
 ⟨some 41, none, (.p (.ixs (.t 39) (.t 40)))⟩,
 ⟨some 42, none, (.p (.bin .eql .int (.t 38) (.t 41)))⟩] []) (.cond (.t 42) (.seq (.reg 
[⟨some 43, none, (.p (.move (.t 1)))⟩,
 ⟨some 44, none, (.p (.bin .add .int (.t 43) (.c (.int .i64 1))))⟩,
 ⟨some 4, none, (.p (.move (.t 44)))⟩]) .ret) .skip))) (.reg 
[⟨some 34, none, (.p (.move (.t 6)))⟩,
 ⟨some 35, none, (.p (.bin .add .int (.t 34) (.c (.int .i64 1))))⟩,
 ⟨some 6, none, (.p (.move (.t 35)))⟩])))))) (.seq (.reg 
[⟨some 45, none, (.p (.move (.t 1)))⟩,
 ⟨some 4, none, (.p (.move (.t 45)))⟩]) .ret))))), [.t 4]⟩
/-- libevolution/libevolutionref02.start -/
def x169 : XF := ⟨(.seq (.reg 
[⟨some 2, none, (.p (.move (.c .nilp)))⟩,
 ⟨some 3, none, (.p (.move (.c (.int .i64 0))))⟩,
 ⟨some 4, none, (.p (.move (.c (.int .i64 0))))⟩]) (.seq (.reg 
[⟨some 9, none, (.p (.move (.t 0)))⟩,
 ⟨some 10, none, (.e (.call (.c (.fn 18 [] [])) [(.t 9)]))⟩,
 ⟨some 8, none, (.p (.move (.t 10)))⟩,
 ⟨some 11, none, (.p (.ext (.t 8) 0))⟩,
 ⟨some 12, none, (.p (.ext (.t 8) 1))⟩,
 ⟨some 13, none, (.p (.ext (.t 8) 2))⟩,
 ⟨some 5, none, (.p (.move (.t 11)))⟩,
 ⟨some 6, none, (.p (.move (.t 12)))⟩,
 ⟨some 7, none, (.p (.move (.t 13)))⟩]) (.seq (.reg 
[⟨some 14, none, (.p (.move (.t 5)))⟩,
 ⟨some 15, none, (.p (.move (.t 0)))⟩,
 ⟨some 16, none, (.p (.lens (.t 15)))⟩,
 ⟨some 17, none, (.p (.build [.nils, (.int .i64 0), (.int .i64 0), (.int .i64 0), (.int .i64 0)] [(0, 1, (.t 14)), (1, 1, (.t 16))]))⟩,
 ⟨some 18, none, (.e (.box 5 (.t 17)))⟩,
 ⟨some 19, none, (.p (.move (.t 6)))⟩,
 ⟨some 20, none, (.p (.move (.t 7)))⟩,
 ⟨some 2, none, (.p (.move (.t 18)))⟩,
 ⟨some 3, none, (.p (.move (.t 19)))⟩,
 ⟨some 4, none, (.p (.move (.t 20)))⟩]) .ret))), [.t 2, .t 3, .t 4]⟩
/-- (*libevolution/libevolutionref02.parser).module -/
def x170 : XF := ⟨(.seq (.reg 
[⟨some 2, none, (.e (.alloc [(.int .i64 0), (.str []), (.int .i64 0), .nils, .nils, .nils, .nils, .nils, .nils]))⟩]) (.seq (.reg 
[⟨some 3, none, (.e (.alloc [(.int .i64 0), (.str []), (.int .i64 0), .nils, .nils, .nils, .nils, .nils, .nils]))⟩]) (.seq (.block 0 (.seq (.reg 
[⟨some 10, none, (.p (.move (.t 0)))⟩,
 ⟨some 11, none, (.e (.call (.c (.fn 243 [] [])) [(.t 10), (.c (.str [108, 105, 98, 114, 97, 114, 121]))]))⟩,
 ⟨some 9, none, (.p (.move (.t 11)))⟩]) (.cond (.t 9) (.reg 
[⟨some 12, none, (.p (.faddr 0 (.t 3)))⟩,
 ⟨none, none, (.e (.store 1 (.t 12) (.c (.int .i64 1))))⟩]) (.seq (.reg 
[⟨some 14, none, (.p (.move (.t 0)))⟩,
 ⟨some 15, none, (.e (.call (.c (.fn 243 [] [])) [(.t 14), (.c (.str [99, 108, 105, 101, 110, 116]))]))⟩,
 ⟨some 13, none, (.p (.move (.t 15)))⟩]) (.cond (.t 13) (.reg 
[⟨some 16, none, (.p (.faddr 0 (.t 3)))⟩,
 ⟨none, none, (.e (.store 1 (.t 16) (.c (.int .i64 2))))⟩]) (.seq (.reg 
[⟨some 18, none, (.p (.move (.t 0)))⟩,
 ⟨some 19, none, (.e (.call (.c (.fn 243 [] [])) [(.t 18), (.c (.str [105, 110, 116, 101, 114, 102, 97, 99, 101]))]))⟩,
 ⟨some 17, none, (.p (.move (.t 19)))⟩]) (.cond (.t 17) (.reg 
[⟨some 20, none, (.p (.faddr 0 (.t 3)))⟩,
 ⟨none, none, (.e (.store 1 (.t 20) (.c (.int .i64 3))))⟩]) (.reg 
[⟨some 5, none, (.p (.move (.t 0)))⟩,
 ⟨some 6, none, (.p (.move (.t 0)))⟩,
 ⟨some 7, none, (.e (.call (.c (.fn 245 [] [])) [(.t 6)]))⟩,
 ⟨some 8, none, (.e (.call (.c (.fn 244 [] [])) [(.t 5), (.t 7), (.c (.int .i64 2))]))⟩])))))))) (.seq (.reg 
[⟨some 21, none, (.p (.move (.t 0)))⟩,
 ⟨some 22, none, (.e (.call (.c (.fn 246 [] [])) [(.t 21)]))⟩,
 ⟨some 23, none, (.p (.faddr 1 (.t 3)))⟩,
 ⟨none, none, (.e (.store 1 (.t 23) (.t 22)))⟩]) (.seq (.seq (.reg 
[⟨some 24, none, (.p (.faddr 0 (.t 3)))⟩,
 ⟨some 25, none, (.l (.load 1 false (.t 24)))⟩,
 ⟨some 26, none, (.p (.bin .neq .int (.t 25) (.c (.int .i64 2))))⟩]) (.cond (.t 26) (.seq (.reg 
[⟨some 27, none, (.p (.move (.t 0)))⟩,
 ⟨some 28, none, (.e (.call (.c (.fn 247 [] [])) [(.t 27), (.c (.str [114, 101, 108, 101, 97, 115, 101]))]))⟩]) (.reg 
[⟨some 29, none, (.p (.move (.t 0)))⟩,
 ⟨some 30, none, (.e (.call (.c (.fn 248 [] [])) [(.t 29)]))⟩,
 ⟨some 31, none, (.p (.faddr 2 (.t 3)))⟩,
 ⟨none, none, (.e (.store 1 (.t 31) (.t 30)))⟩])) .skip)) (.seq (.reg 
[⟨some 32, none, (.p (.move (.t 0)))⟩,
 ⟨some 33, none, (.e (.call (.c (.fn 247 [] [])) [(.t 32), (.c (.str [59]))]))⟩]) (.seq (.block 1 (.loop (.seq (.seq (.reg 
[⟨some 34, none, (.p (.move (.t 0)))⟩,
 ⟨some 35, none, (.e (.call (.c (.fn 243 [] [])) [(.t 34), (.c (.str [105, 109, 112, 111, 114, 116]))]))⟩]) (.cond (.t 35) .skip (.exit 1))) (.block 2 (.seq (.reg 
[⟨some 36, none, (.p (.move (.t 0)))⟩,
 ⟨some 37, none, (.e (.call (.c (.fn 246 [] [])) [(.t 36)]))⟩,
 ⟨some 38, none, (.p (.build [(.str []), (.int .i64 0)] [(0, 1, (.t 37))]))⟩,
 ⟨some 4, none, (.e (.alloc [(.str []), (.int .i64 0)]))⟩,
 ⟨none, none, (.e (.store 2 (.t 4) (.t 38)))⟩]) (.seq (.reg 
[⟨some 39, none, (.p (.move (.t 0)))⟩,
 ⟨some 40, none, (.e (.call (.c (.fn 248 [] [])) [(.t 39)]))⟩,
 ⟨some 41, none, (.p (.faddr 1 (.t 4)))⟩,
 ⟨none, none, (.e (.store 1 (.t 41) (.t 40)))⟩]) (.seq (.reg 
[⟨some 42, none, (.p (.move (.t 0)))⟩,
 ⟨some 43, none, (.e (.call (.c (.fn 247 [] [])) [(.t 42), (.c (.str [59]))]))⟩]) (.reg 
[⟨some 44, none, (.p (.faddr 3 (.t 3)))⟩,
 ⟨some 45, none, (.l (.load 1 false (.t 44)))⟩,
 ⟨some 46, none, (.l (.load 2 true (.t 4)))⟩,
 ⟨some 47, none, (.p (.bslice 2 [(.agg [(.str []), (.int .i64 0)])] [(0, (.t 46))]))⟩,
 ⟨some 48, none, (.e (.app 2 24 (.t 45) (.t 47)))⟩,
 ⟨some 49, none, (.p (.faddr 3 (.t 3)))⟩,
 ⟨none, none, (.e (.store 1 (.t 49) (.t 48)))⟩])))))))) (.seq (.block 3 (.loop (.seq (.seq (.regd [] 
[⟨some 50, none, (.p (.move (.t 0)))⟩,
 ⟨some 51, none, (.p (.nilc (.t 50)))⟩,
 ⟨some 52, none, (.p (.faddr 4 (.t 51)))⟩,
 ⟨some 53, none, (.l (.load 1 false (.t 52)))⟩,
 ⟨some 54, none, (.p (.bin .eql .int (.t 53) (.c (.int .i64 0))))⟩,
 ⟨some 55, none, (.p (.move (.t 54)))⟩,
 ⟨some 56, some (55, true), (.p (.move (.t 0)))⟩,
 ⟨some 57, some (55, true), (.p (.nilc (.t 56)))⟩,
 ⟨some 58, some (55, true), (.p (.faddr 2 (.t 57)))⟩,
 ⟨some 59, some (55, true), (.l (.load 1 false (.t 58)))⟩,
 ⟨some 60, some (55, true), (.p (.move (.t 0)))⟩,
 ⟨some 61, some (55, true), (.p (.nilc (.t 60)))⟩,
 ⟨some 62, some (55, true), (.p (.faddr 0 (.t 61)))⟩,
 ⟨some 63, some (55, true), (.l (.load 1 false (.t 62)))⟩,
 ⟨some 64, some (55, true), (.p (.lenl (.t 63)))⟩,
 ⟨some 65, some (55, true), (.p (.bin .lss .int (.t 59) (.t 64)))⟩,
 ⟨some 66, none, (.p (.pick (.t 55) (.t 65) (.c (.bool false))))⟩] []) (.cond (.t 66) .skip (.exit 3))) (.block 4 (.reg 
[⟨some 67, none, (.p (.move (.t 0)))⟩,
 ⟨some 68, none, (.e (.call (.c (.fn 249 [] [])) [(.t 67), (.t 3)]))⟩]))))) (.seq (.reg 
[⟨some 69, none, (.l (.load 9 true (.t 3)))⟩,
 ⟨none, none, (.e (.store 9 (.t 2) (.t 69)))⟩]) .ret))))))))), [.cell 2 9 true]⟩
/-- (*libevolution/libevolutionref02.parser).finish -/
def x171 : XF := ⟨(.seq (.reg 
[⟨some 2, none, (.p (.move (.c (.int .i64 0))))⟩,
 ⟨some 3, none, (.p (.move (.c (.int .i64 0))))⟩]) (.seq (.seq (.regd [] 
[⟨some 4, none, (.p (.move (.t 0)))⟩,
 ⟨some 5, none, (.p (.nilc (.t 4)))⟩,
 ⟨some 6, none, (.p (.faddr 2 (.t 5)))⟩,
 ⟨some 7, none, (.l (.load 1 false (.t 6)))⟩,
 ⟨some 8, none, (.p (.move (.t 0)))⟩,
 ⟨some 9, none, (.p (.nilc (.t 8)))⟩,
 ⟨some 10, none, (.p (.faddr 0 (.t 9)))⟩,
 ⟨some 11, none, (.l (.load 1 false (.t 10)))⟩,
 ⟨some 12, none, (.p (.lenl (.t 11)))⟩,
 ⟨some 13, none, (.p (.bin .lss .int (.t 7) (.t 12)))⟩] []) (.cond (.t 13) (.reg 
[⟨some 14, none, (.p (.move (.t 0)))⟩,
 ⟨some 15, none, (.p (.move (.t 0)))⟩,
 ⟨some 16, none, (.e (.call (.c (.fn 245 [] [])) [(.t 15)]))⟩,
 ⟨some 17, none, (.e (.call (.c (.fn 244 [] [])) [(.t 14), (.t 16), (.c (.int .i64 2))]))⟩]) .skip)) (.seq (.regd [] 
[⟨some 18, none, (.p (.move (.t 0)))⟩,
 ⟨some 19, none, (.p (.nilc (.t 18)))⟩,
 ⟨some 20, none, (.p (.faddr 3 (.t 19)))⟩,
 ⟨some 21, none, (.l (.load 1 false (.t 20)))⟩,
 ⟨some 22, none, (.p (.move (.t 0)))⟩,
 ⟨some 23, none, (.p (.nilc (.t 22)))⟩,
 ⟨some 24, none, (.p (.faddr 4 (.t 23)))⟩,
 ⟨some 25, none, (.l (.load 1 false (.t 24)))⟩,
 ⟨some 2, none, (.p (.move (.t 21)))⟩,
 ⟨some 3, none, (.p (.move (.t 25)))⟩] []) .ret))), [.t 2, .t 3]⟩
/-- libevolution/scope.wrong -/
def x172 : XF := ⟨(.seq (.reg 
[⟨some 4, none, (.p (.move (.c (.int .i64 0))))⟩]) (.seq (.reg 
[⟨some 12, none, (.p (.move (.t 0)))⟩,
 ⟨some 13, none, (.p (.move (.t 1)))⟩,
 ⟨some 14, none, (.p (.iaddr 9 (.t 12) (.t 13)))⟩,
 ⟨some 15, none, (.l (.load 9 true (.t 14)))⟩,
 ⟨some 5, none, (.e (.alloc [(.int .i64 0), (.str []), (.int .i64 0), .nils, .nils, .nils, .nils, .nils, .nils]))⟩,
 ⟨none, none, (.e (.store 9 (.t 5) (.t 15)))⟩]) (.seq (.seq (.reg 
[⟨some 17, none, (.p (.move (.t 0)))⟩,
 ⟨some 18, none, (.p (.faddr 1 (.t 5)))⟩,
 ⟨some 19, none, (.l (.load 1 false (.t 18)))⟩,
 ⟨some 20, none, (.e (.call (.c (.fn 250 [] [])) [(.t 17), (.t 19)]))⟩,
 ⟨some 16, none, (.p (.move (.t 20)))⟩,
 ⟨some 21, none, (.p (.ext (.t 16) 0))⟩,
 ⟨some 22, none, (.p (.ext (.t 16) 1))⟩,
 ⟨some 6, none, (.p (.move (.t 21)))⟩,
 ⟨some 7, none, (.p (.move (.t 22)))⟩]) (.seq (.reg 
[⟨some 23, none, (.p (.move (.t 6)))⟩,
 ⟨some 24, none, (.p (.move (.t 1)))⟩,
 ⟨some 25, none, (.p (.bin .lss .int (.t 23) (.t 24)))⟩]) (.cond (.t 25) (.seq (.reg 
[⟨some 4, none, (.p (.move (.c (.int .i64 5))))⟩]) .ret) .skip))) (.seq (.seq (.reg 
[⟨some 26, none, (.p (.faddr 3 (.t 5)))⟩,
 ⟨some 27, none, (.l (.load 1 false (.t 26)))⟩,
 ⟨some 28, none, (.p (.lenl (.t 27)))⟩,
 ⟨some 29, none, (.p (.move (.c (.int .i64 0))))⟩]) (.block 0 (.loop (.seq (.reg 
[⟨some 30, none, (.p (.bin .lss .int (.t 29) (.t 28)))⟩]) (.seq (.cond (.t 30) .skip (.exit 0)) (.seq (.block 1 (.seq (.reg 
[⟨some 31, none, (.p (.move (.t 29)))⟩,
 ⟨some 32, none, (.p (.iaddr 2 (.t 27) (.t 29)))⟩,
 ⟨some 33, none, (.l (.load 2 true (.t 32)))⟩,
 ⟨some 9, none, (.e (.alloc [(.str []), (.int .i64 0)]))⟩,
 ⟨some 8, none, (.p (.move (.t 31)))⟩,
 ⟨none, none, (.e (.store 2 (.t 9) (.t 33)))⟩]) (.seq (.seq (.reg 
[⟨some 34, none, (.p (.faddr 3 (.t 5)))⟩,
 ⟨some 35, none, (.l (.load 1 false (.t 34)))⟩,
 ⟨some 36, none, (.p (.move (.t 8)))⟩,
 ⟨some 37, none, (.p (.subl 2 (.t 35) none (some (.t 36))))⟩,
 ⟨some 38, none, (.p (.mkf 251 [] [(.t 9)]))⟩,
 ⟨some 39, none, (.e (.call (.c (.fn 175 [] [])) [(.t 37), (.t 38)]))⟩]) (.cond (.t 39) (.seq (.reg 
[⟨some 4, none, (.p (.move (.c (.int .i64 5))))⟩]) .ret) .skip)) (.seq (.reg 
[⟨some 41, none, (.p (.move (.t 0)))⟩,
 ⟨some 42, none, (.p (.faddr 0 (.t 9)))⟩,
 ⟨some 43, none, (.l (.load 1 false (.t 42)))⟩,
 ⟨some 44, none, (.e (.call (.c (.fn 250 [] [])) [(.t 41), (.t 43)]))⟩,
 ⟨some 40, none, (.p (.move (.t 44)))⟩,
 ⟨some 45, none, (.p (.ext (.t 40) 0))⟩,
 ⟨some 46, none, (.p (.ext (.t 40) 1))⟩,
 ⟨some 10, none, (.p (.move (.t 45)))⟩,
 ⟨some 11, none, (.p (.move (.t 46)))⟩]) (.seq (.seq (.reg 
[⟨some 47, none, (.p (.move (.t 11)))⟩,
 ⟨some 48, none, (.p (.not (.t 47)))⟩,
 ⟨some 49, none, (.p (.move (.t 48)))⟩,
 ⟨some 50, some (49, false), (.p (.move (.t 0)))⟩,
 ⟨some 51, some (49, false), (.p (.move (.t 10)))⟩,
 ⟨some 52, some (49, false), (.p (.iaddr 9 (.t 50) (.t 51)))⟩,
 ⟨some 53, some (49, false), (.p (.faddr 0 (.t 52)))⟩,
 ⟨some 54, some (49, false), (.l (.load 1 false (.t 53)))⟩,
 ⟨some 55, some (49, false), (.p (.bin .eql .int (.t 54) (.c (.int .i64 2))))⟩,
 ⟨some 56, none, (.p (.pick (.t 49) (.c (.bool true)) (.t 55)))⟩]) (.cond (.t 56) (.seq (.reg 
[⟨some 4, none, (.p (.move (.c (.int .i64 8))))⟩]) .ret) .skip)) (.seq (.regd [] 
[⟨some 57, none, (.p (.move (.t 0)))⟩,
 ⟨some 58, none, (.p (.move (.t 10)))⟩,
 ⟨some 59, none, (.p (.iaddr 9 (.t 57) (.t 58)))⟩,
 ⟨some 60, none, (.p (.faddr 2 (.t 59)))⟩,
 ⟨some 61, none, (.l (.load 1 false (.t 60)))⟩,
 ⟨some 62, none, (.p (.faddr 1 (.t 9)))⟩,
 ⟨some 63, none, (.l (.load 1 false (.t 62)))⟩,
 ⟨some 64, none, (.p (.bin .lss .int (.t 61) (.t 63)))⟩] []) (.cond (.t 64) (.seq (.reg 
[⟨some 4, none, (.p (.move (.c (.int .i64 16))))⟩]) .ret) .skip))))))) (.reg 
[⟨some 65, none, (.p (.bin .add .int (.t 29) (.c (.int .i64 1))))⟩,
 ⟨some 29, none, (.p (.move (.t 65)))⟩]))))))) (.seq (.reg 
[⟨some 4, none, (.p (.move (.c (.int .i64 0))))⟩]) .ret))))), [.t 4]⟩
/-- slices.IndexFunc[[]libevolution/api.Module,libevolution/api.Module] -/
def x173 : XF := ⟨(.seq (.reg 
[⟨some 4, none, (.p (.move (.c (.int .i64 0))))⟩]) (.seq (.seq (.reg 
[⟨some 6, none, (.p (.move (.t 0)))⟩,
 ⟨some 7, none, (.p (.lenl (.t 6)))⟩,
 ⟨some 8, none, (.p (.move (.c (.int .i64 0))))⟩]) (.block 0 (.loop (.seq (.reg 
[⟨some 9, none, (.p (.bin .lss .int (.t 8) (.t 7)))⟩]) (.seq (.cond (.t 9) .skip (.exit 0)) (.seq (.block 1 (.seq (.reg 
[⟨some 10, none, (.p (.move (.t 8)))⟩,
 ⟨some 5, none, (.p (.move (.t 10)))⟩]) (.seq (.reg 
[⟨some 11, none, (.p (.move (.t 1)))⟩,
 ⟨some 12, none, (.p (.move (.t 0)))⟩,
 ⟨some 13, none, (.p (.move (.t 5)))⟩,
 ⟨some 14, none, (.p (.iaddr 9 (.t 12) (.t 13)))⟩,
 ⟨some 15, none, (.l (.load 9 true (.t 14)))⟩,
 ⟨some 16, none, (.e (.call (.t 11) [(.t 15)]))⟩]) (.cond (.t 16) (.seq (.reg 
[⟨some 17, none, (.p (.move (.t 5)))⟩,
 ⟨some 4, none, (.p (.move (.t 17)))⟩]) .ret) .skip)))) (.reg 
[⟨some 18, none, (.p (.bin .add .int (.t 8) (.c (.int .i64 1))))⟩,
 ⟨some 8, none, (.p (.move (.t 18)))⟩]))))))) (.seq (.reg 
[⟨some 4, none, (.p (.move (.c (.int .i64 (-1)))))⟩]) .ret))), [.t 4]⟩
/-- libevolution/scope.Order$1 -/
def x174 : XF := ⟨(.seq (.reg 
[⟨some 2, none, (.e (.box 9 (.t 0)))⟩,
 ⟨some 3, none, (.p (.move (.c (.bool false))))⟩]) (.seq (.reg 
[⟨some 4, none, (.l (.load 1 false (.t 1)))⟩,
 ⟨some 5, none, (.p (.faddr 1 (.t 2)))⟩,
 ⟨some 6, none, (.l (.load 1 false (.t 5)))⟩,
 ⟨some 7, none, (.l (.look .str (.bool false) false (.t 4) (.t 6)))⟩,
 ⟨some 8, none, (.p (.not (.t 7)))⟩,
 ⟨some 9, none, (.p (.move (.t 8)))⟩,
 ⟨some 10, some (9, true), (.p (.faddr 3 (.t 2)))⟩,
 ⟨some 11, some (9, true), (.l (.load 1 false (.t 10)))⟩,
 ⟨some 12, some (9, true), (.p (.mkf 176 [] [(.t 1)]))⟩,
 ⟨some 13, some (9, true), (.e (.call (.c (.fn 175 [] [])) [(.t 11), (.t 12)]))⟩,
 ⟨some 14, some (9, true), (.p (.not (.t 13)))⟩,
 ⟨some 15, none, (.p (.pick (.t 9) (.t 14) (.c (.bool false))))⟩,
 ⟨some 3, none, (.p (.move (.t 15)))⟩]) .ret)), [.t 3]⟩
/-- slices.ContainsFunc[[]libevolution/api.Import,libevolution/api.Import] -/
def x175 : XF := ⟨(.seq (.reg 
[⟨some 4, none, (.p (.move (.c (.bool false))))⟩]) (.seq (.reg 
[⟨some 5, none, (.p (.move (.t 0)))⟩,
 ⟨some 6, none, (.p (.move (.t 1)))⟩,
 ⟨some 7, none, (.e (.call (.c (.fn 59 [] [])) [(.t 5), (.t 6)]))⟩,
 ⟨some 8, none, (.p (.bin .geq .int (.t 7) (.c (.int .i64 0))))⟩,
 ⟨some 4, none, (.p (.move (.t 8)))⟩]) .ret)), [.t 4]⟩
/-- libevolution/scope.Order$1$1 -/
def x176 : XF := ⟨(.seq (.reg 
[⟨some 2, none, (.e (.box 2 (.t 0)))⟩,
 ⟨some 3, none, (.p (.move (.c (.bool false))))⟩]) (.seq (.reg 
[⟨some 4, none, (.l (.load 1 false (.t 1)))⟩,
 ⟨some 5, none, (.p (.faddr 0 (.t 2)))⟩,
 ⟨some 6, none, (.l (.load 1 false (.t 5)))⟩,
 ⟨some 7, none, (.l (.look .str (.bool false) false (.t 4) (.t 6)))⟩,
 ⟨some 8, none, (.p (.not (.t 7)))⟩,
 ⟨some 3, none, (.p (.move (.t 8)))⟩]) .ret)), [.t 3]⟩
/-- libevolution/since.late$1 -/
def x177 : XF := ⟨(.seq (.reg 
[⟨some 3, none, (.p (.move (.c (.bool false))))⟩]) (.seq (.reg 
[⟨some 4, none, (.p (.move (.t 0)))⟩,
 ⟨some 5, none, (.p (.bin .neq .int (.t 4) (.c (.int .i64 0))))⟩,
 ⟨some 6, none, (.p (.move (.t 5)))⟩,
 ⟨some 7, some (6, true), (.p (.faddr 0 (.t 1)))⟩,
 ⟨some 8, some (6, true), (.l (.load 1 false (.t 7)))⟩,
 ⟨some 9, some (6, true), (.p (.bin .eql .int (.t 8) (.c (.int .i64 2))))⟩,
 ⟨some 10, some (6, true), (.p (.move (.t 9)))⟩,
 ⟨some 11, some (10, false), (.p (.move (.t 0)))⟩,
 ⟨some 12, some (10, false), (.p (.faddr 2 (.t 1)))⟩,
 ⟨some 13, some (10, false), (.l (.load 1 false (.t 12)))⟩,
 ⟨some 14, some (10, false), (.p (.bin .gtr .int (.t 11) (.t 13)))⟩,
 ⟨some 15, some (6, true), (.p (.pick (.t 10) (.c (.bool true)) (.t 14)))⟩,
 ⟨some 16, none, (.p (.pick (.t 6) (.t 15) (.c (.bool false))))⟩,
 ⟨some 3, none, (.p (.move (.t 16)))⟩]) .ret)), [.t 3]⟩
/-- slices.ContainsFunc[[]libevolution/api.Struct,libevolution/api.Struct] -/
def x178 : XF := ⟨(.seq (.reg 
[⟨some 4, none, (.p (.move (.c (.bool false))))⟩]) (.seq (.reg 
[⟨some 5, none, (.p (.move (.t 0)))⟩,
 ⟨some 6, none, (.p (.move (.t 1)))⟩,
 ⟨some 7, none, (.e (.call (.c (.fn 91 [] [])) [(.t 5), (.t 6)]))⟩,
 ⟨some 8, none, (.p (.bin .geq .int (.t 7) (.c (.int .i64 0))))⟩,
 ⟨some 4, none, (.p (.move (.t 8)))⟩]) .ret)), [.t 4]⟩
/-- libevolution/since.late$2 -/
def x179 : XF := ⟨(.seq (.reg 
[⟨some 2, none, (.e (.box 6 (.t 0)))⟩,
 ⟨some 3, none, (.p (.move (.c (.bool false))))⟩]) (.seq (.reg 
[⟨some 4, none, (.l (.load 1 false (.t 1)))⟩,
 ⟨some 5, none, (.p (.faddr 0 (.t 2)))⟩,
 ⟨some 6, none, (.l (.load 1 false (.t 5)))⟩,
 ⟨some 7, none, (.e (.call (.t 4) [(.t 6)]))⟩,
 ⟨some 3, none, (.p (.move (.t 7)))⟩]) .ret)), [.t 3]⟩
/-- slices.ContainsFunc[[]libevolution/api.Union,libevolution/api.Union] -/
def x180 : XF := ⟨(.seq (.reg 
[⟨some 4, none, (.p (.move (.c (.bool false))))⟩]) (.seq (.reg 
[⟨some 5, none, (.p (.move (.t 0)))⟩,
 ⟨some 6, none, (.p (.move (.t 1)))⟩,
 ⟨some 7, none, (.e (.call (.c (.fn 94 [] [])) [(.t 5), (.t 6)]))⟩,
 ⟨some 8, none, (.p (.bin .geq .int (.t 7) (.c (.int .i64 0))))⟩,
 ⟨some 4, none, (.p (.move (.t 8)))⟩]) .ret)), [.t 4]⟩
/-- libevolution/since.late$3 -/
def x181 : XF := ⟨(.seq (.reg 
[⟨some 2, none, (.e (.box 6 (.t 0)))⟩,
 ⟨some 3, none, (.p (.move (.c (.bool false))))⟩]) (.seq (.reg 
[⟨some 4, none, (.l (.load 1 false (.t 1)))⟩,
 ⟨some 5, none, (.p (.faddr 0 (.t 2)))⟩,
 ⟨some 6, none, (.l (.load 1 false (.t 5)))⟩,
 ⟨some 7, none, (.e (.call (.t 4) [(.t 6)]))⟩,
 ⟨some 3, none, (.p (.move (.t 7)))⟩]) .ret)), [.t 3]⟩
/-- slices.ContainsFunc[[]libevolution/api.Trait,libevolution/api.Trait] -/
def x182 : XF := ⟨(.seq (.reg 
[⟨some 4, none, (.p (.move (.c (.bool false))))⟩]) (.seq (.reg 
[⟨some 5, none, (.p (.move (.t 0)))⟩,
 ⟨some 6, none, (.p (.move (.t 1)))⟩,
 ⟨some 7, none, (.e (.call (.c (.fn 96 [] [])) [(.t 5), (.t 6)]))⟩,
 ⟨some 8, none, (.p (.bin .geq .int (.t 7) (.c (.int .i64 0))))⟩,
 ⟨some 4, none, (.p (.move (.t 8)))⟩]) .ret)), [.t 4]⟩
/-- libevolution/since.late$4 -/
def x183 : XF := ⟨(.seq (.reg 
[⟨some 2, none, (.e (.box 5 (.t 0)))⟩,
 ⟨some 3, none, (.p (.move (.c (.bool false))))⟩]) (.seq (.reg 
[⟨some 4, none, (.l (.load 1 false (.t 1)))⟩,
 ⟨some 5, none, (.p (.faddr 0 (.t 2)))⟩,
 ⟨some 6, none, (.l (.load 1 false (.t 5)))⟩,
 ⟨some 7, none, (.e (.call (.t 4) [(.t 6)]))⟩,
 ⟨some 3, none, (.p (.move (.t 7)))⟩]) .ret)), [.t 3]⟩
/-- slices.ContainsFunc[[]libevolution/api.Func,libevolution/api.Func] -/
def x184 : XF := ⟨(.seq (.reg 
[⟨some 4, none, (.p (.move (.c (.bool false))))⟩]) (.seq (.reg 
[⟨some 5, none, (.p (.move (.t 0)))⟩,
 ⟨some 6, none, (.p (.move (.t 1)))⟩,
 ⟨some 7, none, (.e (.call (.c (.fn 98 [] [])) [(.t 5), (.t 6)]))⟩,
 ⟨some 8, none, (.p (.bin .geq .int (.t 7) (.c (.int .i64 0))))⟩,
 ⟨some 4, none, (.p (.move (.t 8)))⟩]) .ret)), [.t 4]⟩
/-- libevolution/since.late$5 -/
def x185 : XF := ⟨(.seq (.reg 
[⟨some 2, none, (.e (.box 20 (.t 0)))⟩,
 ⟨some 3, none, (.p (.move (.c (.bool false))))⟩]) (.seq (.reg 
[⟨some 4, none, (.l (.load 1 false (.t 1)))⟩,
 ⟨some 5, none, (.p (.faddr 0 (.t 2)))⟩,
 ⟨some 6, none, (.l (.load 1 false (.t 5)))⟩,
 ⟨some 7, none, (.e (.call (.t 4) [(.t 6)]))⟩,
 ⟨some 3, none, (.p (.move (.t 7)))⟩]) .ret)), [.t 3]⟩
/-- internal/stringslite.Cut -/
def x186 : XF := ⟨(.seq (.reg 
[⟨some 4, none, (.p (.move (.c (.str []))))⟩,
 ⟨some 5, none, (.p (.move (.c (.str []))))⟩,
 ⟨some 6, none, (.p (.move (.c (.bool false))))⟩]) (.seq (.seq (.reg 
[⟨some 8, none, (.p (.move (.t 0)))⟩,
 ⟨some 9, none, (.p (.move (.t 1)))⟩,
 ⟨some 10, none, (.e (.call (.c (.fn 252 [] [])) [(.t 8), (.t 9)]))⟩,
 ⟨some 7, none, (.p (.move (.t 10)))⟩]) (.seq (.reg 
[⟨some 11, none, (.p (.move (.t 7)))⟩,
 ⟨some 12, none, (.p (.bin .geq .int (.t 11) (.c (.int .i64 0))))⟩]) (.cond (.t 12) (.seq (.regd [] 
[⟨some 13, none, (.p (.move (.t 0)))⟩,
 ⟨some 14, none, (.p (.move (.t 7)))⟩,
 ⟨some 15, none, (.p (.subs (.t 13) none (some (.t 14))))⟩,
 ⟨some 16, none, (.p (.move (.t 0)))⟩,
 ⟨some 17, none, (.p (.move (.t 7)))⟩,
 ⟨some 18, none, (.p (.move (.t 1)))⟩,
 ⟨some 19, none, (.p (.lens (.t 18)))⟩,
 ⟨some 20, none, (.p (.bin .add .int (.t 17) (.t 19)))⟩,
 ⟨some 21, none, (.p (.subs (.t 16) (some (.t 20)) none))⟩,
 ⟨some 4, none, (.p (.move (.t 15)))⟩,
 ⟨some 5, none, (.p (.move (.t 21)))⟩,
 ⟨some 6, none, (.p (.move (.c (.bool true))))⟩] []) .ret) .skip))) (.seq (.reg 
[⟨some 22, none, (.p (.move (.t 0)))⟩,
 ⟨some 4, none, (.p (.move (.t 22)))⟩,
 ⟨some 5, none, (.p (.move (.c (.str []))))⟩,
 ⟨some 6, none, (.p (.move (.c (.bool false))))⟩]) .ret))), [.t 4, .t 5, .t 6]⟩
/-- strings.Index -/
def x187 : XF := ⟨(.seq (.reg 
[⟨some 4, none, (.p (.move (.c (.int .i64 0))))⟩]) (.seq (.reg 
[⟨some 5, none, (.p (.move (.t 0)))⟩,
 ⟨some 6, none, (.p (.move (.t 1)))⟩,
 ⟨some 7, none, (.e (.call (.c (.fn 252 [] [])) [(.t 5), (.t 6)]))⟩,
 ⟨some 4, none, (.p (.move (.t 7)))⟩]) .ret)), [.t 4]⟩
/-- (*libevolution/since.walker).expr -/
def x188 : XF := ⟨(.seq (.reg 
[⟨some 4, none, (.e (.box 11 (.t 1)))⟩,
 ⟨some 5, none, (.e (.box 3 (.t 2)))⟩]) (.seq (.reg 
[⟨some 9, none, (.p (.faddr 10 (.t 4)))⟩,
 ⟨some 10, none, (.l (.load 1 false (.t 9)))⟩,
 ⟨some 11, none, (.p (.faddr 0 (.t 5)))⟩,
 ⟨none, none, (.e (.store 1 (.t 11) (.t 10)))⟩]) (.seq (.seq (.reg 
[⟨some 12, none, (.p (.faddr 0 (.t 4)))⟩,
 ⟨some 13, none, (.l (.load 1 false (.t 12)))⟩]) (.block 0 (.seq (.seq (.reg 
[⟨some 15, none, (.p (.bin .eql .int (.t 13) (.c (.int .i64 9))))⟩,
 ⟨some 14, none, (.p (.move (.t 15)))⟩]) (.cond (.t 14) .skip (.seq (.reg 
[⟨some 16, none, (.p (.bin .eql .int (.t 13) (.c (.int .i64 10))))⟩,
 ⟨some 14, none, (.p (.move (.t 16)))⟩]) (.cond (.t 14) .skip (.seq (.reg 
[⟨some 17, none, (.p (.bin .eql .int (.t 13) (.c (.int .i64 11))))⟩,
 ⟨some 14, none, (.p (.move (.t 17)))⟩]) (.cond (.t 14) .skip (.reg 
[⟨some 18, none, (.p (.bin .eql .int (.t 13) (.c (.int .i64 21))))⟩,
 ⟨some 14, none, (.p (.move (.t 18)))⟩]))))))) (.cond (.t 14) (.regd [] 
[⟨some 19, none, (.p (.move (.t 0)))⟩,
 ⟨some 20, none, (.p (.nilc (.t 19)))⟩,
 ⟨some 21, none, (.p (.faddr 9 (.t 20)))⟩,
 ⟨some 22, none, (.l (.load 1 false (.t 21)))⟩,
 ⟨some 23, none, (.p (.faddr 1 (.t 4)))⟩,
 ⟨some 24, none, (.l (.load 1 false (.t 23)))⟩,
 ⟨some 25, none, (.l (.load 3 true (.t 5)))⟩,
 ⟨some 26, none, (.e (.call (.t 22) [(.t 24), (.t 25)]))⟩] []) .skip)))) (.seq (.reg 
[⟨some 27, none, (.p (.move (.t 0)))⟩,
 ⟨some 28, none, (.p (.faddr 4 (.t 4)))⟩,
 ⟨some 29, none, (.l (.load 1 false (.t 28)))⟩,
 ⟨some 30, none, (.l (.load 3 true (.t 5)))⟩,
 ⟨some 31, none, (.e (.call (.c (.fn 103 [] [])) [(.t 27), (.t 29), (.t 30)]))⟩]) (.seq (.reg 
[⟨some 32, none, (.p (.faddr 7 (.t 4)))⟩,
 ⟨some 33, none, (.l (.load 1 false (.t 32)))⟩,
 ⟨some 34, none, (.p (.lenl (.t 33)))⟩,
 ⟨some 35, none, (.p (.move (.c (.int .i64 0))))⟩]) (.block 1 (.loop (.seq (.reg 
[⟨some 36, none, (.p (.bin .lss .int (.t 35) (.t 34)))⟩]) (.seq (.cond (.t 36) .skip (.exit 1)) (.seq (.block 2 (.seq (.reg 
[⟨some 37, none, (.p (.move (.t 35)))⟩,
 ⟨some 38, none, (.p (.iaddr 11 (.t 33) (.t 35)))⟩,
 ⟨some 39, none, (.l (.load 11 true (.t 38)))⟩,
 ⟨some 7, none, (.e (.alloc [(.int .i64 0), (.str []), (.str []), (.int .i64 0), .nils, .nils, .nils, .nils, (.str []), .nils, (.int .i64 0)]))⟩,
 ⟨some 6, none, (.p (.move (.t 37)))⟩,
 ⟨none, none, (.e (.store 11 (.t 7) (.t 39)))⟩]) (.seq (.reg 
[⟨some 40, none, (.l (.load 3 true (.t 5)))⟩,
 ⟨some 8, none, (.e (.alloc [(.int .i64 0), (.int .i64 0), .nilp]))⟩,
 ⟨none, none, (.e (.store 3 (.t 8) (.t 40)))⟩]) (.seq (.seq (.reg 
[⟨some 41, none, (.p (.faddr 0 (.t 4)))⟩,
 ⟨some 42, none, (.l (.load 1 false (.t 41)))⟩,
 ⟨some 43, none, (.p (.bin .eql .int (.t 42) (.c (.int .i64 5))))⟩,
 ⟨some 44, none, (.p (.move (.t 43)))⟩,
 ⟨some 45, some (44, true), (.p (.move (.t 6)))⟩,
 ⟨some 46, some (44, true), (.p (.bin .eql .int (.t 45) (.c (.int .i64 1))))⟩,
 ⟨some 47, none, (.p (.pick (.t 44) (.t 46) (.c (.bool false))))⟩,
 ⟨some 48, none, (.p (.move (.t 47)))⟩,
 ⟨some 49, some (48, true), (.p (.faddr 7 (.t 4)))⟩,
 ⟨some 50, some (48, true), (.l (.load 1 false (.t 49)))⟩,
 ⟨some 51, some (48, true), (.p (.iaddr 11 (.t 50) (.c (.int .i64 0))))⟩,
 ⟨some 52, some (48, true), (.p (.faddr 0 (.t 51)))⟩,
 ⟨some 53, some (48, true), (.l (.load 1 false (.t 52)))⟩,
 ⟨some 54, some (48, true), (.p (.bin .eql .int (.t 53) (.c (.int .i64 20))))⟩,
 ⟨some 55, none, (.p (.pick (.t 48) (.t 54) (.c (.bool false))))⟩]) (.cond (.t 55) (.regd [] 
[⟨some 56, none, (.p (.faddr 7 (.t 4)))⟩,
 ⟨some 57, none, (.l (.load 1 false (.t 56)))⟩,
 ⟨some 58, none, (.p (.iaddr 11 (.t 57) (.c (.int .i64 0))))⟩,
 ⟨some 59, none, (.p (.faddr 1 (.t 58)))⟩,
 ⟨some 60, none, (.l (.load 1 false (.t 59)))⟩,
 ⟨some 61, none, (.p (.faddr 7 (.t 4)))⟩,
 ⟨some 62, none, (.l (.load 1 false (.t 61)))⟩,
 ⟨some 63, none, (.p (.iaddr 11 (.t 62) (.c (.int .i64 0))))⟩,
 ⟨some 64, none, (.p (.faddr 3 (.t 63)))⟩,
 ⟨some 65, none, (.l (.load 1 false (.t 64)))⟩,
 ⟨some 66, none, (.p (.faddr 2 (.t 5)))⟩,
 ⟨some 67, none, (.l (.load 1 false (.t 66)))⟩,
 ⟨some 68, none, (.p (.build [(.str []), (.int .i64 0), .nilp] [(0, 1, (.t 60)), (1, 1, (.t 65)), (2, 1, (.t 67))]))⟩,
 ⟨some 69, none, (.e (.box 3 (.t 68)))⟩,
 ⟨some 70, none, (.p (.faddr 2 (.t 8)))⟩,
 ⟨none, none, (.e (.store 1 (.t 70) (.t 69)))⟩] []) .skip)) (.reg 
[⟨some 71, none, (.p (.move (.t 0)))⟩,
 ⟨some 72, none, (.l (.load 11 true (.t 7)))⟩,
 ⟨some 73, none, (.l (.load 3 true (.t 8)))⟩,
 ⟨some 74, none, (.e (.call (.c (.fn 188 [] [])) [(.t 71), (.t 72), (.t 73)]))⟩]))))) (.reg 
[⟨some 75, none, (.p (.bin .add .int (.t 35) (.c (.int .i64 1))))⟩,
 ⟨some 35, none, (.p (.move (.t 75)))⟩]))))))))))), []⟩
/-- libevolution/libevolutionref02.Zero -/
def x194 : XF := ⟨(.seq (.reg 
[⟨some 1, none, (.e (.box 11 (.t 0)))⟩,
 ⟨some 2, none, (.p (.move (.c (.bool false))))⟩]) (.seq (.reg 
[⟨some 3, none, (.p (.faddr 0 (.t 1)))⟩,
 ⟨some 4, none, (.l (.load 1 false (.t 3)))⟩,
 ⟨some 5, none, (.p (.bin .eql .int (.t 4) (.c (.int .i64 0))))⟩,
 ⟨some 6, none, (.p (.move (.t 5)))⟩,
 ⟨some 7, some (6, true), (.p (.faddr 1 (.t 1)))⟩,
 ⟨some 8, some (6, true), (.l (.load 1 false (.t 7)))⟩,
 ⟨some 9, some (6, true), (.p (.bin .eql .str (.t 8) (.c (.str []))))⟩,
 ⟨some 10, none, (.p (.pick (.t 6) (.t 9) (.c (.bool false))))⟩,
 ⟨some 11, none, (.p (.move (.t 10)))⟩,
 ⟨some 12, some (11, true), (.p (.faddr 2 (.t 1)))⟩,
 ⟨some 13, some (11, true), (.l (.load 1 false (.t 12)))⟩,
 ⟨some 14, some (11, true), (.p (.bin .eql .str (.t 13) (.c (.str []))))⟩,
 ⟨some 15, none, (.p (.pick (.t 11) (.t 14) (.c (.bool false))))⟩,
 ⟨some 16, none, (.p (.move (.t 15)))⟩,
 ⟨some 17, some (16, true), (.p (.faddr 3 (.t 1)))⟩,
 ⟨some 18, some (16, true), (.l (.load 1 false (.t 17)))⟩,
 ⟨some 19, some (16, true), (.p (.bin .eql .int (.t 18) (.c (.int .i64 0))))⟩,
 ⟨some 20, none, (.p (.pick (.t 16) (.t 19) (.c (.bool false))))⟩,
 ⟨some 21, none, (.p (.move (.t 20)))⟩,
 ⟨some 22, some (21, true), (.p (.faddr 4 (.t 1)))⟩,
 ⟨some 23, some (21, true), (.l (.load 1 false (.t 22)))⟩,
 ⟨some 24, some (21, true), (.p (.lenl (.t 23)))⟩,
 ⟨some 25, some (21, true), (.p (.bin .eql .int (.t 24) (.c (.int .i64 0))))⟩,
 ⟨some 26, none, (.p (.pick (.t 21) (.t 25) (.c (.bool false))))⟩,
 ⟨some 27, none, (.p (.move (.t 26)))⟩,
 ⟨some 28, some (27, true), (.p (.faddr 5 (.t 1)))⟩,
 ⟨some 29, some (27, true), (.l (.load 1 false (.t 28)))⟩,
 ⟨some 30, some (27, true), (.p (.lenl (.t 29)))⟩,
 ⟨some 31, some (27, true), (.p (.bin .eql .int (.t 30) (.c (.int .i64 0))))⟩,
 ⟨some 32, none, (.p (.pick (.t 27) (.t 31) (.c (.bool false))))⟩,
 ⟨some 33, none, (.p (.move (.t 32)))⟩,
 ⟨some 34, some (33, true), (.p (.faddr 6 (.t 1)))⟩,
 ⟨some 35, some (33, true), (.l (.load 1 false (.t 34)))⟩,
 ⟨some 36, some (33, true), (.p (.lenl (.t 35)))⟩,
 ⟨some 37, some (33, true), (.p (.bin .eql .int (.t 36) (.c (.int .i64 0))))⟩,
 ⟨some 38, none, (.p (.pick (.t 33) (.t 37) (.c (.bool false))))⟩,
 ⟨some 39, none, (.p (.move (.t 38)))⟩,
 ⟨some 40, some (39, true), (.p (.faddr 7 (.t 1)))⟩,
 ⟨some 41, some (39, true), (.l (.load 1 false (.t 40)))⟩,
 ⟨some 42, some (39, true), (.p (.lenl (.t 41)))⟩,
 ⟨some 43, some (39, true), (.p (.bin .eql .int (.t 42) (.c (.int .i64 0))))⟩,
 ⟨some 44, none, (.p (.pick (.t 39) (.t 43) (.c (.bool false))))⟩,
 ⟨some 2, none, (.p (.move (.t 44)))⟩]) .ret)), [.t 2]⟩
/-- libevolution/libevolutionref01.Reserved -/
def x195 : XF := ⟨(.seq (.reg 
[⟨some 2, none, (.p (.move (.c (.bool false))))⟩]) (.seq (.seq (.reg 
[⟨some 5, none, (.e (.call (.c (.fn 253 [] [])) []))⟩,
 ⟨some 6, none, (.p (.lenl (.t 5)))⟩,
 ⟨some 7, none, (.p (.move (.c (.int .i64 0))))⟩]) (.block 0 (.loop (.seq (.reg 
[⟨some 8, none, (.p (.bin .lss .int (.t 7) (.t 6)))⟩]) (.seq (.cond (.t 8) .skip (.exit 0)) (.seq (.block 1 (.seq (.reg 
[⟨some 9, none, (.p (.iaddr 1 (.t 5) (.t 7)))⟩,
 ⟨some 10, none, (.l (.load 1 false (.t 9)))⟩,
 ⟨some 4, none, (.p (.move (.t 10)))⟩]) (.seq (.reg 
[⟨some 11, none, (.p (.move (.t 4)))⟩,
 ⟨some 12, none, (.p (.move (.t 0)))⟩,
 ⟨some 13, none, (.p (.bin .eql .str (.t 11) (.t 12)))⟩]) (.cond (.t 13) (.seq (.reg 
[⟨some 2, none, (.p (.move (.c (.bool true))))⟩]) .ret) .skip)))) (.reg 
[⟨some 14, none, (.p (.bin .add .int (.t 7) (.c (.int .i64 1))))⟩,
 ⟨some 7, none, (.p (.move (.t 14)))⟩]))))))) (.seq (.reg 
[⟨some 2, none, (.p (.move (.c (.bool false))))⟩]) .ret))), [.t 2]⟩
/-- libevolution/libevolutionref02.deepModule -/
def x196 : XF := ⟨(.seq (.reg 
[⟨some 1, none, (.e (.box 9 (.t 0)))⟩,
 ⟨some 2, none, (.p (.move (.c (.bool false))))⟩]) (.seq (.seq (.reg 
[⟨some 21, none, (.p (.faddr 4 (.t 1)))⟩,
 ⟨some 22, none, (.l (.load 1 false (.t 21)))⟩,
 ⟨some 23, none, (.p (.lenl (.t 22)))⟩,
 ⟨some 24, none, (.p (.move (.c (.int .i64 0))))⟩]) (.block 0 (.loop (.seq (.reg 
[⟨some 25, none, (.p (.bin .lss .int (.t 24) (.t 23)))⟩]) (.seq (.cond (.t 25) .skip (.exit 0)) (.seq (.block 1 (.seq (.reg 
[⟨some 26, none, (.p (.iaddr 6 (.t 22) (.t 24)))⟩,
 ⟨some 27, none, (.l (.load 6 true (.t 26)))⟩,
 ⟨some 4, none, (.e (.alloc [(.int .i64 0), (.bool false), (.bool false), (.str []), .nils, .nils]))⟩,
 ⟨none, none, (.e (.store 6 (.t 4) (.t 27)))⟩]) (.seq (.reg 
[⟨some 28, none, (.p (.faddr 5 (.t 4)))⟩,
 ⟨some 29, none, (.l (.load 1 false (.t 28)))⟩,
 ⟨some 30, none, (.p (.lenl (.t 29)))⟩,
 ⟨some 31, none, (.p (.move (.c (.int .i64 0))))⟩]) (.block 2 (.loop (.seq (.reg 
[⟨some 32, none, (.p (.bin .lss .int (.t 31) (.t 30)))⟩]) (.seq (.cond (.t 32) .skip (.exit 2)) (.seq (.block 3 (.seq (.reg 
[⟨some 33, none, (.p (.iaddr 4 (.t 29) (.t 31)))⟩,
 ⟨some 34, none, (.l (.load 4 true (.t 33)))⟩,
 ⟨some 6, none, (.e (.alloc [(.bool false), (.str []), (.str []), .nils]))⟩,
 ⟨none, none, (.e (.store 4 (.t 6) (.t 34)))⟩]) (.seq (.reg 
[⟨some 35, none, (.p (.faddr 2 (.t 6)))⟩,
 ⟨some 36, none, (.l (.load 2 true (.t 35)))⟩,
 ⟨some 37, none, (.e (.call (.c (.fn 254 [] [])) [(.t 36)]))⟩,
 ⟨some 38, none, (.p (.bin .gtr .int (.t 37) (.c (.int .i64 8))))⟩]) (.cond (.t 38) (.seq (.reg 
[⟨some 2, none, (.p (.move (.c (.bool true))))⟩]) .ret) .skip)))) (.reg 
[⟨some 39, none, (.p (.bin .add .int (.t 31) (.c (.int .i64 1))))⟩,
 ⟨some 31, none, (.p (.move (.t 39)))⟩]))))))))) (.reg 
[⟨some 40, none, (.p (.bin .add .int (.t 24) (.c (.int .i64 1))))⟩,
 ⟨some 24, none, (.p (.move (.t 40)))⟩]))))))) (.seq (.seq (.reg 
[⟨some 41, none, (.p (.faddr 5 (.t 1)))⟩,
 ⟨some 42, none, (.l (.load 1 false (.t 41)))⟩,
 ⟨some 43, none, (.p (.lenl (.t 42)))⟩,
 ⟨some 44, none, (.p (.move (.c (.int .i64 0))))⟩]) (.block 4 (.loop (.seq (.reg 
[⟨some 45, none, (.p (.bin .lss .int (.t 44) (.t 43)))⟩]) (.seq (.cond (.t 45) .skip (.exit 4)) (.seq (.block 5 (.seq (.reg 
[⟨some 46, none, (.p (.iaddr 6 (.t 42) (.t 44)))⟩,
 ⟨some 47, none, (.l (.load 6 true (.t 46)))⟩,
 ⟨some 8, none, (.e (.alloc [(.int .i64 0), (.bool false), (.bool false), (.str []), .nils, .nils]))⟩,
 ⟨none, none, (.e (.store 6 (.t 8) (.t 47)))⟩]) (.seq (.reg 
[⟨some 48, none, (.p (.faddr 5 (.t 8)))⟩,
 ⟨some 49, none, (.l (.load 1 false (.t 48)))⟩,
 ⟨some 50, none, (.p (.lenl (.t 49)))⟩,
 ⟨some 51, none, (.p (.move (.c (.int .i64 0))))⟩]) (.block 6 (.loop (.seq (.reg 
[⟨some 52, none, (.p (.bin .lss .int (.t 51) (.t 50)))⟩]) (.seq (.cond (.t 52) .skip (.exit 6)) (.seq (.block 7 (.seq (.reg 
[⟨some 53, none, (.p (.iaddr 3 (.t 49) (.t 51)))⟩,
 ⟨some 54, none, (.l (.load 3 true (.t 53)))⟩,
 ⟨some 10, none, (.e (.alloc [(.bool false), (.str []), .nils]))⟩,
 ⟨none, none, (.e (.store 3 (.t 10) (.t 54)))⟩]) (.seq (.reg 
[⟨some 55, none, (.p (.faddr 2 (.t 10)))⟩,
 ⟨some 56, none, (.l (.load 1 false (.t 55)))⟩,
 ⟨some 57, none, (.e (.call (.c (.fn 255 [] [])) [(.t 56)]))⟩]) (.cond (.t 57) (.seq (.reg 
[⟨some 2, none, (.p (.move (.c (.bool true))))⟩]) .ret) .skip)))) (.reg 
[⟨some 58, none, (.p (.bin .add .int (.t 51) (.c (.int .i64 1))))⟩,
 ⟨some 51, none, (.p (.move (.t 58)))⟩]))))))))) (.reg 
[⟨some 59, none, (.p (.bin .add .int (.t 44) (.c (.int .i64 1))))⟩,
 ⟨some 44, none, (.p (.move (.t 59)))⟩]))))))) (.seq (.seq (.reg 
[⟨some 60, none, (.p (.faddr 6 (.t 1)))⟩,
 ⟨some 61, none, (.l (.load 1 false (.t 60)))⟩,
 ⟨some 62, none, (.p (.lenl (.t 61)))⟩,
 ⟨some 63, none, (.p (.move (.c (.int .i64 0))))⟩]) (.block 8 (.loop (.seq (.reg 
[⟨some 64, none, (.p (.bin .lss .int (.t 63) (.t 62)))⟩]) (.seq (.cond (.t 64) .skip (.exit 8)) (.seq (.block 9 (.seq (.reg 
[⟨some 65, none, (.p (.iaddr 5 (.t 61) (.t 63)))⟩,
 ⟨some 66, none, (.l (.load 5 true (.t 65)))⟩,
 ⟨some 12, none, (.e (.alloc [(.int .i64 0), (.bool false), (.bool false), (.str []), .nils]))⟩,
 ⟨none, none, (.e (.store 5 (.t 12) (.t 66)))⟩]) (.seq (.reg 
[⟨some 67, none, (.p (.faddr 4 (.t 12)))⟩,
 ⟨some 68, none, (.l (.load 1 false (.t 67)))⟩,
 ⟨some 69, none, (.p (.lenl (.t 68)))⟩,
 ⟨some 70, none, (.p (.move (.c (.int .i64 0))))⟩]) (.block 10 (.loop (.seq (.reg 
[⟨some 71, none, (.p (.bin .lss .int (.t 70) (.t 69)))⟩]) (.seq (.cond (.t 71) .skip (.exit 10)) (.seq (.block 11 (.seq (.reg 
[⟨some 72, none, (.p (.iaddr 5 (.t 68) (.t 70)))⟩,
 ⟨some 73, none, (.l (.load 5 true (.t 72)))⟩,
 ⟨some 14, none, (.e (.alloc [(.str []), .nils, (.str []), .nils, (.str [])]))⟩,
 ⟨none, none, (.e (.store 5 (.t 14) (.t 73)))⟩]) (.seq (.reg 
[⟨some 74, none, (.p (.faddr 1 (.t 14)))⟩,
 ⟨some 75, none, (.l (.load 1 false (.t 74)))⟩,
 ⟨some 76, none, (.e (.call (.c (.fn 255 [] [])) [(.t 75)]))⟩,
 ⟨some 77, none, (.p (.move (.t 76)))⟩,
 ⟨some 78, some (77, false), (.p (.faddr 2 (.t 14)))⟩,
 ⟨some 79, some (77, false), (.l (.load 2 true (.t 78)))⟩,
 ⟨some 80, some (77, false), (.e (.call (.c (.fn 254 [] [])) [(.t 79)]))⟩,
 ⟨some 81, some (77, false), (.p (.bin .gtr .int (.t 80) (.c (.int .i64 8))))⟩,
 ⟨some 82, none, (.p (.pick (.t 77) (.c (.bool true)) (.t 81)))⟩]) (.cond (.t 82) (.seq (.reg 
[⟨some 2, none, (.p (.move (.c (.bool true))))⟩]) .ret) .skip)))) (.reg 
[⟨some 83, none, (.p (.bin .add .int (.t 70) (.c (.int .i64 1))))⟩,
 ⟨some 70, none, (.p (.move (.t 83)))⟩]))))))))) (.reg 
[⟨some 84, none, (.p (.bin .add .int (.t 63) (.c (.int .i64 1))))⟩,
 ⟨some 63, none, (.p (.move (.t 84)))⟩]))))))) (.seq (.seq (.reg 
[⟨some 85, none, (.p (.faddr 7 (.t 1)))⟩,
 ⟨some 86, none, (.l (.load 1 false (.t 85)))⟩,
 ⟨some 87, none, (.p (.lenl (.t 86)))⟩,
 ⟨some 88, none, (.p (.move (.c (.int .i64 0))))⟩]) (.block 12 (.loop (.seq (.reg 
[⟨some 89, none, (.p (.bin .lss .int (.t 88) (.t 87)))⟩]) (.seq (.cond (.t 89) .skip (.exit 12)) (.seq (.block 13 (.seq (.reg 
[⟨some 90, none, (.p (.iaddr 5 (.t 86) (.t 88)))⟩,
 ⟨some 91, none, (.l (.load 5 true (.t 90)))⟩,
 ⟨some 16, none, (.e (.alloc [(.str []), .nils, (.str []), .nils, .nils]))⟩,
 ⟨none, none, (.e (.store 5 (.t 16) (.t 91)))⟩]) (.seq (.reg 
[⟨some 92, none, (.p (.faddr 2 (.t 16)))⟩,
 ⟨some 93, none, (.l (.load 2 true (.t 92)))⟩,
 ⟨some 94, none, (.e (.call (.c (.fn 254 [] [])) [(.t 93)]))⟩,
 ⟨some 95, none, (.p (.bin .gtr .int (.t 94) (.c (.int .i64 8))))⟩]) (.cond (.t 95) (.seq (.reg 
[⟨some 2, none, (.p (.move (.c (.bool true))))⟩]) .ret) .skip)))) (.reg 
[⟨some 96, none, (.p (.bin .add .int (.t 88) (.c (.int .i64 1))))⟩,
 ⟨some 88, none, (.p (.move (.t 96)))⟩]))))))) (.seq (.seq (.reg 
[⟨some 97, none, (.p (.faddr 8 (.t 1)))⟩,
 ⟨some 98, none, (.l (.load 1 false (.t 97)))⟩,
 ⟨some 99, none, (.p (.lenl (.t 98)))⟩,
 ⟨some 100, none, (.p (.move (.c (.int .i64 0))))⟩]) (.block 14 (.loop (.seq (.reg 
[⟨some 101, none, (.p (.bin .lss .int (.t 100) (.t 99)))⟩]) (.seq (.cond (.t 101) .skip (.exit 14)) (.seq (.block 15 (.seq (.reg 
[⟨some 102, none, (.p (.iaddr 20 (.t 98) (.t 100)))⟩,
 ⟨some 103, none, (.l (.load 20 true (.t 102)))⟩,
 ⟨some 18, none, (.e (.alloc [(.int .i64 0), (.bool false), (.bool false), (.str []), .nils, .nils, (.str []), .nils, (.bool false), (.int .i64 0), (.str []), (.str []), (.int .i64 0), .nils, .nils, .nils, .nils, (.str []), .nils, (.int .i64 0)]))⟩,
 ⟨none, none, (.e (.store 20 (.t 18) (.t 103)))⟩]) (.seq (.seq (.reg 
[⟨some 104, none, (.p (.faddr 6 (.t 18)))⟩,
 ⟨some 105, none, (.l (.load 2 true (.t 104)))⟩,
 ⟨some 106, none, (.e (.call (.c (.fn 254 [] [])) [(.t 105)]))⟩,
 ⟨some 107, none, (.p (.bin .gtr .int (.t 106) (.c (.int .i64 8))))⟩,
 ⟨some 108, none, (.p (.move (.t 107)))⟩,
 ⟨some 109, some (108, false), (.p (.faddr 9 (.t 18)))⟩,
 ⟨some 110, some (108, false), (.l (.load 11 true (.t 109)))⟩,
 ⟨some 111, some (108, false), (.e (.call (.c (.fn 256 [] [])) [(.t 110)]))⟩,
 ⟨some 112, none, (.p (.pick (.t 108) (.c (.bool true)) (.t 111)))⟩]) (.cond (.t 112) (.seq (.reg 
[⟨some 2, none, (.p (.move (.c (.bool true))))⟩]) .ret) .skip)) (.seq (.reg 
[⟨some 113, none, (.p (.faddr 5 (.t 18)))⟩,
 ⟨some 114, none, (.l (.load 1 false (.t 113)))⟩,
 ⟨some 115, none, (.p (.lenl (.t 114)))⟩,
 ⟨some 116, none, (.p (.move (.c (.int .i64 0))))⟩]) (.block 16 (.loop (.seq (.reg 
[⟨some 117, none, (.p (.bin .lss .int (.t 116) (.t 115)))⟩]) (.seq (.cond (.t 117) .skip (.exit 16)) (.seq (.block 17 (.seq (.reg 
[⟨some 118, none, (.p (.iaddr 15 (.t 114) (.t 116)))⟩,
 ⟨some 119, none, (.l (.load 15 true (.t 118)))⟩,
 ⟨some 20, none, (.e (.alloc [(.str []), (.str []), .nils, (.bool false), (.int .i64 0), (.str []), (.str []), (.int .i64 0), .nils, .nils, .nils, .nils, (.str []), .nils, (.int .i64 0)]))⟩,
 ⟨none, none, (.e (.store 15 (.t 20) (.t 119)))⟩]) (.seq (.reg 
[⟨some 120, none, (.p (.faddr 1 (.t 20)))⟩,
 ⟨some 121, none, (.l (.load 2 true (.t 120)))⟩,
 ⟨some 122, none, (.e (.call (.c (.fn 254 [] [])) [(.t 121)]))⟩,
 ⟨some 123, none, (.p (.bin .gtr .int (.t 122) (.c (.int .i64 8))))⟩,
 ⟨some 124, none, (.p (.move (.t 123)))⟩,
 ⟨some 125, some (124, false), (.p (.faddr 4 (.t 20)))⟩,
 ⟨some 126, some (124, false), (.l (.load 11 true (.t 125)))⟩,
 ⟨some 127, some (124, false), (.e (.call (.c (.fn 256 [] [])) [(.t 126)]))⟩,
 ⟨some 128, none, (.p (.pick (.t 124) (.c (.bool true)) (.t 127)))⟩]) (.cond (.t 128) (.seq (.reg 
[⟨some 2, none, (.p (.move (.c (.bool true))))⟩]) .ret) .skip)))) (.reg 
[⟨some 129, none, (.p (.bin .add .int (.t 116) (.c (.int .i64 1))))⟩,
 ⟨some 116, none, (.p (.move (.t 129)))⟩])))))))))) (.reg 
[⟨some 130, none, (.p (.bin .add .int (.t 100) (.c (.int .i64 1))))⟩,
 ⟨some 100, none, (.p (.move (.t 130)))⟩]))))))) (.seq (.reg 
[⟨some 2, none, (.p (.move (.c (.bool false))))⟩]) .ret))))))), [.t 2]⟩
/-- libevolution/libevolutionref02.smallModule -/
def x197 : XF := ⟨(.seq (.reg 
[⟨some 1, none, (.e (.box 9 (.t 0)))⟩,
 ⟨some 2, none, (.p (.move (.c (.bool false))))⟩]) (.seq (.seq (.reg 
[⟨some 21, none, (.p (.faddr 3 (.t 1)))⟩,
 ⟨some 22, none, (.l (.load 1 false (.t 21)))⟩,
 ⟨some 23, none, (.p (.lenl (.t 22)))⟩,
 ⟨some 24, none, (.p (.bin .gtr .int (.t 23) (.c (.int .i64 8))))⟩,
 ⟨some 25, none, (.p (.move (.t 24)))⟩,
 ⟨some 26, some (25, false), (.p (.faddr 4 (.t 1)))⟩,
 ⟨some 27, some (25, false), (.l (.load 1 false (.t 26)))⟩,
 ⟨some 28, some (25, false), (.p (.lenl (.t 27)))⟩,
 ⟨some 29, some (25, false), (.p (.bin .gtr .int (.t 28) (.c (.int .i64 60))))⟩,
 ⟨some 30, none, (.p (.pick (.t 25) (.c (.bool true)) (.t 29)))⟩,
 ⟨some 31, none, (.p (.move (.t 30)))⟩,
 ⟨some 32, some (31, false), (.p (.faddr 5 (.t 1)))⟩,
 ⟨some 33, some (31, false), (.l (.load 1 false (.t 32)))⟩,
 ⟨some 34, some (31, false), (.p (.lenl (.t 33)))⟩,
 ⟨some 35, some (31, false), (.p (.bin .gtr .int (.t 34) (.c (.int .i64 60))))⟩,
 ⟨some 36, none, (.p (.pick (.t 31) (.c (.bool true)) (.t 35)))⟩,
 ⟨some 37, none, (.p (.move (.t 36)))⟩,
 ⟨some 38, some (37, false), (.p (.faddr 6 (.t 1)))⟩,
 ⟨some 39, some (37, false), (.l (.load 1 false (.t 38)))⟩,
 ⟨some 40, some (37, false), (.p (.lenl (.t 39)))⟩,
 ⟨some 41, some (37, false), (.p (.bin .gtr .int (.t 40) (.c (.int .i64 60))))⟩,
 ⟨some 42, none, (.p (.pick (.t 37) (.c (.bool true)) (.t 41)))⟩,
 ⟨some 43, none, (.p (.move (.t 42)))⟩,
 ⟨some 44, some (43, false), (.p (.faddr 7 (.t 1)))⟩,
 ⟨some 45, some (43, false), (.l (.load 1 false (.t 44)))⟩,
 ⟨some 46, some (43, false), (.p (.lenl (.t 45)))⟩,
 ⟨some 47, some (43, false), (.p (.bin .gtr .int (.t 46) (.c (.int .i64 60))))⟩,
 ⟨some 48, none, (.p (.pick (.t 43) (.c (.bool true)) (.t 47)))⟩,
 ⟨some 49, none, (.p (.move (.t 48)))⟩,
 ⟨some 50, some (49, false), (.p (.faddr 8 (.t 1)))⟩,
 ⟨some 51, some (49, false), (.l (.load 1 false (.t 50)))⟩,
 ⟨some 52, some (49, false), (.p (.lenl (.t 51)))⟩,
 ⟨some 53, some (49, false), (.p (.bin .gtr .int (.t 52) (.c (.int .i64 60))))⟩,
 ⟨some 54, none, (.p (.pick (.t 49) (.c (.bool true)) (.t 53)))⟩]) (.cond (.t 54) (.seq (.reg 
[⟨some 2, none, (.p (.move (.c (.bool false))))⟩]) .ret) .skip)) (.seq (.seq (.reg 
[⟨some 55, none, (.p (.faddr 4 (.t 1)))⟩,
 ⟨some 56, none, (.l (.load 1 false (.t 55)))⟩,
 ⟨some 57, none, (.p (.lenl (.t 56)))⟩,
 ⟨some 58, none, (.p (.move (.c (.int .i64 0))))⟩]) (.block 0 (.loop (.seq (.reg 
[⟨some 59, none, (.p (.bin .lss .int (.t 58) (.t 57)))⟩]) (.seq (.cond (.t 59) .skip (.exit 0)) (.seq (.block 1 (.seq (.reg 
[⟨some 60, none, (.p (.iaddr 6 (.t 56) (.t 58)))⟩,
 ⟨some 61, none, (.l (.load 6 true (.t 60)))⟩,
 ⟨some 4, none, (.e (.alloc [(.int .i64 0), (.bool false), (.bool false), (.str []), .nils, .nils]))⟩,
 ⟨none, none, (.e (.store 6 (.t 4) (.t 61)))⟩]) (.seq (.seq (.reg 
[⟨some 62, none, (.p (.faddr 4 (.t 4)))⟩,
 ⟨some 63, none, (.l (.load 1 false (.t 62)))⟩,
 ⟨some 64, none, (.p (.lenl (.t 63)))⟩,
 ⟨some 65, none, (.p (.bin .gtr .int (.t 64) (.c (.int .i64 4))))⟩,
 ⟨some 66, none, (.p (.move (.t 65)))⟩,
 ⟨some 67, some (66, false), (.p (.faddr 5 (.t 4)))⟩,
 ⟨some 68, some (66, false), (.l (.load 1 false (.t 67)))⟩,
 ⟨some 69, some (66, false), (.p (.lenl (.t 68)))⟩,
 ⟨some 70, some (66, false), (.p (.bin .gtr .int (.t 69) (.c (.int .i64 12))))⟩,
 ⟨some 71, none, (.p (.pick (.t 66) (.c (.bool true)) (.t 70)))⟩]) (.cond (.t 71) (.seq (.reg 
[⟨some 2, none, (.p (.move (.c (.bool false))))⟩]) .ret) .skip)) (.seq (.reg 
[⟨some 72, none, (.p (.faddr 5 (.t 4)))⟩,
 ⟨some 73, none, (.l (.load 1 false (.t 72)))⟩,
 ⟨some 74, none, (.p (.lenl (.t 73)))⟩,
 ⟨some 75, none, (.p (.move (.c (.int .i64 0))))⟩]) (.block 2 (.loop (.seq (.reg 
[⟨some 76, none, (.p (.bin .lss .int (.t 75) (.t 74)))⟩]) (.seq (.cond (.t 76) .skip (.exit 2)) (.seq (.block 3 (.seq (.reg 
[⟨some 77, none, (.p (.iaddr 4 (.t 73) (.t 75)))⟩,
 ⟨some 78, none, (.l (.load 4 true (.t 77)))⟩,
 ⟨some 6, none, (.e (.alloc [(.bool false), (.str []), (.str []), .nils]))⟩,
 ⟨none, none, (.e (.store 4 (.t 6) (.t 78)))⟩]) (.seq (.reg 
[⟨some 79, none, (.p (.faddr 2 (.t 6)))⟩,
 ⟨some 80, none, (.l (.load 2 true (.t 79)))⟩,
 ⟨some 81, none, (.e (.call (.c (.fn 257 [] [])) [(.t 80)]))⟩,
 ⟨some 82, none, (.p (.not (.t 81)))⟩]) (.cond (.t 82) (.seq (.reg 
[⟨some 2, none, (.p (.move (.c (.bool false))))⟩]) .ret) .skip)))) (.reg 
[⟨some 83, none, (.p (.bin .add .int (.t 75) (.c (.int .i64 1))))⟩,
 ⟨some 75, none, (.p (.move (.t 83)))⟩])))))))))) (.reg 
[⟨some 84, none, (.p (.bin .add .int (.t 58) (.c (.int .i64 1))))⟩,
 ⟨some 58, none, (.p (.move (.t 84)))⟩]))))))) (.seq (.seq (.reg 
[⟨some 85, none, (.p (.faddr 5 (.t 1)))⟩,
 ⟨some 86, none, (.l (.load 1 false (.t 85)))⟩,
 ⟨some 87, none, (.p (.lenl (.t 86)))⟩,
 ⟨some 88, none, (.p (.move (.c (.int .i64 0))))⟩]) (.block 4 (.loop (.seq (.reg 
[⟨some 89, none, (.p (.bin .lss .int (.t 88) (.t 87)))⟩]) (.seq (.cond (.t 89) .skip (.exit 4)) (.seq (.block 5 (.seq (.reg 
[⟨some 90, none, (.p (.iaddr 6 (.t 86) (.t 88)))⟩,
 ⟨some 91, none, (.l (.load 6 true (.t 90)))⟩,
 ⟨some 8, none, (.e (.alloc [(.int .i64 0), (.bool false), (.bool false), (.str []), .nils, .nils]))⟩,
 ⟨none, none, (.e (.store 6 (.t 8) (.t 91)))⟩]) (.seq (.seq (.reg 
[⟨some 92, none, (.p (.faddr 4 (.t 8)))⟩,
 ⟨some 93, none, (.l (.load 1 false (.t 92)))⟩,
 ⟨some 94, none, (.p (.lenl (.t 93)))⟩,
 ⟨some 95, none, (.p (.bin .gtr .int (.t 94) (.c (.int .i64 4))))⟩,
 ⟨some 96, none, (.p (.move (.t 95)))⟩,
 ⟨some 97, some (96, false), (.p (.faddr 5 (.t 8)))⟩,
 ⟨some 98, some (96, false), (.l (.load 1 false (.t 97)))⟩,
 ⟨some 99, some (96, false), (.p (.lenl (.t 98)))⟩,
 ⟨some 100, some (96, false), (.p (.bin .gtr .int (.t 99) (.c (.int .i64 12))))⟩,
 ⟨some 101, none, (.p (.pick (.t 96) (.c (.bool true)) (.t 100)))⟩]) (.cond (.t 101) (.seq (.reg 
[⟨some 2, none, (.p (.move (.c (.bool false))))⟩]) .ret) .skip)) (.seq (.reg 
[⟨some 102, none, (.p (.faddr 5 (.t 8)))⟩,
 ⟨some 103, none, (.l (.load 1 false (.t 102)))⟩,
 ⟨some 104, none, (.p (.lenl (.t 103)))⟩,
 ⟨some 105, none, (.p (.move (.c (.int .i64 0))))⟩]) (.block 6 (.loop (.seq (.reg 
[⟨some 106, none, (.p (.bin .lss .int (.t 105) (.t 104)))⟩]) (.seq (.cond (.t 106) .skip (.exit 6)) (.seq (.block 7 (.seq (.reg 
[⟨some 107, none, (.p (.iaddr 3 (.t 103) (.t 105)))⟩,
 ⟨some 108, none, (.l (.load 3 true (.t 107)))⟩,
 ⟨some 10, none, (.e (.alloc [(.bool false), (.str []), .nils]))⟩,
 ⟨none, none, (.e (.store 3 (.t 10) (.t 108)))⟩]) (.seq (.reg 
[⟨some 109, none, (.p (.faddr 2 (.t 10)))⟩,
 ⟨some 110, none, (.l (.load 1 false (.t 109)))⟩,
 ⟨some 111, none, (.p (.lenl (.t 110)))⟩,
 ⟨some 112, none, (.p (.bin .gtr .int (.t 111) (.c (.int .i64 12))))⟩,
 ⟨some 113, none, (.p (.move (.t 112)))⟩,
 ⟨some 114, some (113, false), (.p (.faddr 2 (.t 10)))⟩,
 ⟨some 115, some (113, false), (.l (.load 1 false (.t 114)))⟩,
 ⟨some 116, some (113, false), (.e (.call (.c (.fn 258 [] [])) [(.t 115)]))⟩,
 ⟨some 117, some (113, false), (.p (.not (.t 116)))⟩,
 ⟨some 118, none, (.p (.pick (.t 113) (.c (.bool true)) (.t 117)))⟩]) (.cond (.t 118) (.seq (.reg 
[⟨some 2, none, (.p (.move (.c (.bool false))))⟩]) .ret) .skip)))) (.reg 
[⟨some 119, none, (.p (.bin .add .int (.t 105) (.c (.int .i64 1))))⟩,
 ⟨some 105, none, (.p (.move (.t 119)))⟩])))))))))) (.reg 
[⟨some 120, none, (.p (.bin .add .int (.t 88) (.c (.int .i64 1))))⟩,
 ⟨some 88, none, (.p (.move (.t 120)))⟩]))))))) (.seq (.seq (.reg 
[⟨some 121, none, (.p (.faddr 6 (.t 1)))⟩,
 ⟨some 122, none, (.l (.load 1 false (.t 121)))⟩,
 ⟨some 123, none, (.p (.lenl (.t 122)))⟩,
 ⟨some 124, none, (.p (.move (.c (.int .i64 0))))⟩]) (.block 8 (.loop (.seq (.reg 
[⟨some 125, none, (.p (.bin .lss .int (.t 124) (.t 123)))⟩]) (.seq (.cond (.t 125) .skip (.exit 8)) (.seq (.block 9 (.seq (.reg 
[⟨some 126, none, (.p (.iaddr 5 (.t 122) (.t 124)))⟩,
 ⟨some 127, none, (.l (.load 5 true (.t 126)))⟩,
 ⟨some 12, none, (.e (.alloc [(.int .i64 0), (.bool false), (.bool false), (.str []), .nils]))⟩,
 ⟨none, none, (.e (.store 5 (.t 12) (.t 127)))⟩]) (.seq (.seq (.reg 
[⟨some 128, none, (.p (.faddr 4 (.t 12)))⟩,
 ⟨some 129, none, (.l (.load 1 false (.t 128)))⟩,
 ⟨some 130, none, (.p (.lenl (.t 129)))⟩,
 ⟨some 131, none, (.p (.bin .gtr .int (.t 130) (.c (.int .i64 12))))⟩]) (.cond (.t 131) (.seq (.reg 
[⟨some 2, none, (.p (.move (.c (.bool false))))⟩]) .ret) .skip)) (.seq (.reg 
[⟨some 132, none, (.p (.faddr 4 (.t 12)))⟩,
 ⟨some 133, none, (.l (.load 1 false (.t 132)))⟩,
 ⟨some 134, none, (.p (.lenl (.t 133)))⟩,
 ⟨some 135, none, (.p (.move (.c (.int .i64 0))))⟩]) (.block 10 (.loop (.seq (.reg 
[⟨some 136, none, (.p (.bin .lss .int (.t 135) (.t 134)))⟩]) (.seq (.cond (.t 136) .skip (.exit 10)) (.seq (.block 11 (.seq (.reg 
[⟨some 137, none, (.p (.iaddr 5 (.t 133) (.t 135)))⟩,
 ⟨some 138, none, (.l (.load 5 true (.t 137)))⟩,
 ⟨some 14, none, (.e (.alloc [(.str []), .nils, (.str []), .nils, (.str [])]))⟩,
 ⟨none, none, (.e (.store 5 (.t 14) (.t 138)))⟩]) (.seq (.reg 
[⟨some 139, none, (.p (.faddr 1 (.t 14)))⟩,
 ⟨some 140, none, (.l (.load 1 false (.t 139)))⟩,
 ⟨some 141, none, (.p (.lenl (.t 140)))⟩,
 ⟨some 142, none, (.p (.bin .gtr .int (.t 141) (.c (.int .i64 6))))⟩,
 ⟨some 143, none, (.p (.move (.t 142)))⟩,
 ⟨some 144, some (143, false), (.p (.faddr 1 (.t 14)))⟩,
 ⟨some 145, some (143, false), (.l (.load 1 false (.t 144)))⟩,
 ⟨some 146, some (143, false), (.e (.call (.c (.fn 258 [] [])) [(.t 145)]))⟩,
 ⟨some 147, some (143, false), (.p (.not (.t 146)))⟩,
 ⟨some 148, none, (.p (.pick (.t 143) (.c (.bool true)) (.t 147)))⟩,
 ⟨some 149, none, (.p (.move (.t 148)))⟩,
 ⟨some 150, some (149, false), (.p (.faddr 2 (.t 14)))⟩,
 ⟨some 151, some (149, false), (.l (.load 2 true (.t 150)))⟩,
 ⟨some 152, some (149, false), (.e (.call (.c (.fn 257 [] [])) [(.t 151)]))⟩,
 ⟨some 153, some (149, false), (.p (.not (.t 152)))⟩,
 ⟨some 154, none, (.p (.pick (.t 149) (.c (.bool true)) (.t 153)))⟩]) (.cond (.t 154) (.seq (.reg 
[⟨some 2, none, (.p (.move (.c (.bool false))))⟩]) .ret) .skip)))) (.reg 
[⟨some 155, none, (.p (.bin .add .int (.t 135) (.c (.int .i64 1))))⟩,
 ⟨some 135, none, (.p (.move (.t 155)))⟩])))))))))) (.reg 
[⟨some 156, none, (.p (.bin .add .int (.t 124) (.c (.int .i64 1))))⟩,
 ⟨some 124, none, (.p (.move (.t 156)))⟩]))))))) (.seq (.seq (.reg 
[⟨some 157, none, (.p (.faddr 7 (.t 1)))⟩,
 ⟨some 158, none, (.l (.load 1 false (.t 157)))⟩,
 ⟨some 159, none, (.p (.lenl (.t 158)))⟩,
 ⟨some 160, none, (.p (.move (.c (.int .i64 0))))⟩]) (.block 12 (.loop (.seq (.reg 
[⟨some 161, none, (.p (.bin .lss .int (.t 160) (.t 159)))⟩]) (.seq (.cond (.t 161) .skip (.exit 12)) (.seq (.block 13 (.seq (.reg 
[⟨some 162, none, (.p (.iaddr 5 (.t 158) (.t 160)))⟩,
 ⟨some 163, none, (.l (.load 5 true (.t 162)))⟩,
 ⟨some 16, none, (.e (.alloc [(.str []), .nils, (.str []), .nils, .nils]))⟩,
 ⟨none, none, (.e (.store 5 (.t 16) (.t 163)))⟩]) (.seq (.reg 
[⟨some 164, none, (.p (.faddr 1 (.t 16)))⟩,
 ⟨some 165, none, (.l (.load 1 false (.t 164)))⟩,
 ⟨some 166, none, (.e (.call (.c (.fn 259 [] [])) [(.t 165)]))⟩,
 ⟨some 167, none, (.p (.not (.t 166)))⟩,
 ⟨some 168, none, (.p (.move (.t 167)))⟩,
 ⟨some 169, some (168, false), (.p (.faddr 2 (.t 16)))⟩,
 ⟨some 170, some (168, false), (.l (.load 2 true (.t 169)))⟩,
 ⟨some 171, some (168, false), (.e (.call (.c (.fn 257 [] [])) [(.t 170)]))⟩,
 ⟨some 172, some (168, false), (.p (.not (.t 171)))⟩,
 ⟨some 173, none, (.p (.pick (.t 168) (.c (.bool true)) (.t 172)))⟩,
 ⟨some 174, none, (.p (.move (.t 173)))⟩,
 ⟨some 175, some (174, false), (.p (.faddr 4 (.t 16)))⟩,
 ⟨some 176, some (174, false), (.l (.load 1 false (.t 175)))⟩,
 ⟨some 177, some (174, false), (.p (.lenl (.t 176)))⟩,
 ⟨some 178, some (174, false), (.p (.bin .gtr .int (.t 177) (.c (.int .i64 12))))⟩,
 ⟨some 179, none, (.p (.pick (.t 174) (.c (.bool true)) (.t 178)))⟩]) (.cond (.t 179) (.seq (.reg 
[⟨some 2, none, (.p (.move (.c (.bool false))))⟩]) .ret) .skip)))) (.reg 
[⟨some 180, none, (.p (.bin .add .int (.t 160) (.c (.int .i64 1))))⟩,
 ⟨some 160, none, (.p (.move (.t 180)))⟩]))))))) (.seq (.seq (.reg 
[⟨some 181, none, (.p (.faddr 8 (.t 1)))⟩,
 ⟨some 182, none, (.l (.load 1 false (.t 181)))⟩,
 ⟨some 183, none, (.p (.lenl (.t 182)))⟩,
 ⟨some 184, none, (.p (.move (.c (.int .i64 0))))⟩]) (.block 14 (.loop (.seq (.reg 
[⟨some 185, none, (.p (.bin .lss .int (.t 184) (.t 183)))⟩]) (.seq (.cond (.t 185) .skip (.exit 14)) (.seq (.block 15 (.seq (.reg 
[⟨some 186, none, (.p (.iaddr 20 (.t 182) (.t 184)))⟩,
 ⟨some 187, none, (.l (.load 20 true (.t 186)))⟩,
 ⟨some 18, none, (.e (.alloc [(.int .i64 0), (.bool false), (.bool false), (.str []), .nils, .nils, (.str []), .nils, (.bool false), (.int .i64 0), (.str []), (.str []), (.int .i64 0), .nils, .nils, .nils, .nils, (.str []), .nils, (.int .i64 0)]))⟩,
 ⟨none, none, (.e (.store 20 (.t 18) (.t 187)))⟩]) (.seq (.seq (.reg 
[⟨some 188, none, (.p (.faddr 4 (.t 18)))⟩,
 ⟨some 189, none, (.l (.load 1 false (.t 188)))⟩,
 ⟨some 190, none, (.e (.call (.c (.fn 259 [] [])) [(.t 189)]))⟩,
 ⟨some 191, none, (.p (.not (.t 190)))⟩,
 ⟨some 192, none, (.p (.move (.t 191)))⟩,
 ⟨some 193, some (192, false), (.p (.faddr 5 (.t 18)))⟩,
 ⟨some 194, some (192, false), (.l (.load 1 false (.t 193)))⟩,
 ⟨some 195, some (192, false), (.p (.lenl (.t 194)))⟩,
 ⟨some 196, some (192, false), (.p (.bin .gtr .int (.t 195) (.c (.int .i64 6))))⟩,
 ⟨some 197, none, (.p (.pick (.t 192) (.c (.bool true)) (.t 196)))⟩,
 ⟨some 198, none, (.p (.move (.t 197)))⟩,
 ⟨some 199, some (198, false), (.p (.faddr 6 (.t 18)))⟩,
 ⟨some 200, some (198, false), (.l (.load 2 true (.t 199)))⟩,
 ⟨some 201, some (198, false), (.e (.call (.c (.fn 257 [] [])) [(.t 200)]))⟩,
 ⟨some 202, some (198, false), (.p (.not (.t 201)))⟩,
 ⟨some 203, none, (.p (.pick (.t 198) (.c (.bool true)) (.t 202)))⟩,
 ⟨some 204, none, (.p (.move (.t 203)))⟩,
 ⟨some 205, some (204, false), (.p (.faddr 9 (.t 18)))⟩,
 ⟨some 206, some (204, false), (.l (.load 11 true (.t 205)))⟩,
 ⟨some 207, some (204, false), (.e (.call (.c (.fn 260 [] [])) [(.t 206)]))⟩,
 ⟨some 208, some (204, false), (.p (.not (.t 207)))⟩,
 ⟨some 209, none, (.p (.pick (.t 204) (.c (.bool true)) (.t 208)))⟩]) (.cond (.t 209) (.seq (.reg 
[⟨some 2, none, (.p (.move (.c (.bool false))))⟩]) .ret) .skip)) (.seq (.reg 
[⟨some 210, none, (.p (.faddr 5 (.t 18)))⟩,
 ⟨some 211, none, (.l (.load 1 false (.t 210)))⟩,
 ⟨some 212, none, (.p (.lenl (.t 211)))⟩,
 ⟨some 213, none, (.p (.move (.c (.int .i64 0))))⟩]) (.block 16 (.loop (.seq (.reg 
[⟨some 214, none, (.p (.bin .lss .int (.t 213) (.t 212)))⟩]) (.seq (.cond (.t 214) .skip (.exit 16)) (.seq (.block 17 (.seq (.reg 
[⟨some 215, none, (.p (.iaddr 15 (.t 211) (.t 213)))⟩,
 ⟨some 216, none, (.l (.load 15 true (.t 215)))⟩,
 ⟨some 20, none, (.e (.alloc [(.str []), (.str []), .nils, (.bool false), (.int .i64 0), (.str []), (.str []), (.int .i64 0), .nils, .nils, .nils, .nils, (.str []), .nils, (.int .i64 0)]))⟩,
 ⟨none, none, (.e (.store 15 (.t 20) (.t 216)))⟩]) (.seq (.reg 
[⟨some 217, none, (.p (.faddr 1 (.t 20)))⟩,
 ⟨some 218, none, (.l (.load 2 true (.t 217)))⟩,
 ⟨some 219, none, (.e (.call (.c (.fn 257 [] [])) [(.t 218)]))⟩,
 ⟨some 220, none, (.p (.not (.t 219)))⟩,
 ⟨some 221, none, (.p (.move (.t 220)))⟩,
 ⟨some 222, some (221, false), (.p (.faddr 4 (.t 20)))⟩,
 ⟨some 223, some (221, false), (.l (.load 11 true (.t 222)))⟩,
 ⟨some 224, some (221, false), (.e (.call (.c (.fn 260 [] [])) [(.t 223)]))⟩,
 ⟨some 225, some (221, false), (.p (.not (.t 224)))⟩,
 ⟨some 226, none, (.p (.pick (.t 221) (.c (.bool true)) (.t 225)))⟩]) (.cond (.t 226) (.seq (.reg 
[⟨some 2, none, (.p (.move (.c (.bool false))))⟩]) .ret) .skip)))) (.reg 
[⟨some 227, none, (.p (.bin .add .int (.t 213) (.c (.int .i64 1))))⟩,
 ⟨some 213, none, (.p (.move (.t 227)))⟩])))))))))) (.reg 
[⟨some 228, none, (.p (.bin .add .int (.t 184) (.c (.int .i64 1))))⟩,
 ⟨some 184, none, (.p (.move (.t 228)))⟩]))))))) (.seq (.reg 
[⟨some 2, none, (.p (.move (.c (.bool true))))⟩]) .ret)))))))), [.t 2]⟩
/-- libevolution/libevolutionref02.qname -/
def x198 : XF := ⟨(.seq (.reg 
[⟨some 2, none, (.p (.move (.c (.bool false))))⟩]) (.seq (.seq (.reg 
[⟨some 3, none, (.p (.move (.c (.int .i64 0))))⟩]) (.block 0 (.loop (.seq (.seq (.reg 
[⟨some 4, none, (.p (.move (.t 3)))⟩,
 ⟨some 5, none, (.p (.move (.t 0)))⟩,
 ⟨some 6, none, (.p (.lens (.t 5)))⟩,
 ⟨some 7, none, (.p (.bin .lss .int (.t 4) (.t 6)))⟩]) (.cond (.t 7) .skip (.exit 0))) (.seq (.block 1 (.seq (.reg 
[⟨some 10, none, (.p (.move (.t 0)))⟩,
 ⟨some 11, none, (.p (.move (.t 3)))⟩,
 ⟨some 12, none, (.p (.ixs (.t 10) (.t 11)))⟩,
 ⟨some 13, none, (.p (.bin .eql .int (.t 12) (.c (.int .u8 46))))⟩]) (.cond (.t 13) (.seq (.reg 
[⟨some 14, none, (.p (.move (.t 0)))⟩,
 ⟨some 15, none, (.p (.move (.t 3)))⟩,
 ⟨some 16, none, (.p (.subs (.t 14) none (some (.t 15))))⟩,
 ⟨some 17, none, (.e (.call (.c (.fn 121 [] [])) [(.t 16)]))⟩,
 ⟨some 18, none, (.p (.move (.t 17)))⟩,
 ⟨some 19, some (18, true), (.p (.move (.t 0)))⟩,
 ⟨some 20, some (18, true), (.p (.move (.t 3)))⟩,
 ⟨some 21, some (18, true), (.p (.bin .add .int (.t 20) (.c (.int .i64 1))))⟩,
 ⟨some 22, some (18, true), (.p (.subs (.t 19) (some (.t 21)) none))⟩,
 ⟨some 23, some (18, true), (.e (.call (.c (.fn 121 [] [])) [(.t 22)]))⟩,
 ⟨some 24, none, (.p (.pick (.t 18) (.t 23) (.c (.bool false))))⟩,
 ⟨some 2, none, (.p (.move (.t 24)))⟩]) .ret) .skip))) (.reg 
[⟨some 8, none, (.p (.move (.t 3)))⟩,
 ⟨some 9, none, (.p (.bin .add .int (.t 8) (.c (.int .i64 1))))⟩,
 ⟨some 3, none, (.p (.move (.t 9)))⟩])))))) (.seq (.reg 
[⟨some 25, none, (.p (.move (.t 0)))⟩,
 ⟨some 26, none, (.e (.call (.c (.fn 121 [] [])) [(.t 25)]))⟩,
 ⟨some 2, none, (.p (.move (.t 26)))⟩]) .ret))), [.t 2]⟩
/-- libevolution/libevolutionref02.validGenerics -/
def x199 : XF := ⟨(.seq (.reg 
[⟨some 2, none, (.p (.move (.c (.bool false))))⟩]) (.seq (.seq (.reg 
[⟨some 7, none, (.p (.move (.t 0)))⟩,
 ⟨some 8, none, (.p (.lenl (.t 7)))⟩,
 ⟨some 9, none, (.p (.move (.c (.int .i64 0))))⟩]) (.block 0 (.loop (.seq (.reg 
[⟨some 10, none, (.p (.bin .lss .int (.t 9) (.t 8)))⟩]) (.seq (.cond (.t 10) .skip (.exit 0)) (.seq (.block 1 (.seq (.reg 
[⟨some 11, none, (.p (.iaddr 2 (.t 7) (.t 9)))⟩,
 ⟨some 12, none, (.l (.load 2 true (.t 11)))⟩,
 ⟨some 4, none, (.e (.alloc [(.str []), .nils]))⟩,
 ⟨none, none, (.e (.store 2 (.t 4) (.t 12)))⟩]) (.seq (.seq (.reg 
[⟨some 13, none, (.p (.faddr 0 (.t 4)))⟩,
 ⟨some 14, none, (.l (.load 1 false (.t 13)))⟩,
 ⟨some 15, none, (.e (.call (.c (.fn 121 [] [])) [(.t 14)]))⟩,
 ⟨some 16, none, (.p (.not (.t 15)))⟩]) (.cond (.t 16) (.seq (.reg 
[⟨some 2, none, (.p (.move (.c (.bool false))))⟩]) .ret) .skip)) (.seq (.reg 
[⟨some 17, none, (.p (.faddr 1 (.t 4)))⟩,
 ⟨some 18, none, (.l (.load 1 false (.t 17)))⟩,
 ⟨some 19, none, (.p (.lenl (.t 18)))⟩,
 ⟨some 20, none, (.p (.move (.c (.int .i64 0))))⟩]) (.block 2 (.loop (.seq (.reg 
[⟨some 21, none, (.p (.bin .lss .int (.t 20) (.t 19)))⟩]) (.seq (.cond (.t 21) .skip (.exit 2)) (.seq (.block 3 (.seq (.reg 
[⟨some 22, none, (.p (.iaddr 1 (.t 18) (.t 20)))⟩,
 ⟨some 23, none, (.l (.load 1 false (.t 22)))⟩,
 ⟨some 6, none, (.p (.move (.t 23)))⟩]) (.seq (.reg 
[⟨some 24, none, (.p (.move (.t 6)))⟩,
 ⟨some 25, none, (.e (.call (.c (.fn 198 [] [])) [(.t 24)]))⟩,
 ⟨some 26, none, (.p (.not (.t 25)))⟩]) (.cond (.t 26) (.seq (.reg 
[⟨some 2, none, (.p (.move (.c (.bool false))))⟩]) .ret) .skip)))) (.reg 
[⟨some 27, none, (.p (.bin .add .int (.t 20) (.c (.int .i64 1))))⟩,
 ⟨some 20, none, (.p (.move (.t 27)))⟩])))))))))) (.reg 
[⟨some 28, none, (.p (.bin .add .int (.t 9) (.c (.int .i64 1))))⟩,
 ⟨some 9, none, (.p (.move (.t 28)))⟩]))))))) (.seq (.reg 
[⟨some 2, none, (.p (.move (.c (.bool true))))⟩]) .ret))), [.t 2]⟩
/-- libevolution/libevolutionref02.whole -/
def x200 : XF := ⟨(.seq (.reg 
[⟨some 1, none, (.e (.box 11 (.t 0)))⟩,
 ⟨some 2, none, (.p (.move (.c (.bool false))))⟩]) (.seq (.seq (.reg 
[⟨some 5, none, (.l (.load 11 true (.t 1)))⟩,
 ⟨some 6, none, (.e (.call (.c (.fn 261 [] [])) [(.t 5)]))⟩,
 ⟨some 7, none, (.p (.not (.t 6)))⟩]) (.cond (.t 7) (.seq (.reg 
[⟨some 2, none, (.p (.move (.c (.bool false))))⟩]) .ret) .skip)) (.seq (.seq (.reg 
[⟨some 8, none, (.p (.faddr 7 (.t 1)))⟩,
 ⟨some 9, none, (.l (.load 1 false (.t 8)))⟩,
 ⟨some 10, none, (.p (.lenl (.t 9)))⟩,
 ⟨some 11, none, (.p (.move (.c (.int .i64 0))))⟩]) (.block 0 (.loop (.seq (.reg 
[⟨some 12, none, (.p (.bin .lss .int (.t 11) (.t 10)))⟩]) (.seq (.cond (.t 12) .skip (.exit 0)) (.seq (.block 1 (.seq (.reg 
[⟨some 13, none, (.p (.iaddr 11 (.t 9) (.t 11)))⟩,
 ⟨some 14, none, (.l (.load 11 true (.t 13)))⟩,
 ⟨some 4, none, (.e (.alloc [(.int .i64 0), (.str []), (.str []), (.int .i64 0), .nils, .nils, .nils, .nils, (.str []), .nils, (.int .i64 0)]))⟩,
 ⟨none, none, (.e (.store 11 (.t 4) (.t 14)))⟩]) (.seq (.reg 
[⟨some 15, none, (.l (.load 11 true (.t 4)))⟩,
 ⟨some 16, none, (.e (.call (.c (.fn 200 [] [])) [(.t 15)]))⟩,
 ⟨some 17, none, (.p (.not (.t 16)))⟩]) (.cond (.t 17) (.seq (.reg 
[⟨some 2, none, (.p (.move (.c (.bool false))))⟩]) .ret) .skip)))) (.reg 
[⟨some 18, none, (.p (.bin .add .int (.t 11) (.c (.int .i64 1))))⟩,
 ⟨some 11, none, (.p (.move (.t 18)))⟩]))))))) (.seq (.reg 
[⟨some 2, none, (.p (.move (.c (.bool true))))⟩]) .ret)))), [.t 2]⟩
/-- libevolution/libevolutionref05.in -/
def x201 : XF := ⟨(.seq (.reg 
[⟨some 4, none, (.p (.move (.c (.bool false))))⟩]) (.seq (.seq (.reg 
[⟨some 7, none, (.p (.move (.t 0)))⟩,
 ⟨some 8, none, (.p (.lenl (.t 7)))⟩,
 ⟨some 9, none, (.p (.move (.c (.int .i64 0))))⟩]) (.block 0 (.loop (.seq (.reg 
[⟨some 10, none, (.p (.bin .lss .int (.t 9) (.t 8)))⟩]) (.seq (.cond (.t 10) .skip (.exit 0)) (.seq (.block 1 (.seq (.reg 
[⟨some 11, none, (.p (.iaddr 1 (.t 7) (.t 9)))⟩,
 ⟨some 12, none, (.l (.load 1 false (.t 11)))⟩,
 ⟨some 6, none, (.p (.move (.t 12)))⟩]) (.seq (.reg 
[⟨some 13, none, (.p (.move (.t 6)))⟩,
 ⟨some 14, none, (.p (.move (.t 1)))⟩,
 ⟨some 15, none, (.p (.bin .eql .str (.t 13) (.t 14)))⟩]) (.cond (.t 15) (.seq (.reg 
[⟨some 4, none, (.p (.move (.c (.bool true))))⟩]) .ret) .skip)))) (.reg 
[⟨some 16, none, (.p (.bin .add .int (.t 9) (.c (.int .i64 1))))⟩,
 ⟨some 9, none, (.p (.move (.t 16)))⟩]))))))) (.seq (.reg 
[⟨some 4, none, (.p (.move (.c (.bool false))))⟩]) .ret))), [.t 4]⟩
/-- (*libevolution/libevolutionref05.resolver).fail -/
def x202 : XF := ⟨(.seq (.reg 
[⟨some 4, none, (.p (.move (.t 0)))⟩,
 ⟨some 5, none, (.p (.nilc (.t 4)))⟩,
 ⟨some 6, none, (.p (.faddr 14 (.t 5)))⟩,
 ⟨some 7, none, (.l (.load 1 false (.t 6)))⟩,
 ⟨some 8, none, (.p (.bin .eql .int (.t 7) (.c (.int .i64 0))))⟩]) (.cond (.t 8) (.reg 
[⟨some 9, none, (.p (.move (.t 0)))⟩,
 ⟨some 10, none, (.p (.move (.t 0)))⟩,
 ⟨some 11, none, (.p (.move (.t 1)))⟩,
 ⟨some 12, none, (.p (.move (.t 0)))⟩,
 ⟨some 13, none, (.p (.nilc (.t 12)))⟩,
 ⟨some 14, none, (.p (.faddr 12 (.t 13)))⟩,
 ⟨some 15, none, (.l (.load 1 false (.t 14)))⟩,
 ⟨some 16, none, (.p (.nilc (.t 9)))⟩,
 ⟨some 17, none, (.p (.faddr 14 (.t 16)))⟩,
 ⟨none, none, (.e (.store 1 (.t 17) (.t 11)))⟩,
 ⟨some 18, none, (.p (.nilc (.t 10)))⟩,
 ⟨some 19, none, (.p (.faddr 13 (.t 18)))⟩,
 ⟨none, none, (.e (.store 1 (.t 19) (.t 15)))⟩]) .skip)), []⟩
/-- libevolution/libevolutionref04.Builtin -/
def x203 : XF := ⟨(.seq (.reg 
[⟨some 2, none, (.p (.move (.c (.bool false))))⟩]) (.seq (.reg 
[⟨some 3, none, (.p (.move (.t 0)))⟩,
 ⟨some 4, none, (.p (.bin .eql .str (.t 3) (.c (.str [73, 110, 116]))))⟩,
 ⟨some 5, none, (.p (.move (.t 4)))⟩,
 ⟨some 6, some (5, false), (.p (.move (.t 0)))⟩,
 ⟨some 7, some (5, false), (.p (.bin .eql .str (.t 6) (.c (.str [66, 121, 116, 101]))))⟩,
 ⟨some 8, none, (.p (.pick (.t 5) (.c (.bool true)) (.t 7)))⟩,
 ⟨some 9, none, (.p (.move (.t 8)))⟩,
 ⟨some 10, some (9, false), (.p (.move (.t 0)))⟩,
 ⟨some 11, some (9, false), (.p (.bin .eql .str (.t 10) (.c (.str [66, 111, 111, 108]))))⟩,
 ⟨some 12, none, (.p (.pick (.t 9) (.c (.bool true)) (.t 11)))⟩,
 ⟨some 13, none, (.p (.move (.t 12)))⟩,
 ⟨some 14, some (13, false), (.p (.move (.t 0)))⟩,
 ⟨some 15, some (13, false), (.p (.bin .eql .str (.t 14) (.c (.str [65, 114, 114, 97, 121]))))⟩,
 ⟨some 16, none, (.p (.pick (.t 13) (.c (.bool true)) (.t 15)))⟩,
 ⟨some 2, none, (.p (.move (.t 16)))⟩]) .ret)), [.t 2]⟩
/-- libevolution/libevolutionref05.arity -/
def x204 : XF := ⟨(.seq (.reg 
[⟨some 4, none, (.p (.move (.c (.int .i64 0))))⟩]) (.seq (.seq (.reg 
[⟨some 10, none, (.p (.move (.t 0)))⟩,
 ⟨some 11, none, (.p (.move (.t 1)))⟩,
 ⟨some 12, none, (.e (.call (.c (.fn 50 [] [])) [(.t 10), (.t 11)]))⟩,
 ⟨some 9, none, (.p (.move (.t 12)))⟩,
 ⟨some 13, none, (.p (.ext (.t 9) 0))⟩,
 ⟨some 14, none, (.p (.ext (.t 9) 1))⟩,
 ⟨some 5, none, (.e (.alloc [(.int .i64 0), (.bool false), (.bool false), (.str []), .nils, .nils]))⟩,
 ⟨none, none, (.e (.store 6 (.t 5) (.t 13)))⟩,
 ⟨some 6, none, (.p (.move (.t 14)))⟩]) (.seq (.reg 
[⟨some 15, none, (.p (.move (.t 6)))⟩]) (.cond (.t 15) (.seq (.reg 
[⟨some 16, none, (.p (.faddr 4 (.t 5)))⟩,
 ⟨some 17, none, (.l (.load 1 false (.t 16)))⟩,
 ⟨some 18, none, (.p (.lenl (.t 17)))⟩,
 ⟨some 4, none, (.p (.move (.t 18)))⟩]) .ret) .skip))) (.seq (.reg 
[⟨some 20, none, (.p (.move (.t 0)))⟩,
 ⟨some 21, none, (.p (.move (.t 1)))⟩,
 ⟨some 22, none, (.e (.call (.c (.fn 51 [] [])) [(.t 20), (.t 21)]))⟩,
 ⟨some 19, none, (.p (.move (.t 22)))⟩,
 ⟨some 23, none, (.p (.ext (.t 19) 0))⟩,
 ⟨some 24, none, (.p (.ext (.t 19) 1))⟩,
 ⟨some 7, none, (.e (.alloc [(.int .i64 0), (.bool false), (.bool false), (.str []), .nils, .nils]))⟩,
 ⟨none, none, (.e (.store 6 (.t 7) (.t 23)))⟩,
 ⟨some 8, none, (.p (.move (.t 24)))⟩]) (.seq (.reg 
[⟨some 25, none, (.p (.faddr 4 (.t 7)))⟩,
 ⟨some 26, none, (.l (.load 1 false (.t 25)))⟩,
 ⟨some 27, none, (.p (.lenl (.t 26)))⟩,
 ⟨some 4, none, (.p (.move (.t 27)))⟩]) .ret)))), [.t 4]⟩
/-- (*libevolution/libevolutionref05.resolver).home -/
def x205 : XF := ⟨(.seq (.reg 
[⟨some 4, none, (.p (.move (.c (.str []))))⟩,
 ⟨some 5, none, (.p (.move (.c (.str []))))⟩]) (.seq (.seq (.reg 
[⟨some 10, none, (.p (.move (.t 1)))⟩,
 ⟨some 11, none, (.e (.call (.c (.fn 49 [] [])) [(.t 10)]))⟩,
 ⟨some 9, none, (.p (.move (.t 11)))⟩,
 ⟨some 12, none, (.p (.ext (.t 9) 0))⟩,
 ⟨some 13, none, (.p (.ext (.t 9) 1))⟩,
 ⟨some 14, none, (.p (.ext (.t 9) 2))⟩,
 ⟨some 6, none, (.p (.move (.t 12)))⟩,
 ⟨some 7, none, (.p (.move (.t 13)))⟩,
 ⟨some 8, none, (.p (.move (.t 14)))⟩]) (.seq (.reg 
[⟨some 15, none, (.p (.move (.t 8)))⟩]) (.cond (.t 15) (.seq (.reg 
[⟨some 16, none, (.p (.move (.t 6)))⟩,
 ⟨some 17, none, (.p (.move (.t 7)))⟩,
 ⟨some 4, none, (.p (.move (.t 16)))⟩,
 ⟨some 5, none, (.p (.move (.t 17)))⟩]) .ret) .skip))) (.seq (.reg 
[⟨some 18, none, (.p (.move (.t 0)))⟩,
 ⟨some 19, none, (.p (.nilc (.t 18)))⟩,
 ⟨some 20, none, (.p (.faddr 0 (.t 19)))⟩,
 ⟨some 21, none, (.p (.faddr 1 (.t 20)))⟩,
 ⟨some 22, none, (.l (.load 1 false (.t 21)))⟩,
 ⟨some 23, none, (.p (.move (.t 1)))⟩,
 ⟨some 4, none, (.p (.move (.t 22)))⟩,
 ⟨some 5, none, (.p (.move (.t 23)))⟩]) .ret))), [.t 4, .t 5]⟩
/-- (*libevolution/libevolutionref05.resolver).imported -/
def x206 : XF := ⟨(.seq (.reg 
[⟨some 4, none, (.p (.move (.c (.bool false))))⟩]) (.seq (.seq (.reg 
[⟨some 7, none, (.p (.move (.t 1)))⟩,
 ⟨some 8, none, (.p (.move (.t 0)))⟩,
 ⟨some 9, none, (.p (.nilc (.t 8)))⟩,
 ⟨some 10, none, (.p (.faddr 0 (.t 9)))⟩,
 ⟨some 11, none, (.p (.faddr 1 (.t 10)))⟩,
 ⟨some 12, none, (.l (.load 1 false (.t 11)))⟩,
 ⟨some 13, none, (.p (.bin .eql .str (.t 7) (.t 12)))⟩]) (.cond (.t 13) (.seq (.reg 
[⟨some 4, none, (.p (.move (.c (.bool true))))⟩]) .ret) .skip)) (.seq (.seq (.reg 
[⟨some 14, none, (.p (.move (.t 0)))⟩,
 ⟨some 15, none, (.p (.nilc (.t 14)))⟩,
 ⟨some 16, none, (.p (.faddr 0 (.t 15)))⟩,
 ⟨some 17, none, (.p (.faddr 3 (.t 16)))⟩,
 ⟨some 18, none, (.l (.load 1 false (.t 17)))⟩,
 ⟨some 19, none, (.p (.lenl (.t 18)))⟩,
 ⟨some 20, none, (.p (.move (.c (.int .i64 0))))⟩]) (.block 0 (.loop (.seq (.reg 
[⟨some 21, none, (.p (.bin .lss .int (.t 20) (.t 19)))⟩]) (.seq (.cond (.t 21) .skip (.exit 0)) (.seq (.block 1 (.seq (.reg 
[⟨some 22, none, (.p (.iaddr 2 (.t 18) (.t 20)))⟩,
 ⟨some 23, none, (.l (.load 2 true (.t 22)))⟩,
 ⟨some 6, none, (.e (.alloc [(.str []), (.int .i64 0)]))⟩,
 ⟨none, none, (.e (.store 2 (.t 6) (.t 23)))⟩]) (.seq (.reg 
[⟨some 24, none, (.p (.faddr 0 (.t 6)))⟩,
 ⟨some 25, none, (.l (.load 1 false (.t 24)))⟩,
 ⟨some 26, none, (.p (.move (.t 1)))⟩,
 ⟨some 27, none, (.p (.bin .eql .str (.t 25) (.t 26)))⟩]) (.cond (.t 27) (.seq (.reg 
[⟨some 4, none, (.p (.move (.c (.bool true))))⟩]) .ret) .skip)))) (.reg 
[⟨some 28, none, (.p (.bin .add .int (.t 20) (.c (.int .i64 1))))⟩,
 ⟨some 20, none, (.p (.move (.t 28)))⟩]))))))) (.seq (.reg 
[⟨some 4, none, (.p (.move (.c (.bool false))))⟩]) .ret)))), [.t 4]⟩
/-- (*libevolution/libevolutionref05.resolver).literal -/
def x207 : XF := ⟨(.seq (.reg 
[⟨some 3, none, (.e (.box 11 (.t 1)))⟩,
 ⟨some 4, none, (.e (.alloc [(.str []), .nils]))⟩]) (.seq (.reg 
[⟨some 8, none, (.p (.move (.t 0)))⟩,
 ⟨some 9, none, (.p (.faddr 1 (.t 3)))⟩,
 ⟨some 10, none, (.l (.load 1 false (.t 9)))⟩,
 ⟨some 11, none, (.e (.call (.c (.fn 137 [] [])) [(.t 8), (.t 10), (.c (.int .i64 4))]))⟩,
 ⟨some 12, none, (.p (.build [(.str []), .nils] [(0, 1, (.t 11))]))⟩,
 ⟨some 5, none, (.e (.alloc [(.str []), .nils]))⟩,
 ⟨none, none, (.e (.store 2 (.t 5) (.t 12)))⟩]) (.seq (.seq (.reg 
[⟨some 13, none, (.p (.move (.t 0)))⟩,
 ⟨some 14, none, (.p (.nilc (.t 13)))⟩,
 ⟨some 15, none, (.p (.faddr 14 (.t 14)))⟩,
 ⟨some 16, none, (.l (.load 1 false (.t 15)))⟩,
 ⟨some 17, none, (.p (.bin .neq .int (.t 16) (.c (.int .i64 0))))⟩]) (.cond (.t 17) (.seq (.reg 
[⟨some 18, none, (.l (.load 2 true (.t 5)))⟩,
 ⟨none, none, (.e (.store 2 (.t 4) (.t 18)))⟩]) .ret) .skip)) (.seq (.seq (.regd [(6, [(.int .i64 0), (.bool false), (.bool false), (.str []), .nils, .nils])] 
[⟨some 20, none, (.p (.move (.t 0)))⟩,
 ⟨some 21, none, (.p (.nilc (.t 20)))⟩,
 ⟨some 22, none, (.p (.faddr 9 (.t 21)))⟩,
 ⟨some 23, none, (.l (.load 1 false (.t 22)))⟩,
 ⟨some 24, none, (.p (.faddr 0 (.t 5)))⟩,
 ⟨some 25, none, (.l (.load 1 false (.t 24)))⟩,
 ⟨some 26, none, (.e (.call (.c (.fn 50 [] [])) [(.t 23), (.t 25)]))⟩,
 ⟨some 19, none, (.p (.move (.t 26)))⟩,
 ⟨some 27, none, (.p (.ext (.t 19) 0))⟩,
 ⟨some 28, none, (.p (.ext (.t 19) 1))⟩,
 ⟨some 6, none, (.p (.move (.t 6)))⟩,
 ⟨none, none, (.e (.store 6 (.t 6) (.t 27)))⟩,
 ⟨some 7, none, (.p (.move (.t 28)))⟩] []) (.seq (.reg 
[⟨some 29, none, (.p (.move (.t 7)))⟩,
 ⟨some 30, none, (.p (.not (.t 29)))⟩]) (.cond (.t 30) (.seq (.reg 
[⟨some 31, none, (.p (.move (.t 0)))⟩,
 ⟨some 32, none, (.e (.call (.c (.fn 202 [] [])) [(.t 31), (.c (.int .i64 6))]))⟩]) (.seq (.reg 
[⟨some 33, none, (.l (.load 2 true (.t 5)))⟩,
 ⟨none, none, (.e (.store 2 (.t 4) (.t 33)))⟩]) .ret)) .skip))) (.seq (.seq (.regd [] 
[⟨some 34, none, (.p (.move (.t 0)))⟩,
 ⟨some 35, none, (.p (.nilc (.t 34)))⟩,
 ⟨some 36, none, (.p (.faddr 9 (.t 35)))⟩,
 ⟨some 37, none, (.l (.load 1 false (.t 36)))⟩,
 ⟨some 38, none, (.p (.faddr 0 (.t 5)))⟩,
 ⟨some 39, none, (.l (.load 1 false (.t 38)))⟩,
 ⟨some 40, none, (.e (.call (.c (.fn 204 [] [])) [(.t 37), (.t 39)]))⟩,
 ⟨some 41, none, (.p (.faddr 4 (.t 3)))⟩,
 ⟨some 42, none, (.l (.load 1 false (.t 41)))⟩,
 ⟨some 43, none, (.p (.lenl (.t 42)))⟩,
 ⟨some 44, none, (.p (.bin .neq .int (.t 40) (.t 43)))⟩] [(8, 6)]) (.cond (.t 44) (.reg 
[⟨some 45, none, (.p (.move (.t 0)))⟩,
 ⟨some 46, none, (.e (.call (.c (.fn 202 [] [])) [(.t 45), (.c (.int .i64 9))]))⟩]) .skip)) (.seq (.reg 
[⟨some 47, none, (.l (.load 2 true (.t 5)))⟩,
 ⟨none, none, (.e (.store 2 (.t 4) (.t 47)))⟩]) .ret)))))), [.cell 4 2 true]⟩
/-- (*libevolution/libevolutionref02.parser).try -/
def x243 : XF := ⟨(.seq (.reg 
[⟨some 4, none, (.p (.move (.c (.bool false))))⟩]) (.seq (.seq (.reg 
[⟨some 5, none, (.p (.move (.t 0)))⟩,
 ⟨some 6, none, (.p (.move (.t 1)))⟩,
 ⟨some 7, none, (.e (.call (.c (.fn 293 [] [])) [(.t 5), (.t 6)]))⟩,
 ⟨some 8, none, (.p (.not (.t 7)))⟩]) (.cond (.t 8) (.seq (.reg 
[⟨some 4, none, (.p (.move (.c (.bool false))))⟩]) .ret) .skip)) (.seq (.reg 
[⟨some 9, none, (.p (.move (.t 0)))⟩,
 ⟨some 10, none, (.p (.nilc (.t 9)))⟩,
 ⟨some 11, none, (.p (.faddr 2 (.t 10)))⟩,
 ⟨some 12, none, (.l (.load 1 false (.t 11)))⟩,
 ⟨some 13, none, (.p (.bin .add .int (.t 12) (.c (.int .i64 1))))⟩,
 ⟨some 14, none, (.p (.nilc (.t 9)))⟩,
 ⟨some 15, none, (.p (.faddr 2 (.t 14)))⟩,
 ⟨none, none, (.e (.store 1 (.t 15) (.t 13)))⟩]) (.seq (.reg 
[⟨some 4, none, (.p (.move (.c (.bool true))))⟩]) .ret)))), [.t 4]⟩
/-- (*libevolution/libevolutionref02.parser).fail -/
def x244 : XF := ⟨(.seq (.reg 
[⟨some 6, none, (.p (.move (.t 0)))⟩,
 ⟨some 7, none, (.p (.nilc (.t 6)))⟩,
 ⟨some 8, none, (.p (.faddr 4 (.t 7)))⟩,
 ⟨some 9, none, (.l (.load 1 false (.t 8)))⟩,
 ⟨some 10, none, (.p (.bin .eql .int (.t 9) (.c (.int .i64 0))))⟩]) (.cond (.t 10) (.reg 
[⟨some 11, none, (.p (.move (.t 0)))⟩,
 ⟨some 12, none, (.p (.move (.t 0)))⟩,
 ⟨some 13, none, (.p (.move (.t 1)))⟩,
 ⟨some 14, none, (.p (.move (.t 2)))⟩,
 ⟨some 15, none, (.p (.nilc (.t 11)))⟩,
 ⟨some 16, none, (.p (.faddr 3 (.t 15)))⟩,
 ⟨none, none, (.e (.store 1 (.t 16) (.t 13)))⟩,
 ⟨some 17, none, (.p (.nilc (.t 12)))⟩,
 ⟨some 18, none, (.p (.faddr 4 (.t 17)))⟩,
 ⟨none, none, (.e (.store 1 (.t 18) (.t 14)))⟩]) .skip)), []⟩
/-- (*libevolution/libevolutionref02.parser).here -/
def x245 : XF := ⟨(.seq (.reg 
[⟨some 2, none, (.p (.move (.c (.int .i64 0))))⟩]) (.seq (.seq (.regd [] 
[⟨some 3, none, (.p (.move (.t 0)))⟩,
 ⟨some 4, none, (.p (.nilc (.t 3)))⟩,
 ⟨some 5, none, (.p (.faddr 2 (.t 4)))⟩,
 ⟨some 6, none, (.l (.load 1 false (.t 5)))⟩,
 ⟨some 7, none, (.p (.move (.t 0)))⟩,
 ⟨some 8, none, (.p (.nilc (.t 7)))⟩,
 ⟨some 9, none, (.p (.faddr 0 (.t 8)))⟩,
 ⟨some 10, none, (.l (.load 1 false (.t 9)))⟩,
 ⟨some 11, none, (.p (.lenl (.t 10)))⟩,
 ⟨some 12, none, (.p (.bin .lss .int (.t 6) (.t 11)))⟩] []) (.cond (.t 12) (.seq (.regd [] 
[⟨some 13, none, (.p (.move (.t 0)))⟩,
 ⟨some 14, none, (.p (.nilc (.t 13)))⟩,
 ⟨some 15, none, (.p (.faddr 0 (.t 14)))⟩,
 ⟨some 16, none, (.l (.load 1 false (.t 15)))⟩,
 ⟨some 17, none, (.p (.move (.t 0)))⟩,
 ⟨some 18, none, (.p (.nilc (.t 17)))⟩,
 ⟨some 19, none, (.p (.faddr 2 (.t 18)))⟩,
 ⟨some 20, none, (.l (.load 1 false (.t 19)))⟩,
 ⟨some 21, none, (.p (.iaddr 3 (.t 16) (.t 20)))⟩,
 ⟨some 22, none, (.p (.faddr 2 (.t 21)))⟩,
 ⟨some 23, none, (.l (.load 1 false (.t 22)))⟩,
 ⟨some 2, none, (.p (.move (.t 23)))⟩] []) .ret) .skip)) (.seq (.reg 
[⟨some 24, none, (.p (.move (.t 0)))⟩,
 ⟨some 25, none, (.p (.nilc (.t 24)))⟩,
 ⟨some 26, none, (.p (.faddr 1 (.t 25)))⟩,
 ⟨some 27, none, (.l (.load 1 false (.t 26)))⟩,
 ⟨some 2, none, (.p (.move (.t 27)))⟩]) .ret))), [.t 2]⟩
/-- (*libevolution/libevolutionref02.parser).name -/
def x246 : XF := ⟨(.seq (.reg 
[⟨some 2, none, (.p (.move (.c (.str []))))⟩]) (.seq (.seq (.reg 
[⟨some 3, none, (.p (.move (.t 0)))⟩,
 ⟨some 4, none, (.p (.nilc (.t 3)))⟩,
 ⟨some 5, none, (.p (.faddr 4 (.t 4)))⟩,
 ⟨some 6, none, (.l (.load 1 false (.t 5)))⟩,
 ⟨some 7, none, (.p (.bin .neq .int (.t 6) (.c (.int .i64 0))))⟩]) (.cond (.t 7) (.seq (.reg 
[⟨some 2, none, (.p (.move (.c (.str []))))⟩]) .ret) .skip)) (.seq (.seq (.reg 
[⟨some 8, none, (.p (.move (.t 0)))⟩,
 ⟨some 9, none, (.e (.call (.c (.fn 294 [] [])) [(.t 8), (.c (.int .i64 0))]))⟩,
 ⟨some 10, none, (.p (.not (.t 9)))⟩]) (.cond (.t 10) (.seq (.reg 
[⟨some 11, none, (.p (.move (.t 0)))⟩,
 ⟨some 12, none, (.p (.move (.t 0)))⟩,
 ⟨some 13, none, (.e (.call (.c (.fn 245 [] [])) [(.t 12)]))⟩,
 ⟨some 14, none, (.e (.call (.c (.fn 244 [] [])) [(.t 11), (.t 13), (.c (.int .i64 2))]))⟩]) (.seq (.reg 
[⟨some 2, none, (.p (.move (.c (.str []))))⟩]) .ret)) .skip)) (.seq (.reg 
[⟨some 15, none, (.p (.move (.t 0)))⟩,
 ⟨some 16, none, (.p (.nilc (.t 15)))⟩,
 ⟨some 17, none, (.p (.faddr 2 (.t 16)))⟩,
 ⟨some 18, none, (.l (.load 1 false (.t 17)))⟩,
 ⟨some 19, none, (.p (.bin .add .int (.t 18) (.c (.int .i64 1))))⟩,
 ⟨some 20, none, (.p (.nilc (.t 15)))⟩,
 ⟨some 21, none, (.p (.faddr 2 (.t 20)))⟩,
 ⟨none, none, (.e (.store 1 (.t 21) (.t 19)))⟩]) (.seq (.regd [] 
[⟨some 22, none, (.p (.move (.t 0)))⟩,
 ⟨some 23, none, (.p (.nilc (.t 22)))⟩,
 ⟨some 24, none, (.p (.faddr 0 (.t 23)))⟩,
 ⟨some 25, none, (.l (.load 1 false (.t 24)))⟩,
 ⟨some 26, none, (.p (.move (.t 0)))⟩,
 ⟨some 27, none, (.p (.nilc (.t 26)))⟩,
 ⟨some 28, none, (.p (.faddr 2 (.t 27)))⟩,
 ⟨some 29, none, (.l (.load 1 false (.t 28)))⟩,
 ⟨some 30, none, (.p (.bin .sub .int (.t 29) (.c (.int .i64 1))))⟩,
 ⟨some 31, none, (.p (.iaddr 3 (.t 25) (.t 30)))⟩,
 ⟨some 32, none, (.p (.faddr 1 (.t 31)))⟩,
 ⟨some 33, none, (.l (.load 1 false (.t 32)))⟩,
 ⟨some 2, none, (.p (.move (.t 33)))⟩] []) .ret))))), [.t 2]⟩
/-- (*libevolution/libevolutionref02.parser).need -/
def x247 : XF := ⟨(.seq (.reg 
[⟨some 4, none, (.p (.move (.t 0)))⟩,
 ⟨some 5, none, (.p (.nilc (.t 4)))⟩,
 ⟨some 6, none, (.p (.faddr 4 (.t 5)))⟩,
 ⟨some 7, none, (.l (.load 1 false (.t 6)))⟩,
 ⟨some 8, none, (.p (.bin .eql .int (.t 7) (.c (.int .i64 0))))⟩,
 ⟨some 9, none, (.p (.move (.t 8)))⟩,
 ⟨some 10, some (9, true), (.p (.move (.t 0)))⟩,
 ⟨some 11, some (9, true), (.p (.move (.t 1)))⟩,
 ⟨some 12, some (9, true), (.e (.call (.c (.fn 243 [] [])) [(.t 10), (.t 11)]))⟩,
 ⟨some 13, some (9, true), (.p (.not (.t 12)))⟩,
 ⟨some 14, none, (.p (.pick (.t 9) (.t 13) (.c (.bool false))))⟩]) (.cond (.t 14) (.reg 
[⟨some 15, none, (.p (.move (.t 0)))⟩,
 ⟨some 16, none, (.p (.move (.t 0)))⟩,
 ⟨some 17, none, (.e (.call (.c (.fn 245 [] [])) [(.t 16)]))⟩,
 ⟨some 18, none, (.e (.call (.c (.fn 244 [] [])) [(.t 15), (.t 17), (.c (.int .i64 2))]))⟩]) .skip)), []⟩
/-- (*libevolution/libevolutionref02.parser).release -/
def x248 : XF := ⟨(.seq (.reg 
[⟨some 2, none, (.p (.move (.c (.int .i64 0))))⟩]) (.seq (.seq (.reg 
[⟨some 4, none, (.p (.move (.t 0)))⟩,
 ⟨some 5, none, (.p (.nilc (.t 4)))⟩,
 ⟨some 6, none, (.p (.faddr 4 (.t 5)))⟩,
 ⟨some 7, none, (.l (.load 1 false (.t 6)))⟩,
 ⟨some 8, none, (.p (.bin .neq .int (.t 7) (.c (.int .i64 0))))⟩]) (.cond (.t 8) (.seq (.reg 
[⟨some 2, none, (.p (.move (.c (.int .i64 0))))⟩]) .ret) .skip)) (.seq (.seq (.reg 
[⟨some 9, none, (.p (.move (.t 0)))⟩,
 ⟨some 10, none, (.e (.call (.c (.fn 295 [] [])) [(.t 9), (.c (.int .i64 0))]))⟩,
 ⟨some 11, none, (.p (.bin .neq .int (.t 10) (.c (.int .i64 2))))⟩]) (.cond (.t 11) (.seq (.reg 
[⟨some 12, none, (.p (.move (.t 0)))⟩,
 ⟨some 13, none, (.p (.move (.t 0)))⟩,
 ⟨some 14, none, (.e (.call (.c (.fn 245 [] [])) [(.t 13)]))⟩,
 ⟨some 15, none, (.e (.call (.c (.fn 244 [] [])) [(.t 12), (.t 14), (.c (.int .i64 2))]))⟩]) (.seq (.reg 
[⟨some 2, none, (.p (.move (.c (.int .i64 0))))⟩]) .ret)) .skip)) (.seq (.reg 
[⟨some 16, none, (.p (.move (.t 0)))⟩,
 ⟨some 17, none, (.e (.call (.c (.fn 296 [] [])) [(.t 16), (.c (.int .i64 0))]))⟩,
 ⟨some 3, none, (.p (.move (.t 17)))⟩]) (.seq (.seq (.reg 
[⟨some 18, none, (.p (.move (.t 3)))⟩,
 ⟨some 19, none, (.p (.lens (.t 18)))⟩,
 ⟨some 20, none, (.p (.bin .gtr .int (.t 19) (.c (.int .i64 4))))⟩,
 ⟨some 21, none, (.p (.move (.t 20)))⟩,
 ⟨some 22, some (21, false), (.p (.move (.t 3)))⟩,
 ⟨some 23, some (21, false), (.e (.call (.c (.fn 297 [] [])) [(.t 22)]))⟩,
 ⟨some 24, some (21, false), (.p (.bin .lss .int (.t 23) (.c (.int .i64 1))))⟩,
 ⟨some 25, none, (.p (.pick (.t 21) (.c (.bool true)) (.t 24)))⟩,
 ⟨some 26, none, (.p (.move (.t 25)))⟩,
 ⟨some 27, some (26, false), (.p (.move (.t 3)))⟩,
 ⟨some 28, some (26, false), (.e (.call (.c (.fn 297 [] [])) [(.t 27)]))⟩,
 ⟨some 29, some (26, false), (.p (.bin .gtr .int (.t 28) (.c (.int .i64 1000))))⟩,
 ⟨some 30, none, (.p (.pick (.t 26) (.c (.bool true)) (.t 29)))⟩]) (.cond (.t 30) (.seq (.reg 
[⟨some 31, none, (.p (.move (.t 0)))⟩,
 ⟨some 32, none, (.p (.move (.t 0)))⟩,
 ⟨some 33, none, (.e (.call (.c (.fn 245 [] [])) [(.t 32)]))⟩,
 ⟨some 34, none, (.e (.call (.c (.fn 244 [] [])) [(.t 31), (.t 33), (.c (.int .i64 4))]))⟩]) (.seq (.reg 
[⟨some 2, none, (.p (.move (.c (.int .i64 0))))⟩]) .ret)) .skip)) (.seq (.reg 
[⟨some 35, none, (.p (.move (.t 0)))⟩,
 ⟨some 36, none, (.p (.nilc (.t 35)))⟩,
 ⟨some 37, none, (.p (.faddr 2 (.t 36)))⟩,
 ⟨some 38, none, (.l (.load 1 false (.t 37)))⟩,
 ⟨some 39, none, (.p (.bin .add .int (.t 38) (.c (.int .i64 1))))⟩,
 ⟨some 40, none, (.p (.nilc (.t 35)))⟩,
 ⟨some 41, none, (.p (.faddr 2 (.t 40)))⟩,
 ⟨none, none, (.e (.store 1 (.t 41) (.t 39)))⟩]) (.seq (.reg 
[⟨some 42, none, (.p (.move (.t 3)))⟩,
 ⟨some 43, none, (.e (.call (.c (.fn 297 [] [])) [(.t 42)]))⟩,
 ⟨some 2, none, (.p (.move (.t 43)))⟩]) .ret))))))), [.t 2]⟩
/-- (*libevolution/libevolutionref02.parser).decl -/
def x249 : XF := ⟨(.seq (.seq (.reg 
[⟨some 6, none, (.p (.move (.t 0)))⟩,
 ⟨some 7, none, (.e (.call (.c (.fn 243 [] [])) [(.t 6), (.c (.str [99, 111, 110, 102, 111, 114, 109]))]))⟩]) (.cond (.t 7) (.seq (.regd [] 
[⟨some 8, none, (.p (.move (.t 1)))⟩,
 ⟨some 9, none, (.p (.move (.t 1)))⟩,
 ⟨some 10, none, (.p (.nilc (.t 9)))⟩,
 ⟨some 11, none, (.p (.faddr 7 (.t 10)))⟩,
 ⟨some 12, none, (.l (.load 1 false (.t 11)))⟩,
 ⟨some 13, none, (.p (.move (.t 0)))⟩,
 ⟨some 14, none, (.e (.call (.c (.fn 298 [] [])) [(.t 13)]))⟩,
 ⟨some 15, none, (.p (.bslice 5 [(.agg [(.str []), .nils, (.str []), .nils, .nils])] [(0, (.t 14))]))⟩,
 ⟨some 16, none, (.e (.app 5 104 (.t 12) (.t 15)))⟩,
 ⟨some 17, none, (.p (.nilc (.t 8)))⟩,
 ⟨some 18, none, (.p (.faddr 7 (.t 17)))⟩,
 ⟨none, none, (.e (.store 1 (.t 18) (.t 16)))⟩] [(4, 6)]) .ret) .skip)) (.seq (.reg 
[⟨some 4, none, (.p (.move (.c (.int .i64 0))))⟩]) (.seq (.seq (.reg 
[⟨some 19, none, (.p (.move (.t 0)))⟩,
 ⟨some 20, none, (.e (.call (.c (.fn 243 [] [])) [(.t 19), (.c (.str [115, 105, 110, 99, 101]))]))⟩]) (.cond (.t 20) (.reg 
[⟨some 21, none, (.p (.move (.t 0)))⟩,
 ⟨some 22, none, (.e (.call (.c (.fn 248 [] [])) [(.t 21)]))⟩,
 ⟨some 4, none, (.p (.move (.t 22)))⟩]) .skip)) (.seq (.reg 
[⟨some 23, none, (.p (.move (.t 0)))⟩,
 ⟨some 24, none, (.e (.call (.c (.fn 243 [] [])) [(.t 23), (.c (.str [112, 117, 98, 108, 105, 99]))]))⟩,
 ⟨some 5, none, (.p (.move (.t 24)))⟩]) (.block 0 (.seq (.reg 
[⟨some 30, none, (.p (.move (.t 0)))⟩,
 ⟨some 31, none, (.e (.call (.c (.fn 293 [] [])) [(.t 30), (.c (.str [102, 114, 111, 122, 101, 110]))]))⟩,
 ⟨some 29, none, (.p (.move (.t 31)))⟩]) (.cond (.t 29) (.seq (.reg 
[⟨some 32, none, (.p (.move (.t 0)))⟩,
 ⟨some 33, none, (.p (.nilc (.t 32)))⟩,
 ⟨some 34, none, (.p (.faddr 2 (.t 33)))⟩,
 ⟨some 35, none, (.l (.load 1 false (.t 34)))⟩,
 ⟨some 36, none, (.p (.bin .add .int (.t 35) (.c (.int .i64 1))))⟩,
 ⟨some 37, none, (.p (.nilc (.t 32)))⟩,
 ⟨some 38, none, (.p (.faddr 2 (.t 37)))⟩,
 ⟨none, none, (.e (.store 1 (.t 38) (.t 36)))⟩]) (.seq (.reg 
[⟨some 39, none, (.p (.move (.t 0)))⟩,
 ⟨some 40, none, (.e (.call (.c (.fn 293 [] [])) [(.t 39), (.c (.str [117, 110, 105, 111, 110]))]))⟩]) (.cond (.t 40) (.regd [] 
[⟨some 41, none, (.p (.move (.t 1)))⟩,
 ⟨some 42, none, (.p (.move (.t 1)))⟩,
 ⟨some 43, none, (.p (.nilc (.t 42)))⟩,
 ⟨some 44, none, (.p (.faddr 5 (.t 43)))⟩,
 ⟨some 45, none, (.l (.load 1 false (.t 44)))⟩,
 ⟨some 46, none, (.p (.move (.t 0)))⟩,
 ⟨some 47, none, (.p (.move (.t 4)))⟩,
 ⟨some 48, none, (.p (.move (.t 5)))⟩,
 ⟨some 49, none, (.e (.call (.c (.fn 299 [] [])) [(.t 46), (.t 47), (.t 48), (.c (.bool true))]))⟩,
 ⟨some 50, none, (.p (.bslice 6 [(.agg [(.int .i64 0), (.bool false), (.bool false), (.str []), .nils, .nils])] [(0, (.t 49))]))⟩,
 ⟨some 51, none, (.e (.app 6 80 (.t 45) (.t 50)))⟩,
 ⟨some 52, none, (.p (.nilc (.t 41)))⟩,
 ⟨some 53, none, (.p (.faddr 5 (.t 52)))⟩,
 ⟨none, none, (.e (.store 1 (.t 53) (.t 51)))⟩] [(4, 8)]) (.regd [] 
[⟨some 54, none, (.p (.move (.t 1)))⟩,
 ⟨some 55, none, (.p (.move (.t 1)))⟩,
 ⟨some 56, none, (.p (.nilc (.t 55)))⟩,
 ⟨some 57, none, (.p (.faddr 4 (.t 56)))⟩,
 ⟨some 58, none, (.l (.load 1 false (.t 57)))⟩,
 ⟨some 59, none, (.p (.move (.t 0)))⟩,
 ⟨some 60, none, (.p (.move (.t 4)))⟩,
 ⟨some 61, none, (.p (.move (.t 5)))⟩,
 ⟨some 62, none, (.e (.call (.c (.fn 300 [] [])) [(.t 59), (.t 60), (.t 61), (.c (.bool true))]))⟩,
 ⟨some 63, none, (.p (.bslice 6 [(.agg [(.int .i64 0), (.bool false), (.bool false), (.str []), .nils, .nils])] [(0, (.t 62))]))⟩,
 ⟨some 64, none, (.e (.app 6 80 (.t 58) (.t 63)))⟩,
 ⟨some 65, none, (.p (.nilc (.t 54)))⟩,
 ⟨some 66, none, (.p (.faddr 4 (.t 65)))⟩,
 ⟨none, none, (.e (.store 1 (.t 66) (.t 64)))⟩] [(4, 8)])))) (.seq (.reg 
[⟨some 68, none, (.p (.move (.t 0)))⟩,
 ⟨some 69, none, (.e (.call (.c (.fn 293 [] [])) [(.t 68), (.c (.str [115, 116, 114, 117, 99, 116]))]))⟩,
 ⟨some 67, none, (.p (.move (.t 69)))⟩]) (.cond (.t 67) (.regd [] 
[⟨some 70, none, (.p (.move (.t 1)))⟩,
 ⟨some 71, none, (.p (.move (.t 1)))⟩,
 ⟨some 72, none, (.p (.nilc (.t 71)))⟩,
 ⟨some 73, none, (.p (.faddr 4 (.t 72)))⟩,
 ⟨some 74, none, (.l (.load 1 false (.t 73)))⟩,
 ⟨some 75, none, (.p (.move (.t 0)))⟩,
 ⟨some 76, none, (.p (.move (.t 4)))⟩,
 ⟨some 77, none, (.p (.move (.t 5)))⟩,
 ⟨some 78, none, (.e (.call (.c (.fn 300 [] [])) [(.t 75), (.t 76), (.t 77), (.c (.bool false))]))⟩,
 ⟨some 79, none, (.p (.bslice 6 [(.agg [(.int .i64 0), (.bool false), (.bool false), (.str []), .nils, .nils])] [(0, (.t 78))]))⟩,
 ⟨some 80, none, (.e (.app 6 80 (.t 74) (.t 79)))⟩,
 ⟨some 81, none, (.p (.nilc (.t 70)))⟩,
 ⟨some 82, none, (.p (.faddr 4 (.t 81)))⟩,
 ⟨none, none, (.e (.store 1 (.t 82) (.t 80)))⟩] [(4, 8)]) (.seq (.reg 
[⟨some 84, none, (.p (.move (.t 0)))⟩,
 ⟨some 85, none, (.e (.call (.c (.fn 293 [] [])) [(.t 84), (.c (.str [117, 110, 105, 111, 110]))]))⟩,
 ⟨some 83, none, (.p (.move (.t 85)))⟩]) (.cond (.t 83) (.regd [] 
[⟨some 86, none, (.p (.move (.t 1)))⟩,
 ⟨some 87, none, (.p (.move (.t 1)))⟩,
 ⟨some 88, none, (.p (.nilc (.t 87)))⟩,
 ⟨some 89, none, (.p (.faddr 5 (.t 88)))⟩,
 ⟨some 90, none, (.l (.load 1 false (.t 89)))⟩,
 ⟨some 91, none, (.p (.move (.t 0)))⟩,
 ⟨some 92, none, (.p (.move (.t 4)))⟩,
 ⟨some 93, none, (.p (.move (.t 5)))⟩,
 ⟨some 94, none, (.e (.call (.c (.fn 299 [] [])) [(.t 91), (.t 92), (.t 93), (.c (.bool false))]))⟩,
 ⟨some 95, none, (.p (.bslice 6 [(.agg [(.int .i64 0), (.bool false), (.bool false), (.str []), .nils, .nils])] [(0, (.t 94))]))⟩,
 ⟨some 96, none, (.e (.app 6 80 (.t 90) (.t 95)))⟩,
 ⟨some 97, none, (.p (.nilc (.t 86)))⟩,
 ⟨some 98, none, (.p (.faddr 5 (.t 97)))⟩,
 ⟨none, none, (.e (.store 1 (.t 98) (.t 96)))⟩] [(4, 8)]) (.seq (.seq (.reg 
[⟨some 100, none, (.p (.move (.t 0)))⟩,
 ⟨some 101, none, (.e (.call (.c (.fn 293 [] [])) [(.t 100), (.c (.str [115, 101, 97, 108, 101, 100]))]))⟩,
 ⟨some 99, none, (.p (.move (.t 101)))⟩]) (.cond (.t 99) .skip (.reg 
[⟨some 102, none, (.p (.move (.t 0)))⟩,
 ⟨some 103, none, (.e (.call (.c (.fn 293 [] [])) [(.t 102), (.c (.str [116, 114, 97, 105, 116]))]))⟩,
 ⟨some 99, none, (.p (.move (.t 103)))⟩]))) (.cond (.t 99) (.regd [] 
[⟨some 104, none, (.p (.move (.t 1)))⟩,
 ⟨some 105, none, (.p (.move (.t 1)))⟩,
 ⟨some 106, none, (.p (.nilc (.t 105)))⟩,
 ⟨some 107, none, (.p (.faddr 6 (.t 106)))⟩,
 ⟨some 108, none, (.l (.load 1 false (.t 107)))⟩,
 ⟨some 109, none, (.p (.move (.t 0)))⟩,
 ⟨some 110, none, (.p (.move (.t 4)))⟩,
 ⟨some 111, none, (.p (.move (.t 5)))⟩,
 ⟨some 112, none, (.e (.call (.c (.fn 301 [] [])) [(.t 109), (.t 110), (.t 111)]))⟩,
 ⟨some 113, none, (.p (.bslice 5 [(.agg [(.int .i64 0), (.bool false), (.bool false), (.str []), .nils])] [(0, (.t 112))]))⟩,
 ⟨some 114, none, (.e (.app 5 56 (.t 108) (.t 113)))⟩,
 ⟨some 115, none, (.p (.nilc (.t 104)))⟩,
 ⟨some 116, none, (.p (.faddr 6 (.t 115)))⟩,
 ⟨none, none, (.e (.store 1 (.t 116) (.t 114)))⟩] [(4, 8)]) (.seq (.seq (.reg 
[⟨some 118, none, (.p (.move (.t 0)))⟩,
 ⟨some 119, none, (.e (.call (.c (.fn 293 [] [])) [(.t 118), (.c (.str [105, 110, 108, 105, 110, 101]))]))⟩,
 ⟨some 117, none, (.p (.move (.t 119)))⟩]) (.cond (.t 117) .skip (.reg 
[⟨some 120, none, (.p (.move (.t 0)))⟩,
 ⟨some 121, none, (.e (.call (.c (.fn 293 [] [])) [(.t 120), (.c (.str [102, 117, 110, 99]))]))⟩,
 ⟨some 117, none, (.p (.move (.t 121)))⟩]))) (.cond (.t 117) (.regd [] 
[⟨some 122, none, (.p (.move (.t 1)))⟩,
 ⟨some 123, none, (.p (.move (.t 1)))⟩,
 ⟨some 124, none, (.p (.nilc (.t 123)))⟩,
 ⟨some 125, none, (.p (.faddr 8 (.t 124)))⟩,
 ⟨some 126, none, (.l (.load 1 false (.t 125)))⟩,
 ⟨some 127, none, (.p (.move (.t 0)))⟩,
 ⟨some 128, none, (.p (.move (.t 4)))⟩,
 ⟨some 129, none, (.p (.move (.t 5)))⟩,
 ⟨some 130, none, (.e (.call (.c (.fn 302 [] [])) [(.t 127), (.t 128), (.t 129)]))⟩,
 ⟨some 131, none, (.p (.bslice 20 [(.agg [(.int .i64 0), (.bool false), (.bool false), (.str []), .nils, .nils, (.str []), .nils, (.bool false), (.int .i64 0), (.str []), (.str []), (.int .i64 0), .nils, .nils, .nils, .nils, (.str []), .nils, (.int .i64 0)])] [(0, (.t 130))]))⟩,
 ⟨some 132, none, (.e (.app 20 320 (.t 126) (.t 131)))⟩,
 ⟨some 133, none, (.p (.nilc (.t 122)))⟩,
 ⟨some 134, none, (.p (.faddr 8 (.t 133)))⟩,
 ⟨none, none, (.e (.store 1 (.t 134) (.t 132)))⟩] [(4, 8)]) (.reg 
[⟨some 25, none, (.p (.move (.t 0)))⟩,
 ⟨some 26, none, (.p (.move (.t 0)))⟩,
 ⟨some 27, none, (.e (.call (.c (.fn 245 [] [])) [(.t 26)]))⟩,
 ⟨some 28, none, (.e (.call (.c (.fn 244 [] [])) [(.t 25), (.t 27), (.c (.int .i64 2))]))⟩])))))))))))))))), []⟩
/-- libevolution/scope.ModuleOf -/
def x250 : XF := ⟨(.seq (.reg 
[⟨some 3, none, (.e (.box 1 (.t 1)))⟩,
 ⟨some 4, none, (.p (.move (.c (.int .i64 0))))⟩,
 ⟨some 5, none, (.p (.move (.c (.bool false))))⟩]) (.seq (.reg 
[⟨some 7, none, (.p (.move (.t 0)))⟩,
 ⟨some 8, none, (.p (.mkf 303 [] [(.t 3)]))⟩,
 ⟨some 9, none, (.e (.call (.c (.fn 173 [] [])) [(.t 7), (.t 8)]))⟩,
 ⟨some 6, none, (.p (.move (.t 9)))⟩]) (.seq (.reg 
[⟨some 10, none, (.p (.move (.t 6)))⟩,
 ⟨some 11, none, (.p (.max (.t 10) (.c (.int .i64 0))))⟩,
 ⟨some 12, none, (.p (.move (.t 6)))⟩,
 ⟨some 13, none, (.p (.bin .geq .int (.t 12) (.c (.int .i64 0))))⟩,
 ⟨some 4, none, (.p (.move (.t 11)))⟩,
 ⟨some 5, none, (.p (.move (.t 13)))⟩]) .ret))), [.t 4, .t 5]⟩
/-- libevolution/scope.wrong$1 -/
def x251 : XF := ⟨(.seq (.reg 
[⟨some 2, none, (.e (.box 2 (.t 0)))⟩,
 ⟨some 3, none, (.p (.move (.c (.bool false))))⟩]) (.seq (.reg 
[⟨some 4, none, (.p (.faddr 0 (.t 2)))⟩,
 ⟨some 5, none, (.l (.load 1 false (.t 4)))⟩,
 ⟨some 6, none, (.p (.faddr 0 (.t 1)))⟩,
 ⟨some 7, none, (.l (.load 1 false (.t 6)))⟩,
 ⟨some 8, none, (.p (.bin .eql .str (.t 5) (.t 7)))⟩,
 ⟨some 3, none, (.p (.move (.t 8)))⟩]) .ret)), [.t 3]⟩
/-- libevolution/libevolutionref01.words -/
def x253 : XF := ⟨(.seq (.reg 
[⟨some 0, none, (.p (.move (.c .nils)))⟩]) (.seq (.reg 
[⟨some 1, none, (.p (.bslice 1 [(.str []), (.str []), (.str []), (.str []), (.str []), (.str []), (.str []), (.str []), (.str []), (.str []), (.str []), (.str []), (.str []), (.str []), (.str []), (.str []), (.str []), (.str []), (.str []), (.str []), (.str []), (.str []), (.str []), (.str []), (.str []), (.str []), (.str []), (.str []), (.str []), (.str []), (.str []), (.str []), (.str []), (.str []), (.str []), (.str []), (.str []), (.str []), (.str []), (.str []), (.str []), (.str []), (.str []), (.str [])] [(0, (.c (.str [108, 105, 98, 114, 97, 114, 121]))), (1, (.c (.str [99, 108, 105, 101, 110, 116]))), (2, (.c (.str [105, 110, 116, 101, 114, 102, 97, 99, 101]))), (3, (.c (.str [114, 101, 108, 101, 97, 115, 101]))), (4, (.c (.str [105, 109, 112, 111, 114, 116]))), (5, (.c (.str [115, 105, 110, 99, 101]))), (6, (.c (.str [112, 117, 98, 108, 105, 99]))), (7, (.c (.str [102, 114, 111, 122, 101, 110]))), (8, (.c (.str [115, 101, 97, 108, 101, 100]))), (9, (.c (.str [105, 110, 108, 105, 110, 101]))), (10, (.c (.str [105, 110, 100, 105, 114, 101, 99, 116]))), (11, (.c (.str [115, 116, 114, 117, 99, 116]))), (12, (.c (.str [117, 110, 105, 111, 110]))), (13, (.c (.str [116, 114, 97, 105, 116]))), (14, (.c (.str [99, 111, 110, 102, 111, 114, 109]))), (15, (.c (.str [102, 111, 114]))), (16, (.c (.str [102, 117, 110, 99]))), (17, (.c (.str [100, 101, 102, 97, 117, 108, 116]))), (18, (.c (.str [108, 101, 116]))), (19, (.c (.str [105, 110]))), (20, (.c (.str [105, 102]))), (21, (.c (.str [116, 104, 101, 110]))), (22, (.c (.str [101, 108, 115, 101]))), (23, (.c (.str [112, 114, 105, 110, 116]))), (24, (.c (.str [116, 114, 117, 101]))), (25, (.c (.str [102, 97, 108, 115, 101]))), (26, (.c (.str [99, 97, 115, 101]))), (27, (.c (.str [111, 102]))), (28, (.c (.str [99, 97, 108, 108]))), (29, (.c (.str [109, 97, 116, 99, 104]))), (30, (.c (.str [97, 114, 114, 97, 121]))), (31, (.c (.str [99, 111, 117, 110, 116]))), (32, (.c (.str [97, 116]))), (33, (.c (.str [97, 112, 112, 101, 110, 100]))), (34, (.c (.str [97, 118, 97, 105, 108, 97, 98, 108, 101]))), (35, (.c (.str [102, 97, 105, 108]))), (36, (.c (.str [98, 121, 116, 101]))), (37, (.c (.str [111, 114, 100]))), (38, (.c (.str [119, 105, 116, 104]))), (39, (.c (.str [73, 110, 116]))), (40, (.c (.str [66, 121, 116, 101]))), (41, (.c (.str [66, 111, 111, 108]))), (42, (.c (.str [65, 114, 114, 97, 121]))), (43, (.c (.str [83, 101, 108, 102])))]))⟩,
 ⟨some 0, none, (.p (.move (.t 1)))⟩]) .ret)), [.t 0]⟩
/-- libevolution/libevolutionref02.Depth -/
def x254 : XF := ⟨(.seq (.reg 
[⟨some 1, none, (.e (.box 2 (.t 0)))⟩,
 ⟨some 2, none, (.p (.move (.c (.int .i64 0))))⟩]) (.seq (.reg 
[⟨some 3, none, (.p (.move (.c (.int .i64 0))))⟩]) (.seq (.seq (.reg 
[⟨some 6, none, (.p (.faddr 1 (.t 1)))⟩,
 ⟨some 7, none, (.l (.load 1 false (.t 6)))⟩,
 ⟨some 8, none, (.p (.lenl (.t 7)))⟩,
 ⟨some 9, none, (.p (.move (.c (.int .i64 0))))⟩]) (.block 0 (.loop (.seq (.reg 
[⟨some 10, none, (.p (.bin .lss .int (.t 9) (.t 8)))⟩]) (.seq (.cond (.t 10) .skip (.exit 0)) (.seq (.block 1 (.seq (.reg 
[⟨some 11, none, (.p (.iaddr 2 (.t 7) (.t 9)))⟩,
 ⟨some 12, none, (.l (.load 2 true (.t 11)))⟩,
 ⟨some 5, none, (.e (.alloc [(.str []), .nils]))⟩,
 ⟨none, none, (.e (.store 2 (.t 5) (.t 12)))⟩]) (.reg 
[⟨some 13, none, (.p (.move (.t 3)))⟩,
 ⟨some 14, none, (.l (.load 2 true (.t 5)))⟩,
 ⟨some 15, none, (.e (.call (.c (.fn 254 [] [])) [(.t 14)]))⟩,
 ⟨some 16, none, (.p (.max (.t 13) (.t 15)))⟩,
 ⟨some 3, none, (.p (.move (.t 16)))⟩]))) (.reg 
[⟨some 17, none, (.p (.bin .add .int (.t 9) (.c (.int .i64 1))))⟩,
 ⟨some 9, none, (.p (.move (.t 17)))⟩]))))))) (.seq (.reg 
[⟨some 18, none, (.p (.move (.t 3)))⟩,
 ⟨some 19, none, (.p (.bin .add .int (.t 18) (.c (.int .i64 1))))⟩,
 ⟨some 2, none, (.p (.move (.t 19)))⟩]) .ret)))), [.t 2]⟩
/-- libevolution/libevolutionref02.deepTypes -/
def x255 : XF := ⟨(.seq (.reg 
[⟨some 2, none, (.p (.move (.c (.bool false))))⟩]) (.seq (.seq (.reg 
[⟨some 5, none, (.p (.move (.t 0)))⟩,
 ⟨some 6, none, (.p (.lenl (.t 5)))⟩,
 ⟨some 7, none, (.p (.move (.c (.int .i64 0))))⟩]) (.block 0 (.loop (.seq (.reg 
[⟨some 8, none, (.p (.bin .lss .int (.t 7) (.t 6)))⟩]) (.seq (.cond (.t 8) .skip (.exit 0)) (.seq (.block 1 (.seq (.reg 
[⟨some 9, none, (.p (.iaddr 2 (.t 5) (.t 7)))⟩,
 ⟨some 10, none, (.l (.load 2 true (.t 9)))⟩,
 ⟨some 4, none, (.e (.alloc [(.str []), .nils]))⟩,
 ⟨none, none, (.e (.store 2 (.t 4) (.t 10)))⟩]) (.seq (.reg 
[⟨some 11, none, (.l (.load 2 true (.t 4)))⟩,
 ⟨some 12, none, (.e (.call (.c (.fn 254 [] [])) [(.t 11)]))⟩,
 ⟨some 13, none, (.p (.bin .gtr .int (.t 12) (.c (.int .i64 8))))⟩]) (.cond (.t 13) (.seq (.reg 
[⟨some 2, none, (.p (.move (.c (.bool true))))⟩]) .ret) .skip)))) (.reg 
[⟨some 14, none, (.p (.bin .add .int (.t 7) (.c (.int .i64 1))))⟩,
 ⟨some 7, none, (.p (.move (.t 14)))⟩]))))))) (.seq (.reg 
[⟨some 2, none, (.p (.move (.c (.bool false))))⟩]) .ret))), [.t 2]⟩
/-- libevolution/libevolutionref02.deepExpr -/
def x256 : XF := ⟨(.seq (.reg 
[⟨some 1, none, (.e (.box 11 (.t 0)))⟩,
 ⟨some 2, none, (.p (.move (.c (.bool false))))⟩]) (.seq (.reg 
[⟨some 3, none, (.l (.load 11 true (.t 1)))⟩,
 ⟨some 4, none, (.e (.call (.c (.fn 307 [] [])) [(.t 3)]))⟩,
 ⟨some 5, none, (.p (.bin .gtr .int (.t 4) (.c (.int .i64 40))))⟩,
 ⟨some 6, none, (.p (.move (.t 5)))⟩,
 ⟨some 7, some (6, false), (.l (.load 11 true (.t 1)))⟩,
 ⟨some 8, some (6, false), (.e (.call (.c (.fn 308 [] [])) [(.t 7)]))⟩,
 ⟨some 9, none, (.p (.pick (.t 6) (.c (.bool true)) (.t 8)))⟩,
 ⟨some 2, none, (.p (.move (.t 9)))⟩]) .ret)), [.t 2]⟩
/-- libevolution/libevolutionref02.smallType -/
def x257 : XF := ⟨(.seq (.reg 
[⟨some 1, none, (.e (.box 2 (.t 0)))⟩,
 ⟨some 2, none, (.p (.move (.c (.bool false))))⟩]) (.seq (.reg 
[⟨some 3, none, (.p (.faddr 1 (.t 1)))⟩,
 ⟨some 4, none, (.l (.load 1 false (.t 3)))⟩,
 ⟨some 5, none, (.p (.lenl (.t 4)))⟩,
 ⟨some 6, none, (.p (.bin .leq .int (.t 5) (.c (.int .i64 4))))⟩,
 ⟨some 7, none, (.p (.move (.t 6)))⟩,
 ⟨some 8, some (7, true), (.p (.faddr 1 (.t 1)))⟩,
 ⟨some 9, some (7, true), (.l (.load 1 false (.t 8)))⟩,
 ⟨some 10, some (7, true), (.e (.call (.c (.fn 258 [] [])) [(.t 9)]))⟩,
 ⟨some 11, none, (.p (.pick (.t 7) (.t 10) (.c (.bool false))))⟩,
 ⟨some 2, none, (.p (.move (.t 11)))⟩]) .ret)), [.t 2]⟩
/-- libevolution/libevolutionref02.smallTypes -/
def x258 : XF := ⟨(.seq (.reg 
[⟨some 2, none, (.p (.move (.c (.bool false))))⟩]) (.seq (.seq (.reg 
[⟨some 5, none, (.p (.move (.t 0)))⟩,
 ⟨some 6, none, (.p (.lenl (.t 5)))⟩,
 ⟨some 7, none, (.p (.move (.c (.int .i64 0))))⟩]) (.block 0 (.loop (.seq (.reg 
[⟨some 8, none, (.p (.bin .lss .int (.t 7) (.t 6)))⟩]) (.seq (.cond (.t 8) .skip (.exit 0)) (.seq (.block 1 (.seq (.reg 
[⟨some 9, none, (.p (.iaddr 2 (.t 5) (.t 7)))⟩,
 ⟨some 10, none, (.l (.load 2 true (.t 9)))⟩,
 ⟨some 4, none, (.e (.alloc [(.str []), .nils]))⟩,
 ⟨none, none, (.e (.store 2 (.t 4) (.t 10)))⟩]) (.seq (.reg 
[⟨some 11, none, (.l (.load 2 true (.t 4)))⟩,
 ⟨some 12, none, (.e (.call (.c (.fn 257 [] [])) [(.t 11)]))⟩,
 ⟨some 13, none, (.p (.not (.t 12)))⟩]) (.cond (.t 13) (.seq (.reg 
[⟨some 2, none, (.p (.move (.c (.bool false))))⟩]) .ret) .skip)))) (.reg 
[⟨some 14, none, (.p (.bin .add .int (.t 7) (.c (.int .i64 1))))⟩,
 ⟨some 7, none, (.p (.move (.t 14)))⟩]))))))) (.seq (.reg 
[⟨some 2, none, (.p (.move (.c (.bool true))))⟩]) .ret))), [.t 2]⟩
/-- libevolution/libevolutionref02.smallGenerics -/
def x259 : XF := ⟨(.seq (.reg 
[⟨some 2, none, (.p (.move (.c (.bool false))))⟩]) (.seq (.seq (.reg 
[⟨some 5, none, (.p (.move (.t 0)))⟩,
 ⟨some 6, none, (.p (.lenl (.t 5)))⟩,
 ⟨some 7, none, (.p (.move (.c (.int .i64 0))))⟩]) (.block 0 (.loop (.seq (.reg 
[⟨some 8, none, (.p (.bin .lss .int (.t 7) (.t 6)))⟩]) (.seq (.cond (.t 8) .skip (.exit 0)) (.seq (.block 1 (.seq (.reg 
[⟨some 9, none, (.p (.iaddr 2 (.t 5) (.t 7)))⟩,
 ⟨some 10, none, (.l (.load 2 true (.t 9)))⟩,
 ⟨some 4, none, (.e (.alloc [(.str []), .nils]))⟩,
 ⟨none, none, (.e (.store 2 (.t 4) (.t 10)))⟩]) (.seq (.reg 
[⟨some 11, none, (.p (.faddr 1 (.t 4)))⟩,
 ⟨some 12, none, (.l (.load 1 false (.t 11)))⟩,
 ⟨some 13, none, (.p (.lenl (.t 12)))⟩,
 ⟨some 14, none, (.p (.bin .gtr .int (.t 13) (.c (.int .i64 3))))⟩]) (.cond (.t 14) (.seq (.reg 
[⟨some 2, none, (.p (.move (.c (.bool false))))⟩]) .ret) .skip)))) (.reg 
[⟨some 15, none, (.p (.bin .add .int (.t 7) (.c (.int .i64 1))))⟩,
 ⟨some 7, none, (.p (.move (.t 15)))⟩]))))))) (.seq (.reg 
[⟨some 16, none, (.p (.move (.t 0)))⟩,
 ⟨some 17, none, (.p (.lenl (.t 16)))⟩,
 ⟨some 18, none, (.p (.bin .leq .int (.t 17) (.c (.int .i64 4))))⟩,
 ⟨some 2, none, (.p (.move (.t 18)))⟩]) .ret))), [.t 2]⟩
/-- libevolution/libevolutionref02.smallBody -/
def x260 : XF := ⟨(.seq (.reg 
[⟨some 1, none, (.e (.box 11 (.t 0)))⟩,
 ⟨some 2, none, (.p (.move (.c (.bool false))))⟩]) (.seq (.reg 
[⟨some 3, none, (.l (.load 11 true (.t 1)))⟩,
 ⟨some 4, none, (.e (.call (.c (.fn 309 [] [])) [(.t 3)]))⟩,
 ⟨some 5, none, (.p (.bin .leq .int (.t 4) (.c (.int .i64 2000))))⟩,
 ⟨some 6, none, (.p (.move (.t 5)))⟩,
 ⟨some 7, some (6, true), (.l (.load 11 true (.t 1)))⟩,
 ⟨some 8, some (6, true), (.e (.call (.c (.fn 310 [] [])) [(.t 7)]))⟩,
 ⟨some 9, none, (.p (.pick (.t 6) (.t 8) (.c (.bool false))))⟩,
 ⟨some 2, none, (.p (.move (.t 9)))⟩]) .ret)), [.t 2]⟩
/-- libevolution/libevolutionref02.node -/
def x261 : XF := ⟨(.seq (.reg 
[⟨some 1, none, (.e (.box 11 (.t 0)))⟩,
 ⟨some 2, none, (.p (.move (.c (.bool false))))⟩]) (.seq (.reg 
[⟨some 6, none, (.p (.faddr 0 (.t 1)))⟩,
 ⟨some 7, none, (.l (.load 1 false (.t 6)))⟩,
 ⟨some 8, none, (.e (.call (.c (.fn 311 [] [])) [(.t 7)]))⟩,
 ⟨some 5, none, (.p (.move (.t 8)))⟩,
 ⟨some 9, none, (.p (.ext (.t 5) 0))⟩,
 ⟨some 10, none, (.p (.ext (.t 5) 1))⟩,
 ⟨some 3, none, (.e (.alloc [(.int .i64 0), (.int .i64 0), (.bool false), (.bool false), (.bool false), (.bool false), (.bool false)]))⟩,
 ⟨none, none, (.e (.store 7 (.t 3) (.t 9)))⟩,
 ⟨some 4, none, (.p (.move (.t 10)))⟩]) (.seq (.block 0 (.seq (.reg 
[⟨some 12, none, (.p (.move (.t 4)))⟩,
 ⟨some 13, none, (.p (.not (.t 12)))⟩,
 ⟨some 14, none, (.p (.move (.t 13)))⟩,
 ⟨some 15, some (14, false), (.p (.faddr 0 (.t 3)))⟩,
 ⟨some 16, some (14, false), (.l (.load 1 false (.t 15)))⟩,
 ⟨some 17, some (14, false), (.p (.bin .geq .int (.t 16) (.c (.int .i64 0))))⟩,
 ⟨some 18, some (14, false), (.p (.move (.t 17)))⟩,
 ⟨some 19, some (18, true), (.p (.faddr 7 (.t 1)))⟩,
 ⟨some 20, some (18, true), (.l (.load 1 false (.t 19)))⟩,
 ⟨some 21, some (18, true), (.p (.lenl (.t 20)))⟩,
 ⟨some 22, some (18, true), (.p (.faddr 0 (.t 3)))⟩,
 ⟨some 23, some (18, true), (.l (.load 1 false (.t 22)))⟩,
 ⟨some 24, some (18, true), (.p (.bin .neq .int (.t 21) (.t 23)))⟩,
 ⟨some 25, some (14, false), (.p (.pick (.t 18) (.t 24) (.c (.bool false))))⟩,
 ⟨some 26, none, (.p (.pick (.t 14) (.c (.bool true)) (.t 25)))⟩,
 ⟨some 27, none, (.p (.move (.t 26)))⟩,
 ⟨some 28, some (27, false), (.p (.faddr 1 (.t 3)))⟩,
 ⟨some 29, some (27, false), (.l (.load 1 false (.t 28)))⟩,
 ⟨some 30, some (27, false), (.p (.bin .geq .int (.t 29) (.c (.int .i64 0))))⟩,
 ⟨some 31, some (27, false), (.p (.move (.t 30)))⟩,
 ⟨some 32, some (31, true), (.p (.faddr 4 (.t 1)))⟩,
 ⟨some 33, some (31, true), (.l (.load 1 false (.t 32)))⟩,
 ⟨some 34, some (31, true), (.p (.lenl (.t 33)))⟩,
 ⟨some 35, some (31, true), (.p (.faddr 1 (.t 3)))⟩,
 ⟨some 36, some (31, true), (.l (.load 1 false (.t 35)))⟩,
 ⟨some 37, some (31, true), (.p (.bin .neq .int (.t 34) (.t 36)))⟩,
 ⟨some 38, some (27, false), (.p (.pick (.t 31) (.t 37) (.c (.bool false))))⟩,
 ⟨some 39, none, (.p (.pick (.t 27) (.c (.bool true)) (.t 38)))⟩,
 ⟨some 40, none, (.p (.move (.t 39)))⟩,
 ⟨some 41, some (40, false), (.p (.faddr 4 (.t 1)))⟩,
 ⟨some 42, some (40, false), (.l (.load 1 false (.t 41)))⟩,
 ⟨some 43, some (40, false), (.e (.call (.c (.fn 127 [] [])) [(.t 42)]))⟩,
 ⟨some 44, some (40, false), (.p (.not (.t 43)))⟩,
 ⟨some 45, none, (.p (.pick (.t 40) (.c (.bool true)) (.t 44)))⟩,
 ⟨some 11, none, (.p (.move (.t 45)))⟩]) (.cond (.t 11) (.seq (.reg 
[⟨some 2, none, (.p (.move (.c (.bool false))))⟩]) .ret) (.seq (.reg 
[⟨some 47, none, (.p (.faddr 2 (.t 3)))⟩,
 ⟨some 48, none, (.l (.load 1 false (.t 47)))⟩,
 ⟨some 49, none, (.p (.not (.t 48)))⟩,
 ⟨some 50, none, (.p (.move (.t 49)))⟩,
 ⟨some 51, some (50, true), (.p (.faddr 1 (.t 1)))⟩,
 ⟨some 52, some (50, true), (.l (.load 1 false (.t 51)))⟩,
 ⟨some 53, some (50, true), (.p (.bin .neq .str (.t 52) (.c (.str []))))⟩,
 ⟨some 54, none, (.p (.pick (.t 50) (.t 53) (.c (.bool false))))⟩,
 ⟨some 55, none, (.p (.move (.t 54)))⟩,
 ⟨some 56, some (55, false), (.p (.faddr 3 (.t 3)))⟩,
 ⟨some 57, some (55, false), (.l (.load 1 false (.t 56)))⟩,
 ⟨some 58, some (55, false), (.p (.not (.t 57)))⟩,
 ⟨some 59, some (55, false), (.p (.move (.t 58)))⟩,
 ⟨some 60, some (59, true), (.p (.faddr 2 (.t 1)))⟩,
 ⟨some 61, some (59, true), (.l (.load 1 false (.t 60)))⟩,
 ⟨some 62, some (59, true), (.p (.bin .neq .str (.t 61) (.c (.str []))))⟩,
 ⟨some 63, some (55, false), (.p (.pick (.t 59) (.t 62) (.c (.bool false))))⟩,
 ⟨some 64, none, (.p (.pick (.t 55) (.c (.bool true)) (.t 63)))⟩,
 ⟨some 65, none, (.p (.move (.t 64)))⟩,
 ⟨some 66, some (65, false), (.p (.faddr 4 (.t 3)))⟩,
 ⟨some 67, some (65, false), (.l (.load 1 false (.t 66)))⟩,
 ⟨some 68, some (65, false), (.p (.not (.t 67)))⟩,
 ⟨some 69, some (65, false), (.p (.move (.t 68)))⟩,
 ⟨some 70, some (69, true), (.p (.faddr 3 (.t 1)))⟩,
 ⟨some 71, some (69, true), (.l (.load 1 false (.t 70)))⟩,
 ⟨some 72, some (69, true), (.p (.bin .neq .int (.t 71) (.c (.int .i64 0))))⟩,
 ⟨some 73, some (65, false), (.p (.pick (.t 69) (.t 72) (.c (.bool false))))⟩,
 ⟨some 74, none, (.p (.pick (.t 65) (.c (.bool true)) (.t 73)))⟩,
 ⟨some 75, none, (.p (.move (.t 74)))⟩,
 ⟨some 76, some (75, false), (.p (.faddr 5 (.t 3)))⟩,
 ⟨some 77, some (75, false), (.l (.load 1 false (.t 76)))⟩,
 ⟨some 78, some (75, false), (.p (.not (.t 77)))⟩,
 ⟨some 79, some (75, false), (.p (.move (.t 78)))⟩,
 ⟨some 80, some (79, true), (.p (.faddr 5 (.t 1)))⟩,
 ⟨some 81, some (79, true), (.l (.load 1 false (.t 80)))⟩,
 ⟨some 82, some (79, true), (.p (.lenl (.t 81)))⟩,
 ⟨some 83, some (79, true), (.p (.bin .gtr .int (.t 82) (.c (.int .i64 0))))⟩,
 ⟨some 84, some (75, false), (.p (.pick (.t 79) (.t 83) (.c (.bool false))))⟩,
 ⟨some 85, none, (.p (.pick (.t 75) (.c (.bool true)) (.t 84)))⟩,
 ⟨some 86, none, (.p (.move (.t 85)))⟩,
 ⟨some 87, some (86, false), (.p (.faddr 6 (.t 3)))⟩,
 ⟨some 88, some (86, false), (.l (.load 1 false (.t 87)))⟩,
 ⟨some 89, some (86, false), (.p (.not (.t 88)))⟩,
 ⟨some 90, some (86, false), (.p (.move (.t 89)))⟩,
 ⟨some 91, some (90, true), (.p (.faddr 6 (.t 1)))⟩,
 ⟨some 92, some (90, true), (.l (.load 1 false (.t 91)))⟩,
 ⟨some 93, some (90, true), (.p (.lenl (.t 92)))⟩,
 ⟨some 94, some (90, true), (.p (.bin .gtr .int (.t 93) (.c (.int .i64 0))))⟩,
 ⟨some 95, some (86, false), (.p (.pick (.t 90) (.t 94) (.c (.bool false))))⟩,
 ⟨some 96, none, (.p (.pick (.t 86) (.c (.bool true)) (.t 95)))⟩,
 ⟨some 46, none, (.p (.move (.t 96)))⟩]) (.cond (.t 46) (.seq (.reg 
[⟨some 2, none, (.p (.move (.c (.bool false))))⟩]) .ret) (.seq (.reg 
[⟨some 98, none, (.p (.faddr 3 (.t 3)))⟩,
 ⟨some 99, none, (.l (.load 1 false (.t 98)))⟩,
 ⟨some 100, none, (.p (.move (.t 99)))⟩,
 ⟨some 101, some (100, true), (.p (.faddr 2 (.t 1)))⟩,
 ⟨some 102, some (100, true), (.l (.load 1 false (.t 101)))⟩,
 ⟨some 103, some (100, true), (.e (.call (.c (.fn 121 [] [])) [(.t 102)]))⟩,
 ⟨some 104, some (100, true), (.p (.not (.t 103)))⟩,
 ⟨some 105, none, (.p (.pick (.t 100) (.t 104) (.c (.bool false))))⟩,
 ⟨some 106, none, (.p (.move (.t 105)))⟩,
 ⟨some 107, some (106, false), (.p (.faddr 5 (.t 1)))⟩,
 ⟨some 108, some (106, false), (.l (.load 1 false (.t 107)))⟩,
 ⟨some 109, some (106, false), (.e (.call (.c (.fn 125 [] [])) [(.t 108)]))⟩,
 ⟨some 110, some (106, false), (.p (.not (.t 109)))⟩,
 ⟨some 111, none, (.p (.pick (.t 106) (.c (.bool true)) (.t 110)))⟩,
 ⟨some 97, none, (.p (.move (.t 111)))⟩]) (.cond (.t 97) (.seq (.reg 
[⟨some 2, none, (.p (.move (.c (.bool false))))⟩]) .ret) .skip))))))) (.seq (.seq (.reg 
[⟨some 112, none, (.p (.faddr 0 (.t 1)))⟩,
 ⟨some 113, none, (.l (.load 1 false (.t 112)))⟩]) (.block 1 (.seq (.reg 
[⟨some 115, none, (.p (.bin .eql .int (.t 113) (.c (.int .i64 2))))⟩,
 ⟨some 114, none, (.p (.move (.t 115)))⟩]) (.cond (.t 114) (.seq (.reg 
[⟨some 116, none, (.p (.faddr 3 (.t 1)))⟩,
 ⟨some 117, none, (.l (.load 1 false (.t 116)))⟩,
 ⟨some 118, none, (.p (.bin .eql .int (.t 117) (.c (.int .i64 0))))⟩,
 ⟨some 119, none, (.p (.move (.t 118)))⟩,
 ⟨some 120, some (119, false), (.p (.faddr 3 (.t 1)))⟩,
 ⟨some 121, some (119, false), (.l (.load 1 false (.t 120)))⟩,
 ⟨some 122, some (119, false), (.p (.bin .eql .int (.t 121) (.c (.int .i64 1))))⟩,
 ⟨some 123, none, (.p (.pick (.t 119) (.c (.bool true)) (.t 122)))⟩,
 ⟨some 2, none, (.p (.move (.t 123)))⟩]) .ret) (.seq (.seq (.reg 
[⟨some 125, none, (.p (.bin .eql .int (.t 113) (.c (.int .i64 3))))⟩,
 ⟨some 124, none, (.p (.move (.t 125)))⟩]) (.cond (.t 124) .skip (.reg 
[⟨some 126, none, (.p (.bin .eql .int (.t 113) (.c (.int .i64 4))))⟩,
 ⟨some 124, none, (.p (.move (.t 126)))⟩]))) (.cond (.t 124) (.seq (.reg 
[⟨some 127, none, (.p (.faddr 1 (.t 1)))⟩,
 ⟨some 128, none, (.l (.load 1 false (.t 127)))⟩,
 ⟨some 129, none, (.e (.call (.c (.fn 121 [] [])) [(.t 128)]))⟩,
 ⟨some 2, none, (.p (.move (.t 129)))⟩]) .ret) (.seq (.reg 
[⟨some 131, none, (.p (.bin .eql .int (.t 113) (.c (.int .i64 8))))⟩,
 ⟨some 130, none, (.p (.move (.t 131)))⟩]) (.cond (.t 130) (.seq (.reg 
[⟨some 132, none, (.p (.faddr 1 (.t 1)))⟩,
 ⟨some 133, none, (.l (.load 1 false (.t 132)))⟩,
 ⟨some 134, none, (.e (.call (.c (.fn 312 [] [])) [(.t 133)]))⟩,
 ⟨some 2, none, (.p (.move (.t 134)))⟩]) .ret) (.seq (.seq (.reg 
[⟨some 136, none, (.p (.bin .eql .int (.t 113) (.c (.int .i64 9))))⟩,
 ⟨some 135, none, (.p (.move (.t 136)))⟩]) (.cond (.t 135) .skip (.reg 
[⟨some 137, none, (.p (.bin .eql .int (.t 113) (.c (.int .i64 10))))⟩,
 ⟨some 135, none, (.p (.move (.t 137)))⟩]))) (.cond (.t 135) (.seq (.reg 
[⟨some 138, none, (.p (.faddr 1 (.t 1)))⟩,
 ⟨some 139, none, (.l (.load 1 false (.t 138)))⟩,
 ⟨some 140, none, (.e (.call (.c (.fn 198 [] [])) [(.t 139)]))⟩,
 ⟨some 2, none, (.p (.move (.t 140)))⟩]) .ret) (.seq (.reg 
[⟨some 142, none, (.p (.bin .eql .int (.t 113) (.c (.int .i64 11))))⟩,
 ⟨some 141, none, (.p (.move (.t 142)))⟩]) (.cond (.t 141) (.seq (.reg 
[⟨some 143, none, (.p (.faddr 1 (.t 1)))⟩,
 ⟨some 144, none, (.l (.load 1 false (.t 143)))⟩,
 ⟨some 145, none, (.e (.call (.c (.fn 198 [] [])) [(.t 144)]))⟩,
 ⟨some 146, none, (.p (.move (.t 145)))⟩,
 ⟨some 147, some (146, true), (.p (.faddr 5 (.t 1)))⟩,
 ⟨some 148, some (146, true), (.l (.load 1 false (.t 147)))⟩,
 ⟨some 149, some (146, true), (.p (.lenl (.t 148)))⟩,
 ⟨some 150, some (146, true), (.p (.faddr 7 (.t 1)))⟩,
 ⟨some 151, some (146, true), (.l (.load 1 false (.t 150)))⟩,
 ⟨some 152, some (146, true), (.p (.lenl (.t 151)))⟩,
 ⟨some 153, some (146, true), (.p (.bin .eql .int (.t 149) (.t 152)))⟩,
 ⟨some 154, none, (.p (.pick (.t 146) (.t 153) (.c (.bool false))))⟩,
 ⟨some 2, none, (.p (.move (.t 154)))⟩]) .ret) (.seq (.reg 
[⟨some 156, none, (.p (.bin .eql .int (.t 113) (.c (.int .i64 13))))⟩,
 ⟨some 155, none, (.p (.move (.t 156)))⟩]) (.cond (.t 155) (.seq (.reg 
[⟨some 157, none, (.p (.faddr 5 (.t 1)))⟩,
 ⟨some 158, none, (.l (.load 1 false (.t 157)))⟩,
 ⟨some 159, none, (.p (.lenl (.t 158)))⟩,
 ⟨some 160, none, (.p (.bin .gtr .int (.t 159) (.c (.int .i64 0))))⟩,
 ⟨some 161, none, (.p (.move (.t 160)))⟩,
 ⟨some 162, some (161, true), (.p (.faddr 5 (.t 1)))⟩,
 ⟨some 163, some (161, true), (.l (.load 1 false (.t 162)))⟩,
 ⟨some 164, some (161, true), (.p (.lenl (.t 163)))⟩,
 ⟨some 165, some (161, true), (.p (.bin .add .int (.t 164) (.c (.int .i64 1))))⟩,
 ⟨some 166, some (161, true), (.p (.faddr 7 (.t 1)))⟩,
 ⟨some 167, some (161, true), (.l (.load 1 false (.t 166)))⟩,
 ⟨some 168, some (161, true), (.p (.lenl (.t 167)))⟩,
 ⟨some 169, some (161, true), (.p (.bin .eql .int (.t 165) (.t 168)))⟩,
 ⟨some 170, none, (.p (.pick (.t 161) (.t 169) (.c (.bool false))))⟩,
 ⟨some 2, none, (.p (.move (.t 170)))⟩]) .ret) (.seq (.reg 
[⟨some 172, none, (.p (.bin .eql .int (.t 113) (.c (.int .i64 15))))⟩,
 ⟨some 171, none, (.p (.move (.t 172)))⟩]) (.cond (.t 171) (.seq (.reg 
[⟨some 173, none, (.p (.faddr 6 (.t 1)))⟩,
 ⟨some 174, none, (.l (.load 1 false (.t 173)))⟩,
 ⟨some 175, none, (.p (.lenl (.t 174)))⟩,
 ⟨some 176, none, (.p (.bin .add .int (.t 175) (.c (.int .i64 1))))⟩,
 ⟨some 177, none, (.p (.faddr 7 (.t 1)))⟩,
 ⟨some 178, none, (.l (.load 1 false (.t 177)))⟩,
 ⟨some 179, none, (.p (.lenl (.t 178)))⟩,
 ⟨some 180, none, (.p (.bin .eql .int (.t 176) (.t 179)))⟩,
 ⟨some 181, none, (.p (.move (.t 180)))⟩,
 ⟨some 182, some (181, true), (.p (.faddr 6 (.t 1)))⟩,
 ⟨some 183, some (181, true), (.l (.load 1 false (.t 182)))⟩,
 ⟨some 184, some (181, true), (.e (.call (.c (.fn 313 [] [])) [(.t 183)]))⟩,
 ⟨some 185, none, (.p (.pick (.t 181) (.t 184) (.c (.bool false))))⟩,
 ⟨some 2, none, (.p (.move (.t 185)))⟩]) .ret) (.seq (.reg 
[⟨some 187, none, (.p (.bin .eql .int (.t 113) (.c (.int .i64 20))))⟩,
 ⟨some 186, none, (.p (.move (.t 187)))⟩]) (.cond (.t 186) (.seq (.reg 
[⟨some 188, none, (.p (.faddr 1 (.t 1)))⟩,
 ⟨some 189, none, (.l (.load 1 false (.t 188)))⟩,
 ⟨some 190, none, (.e (.call (.c (.fn 121 [] [])) [(.t 189)]))⟩,
 ⟨some 191, none, (.p (.move (.t 190)))⟩,
 ⟨some 192, some (191, true), (.p (.faddr 3 (.t 1)))⟩,
 ⟨some 193, some (191, true), (.l (.load 1 false (.t 192)))⟩,
 ⟨some 194, some (191, true), (.p (.bin .geq .int (.t 193) (.c (.int .i64 1))))⟩,
 ⟨some 195, none, (.p (.pick (.t 191) (.t 194) (.c (.bool false))))⟩,
 ⟨some 196, none, (.p (.move (.t 195)))⟩,
 ⟨some 197, some (196, true), (.p (.faddr 3 (.t 1)))⟩,
 ⟨some 198, some (196, true), (.l (.load 1 false (.t 197)))⟩,
 ⟨some 199, some (196, true), (.p (.bin .leq .int (.t 198) (.c (.int .i64 1000))))⟩,
 ⟨some 200, none, (.p (.pick (.t 196) (.t 199) (.c (.bool false))))⟩,
 ⟨some 2, none, (.p (.move (.t 200)))⟩]) .ret) .skip)))))))))))))))))) (.seq (.reg 
[⟨some 2, none, (.p (.move (.c (.bool true))))⟩]) .ret))))), [.t 2]⟩
/-- (*libevolution/libevolutionref02.parser).is -/
def x293 : XF := ⟨(.seq (.reg 
[⟨some 4, none, (.p (.move (.c (.bool false))))⟩]) (.seq (.reg 
[⟨some 5, none, (.p (.move (.t 0)))⟩,
 ⟨some 6, none, (.p (.nilc (.t 5)))⟩,
 ⟨some 7, none, (.p (.faddr 4 (.t 6)))⟩,
 ⟨some 8, none, (.l (.load 1 false (.t 7)))⟩,
 ⟨some 9, none, (.p (.bin .eql .int (.t 8) (.c (.int .i64 0))))⟩,
 ⟨some 10, none, (.p (.move (.t 9)))⟩,
 ⟨some 11, some (10, true), (.p (.move (.t 0)))⟩,
 ⟨some 12, some (10, true), (.e (.call (.c (.fn 296 [] [])) [(.t 11), (.c (.int .i64 0))]))⟩,
 ⟨some 13, some (10, true), (.p (.move (.t 1)))⟩,
 ⟨some 14, some (10, true), (.p (.bin .eql .str (.t 12) (.t 13)))⟩,
 ⟨some 15, none, (.p (.pick (.t 10) (.t 14) (.c (.bool false))))⟩,
 ⟨some 4, none, (.p (.move (.t 15)))⟩]) .ret)), [.t 4]⟩
/-- (*libevolution/libevolutionref02.parser).isName -/
def x294 : XF := ⟨(.seq (.reg 
[⟨some 4, none, (.p (.move (.c (.bool false))))⟩]) (.seq (.reg 
[⟨some 5, none, (.p (.move (.t 0)))⟩,
 ⟨some 6, none, (.p (.move (.t 1)))⟩,
 ⟨some 7, none, (.e (.call (.c (.fn 295 [] [])) [(.t 5), (.t 6)]))⟩,
 ⟨some 8, none, (.p (.bin .eql .int (.t 7) (.c (.int .i64 1))))⟩,
 ⟨some 9, none, (.p (.move (.t 8)))⟩,
 ⟨some 10, some (9, true), (.p (.move (.t 0)))⟩,
 ⟨some 11, some (9, true), (.p (.move (.t 1)))⟩,
 ⟨some 12, some (9, true), (.e (.call (.c (.fn 296 [] [])) [(.t 10), (.t 11)]))⟩,
 ⟨some 13, some (9, true), (.e (.call (.c (.fn 195 [] [])) [(.t 12)]))⟩,
 ⟨some 14, some (9, true), (.p (.not (.t 13)))⟩,
 ⟨some 15, none, (.p (.pick (.t 9) (.t 14) (.c (.bool false))))⟩,
 ⟨some 4, none, (.p (.move (.t 15)))⟩]) .ret)), [.t 4]⟩
/-- (*libevolution/libevolutionref02.parser).kind -/
def x295 : XF := ⟨(.seq (.reg 
[⟨some 4, none, (.p (.move (.c (.int .i64 0))))⟩]) (.seq (.seq (.regd [] 
[⟨some 5, none, (.p (.move (.t 0)))⟩,
 ⟨some 6, none, (.p (.nilc (.t 5)))⟩,
 ⟨some 7, none, (.p (.faddr 2 (.t 6)))⟩,
 ⟨some 8, none, (.l (.load 1 false (.t 7)))⟩,
 ⟨some 9, none, (.p (.move (.t 1)))⟩,
 ⟨some 10, none, (.p (.bin .add .int (.t 8) (.t 9)))⟩,
 ⟨some 11, none, (.p (.move (.t 0)))⟩,
 ⟨some 12, none, (.p (.nilc (.t 11)))⟩,
 ⟨some 13, none, (.p (.faddr 0 (.t 12)))⟩,
 ⟨some 14, none, (.l (.load 1 false (.t 13)))⟩,
 ⟨some 15, none, (.p (.lenl (.t 14)))⟩,
 ⟨some 16, none, (.p (.bin .lss .int (.t 10) (.t 15)))⟩] []) (.cond (.t 16) (.seq (.regd [] 
[⟨some 17, none, (.p (.move (.t 0)))⟩,
 ⟨some 18, none, (.p (.nilc (.t 17)))⟩,
 ⟨some 19, none, (.p (.faddr 0 (.t 18)))⟩,
 ⟨some 20, none, (.l (.load 1 false (.t 19)))⟩,
 ⟨some 21, none, (.p (.move (.t 0)))⟩,
 ⟨some 22, none, (.p (.nilc (.t 21)))⟩,
 ⟨some 23, none, (.p (.faddr 2 (.t 22)))⟩,
 ⟨some 24, none, (.l (.load 1 false (.t 23)))⟩,
 ⟨some 25, none, (.p (.move (.t 1)))⟩,
 ⟨some 26, none, (.p (.bin .add .int (.t 24) (.t 25)))⟩,
 ⟨some 27, none, (.p (.iaddr 3 (.t 20) (.t 26)))⟩,
 ⟨some 28, none, (.p (.faddr 0 (.t 27)))⟩,
 ⟨some 29, none, (.l (.load 1 false (.t 28)))⟩,
 ⟨some 4, none, (.p (.move (.t 29)))⟩] []) .ret) .skip)) (.seq (.reg 
[⟨some 4, none, (.p (.move (.c (.int .i64 0))))⟩]) .ret))), [.t 4]⟩
/-- (*libevolution/libevolutionref02.parser).text -/
def x296 : XF := ⟨(.seq (.reg 
[⟨some 4, none, (.p (.move (.c (.str []))))⟩]) (.seq (.seq (.regd [] 
[⟨some 5, none, (.p (.move (.t 0)))⟩,
 ⟨some 6, none, (.p (.nilc (.t 5)))⟩,
 ⟨some 7, none, (.p (.faddr 2 (.t 6)))⟩,
 ⟨some 8, none, (.l (.load 1 false (.t 7)))⟩,
 ⟨some 9, none, (.p (.move (.t 1)))⟩,
 ⟨some 10, none, (.p (.bin .add .int (.t 8) (.t 9)))⟩,
 ⟨some 11, none, (.p (.move (.t 0)))⟩,
 ⟨some 12, none, (.p (.nilc (.t 11)))⟩,
 ⟨some 13, none, (.p (.faddr 0 (.t 12)))⟩,
 ⟨some 14, none, (.l (.load 1 false (.t 13)))⟩,
 ⟨some 15, none, (.p (.lenl (.t 14)))⟩,
 ⟨some 16, none, (.p (.bin .lss .int (.t 10) (.t 15)))⟩] []) (.cond (.t 16) (.seq (.regd [] 
[⟨some 17, none, (.p (.move (.t 0)))⟩,
 ⟨some 18, none, (.p (.nilc (.t 17)))⟩,
 ⟨some 19, none, (.p (.faddr 0 (.t 18)))⟩,
 ⟨some 20, none, (.l (.load 1 false (.t 19)))⟩,
 ⟨some 21, none, (.p (.move (.t 0)))⟩,
 ⟨some 22, none, (.p (.nilc (.t 21)))⟩,
 ⟨some 23, none, (.p (.faddr 2 (.t 22)))⟩,
 ⟨some 24, none, (.l (.load 1 false (.t 23)))⟩,
 ⟨some 25, none, (.p (.move (.t 1)))⟩,
 ⟨some 26, none, (.p (.bin .add .int (.t 24) (.t 25)))⟩,
 ⟨some 27, none, (.p (.iaddr 3 (.t 20) (.t 26)))⟩,
 ⟨some 28, none, (.p (.faddr 1 (.t 27)))⟩,
 ⟨some 29, none, (.l (.load 1 false (.t 28)))⟩,
 ⟨some 4, none, (.p (.move (.t 29)))⟩] []) .ret) .skip)) (.seq (.reg 
[⟨some 4, none, (.p (.move (.c (.str []))))⟩]) .ret))), [.t 4]⟩
/-- libevolution/libevolutionref02.digits -/
def x297 : XF := ⟨(.seq (.reg 
[⟨some 2, none, (.p (.move (.c (.int .i64 0))))⟩]) (.seq (.reg 
[⟨some 3, none, (.p (.move (.c (.int .i64 0))))⟩]) (.seq (.seq (.reg 
[⟨some 4, none, (.p (.move (.c (.int .i64 0))))⟩]) (.block 0 (.loop (.seq (.seq (.reg 
[⟨some 5, none, (.p (.move (.t 4)))⟩,
 ⟨some 6, none, (.p (.move (.t 0)))⟩,
 ⟨some 7, none, (.p (.lens (.t 6)))⟩,
 ⟨some 8, none, (.p (.bin .lss .int (.t 5) (.t 7)))⟩]) (.cond (.t 8) .skip (.exit 0))) (.seq (.block 1 (.reg 
[⟨some 11, none, (.p (.move (.t 3)))⟩,
 ⟨some 12, none, (.p (.bin .mul .int (.c (.int .i64 10)) (.t 11)))⟩,
 ⟨some 13, none, (.p (.move (.t 0)))⟩,
 ⟨some 14, none, (.p (.move (.t 4)))⟩,
 ⟨some 15, none, (.p (.ixs (.t 13) (.t 14)))⟩,
 ⟨some 16, none, (.p (.bin .sub .int (.t 15) (.c (.int .u8 48))))⟩,
 ⟨some 17, none, (.p (.cint .i64 (.t 16)))⟩,
 ⟨some 18, none, (.p (.bin .add .int (.t 12) (.t 17)))⟩,
 ⟨some 3, none, (.p (.move (.t 18)))⟩])) (.reg 
[⟨some 9, none, (.p (.move (.t 4)))⟩,
 ⟨some 10, none, (.p (.bin .add .int (.t 9) (.c (.int .i64 1))))⟩,
 ⟨some 4, none, (.p (.move (.t 10)))⟩])))))) (.seq (.reg 
[⟨some 19, none, (.p (.move (.t 3)))⟩,
 ⟨some 2, none, (.p (.move (.t 19)))⟩]) .ret)))), [.t 2]⟩
/-- (*libevolution/libevolutionref02.parser).conform -/
def x298 : XF := ⟨(.seq (.reg 
[⟨some 2, none, (.e (.alloc [(.str []), .nils, (.str []), .nils, .nils]))⟩]) (.seq (.reg 
[⟨some 5, none, (.p (.move (.t 0)))⟩,
 ⟨some 6, none, (.e (.call (.c (.fn 338 [] [])) [(.t 5)]))⟩,
 ⟨some 7, none, (.p (.build [(.str []), .nils, (.str []), .nils, .nils] [(0, 1, (.t 6))]))⟩,
 ⟨some 3, none, (.e (.alloc [(.str []), .nils, (.str []), .nils, .nils]))⟩,
 ⟨none, none, (.e (.store 5 (.t 3) (.t 7)))⟩]) (.seq (.reg 
[⟨some 8, none, (.p (.move (.t 0)))⟩,
 ⟨some 9, none, (.e (.call (.c (.fn 339 [] [])) [(.t 8)]))⟩,
 ⟨some 10, none, (.p (.faddr 1 (.t 3)))⟩,
 ⟨none, none, (.e (.store 1 (.t 10) (.t 9)))⟩]) (.seq (.reg 
[⟨some 11, none, (.p (.move (.t 0)))⟩,
 ⟨some 12, none, (.e (.call (.c (.fn 247 [] [])) [(.t 11), (.c (.str [102, 111, 114]))]))⟩]) (.seq (.reg 
[⟨some 13, none, (.p (.move (.t 0)))⟩,
 ⟨some 14, none, (.e (.call (.c (.fn 340 [] [])) [(.t 13)]))⟩,
 ⟨some 15, none, (.p (.faddr 2 (.t 3)))⟩,
 ⟨none, none, (.e (.store 2 (.t 15) (.t 14)))⟩]) (.seq (.reg 
[⟨some 16, none, (.p (.move (.t 0)))⟩,
 ⟨some 17, none, (.e (.call (.c (.fn 247 [] [])) [(.t 16), (.c (.str [123]))]))⟩]) (.seq (.block 0 (.loop (.seq (.seq (.reg 
[⟨some 18, none, (.p (.move (.t 0)))⟩,
 ⟨some 19, none, (.p (.nilc (.t 18)))⟩,
 ⟨some 20, none, (.p (.faddr 4 (.t 19)))⟩,
 ⟨some 21, none, (.l (.load 1 false (.t 20)))⟩,
 ⟨some 22, none, (.p (.bin .eql .int (.t 21) (.c (.int .i64 0))))⟩,
 ⟨some 23, none, (.p (.move (.t 22)))⟩,
 ⟨some 24, some (23, true), (.p (.move (.t 0)))⟩,
 ⟨some 25, some (23, true), (.e (.call (.c (.fn 243 [] [])) [(.t 24), (.c (.str [125]))]))⟩,
 ⟨some 26, some (23, true), (.p (.not (.t 25)))⟩,
 ⟨some 27, none, (.p (.pick (.t 23) (.t 26) (.c (.bool false))))⟩]) (.cond (.t 27) .skip (.exit 0))) (.block 1 (.seq (.reg 
[⟨some 28, none, (.p (.move (.t 0)))⟩,
 ⟨some 29, none, (.e (.call (.c (.fn 246 [] [])) [(.t 28)]))⟩,
 ⟨some 30, none, (.p (.build [(.str []), (.str [])] [(0, 1, (.t 29))]))⟩,
 ⟨some 4, none, (.e (.alloc [(.str []), (.str [])]))⟩,
 ⟨none, none, (.e (.store 2 (.t 4) (.t 30)))⟩]) (.seq (.reg 
[⟨some 31, none, (.p (.move (.t 0)))⟩,
 ⟨some 32, none, (.e (.call (.c (.fn 247 [] [])) [(.t 31), (.c (.str [61]))]))⟩]) (.seq (.reg 
[⟨some 33, none, (.p (.move (.t 0)))⟩,
 ⟨some 34, none, (.e (.call (.c (.fn 338 [] [])) [(.t 33)]))⟩,
 ⟨some 35, none, (.p (.faddr 1 (.t 4)))⟩,
 ⟨none, none, (.e (.store 1 (.t 35) (.t 34)))⟩]) (.seq (.reg 
[⟨some 36, none, (.p (.move (.t 0)))⟩,
 ⟨some 37, none, (.e (.call (.c (.fn 247 [] [])) [(.t 36), (.c (.str [59]))]))⟩]) (.reg 
[⟨some 38, none, (.p (.faddr 4 (.t 3)))⟩,
 ⟨some 39, none, (.l (.load 1 false (.t 38)))⟩,
 ⟨some 40, none, (.l (.load 2 true (.t 4)))⟩,
 ⟨some 41, none, (.p (.bslice 2 [(.agg [(.str []), (.str [])])] [(0, (.t 40))]))⟩,
 ⟨some 42, none, (.e (.app 2 32 (.t 39) (.t 41)))⟩,
 ⟨some 43, none, (.p (.faddr 4 (.t 3)))⟩,
 ⟨none, none, (.e (.store 1 (.t 43) (.t 42)))⟩]))))))))) (.seq (.reg 
[⟨some 44, none, (.l (.load 5 true (.t 3)))⟩,
 ⟨none, none, (.e (.store 5 (.t 2) (.t 44)))⟩]) .ret)))))))), [.cell 2 5 true]⟩
/-- (*libevolution/libevolutionref02.parser).union -/
def x299 : XF := ⟨(.seq (.reg 
[⟨some 8, none, (.e (.alloc [(.int .i64 0), (.bool false), (.bool false), (.str []), .nils, .nils]))⟩]) (.seq (.reg 
[⟨some 11, none, (.p (.move (.t 0)))⟩,
 ⟨some 12, none, (.e (.call (.c (.fn 247 [] [])) [(.t 11), (.c (.str [117, 110, 105, 111, 110]))]))⟩]) (.seq (.reg 
[⟨some 13, none, (.p (.move (.t 1)))⟩,
 ⟨some 14, none, (.p (.move (.t 2)))⟩,
 ⟨some 15, none, (.p (.move (.t 3)))⟩,
 ⟨some 16, none, (.p (.move (.t 0)))⟩,
 ⟨some 17, none, (.e (.call (.c (.fn 246 [] [])) [(.t 16)]))⟩,
 ⟨some 18, none, (.p (.build [(.int .i64 0), (.bool false), (.bool false), (.str []), .nils, .nils] [(0, 1, (.t 13)), (1, 1, (.t 14)), (2, 1, (.t 15)), (3, 1, (.t 17))]))⟩,
 ⟨some 9, none, (.e (.alloc [(.int .i64 0), (.bool false), (.bool false), (.str []), .nils, .nils]))⟩,
 ⟨none, none, (.e (.store 6 (.t 9) (.t 18)))⟩]) (.seq (.reg 
[⟨some 19, none, (.p (.move (.t 0)))⟩,
 ⟨some 20, none, (.e (.call (.c (.fn 341 [] [])) [(.t 19)]))⟩,
 ⟨some 21, none, (.p (.faddr 4 (.t 9)))⟩,
 ⟨none, none, (.e (.store 1 (.t 21) (.t 20)))⟩]) (.seq (.reg 
[⟨some 22, none, (.p (.move (.t 0)))⟩,
 ⟨some 23, none, (.e (.call (.c (.fn 247 [] [])) [(.t 22), (.c (.str [123]))]))⟩]) (.seq (.block 0 (.loop (.seq (.seq (.reg 
[⟨some 24, none, (.p (.move (.t 0)))⟩,
 ⟨some 25, none, (.p (.nilc (.t 24)))⟩,
 ⟨some 26, none, (.p (.faddr 4 (.t 25)))⟩,
 ⟨some 27, none, (.l (.load 1 false (.t 26)))⟩,
 ⟨some 28, none, (.p (.bin .eql .int (.t 27) (.c (.int .i64 0))))⟩,
 ⟨some 29, none, (.p (.move (.t 28)))⟩,
 ⟨some 30, some (29, true), (.p (.move (.t 0)))⟩,
 ⟨some 31, some (29, true), (.e (.call (.c (.fn 243 [] [])) [(.t 30), (.c (.str [125]))]))⟩,
 ⟨some 32, some (29, true), (.p (.not (.t 31)))⟩,
 ⟨some 33, none, (.p (.pick (.t 29) (.t 32) (.c (.bool false))))⟩]) (.cond (.t 33) .skip (.exit 0))) (.block 1 (.seq (.reg 
[⟨some 34, none, (.p (.move (.t 0)))⟩,
 ⟨some 35, none, (.e (.call (.c (.fn 243 [] [])) [(.t 34), (.c (.str [105, 110, 100, 105, 114, 101, 99, 116]))]))⟩,
 ⟨some 36, none, (.p (.build [(.bool false), (.str []), .nils] [(0, 1, (.t 35))]))⟩,
 ⟨some 10, none, (.e (.alloc [(.bool false), (.str []), .nils]))⟩,
 ⟨none, none, (.e (.store 3 (.t 10) (.t 36)))⟩]) (.seq (.reg 
[⟨some 37, none, (.p (.move (.t 0)))⟩,
 ⟨some 38, none, (.e (.call (.c (.fn 246 [] [])) [(.t 37)]))⟩,
 ⟨some 39, none, (.p (.faddr 1 (.t 10)))⟩,
 ⟨none, none, (.e (.store 1 (.t 39) (.t 38)))⟩]) (.seq (.seq (.reg 
[⟨some 40, none, (.p (.move (.t 0)))⟩,
 ⟨some 41, none, (.e (.call (.c (.fn 243 [] [])) [(.t 40), (.c (.str [40]))]))⟩]) (.cond (.t 41) (.seq (.reg 
[⟨some 42, none, (.p (.move (.t 0)))⟩,
 ⟨some 43, none, (.e (.call (.c (.fn 342 [] [])) [(.t 42)]))⟩,
 ⟨some 44, none, (.p (.faddr 2 (.t 10)))⟩,
 ⟨none, none, (.e (.store 1 (.t 44) (.t 43)))⟩]) (.reg 
[⟨some 45, none, (.p (.move (.t 0)))⟩,
 ⟨some 46, none, (.e (.call (.c (.fn 247 [] [])) [(.t 45), (.c (.str [41]))]))⟩])) .skip)) (.seq (.reg 
[⟨some 47, none, (.p (.move (.t 0)))⟩,
 ⟨some 48, none, (.e (.call (.c (.fn 247 [] [])) [(.t 47), (.c (.str [59]))]))⟩]) (.reg 
[⟨some 49, none, (.p (.faddr 5 (.t 9)))⟩,
 ⟨some 50, none, (.l (.load 1 false (.t 49)))⟩,
 ⟨some 51, none, (.l (.load 3 true (.t 10)))⟩,
 ⟨some 52, none, (.p (.bslice 3 [(.agg [(.bool false), (.str []), .nils])] [(0, (.t 51))]))⟩,
 ⟨some 53, none, (.e (.app 3 48 (.t 50) (.t 52)))⟩,
 ⟨some 54, none, (.p (.faddr 5 (.t 9)))⟩,
 ⟨none, none, (.e (.store 1 (.t 54) (.t 53)))⟩]))))))))) (.seq (.reg 
[⟨some 55, none, (.l (.load 6 true (.t 9)))⟩,
 ⟨none, none, (.e (.store 6 (.t 8) (.t 55)))⟩]) .ret))))))), [.cell 8 6 true]⟩
/-- (*libevolution/libevolutionref02.parser).structure -/
def x300 : XF := ⟨(.seq (.reg 
[⟨some 8, none, (.e (.alloc [(.int .i64 0), (.bool false), (.bool false), (.str []), .nils, .nils]))⟩]) (.seq (.reg 
[⟨some 11, none, (.p (.move (.t 0)))⟩,
 ⟨some 12, none, (.e (.call (.c (.fn 247 [] [])) [(.t 11), (.c (.str [115, 116, 114, 117, 99, 116]))]))⟩]) (.seq (.reg 
[⟨some 13, none, (.p (.move (.t 1)))⟩,
 ⟨some 14, none, (.p (.move (.t 2)))⟩,
 ⟨some 15, none, (.p (.move (.t 3)))⟩,
 ⟨some 16, none, (.p (.move (.t 0)))⟩,
 ⟨some 17, none, (.e (.call (.c (.fn 246 [] [])) [(.t 16)]))⟩,
 ⟨some 18, none, (.p (.build [(.int .i64 0), (.bool false), (.bool false), (.str []), .nils, .nils] [(0, 1, (.t 13)), (1, 1, (.t 14)), (2, 1, (.t 15)), (3, 1, (.t 17))]))⟩,
 ⟨some 9, none, (.e (.alloc [(.int .i64 0), (.bool false), (.bool false), (.str []), .nils, .nils]))⟩,
 ⟨none, none, (.e (.store 6 (.t 9) (.t 18)))⟩]) (.seq (.reg 
[⟨some 19, none, (.p (.move (.t 0)))⟩,
 ⟨some 20, none, (.e (.call (.c (.fn 341 [] [])) [(.t 19)]))⟩,
 ⟨some 21, none, (.p (.faddr 4 (.t 9)))⟩,
 ⟨none, none, (.e (.store 1 (.t 21) (.t 20)))⟩]) (.seq (.reg 
[⟨some 22, none, (.p (.move (.t 0)))⟩,
 ⟨some 23, none, (.e (.call (.c (.fn 247 [] [])) [(.t 22), (.c (.str [123]))]))⟩]) (.seq (.block 0 (.loop (.seq (.seq (.reg 
[⟨some 24, none, (.p (.move (.t 0)))⟩,
 ⟨some 25, none, (.p (.nilc (.t 24)))⟩,
 ⟨some 26, none, (.p (.faddr 4 (.t 25)))⟩,
 ⟨some 27, none, (.l (.load 1 false (.t 26)))⟩,
 ⟨some 28, none, (.p (.bin .eql .int (.t 27) (.c (.int .i64 0))))⟩,
 ⟨some 29, none, (.p (.move (.t 28)))⟩,
 ⟨some 30, some (29, true), (.p (.move (.t 0)))⟩,
 ⟨some 31, some (29, true), (.e (.call (.c (.fn 243 [] [])) [(.t 30), (.c (.str [125]))]))⟩,
 ⟨some 32, some (29, true), (.p (.not (.t 31)))⟩,
 ⟨some 33, none, (.p (.pick (.t 29) (.t 32) (.c (.bool false))))⟩]) (.cond (.t 33) .skip (.exit 0))) (.block 1 (.seq (.reg 
[⟨some 34, none, (.p (.move (.t 0)))⟩,
 ⟨some 35, none, (.e (.call (.c (.fn 243 [] [])) [(.t 34), (.c (.str [112, 117, 98, 108, 105, 99]))]))⟩,
 ⟨some 36, none, (.p (.build [(.bool false), (.str []), (.str []), .nils] [(0, 1, (.t 35))]))⟩,
 ⟨some 10, none, (.e (.alloc [(.bool false), (.str []), (.str []), .nils]))⟩,
 ⟨none, none, (.e (.store 4 (.t 10) (.t 36)))⟩]) (.seq (.reg 
[⟨some 37, none, (.p (.move (.t 0)))⟩,
 ⟨some 38, none, (.e (.call (.c (.fn 246 [] [])) [(.t 37)]))⟩,
 ⟨some 39, none, (.p (.faddr 1 (.t 10)))⟩,
 ⟨none, none, (.e (.store 1 (.t 39) (.t 38)))⟩]) (.seq (.reg 
[⟨some 40, none, (.p (.move (.t 0)))⟩,
 ⟨some 41, none, (.e (.call (.c (.fn 247 [] [])) [(.t 40), (.c (.str [58]))]))⟩]) (.seq (.reg 
[⟨some 42, none, (.p (.move (.t 0)))⟩,
 ⟨some 43, none, (.e (.call (.c (.fn 340 [] [])) [(.t 42)]))⟩,
 ⟨some 44, none, (.p (.faddr 2 (.t 10)))⟩,
 ⟨none, none, (.e (.store 2 (.t 44) (.t 43)))⟩]) (.seq (.reg 
[⟨some 45, none, (.p (.move (.t 0)))⟩,
 ⟨some 46, none, (.e (.call (.c (.fn 247 [] [])) [(.t 45), (.c (.str [59]))]))⟩]) (.reg 
[⟨some 47, none, (.p (.faddr 5 (.t 9)))⟩,
 ⟨some 48, none, (.l (.load 1 false (.t 47)))⟩,
 ⟨some 49, none, (.l (.load 4 true (.t 10)))⟩,
 ⟨some 50, none, (.p (.bslice 4 [(.agg [(.bool false), (.str []), (.str []), .nils])] [(0, (.t 49))]))⟩,
 ⟨some 51, none, (.e (.app 4 64 (.t 48) (.t 50)))⟩,
 ⟨some 52, none, (.p (.faddr 5 (.t 9)))⟩,
 ⟨none, none, (.e (.store 1 (.t 52) (.t 51)))⟩])))))))))) (.seq (.reg 
[⟨some 53, none, (.l (.load 6 true (.t 9)))⟩,
 ⟨none, none, (.e (.store 6 (.t 8) (.t 53)))⟩]) .ret))))))), [.cell 8 6 true]⟩
/-- (*libevolution/libevolutionref02.parser).trait -/
def x301 : XF := ⟨(.seq (.reg 
[⟨some 6, none, (.e (.alloc [(.int .i64 0), (.bool false), (.bool false), (.str []), .nils]))⟩]) (.seq (.reg 
[⟨some 9, none, (.p (.move (.t 1)))⟩,
 ⟨some 10, none, (.p (.move (.t 2)))⟩,
 ⟨some 11, none, (.p (.move (.t 0)))⟩,
 ⟨some 12, none, (.e (.call (.c (.fn 243 [] [])) [(.t 11), (.c (.str [115, 101, 97, 108, 101, 100]))]))⟩,
 ⟨some 13, none, (.p (.build [(.int .i64 0), (.bool false), (.bool false), (.str []), .nils] [(0, 1, (.t 9)), (1, 1, (.t 10)), (2, 1, (.t 12))]))⟩,
 ⟨some 7, none, (.e (.alloc [(.int .i64 0), (.bool false), (.bool false), (.str []), .nils]))⟩,
 ⟨none, none, (.e (.store 5 (.t 7) (.t 13)))⟩]) (.seq (.reg 
[⟨some 14, none, (.p (.move (.t 0)))⟩,
 ⟨some 15, none, (.e (.call (.c (.fn 247 [] [])) [(.t 14), (.c (.str [116, 114, 97, 105, 116]))]))⟩]) (.seq (.reg 
[⟨some 16, none, (.p (.move (.t 0)))⟩,
 ⟨some 17, none, (.e (.call (.c (.fn 246 [] [])) [(.t 16)]))⟩,
 ⟨some 18, none, (.p (.faddr 3 (.t 7)))⟩,
 ⟨none, none, (.e (.store 1 (.t 18) (.t 17)))⟩]) (.seq (.reg 
[⟨some 19, none, (.p (.move (.t 0)))⟩,
 ⟨some 20, none, (.e (.call (.c (.fn 247 [] [])) [(.t 19), (.c (.str [123]))]))⟩]) (.seq (.block 0 (.loop (.seq (.seq (.reg 
[⟨some 21, none, (.p (.move (.t 0)))⟩,
 ⟨some 22, none, (.p (.nilc (.t 21)))⟩,
 ⟨some 23, none, (.p (.faddr 4 (.t 22)))⟩,
 ⟨some 24, none, (.l (.load 1 false (.t 23)))⟩,
 ⟨some 25, none, (.p (.bin .eql .int (.t 24) (.c (.int .i64 0))))⟩,
 ⟨some 26, none, (.p (.move (.t 25)))⟩,
 ⟨some 27, some (26, true), (.p (.move (.t 0)))⟩,
 ⟨some 28, some (26, true), (.e (.call (.c (.fn 243 [] [])) [(.t 27), (.c (.str [125]))]))⟩,
 ⟨some 29, some (26, true), (.p (.not (.t 28)))⟩,
 ⟨some 30, none, (.p (.pick (.t 26) (.t 29) (.c (.bool false))))⟩]) (.cond (.t 30) .skip (.exit 0))) (.block 1 (.seq (.reg 
[⟨some 31, none, (.p (.move (.t 0)))⟩,
 ⟨some 32, none, (.e (.call (.c (.fn 247 [] [])) [(.t 31), (.c (.str [102, 117, 110, 99]))]))⟩]) (.seq (.reg 
[⟨some 33, none, (.p (.move (.t 0)))⟩,
 ⟨some 34, none, (.e (.call (.c (.fn 246 [] [])) [(.t 33)]))⟩,
 ⟨some 35, none, (.p (.build [(.str []), .nils, (.str []), .nils, (.str [])] [(0, 1, (.t 34))]))⟩,
 ⟨some 8, none, (.e (.alloc [(.str []), .nils, (.str []), .nils, (.str [])]))⟩,
 ⟨none, none, (.e (.store 5 (.t 8) (.t 35)))⟩]) (.seq (.reg 
[⟨some 36, none, (.p (.move (.t 0)))⟩,
 ⟨some 37, none, (.e (.call (.c (.fn 247 [] [])) [(.t 36), (.c (.str [40]))]))⟩]) (.seq (.seq (.reg 
[⟨some 38, none, (.p (.move (.t 0)))⟩,
 ⟨some 39, none, (.e (.call (.c (.fn 293 [] [])) [(.t 38), (.c (.str [41]))]))⟩,
 ⟨some 40, none, (.p (.not (.t 39)))⟩]) (.cond (.t 40) (.reg 
[⟨some 41, none, (.p (.move (.t 0)))⟩,
 ⟨some 42, none, (.e (.call (.c (.fn 342 [] [])) [(.t 41)]))⟩,
 ⟨some 43, none, (.p (.faddr 1 (.t 8)))⟩,
 ⟨none, none, (.e (.store 1 (.t 43) (.t 42)))⟩]) .skip)) (.seq (.reg 
[⟨some 44, none, (.p (.move (.t 0)))⟩,
 ⟨some 45, none, (.e (.call (.c (.fn 247 [] [])) [(.t 44), (.c (.str [41]))]))⟩]) (.seq (.reg 
[⟨some 46, none, (.p (.move (.t 0)))⟩,
 ⟨some 47, none, (.e (.call (.c (.fn 247 [] [])) [(.t 46), (.c (.str [58]))]))⟩]) (.seq (.reg 
[⟨some 48, none, (.p (.move (.t 0)))⟩,
 ⟨some 49, none, (.e (.call (.c (.fn 340 [] [])) [(.t 48)]))⟩,
 ⟨some 50, none, (.p (.faddr 2 (.t 8)))⟩,
 ⟨none, none, (.e (.store 2 (.t 50) (.t 49)))⟩]) (.seq (.seq (.reg 
[⟨some 51, none, (.p (.move (.t 0)))⟩,
 ⟨some 52, none, (.e (.call (.c (.fn 243 [] [])) [(.t 51), (.c (.str [100, 101, 102, 97, 117, 108, 116]))]))⟩]) (.cond (.t 52) (.reg 
[⟨some 53, none, (.p (.move (.t 0)))⟩,
 ⟨some 54, none, (.e (.call (.c (.fn 338 [] [])) [(.t 53)]))⟩,
 ⟨some 55, none, (.p (.faddr 4 (.t 8)))⟩,
 ⟨none, none, (.e (.store 1 (.t 55) (.t 54)))⟩]) .skip)) (.seq (.reg 
[⟨some 56, none, (.p (.move (.t 0)))⟩,
 ⟨some 57, none, (.e (.call (.c (.fn 247 [] [])) [(.t 56), (.c (.str [59]))]))⟩]) (.reg 
[⟨some 58, none, (.p (.faddr 4 (.t 7)))⟩,
 ⟨some 59, none, (.l (.load 1 false (.t 58)))⟩,
 ⟨some 60, none, (.l (.load 5 true (.t 8)))⟩,
 ⟨some 61, none, (.p (.bslice 5 [(.agg [(.str []), .nils, (.str []), .nils, (.str [])])] [(0, (.t 60))]))⟩,
 ⟨some 62, none, (.e (.app 5 96 (.t 59) (.t 61)))⟩,
 ⟨some 63, none, (.p (.faddr 4 (.t 7)))⟩,
 ⟨none, none, (.e (.store 1 (.t 63) (.t 62)))⟩])))))))))))))) (.seq (.reg 
[⟨some 64, none, (.l (.load 5 true (.t 7)))⟩,
 ⟨none, none, (.e (.store 5 (.t 6) (.t 64)))⟩]) .ret))))))), [.cell 6 5 true]⟩
/-- (*libevolution/libevolutionref02.parser).function -/
def x302 : XF := ⟨(.seq (.reg 
[⟨some 6, none, (.e (.alloc [(.int .i64 0), (.bool false), (.bool false), (.str []), .nils, .nils, (.str []), .nils, (.bool false), (.int .i64 0), (.str []), (.str []), (.int .i64 0), .nils, .nils, .nils, .nils, (.str []), .nils, (.int .i64 0)]))⟩]) (.seq (.reg 
[⟨some 8, none, (.p (.move (.t 1)))⟩,
 ⟨some 9, none, (.p (.move (.t 2)))⟩,
 ⟨some 10, none, (.p (.move (.t 0)))⟩,
 ⟨some 11, none, (.e (.call (.c (.fn 243 [] [])) [(.t 10), (.c (.str [105, 110, 108, 105, 110, 101]))]))⟩,
 ⟨some 12, none, (.p (.build [(.int .i64 0), (.bool false), (.bool false), (.str []), .nils, .nils, (.str []), .nils, (.bool false), (.int .i64 0), (.str []), (.str []), (.int .i64 0), .nils, .nils, .nils, .nils, (.str []), .nils, (.int .i64 0)] [(0, 1, (.t 8)), (1, 1, (.t 9)), (2, 1, (.t 11))]))⟩,
 ⟨some 7, none, (.e (.alloc [(.int .i64 0), (.bool false), (.bool false), (.str []), .nils, .nils, (.str []), .nils, (.bool false), (.int .i64 0), (.str []), (.str []), (.int .i64 0), .nils, .nils, .nils, .nils, (.str []), .nils, (.int .i64 0)]))⟩,
 ⟨none, none, (.e (.store 20 (.t 7) (.t 12)))⟩]) (.seq (.reg 
[⟨some 13, none, (.p (.move (.t 0)))⟩,
 ⟨some 14, none, (.e (.call (.c (.fn 247 [] [])) [(.t 13), (.c (.str [102, 117, 110, 99]))]))⟩]) (.seq (.reg 
[⟨some 15, none, (.p (.move (.t 0)))⟩,
 ⟨some 16, none, (.e (.call (.c (.fn 246 [] [])) [(.t 15)]))⟩,
 ⟨some 17, none, (.p (.faddr 3 (.t 7)))⟩,
 ⟨none, none, (.e (.store 1 (.t 17) (.t 16)))⟩]) (.seq (.reg 
[⟨some 18, none, (.p (.move (.t 0)))⟩,
 ⟨some 19, none, (.e (.call (.c (.fn 339 [] [])) [(.t 18)]))⟩,
 ⟨some 20, none, (.p (.faddr 4 (.t 7)))⟩,
 ⟨none, none, (.e (.store 1 (.t 20) (.t 19)))⟩]) (.seq (.reg 
[⟨some 21, none, (.p (.move (.t 0)))⟩,
 ⟨some 22, none, (.e (.call (.c (.fn 247 [] [])) [(.t 21), (.c (.str [40]))]))⟩]) (.seq (.seq (.reg 
[⟨some 23, none, (.p (.move (.t 0)))⟩,
 ⟨some 24, none, (.e (.call (.c (.fn 293 [] [])) [(.t 23), (.c (.str [41]))]))⟩,
 ⟨some 25, none, (.p (.not (.t 24)))⟩]) (.cond (.t 25) (.seq (.regd [] 
[⟨some 26, none, (.p (.faddr 5 (.t 7)))⟩,
 ⟨some 27, none, (.l (.load 1 false (.t 26)))⟩,
 ⟨some 28, none, (.p (.move (.t 0)))⟩,
 ⟨some 29, none, (.e (.call (.c (.fn 343 [] [])) [(.t 28)]))⟩,
 ⟨some 30, none, (.p (.bslice 15 [(.agg [(.str []), (.str []), .nils, (.bool false), (.int .i64 0), (.str []), (.str []), (.int .i64 0), .nils, .nils, .nils, .nils, (.str []), .nils, (.int .i64 0)])] [(0, (.t 29))]))⟩,
 ⟨some 31, none, (.e (.app 15 256 (.t 27) (.t 30)))⟩,
 ⟨some 32, none, (.p (.faddr 5 (.t 7)))⟩,
 ⟨none, none, (.e (.store 1 (.t 32) (.t 31)))⟩] [(1, 3)]) (.block 0 (.loop (.seq (.seq (.reg 
[⟨some 33, none, (.p (.move (.t 0)))⟩,
 ⟨some 34, none, (.e (.call (.c (.fn 243 [] [])) [(.t 33), (.c (.str [44]))]))⟩]) (.cond (.t 34) .skip (.exit 0))) (.block 1 (.regd [] 
[⟨some 35, none, (.p (.faddr 5 (.t 7)))⟩,
 ⟨some 36, none, (.l (.load 1 false (.t 35)))⟩,
 ⟨some 37, none, (.p (.move (.t 0)))⟩,
 ⟨some 38, none, (.e (.call (.c (.fn 343 [] [])) [(.t 37)]))⟩,
 ⟨some 39, none, (.p (.bslice 15 [(.agg [(.str []), (.str []), .nils, (.bool false), (.int .i64 0), (.str []), (.str []), (.int .i64 0), .nils, .nils, .nils, .nils, (.str []), .nils, (.int .i64 0)])] [(0, (.t 38))]))⟩,
 ⟨some 40, none, (.e (.app 15 256 (.t 36) (.t 39)))⟩,
 ⟨some 41, none, (.p (.faddr 5 (.t 7)))⟩,
 ⟨none, none, (.e (.store 1 (.t 41) (.t 40)))⟩] [(1, 3)])))))) .skip)) (.seq (.reg 
[⟨some 42, none, (.p (.move (.t 0)))⟩,
 ⟨some 43, none, (.e (.call (.c (.fn 247 [] [])) [(.t 42), (.c (.str [41]))]))⟩]) (.seq (.reg 
[⟨some 44, none, (.p (.move (.t 0)))⟩,
 ⟨some 45, none, (.e (.call (.c (.fn 247 [] [])) [(.t 44), (.c (.str [58]))]))⟩]) (.seq (.reg 
[⟨some 46, none, (.p (.move (.t 0)))⟩,
 ⟨some 47, none, (.e (.call (.c (.fn 340 [] [])) [(.t 46)]))⟩,
 ⟨some 48, none, (.p (.faddr 6 (.t 7)))⟩,
 ⟨none, none, (.e (.store 2 (.t 48) (.t 47)))⟩]) (.seq (.seq (.reg 
[⟨some 49, none, (.p (.move (.t 0)))⟩,
 ⟨some 50, none, (.e (.call (.c (.fn 243 [] [])) [(.t 49), (.c (.str [61]))]))⟩]) (.cond (.t 50) (.seq (.reg 
[⟨some 51, none, (.p (.faddr 8 (.t 7)))⟩,
 ⟨none, none, (.e (.store 1 (.t 51) (.c (.bool true))))⟩]) (.reg 
[⟨some 52, none, (.p (.move (.t 0)))⟩,
 ⟨some 53, none, (.e (.call (.c (.fn 344 [] [])) [(.t 52)]))⟩,
 ⟨some 54, none, (.p (.faddr 9 (.t 7)))⟩,
 ⟨none, none, (.e (.store 11 (.t 54) (.t 53)))⟩])) .skip)) (.seq (.reg 
[⟨some 55, none, (.p (.move (.t 0)))⟩,
 ⟨some 56, none, (.e (.call (.c (.fn 247 [] [])) [(.t 55), (.c (.str [59]))]))⟩]) (.seq (.reg 
[⟨some 57, none, (.l (.load 20 true (.t 7)))⟩,
 ⟨none, none, (.e (.store 20 (.t 6) (.t 57)))⟩]) .ret))))))))))))), [.cell 6 20 true]⟩
/-- libevolution/scope.ModuleOf$1 -/
def x303 : XF := ⟨(.seq (.reg 
[⟨some 2, none, (.e (.box 9 (.t 0)))⟩,
 ⟨some 3, none, (.p (.move (.c (.bool false))))⟩]) (.seq (.reg 
[⟨some 4, none, (.p (.faddr 1 (.t 2)))⟩,
 ⟨some 5, none, (.l (.load 1 false (.t 4)))⟩,
 ⟨some 6, none, (.l (.load 1 false (.t 1)))⟩,
 ⟨some 7, none, (.p (.bin .eql .str (.t 5) (.t 6)))⟩,
 ⟨some 3, none, (.p (.move (.t 7)))⟩]) .ret)), [.t 3]⟩
/-- libevolution/libevolutionref02.depthExpr -/
def x307 : XF := ⟨(.seq (.reg 
[⟨some 1, none, (.e (.box 11 (.t 0)))⟩,
 ⟨some 2, none, (.p (.move (.c (.int .i64 0))))⟩]) (.seq (.reg 
[⟨some 3, none, (.p (.move (.c (.int .i64 0))))⟩]) (.seq (.seq (.reg 
[⟨some 6, none, (.p (.faddr 7 (.t 1)))⟩,
 ⟨some 7, none, (.l (.load 1 false (.t 6)))⟩,
 ⟨some 8, none, (.p (.lenl (.t 7)))⟩,
 ⟨some 9, none, (.p (.move (.c (.int .i64 0))))⟩]) (.block 0 (.loop (.seq (.reg 
[⟨some 10, none, (.p (.bin .lss .int (.t 9) (.t 8)))⟩]) (.seq (.cond (.t 10) .skip (.exit 0)) (.seq (.block 1 (.seq (.reg 
[⟨some 11, none, (.p (.iaddr 11 (.t 7) (.t 9)))⟩,
 ⟨some 12, none, (.l (.load 11 true (.t 11)))⟩,
 ⟨some 5, none, (.e (.alloc [(.int .i64 0), (.str []), (.str []), (.int .i64 0), .nils, .nils, .nils, .nils, (.str []), .nils, (.int .i64 0)]))⟩,
 ⟨none, none, (.e (.store 11 (.t 5) (.t 12)))⟩]) (.reg 
[⟨some 13, none, (.p (.move (.t 3)))⟩,
 ⟨some 14, none, (.l (.load 11 true (.t 5)))⟩,
 ⟨some 15, none, (.e (.call (.c (.fn 307 [] [])) [(.t 14)]))⟩,
 ⟨some 16, none, (.p (.max (.t 13) (.t 15)))⟩,
 ⟨some 3, none, (.p (.move (.t 16)))⟩]))) (.reg 
[⟨some 17, none, (.p (.bin .add .int (.t 9) (.c (.int .i64 1))))⟩,
 ⟨some 9, none, (.p (.move (.t 17)))⟩]))))))) (.seq (.reg 
[⟨some 18, none, (.p (.move (.t 3)))⟩,
 ⟨some 19, none, (.p (.bin .add .int (.t 18) (.c (.int .i64 1))))⟩,
 ⟨some 2, none, (.p (.move (.t 19)))⟩]) .ret)))), [.t 2]⟩
/-- libevolution/libevolutionref02.deepInside -/
def x308 : XF := ⟨(.seq (.reg 
[⟨some 1, none, (.e (.box 11 (.t 0)))⟩,
 ⟨some 2, none, (.p (.move (.c (.bool false))))⟩]) (.seq (.seq (.reg 
[⟨some 5, none, (.p (.faddr 4 (.t 1)))⟩,
 ⟨some 6, none, (.l (.load 1 false (.t 5)))⟩,
 ⟨some 7, none, (.e (.call (.c (.fn 255 [] [])) [(.t 6)]))⟩]) (.cond (.t 7) (.seq (.reg 
[⟨some 2, none, (.p (.move (.c (.bool true))))⟩]) .ret) .skip)) (.seq (.seq (.reg 
[⟨some 8, none, (.p (.faddr 7 (.t 1)))⟩,
 ⟨some 9, none, (.l (.load 1 false (.t 8)))⟩,
 ⟨some 10, none, (.p (.lenl (.t 9)))⟩,
 ⟨some 11, none, (.p (.move (.c (.int .i64 0))))⟩]) (.block 0 (.loop (.seq (.reg 
[⟨some 12, none, (.p (.bin .lss .int (.t 11) (.t 10)))⟩]) (.seq (.cond (.t 12) .skip (.exit 0)) (.seq (.block 1 (.seq (.reg 
[⟨some 13, none, (.p (.iaddr 11 (.t 9) (.t 11)))⟩,
 ⟨some 14, none, (.l (.load 11 true (.t 13)))⟩,
 ⟨some 4, none, (.e (.alloc [(.int .i64 0), (.str []), (.str []), (.int .i64 0), .nils, .nils, .nils, .nils, (.str []), .nils, (.int .i64 0)]))⟩,
 ⟨none, none, (.e (.store 11 (.t 4) (.t 14)))⟩]) (.seq (.reg 
[⟨some 15, none, (.l (.load 11 true (.t 4)))⟩,
 ⟨some 16, none, (.e (.call (.c (.fn 308 [] [])) [(.t 15)]))⟩]) (.cond (.t 16) (.seq (.reg 
[⟨some 2, none, (.p (.move (.c (.bool true))))⟩]) .ret) .skip)))) (.reg 
[⟨some 17, none, (.p (.bin .add .int (.t 11) (.c (.int .i64 1))))⟩,
 ⟨some 11, none, (.p (.move (.t 17)))⟩]))))))) (.seq (.reg 
[⟨some 2, none, (.p (.move (.c (.bool false))))⟩]) .ret)))), [.t 2]⟩
/-- libevolution/libevolutionref02.size -/
def x309 : XF := ⟨(.seq (.reg 
[⟨some 1, none, (.e (.box 11 (.t 0)))⟩,
 ⟨some 2, none, (.p (.move (.c (.int .i64 0))))⟩]) (.seq (.reg 
[⟨some 3, none, (.p (.move (.c (.int .i64 1))))⟩]) (.seq (.seq (.reg 
[⟨some 6, none, (.p (.faddr 7 (.t 1)))⟩,
 ⟨some 7, none, (.l (.load 1 false (.t 6)))⟩,
 ⟨some 8, none, (.p (.lenl (.t 7)))⟩,
 ⟨some 9, none, (.p (.move (.c (.int .i64 0))))⟩]) (.block 0 (.loop (.seq (.reg 
[⟨some 10, none, (.p (.bin .lss .int (.t 9) (.t 8)))⟩]) (.seq (.cond (.t 10) .skip (.exit 0)) (.seq (.block 1 (.seq (.reg 
[⟨some 11, none, (.p (.iaddr 11 (.t 7) (.t 9)))⟩,
 ⟨some 12, none, (.l (.load 11 true (.t 11)))⟩,
 ⟨some 5, none, (.e (.alloc [(.int .i64 0), (.str []), (.str []), (.int .i64 0), .nils, .nils, .nils, .nils, (.str []), .nils, (.int .i64 0)]))⟩,
 ⟨none, none, (.e (.store 11 (.t 5) (.t 12)))⟩]) (.reg 
[⟨some 13, none, (.p (.move (.t 3)))⟩,
 ⟨some 14, none, (.l (.load 11 true (.t 5)))⟩,
 ⟨some 15, none, (.e (.call (.c (.fn 309 [] [])) [(.t 14)]))⟩,
 ⟨some 16, none, (.p (.bin .add .int (.t 13) (.t 15)))⟩,
 ⟨some 3, none, (.p (.move (.t 16)))⟩]))) (.reg 
[⟨some 17, none, (.p (.bin .add .int (.t 9) (.c (.int .i64 1))))⟩,
 ⟨some 9, none, (.p (.move (.t 17)))⟩]))))))) (.seq (.reg 
[⟨some 18, none, (.p (.move (.t 3)))⟩,
 ⟨some 2, none, (.p (.move (.t 18)))⟩]) .ret)))), [.t 2]⟩
/-- libevolution/libevolutionref02.smallExpr -/
def x310 : XF := ⟨(.seq (.reg 
[⟨some 1, none, (.e (.box 11 (.t 0)))⟩,
 ⟨some 2, none, (.p (.move (.c (.bool false))))⟩]) (.seq (.seq (.reg 
[⟨some 8, none, (.p (.faddr 4 (.t 1)))⟩,
 ⟨some 9, none, (.l (.load 1 false (.t 8)))⟩,
 ⟨some 10, none, (.p (.lenl (.t 9)))⟩,
 ⟨some 11, none, (.p (.bin .gtr .int (.t 10) (.c (.int .i64 4))))⟩,
 ⟨some 12, none, (.p (.move (.t 11)))⟩,
 ⟨some 13, some (12, false), (.p (.faddr 4 (.t 1)))⟩,
 ⟨some 14, some (12, false), (.l (.load 1 false (.t 13)))⟩,
 ⟨some 15, some (12, false), (.e (.call (.c (.fn 258 [] [])) [(.t 14)]))⟩,
 ⟨some 16, some (12, false), (.p (.not (.t 15)))⟩,
 ⟨some 17, none, (.p (.pick (.t 12) (.c (.bool true)) (.t 16)))⟩,
 ⟨some 18, none, (.p (.move (.t 17)))⟩,
 ⟨some 19, some (18, false), (.p (.faddr 5 (.t 1)))⟩,
 ⟨some 20, some (18, false), (.l (.load 1 false (.t 19)))⟩,
 ⟨some 21, some (18, false), (.p (.lenl (.t 20)))⟩,
 ⟨some 22, some (18, false), (.p (.bin .gtr .int (.t 21) (.c (.int .i64 12))))⟩,
 ⟨some 23, none, (.p (.pick (.t 18) (.c (.bool true)) (.t 22)))⟩,
 ⟨some 24, none, (.p (.move (.t 23)))⟩,
 ⟨some 25, some (24, false), (.p (.faddr 6 (.t 1)))⟩,
 ⟨some 26, some (24, false), (.l (.load 1 false (.t 25)))⟩,
 ⟨some 27, some (24, false), (.p (.lenl (.t 26)))⟩,
 ⟨some 28, some (24, false), (.p (.bin .gtr .int (.t 27) (.c (.int .i64 13))))⟩,
 ⟨some 29, none, (.p (.pick (.t 24) (.c (.bool true)) (.t 28)))⟩]) (.cond (.t 29) (.seq (.reg 
[⟨some 2, none, (.p (.move (.c (.bool false))))⟩]) .ret) .skip)) (.seq (.reg 
[⟨some 30, none, (.p (.faddr 7 (.t 1)))⟩,
 ⟨some 31, none, (.l (.load 1 false (.t 30)))⟩,
 ⟨some 32, none, (.p (.lenl (.t 31)))⟩,
 ⟨some 3, none, (.p (.move (.t 32)))⟩]) (.seq (.seq (.reg 
[⟨some 33, none, (.p (.faddr 0 (.t 1)))⟩,
 ⟨some 34, none, (.l (.load 1 false (.t 33)))⟩]) (.block 0 (.seq (.seq (.reg 
[⟨some 36, none, (.p (.bin .eql .int (.t 34) (.c (.int .i64 9))))⟩,
 ⟨some 35, none, (.p (.move (.t 36)))⟩]) (.cond (.t 35) .skip (.reg 
[⟨some 37, none, (.p (.bin .eql .int (.t 34) (.c (.int .i64 10))))⟩,
 ⟨some 35, none, (.p (.move (.t 37)))⟩]))) (.cond (.t 35) (.seq (.reg 
[⟨some 38, none, (.p (.move (.t 3)))⟩,
 ⟨some 39, none, (.p (.bin .gtr .int (.t 38) (.c (.int .i64 6))))⟩]) (.cond (.t 39) (.seq (.reg 
[⟨some 2, none, (.p (.move (.c (.bool false))))⟩]) .ret) .skip)) (.seq (.reg 
[⟨some 41, none, (.p (.bin .eql .int (.t 34) (.c (.int .i64 14))))⟩,
 ⟨some 40, none, (.p (.move (.t 41)))⟩]) (.cond (.t 40) (.seq (.reg 
[⟨some 42, none, (.p (.move (.t 3)))⟩,
 ⟨some 43, none, (.p (.bin .gtr .int (.t 42) (.c (.int .i64 12))))⟩]) (.cond (.t 43) (.seq (.reg 
[⟨some 2, none, (.p (.move (.c (.bool false))))⟩]) .ret) .skip)) (.seq (.reg 
[⟨some 45, none, (.p (.bin .eql .int (.t 34) (.c (.int .i64 16))))⟩,
 ⟨some 44, none, (.p (.move (.t 45)))⟩]) (.cond (.t 44) (.seq (.reg 
[⟨some 46, none, (.p (.move (.t 3)))⟩,
 ⟨some 47, none, (.p (.bin .gtr .int (.t 46) (.c (.int .i64 200))))⟩]) (.cond (.t 47) (.seq (.reg 
[⟨some 2, none, (.p (.move (.c (.bool false))))⟩]) .ret) .skip)) .skip)))))))) (.seq (.seq (.reg 
[⟨some 48, none, (.p (.faddr 6 (.t 1)))⟩,
 ⟨some 49, none, (.l (.load 1 false (.t 48)))⟩,
 ⟨some 50, none, (.p (.lenl (.t 49)))⟩,
 ⟨some 51, none, (.p (.move (.c (.int .i64 0))))⟩]) (.block 1 (.loop (.seq (.reg 
[⟨some 52, none, (.p (.bin .lss .int (.t 51) (.t 50)))⟩]) (.seq (.cond (.t 52) .skip (.exit 1)) (.seq (.block 2 (.seq (.reg 
[⟨some 53, none, (.p (.iaddr 3 (.t 49) (.t 51)))⟩,
 ⟨some 54, none, (.l (.load 3 true (.t 53)))⟩,
 ⟨some 5, none, (.e (.alloc [(.bool false), (.str []), .nils]))⟩,
 ⟨none, none, (.e (.store 3 (.t 5) (.t 54)))⟩]) (.seq (.reg 
[⟨some 55, none, (.p (.faddr 2 (.t 5)))⟩,
 ⟨some 56, none, (.l (.load 1 false (.t 55)))⟩,
 ⟨some 57, none, (.p (.lenl (.t 56)))⟩,
 ⟨some 58, none, (.p (.bin .gtr .int (.t 57) (.c (.int .i64 12))))⟩]) (.cond (.t 58) (.seq (.reg 
[⟨some 2, none, (.p (.move (.c (.bool false))))⟩]) .ret) .skip)))) (.reg 
[⟨some 59, none, (.p (.bin .add .int (.t 51) (.c (.int .i64 1))))⟩,
 ⟨some 51, none, (.p (.move (.t 59)))⟩]))))))) (.seq (.seq (.reg 
[⟨some 60, none, (.p (.faddr 7 (.t 1)))⟩,
 ⟨some 61, none, (.l (.load 1 false (.t 60)))⟩,
 ⟨some 62, none, (.p (.lenl (.t 61)))⟩,
 ⟨some 63, none, (.p (.move (.c (.int .i64 0))))⟩]) (.block 3 (.loop (.seq (.reg 
[⟨some 64, none, (.p (.bin .lss .int (.t 63) (.t 62)))⟩]) (.seq (.cond (.t 64) .skip (.exit 3)) (.seq (.block 4 (.seq (.reg 
[⟨some 65, none, (.p (.iaddr 11 (.t 61) (.t 63)))⟩,
 ⟨some 66, none, (.l (.load 11 true (.t 65)))⟩,
 ⟨some 7, none, (.e (.alloc [(.int .i64 0), (.str []), (.str []), (.int .i64 0), .nils, .nils, .nils, .nils, (.str []), .nils, (.int .i64 0)]))⟩,
 ⟨none, none, (.e (.store 11 (.t 7) (.t 66)))⟩]) (.seq (.reg 
[⟨some 67, none, (.l (.load 11 true (.t 7)))⟩,
 ⟨some 68, none, (.e (.call (.c (.fn 310 [] [])) [(.t 67)]))⟩,
 ⟨some 69, none, (.p (.not (.t 68)))⟩]) (.cond (.t 69) (.seq (.reg 
[⟨some 2, none, (.p (.move (.c (.bool false))))⟩]) .ret) .skip)))) (.reg 
[⟨some 70, none, (.p (.bin .add .int (.t 63) (.c (.int .i64 1))))⟩,
 ⟨some 63, none, (.p (.move (.t 70)))⟩]))))))) (.seq (.reg 
[⟨some 2, none, (.p (.move (.c (.bool true))))⟩]) .ret))))))), [.t 2]⟩
/-- libevolution/libevolutionref02.uses -/
def x311 : XF := ⟨(.seq (.reg 
[⟨some 2, none, (.e (.alloc [(.int .i64 0), (.int .i64 0), (.bool false), (.bool false), (.bool false), (.bool false), (.bool false)]))⟩,
 ⟨some 3, none, (.p (.move (.c (.bool false))))⟩]) (.seq (.seq (.reg 
[⟨some 4, none, (.p (.move (.t 0)))⟩]) (.block 0 (.seq (.seq (.reg 
[⟨some 6, none, (.p (.bin .eql .int (.t 4) (.c (.int .i64 1))))⟩,
 ⟨some 5, none, (.p (.move (.t 6)))⟩]) (.cond (.t 5) .skip (.reg 
[⟨some 7, none, (.p (.bin .eql .int (.t 4) (.c (.int .i64 2))))⟩,
 ⟨some 5, none, (.p (.move (.t 7)))⟩]))) (.cond (.t 5) (.seq (.reg 
[⟨some 8, none, (.p (.build [(.int .i64 0), (.int .i64 0), (.bool false), (.bool false), (.bool false), (.bool false), (.bool false)] [(4, 1, (.c (.bool true)))]))⟩,
 ⟨none, none, (.e (.store 7 (.t 2) (.t 8)))⟩,
 ⟨some 3, none, (.p (.move (.c (.bool true))))⟩]) .ret) (.seq (.reg 
[⟨some 10, none, (.p (.bin .eql .int (.t 4) (.c (.int .i64 3))))⟩,
 ⟨some 9, none, (.p (.move (.t 10)))⟩]) (.cond (.t 9) (.seq (.reg 
[⟨some 11, none, (.p (.build [(.int .i64 0), (.int .i64 0), (.bool false), (.bool false), (.bool false), (.bool false), (.bool false)] [(2, 1, (.c (.bool true)))]))⟩,
 ⟨none, none, (.e (.store 7 (.t 2) (.t 11)))⟩,
 ⟨some 3, none, (.p (.move (.c (.bool true))))⟩]) .ret) (.seq (.reg 
[⟨some 13, none, (.p (.bin .eql .int (.t 4) (.c (.int .i64 4))))⟩,
 ⟨some 12, none, (.p (.move (.t 13)))⟩]) (.cond (.t 12) (.seq (.reg 
[⟨some 14, none, (.p (.build [(.int .i64 0), (.int .i64 0), (.bool false), (.bool false), (.bool false), (.bool false), (.bool false)] [(0, 1, (.c (.int .i64 2))), (2, 1, (.c (.bool true)))]))⟩,
 ⟨none, none, (.e (.store 7 (.t 2) (.t 14)))⟩,
 ⟨some 3, none, (.p (.move (.c (.bool true))))⟩]) .ret) (.seq (.reg 
[⟨some 16, none, (.p (.bin .eql .int (.t 4) (.c (.int .i64 5))))⟩,
 ⟨some 15, none, (.p (.move (.t 16)))⟩]) (.cond (.t 15) (.seq (.reg 
[⟨some 17, none, (.p (.build [(.int .i64 0), (.int .i64 0), (.bool false), (.bool false), (.bool false), (.bool false), (.bool false)] [(0, 1, (.c (.int .i64 3)))]))⟩,
 ⟨none, none, (.e (.store 7 (.t 2) (.t 17)))⟩,
 ⟨some 3, none, (.p (.move (.c (.bool true))))⟩]) .ret) (.seq (.seq (.reg 
[⟨some 19, none, (.p (.bin .eql .int (.t 4) (.c (.int .i64 6))))⟩,
 ⟨some 18, none, (.p (.move (.t 19)))⟩]) (.cond (.t 18) .skip (.seq (.reg 
[⟨some 20, none, (.p (.bin .eql .int (.t 4) (.c (.int .i64 18))))⟩,
 ⟨some 18, none, (.p (.move (.t 20)))⟩]) (.cond (.t 18) .skip (.reg 
[⟨some 21, none, (.p (.bin .eql .int (.t 4) (.c (.int .i64 19))))⟩,
 ⟨some 18, none, (.p (.move (.t 21)))⟩]))))) (.cond (.t 18) (.seq (.reg 
[⟨some 22, none, (.p (.build [(.int .i64 0), (.int .i64 0), (.bool false), (.bool false), (.bool false), (.bool false), (.bool false)] [(0, 1, (.c (.int .i64 2)))]))⟩,
 ⟨none, none, (.e (.store 7 (.t 2) (.t 22)))⟩,
 ⟨some 3, none, (.p (.move (.c (.bool true))))⟩]) .ret) (.seq (.reg 
[⟨some 24, none, (.p (.bin .eql .int (.t 4) (.c (.int .i64 7))))⟩,
 ⟨some 23, none, (.p (.move (.t 24)))⟩]) (.cond (.t 23) (.seq (.reg 
[⟨some 25, none, (.p (.build [(.int .i64 0), (.int .i64 0), (.bool false), (.bool false), (.bool false), (.bool false), (.bool false)] [(0, 1, (.c (.int .i64 1))), (1, 1, (.c (.int .i64 1)))]))⟩,
 ⟨none, none, (.e (.store 7 (.t 2) (.t 25)))⟩,
 ⟨some 3, none, (.p (.move (.c (.bool true))))⟩]) .ret) (.seq (.reg 
[⟨some 27, none, (.p (.bin .eql .int (.t 4) (.c (.int .i64 8))))⟩,
 ⟨some 26, none, (.p (.move (.t 27)))⟩]) (.cond (.t 26) (.seq (.reg 
[⟨some 28, none, (.p (.build [(.int .i64 0), (.int .i64 0), (.bool false), (.bool false), (.bool false), (.bool false), (.bool false)] [(0, 1, (.c (.int .i64 2))), (2, 1, (.c (.bool true)))]))⟩,
 ⟨none, none, (.e (.store 7 (.t 2) (.t 28)))⟩,
 ⟨some 3, none, (.p (.move (.c (.bool true))))⟩]) .ret) (.seq (.reg 
[⟨some 30, none, (.p (.bin .eql .int (.t 4) (.c (.int .i64 9))))⟩,
 ⟨some 29, none, (.p (.move (.t 30)))⟩]) (.cond (.t 29) (.seq (.reg 
[⟨some 31, none, (.p (.build [(.int .i64 0), (.int .i64 0), (.bool false), (.bool false), (.bool false), (.bool false), (.bool false)] [(0, 1, (.c (.int .i64 (-1)))), (1, 1, (.c (.int .i64 (-1)))), (2, 1, (.c (.bool true)))]))⟩,
 ⟨none, none, (.e (.store 7 (.t 2) (.t 31)))⟩,
 ⟨some 3, none, (.p (.move (.c (.bool true))))⟩]) .ret) (.seq (.reg 
[⟨some 33, none, (.p (.bin .eql .int (.t 4) (.c (.int .i64 10))))⟩,
 ⟨some 32, none, (.p (.move (.t 33)))⟩]) (.cond (.t 32) (.seq (.reg 
[⟨some 34, none, (.p (.build [(.int .i64 0), (.int .i64 0), (.bool false), (.bool false), (.bool false), (.bool false), (.bool false)] [(0, 1, (.c (.int .i64 (-1)))), (1, 1, (.c (.int .i64 1))), (2, 1, (.c (.bool true))), (3, 1, (.c (.bool true)))]))⟩,
 ⟨none, none, (.e (.store 7 (.t 2) (.t 34)))⟩,
 ⟨some 3, none, (.p (.move (.c (.bool true))))⟩]) .ret) (.seq (.reg 
[⟨some 36, none, (.p (.bin .eql .int (.t 4) (.c (.int .i64 11))))⟩,
 ⟨some 35, none, (.p (.move (.t 36)))⟩]) (.cond (.t 35) (.seq (.reg 
[⟨some 37, none, (.p (.build [(.int .i64 0), (.int .i64 0), (.bool false), (.bool false), (.bool false), (.bool false), (.bool false)] [(0, 1, (.c (.int .i64 (-1)))), (1, 1, (.c (.int .i64 (-1)))), (2, 1, (.c (.bool true))), (5, 1, (.c (.bool true)))]))⟩,
 ⟨none, none, (.e (.store 7 (.t 2) (.t 37)))⟩,
 ⟨some 3, none, (.p (.move (.c (.bool true))))⟩]) .ret) (.seq (.reg 
[⟨some 39, none, (.p (.bin .eql .int (.t 4) (.c (.int .i64 12))))⟩,
 ⟨some 38, none, (.p (.move (.t 39)))⟩]) (.cond (.t 38) (.seq (.reg 
[⟨some 40, none, (.p (.build [(.int .i64 0), (.int .i64 0), (.bool false), (.bool false), (.bool false), (.bool false), (.bool false)] [(0, 1, (.c (.int .i64 1))), (3, 1, (.c (.bool true)))]))⟩,
 ⟨none, none, (.e (.store 7 (.t 2) (.t 40)))⟩,
 ⟨some 3, none, (.p (.move (.c (.bool true))))⟩]) .ret) (.seq (.reg 
[⟨some 42, none, (.p (.bin .eql .int (.t 4) (.c (.int .i64 13))))⟩,
 ⟨some 41, none, (.p (.move (.t 42)))⟩]) (.cond (.t 41) (.seq (.reg 
[⟨some 43, none, (.p (.build [(.int .i64 0), (.int .i64 0), (.bool false), (.bool false), (.bool false), (.bool false), (.bool false)] [(0, 1, (.c (.int .i64 (-1)))), (5, 1, (.c (.bool true)))]))⟩,
 ⟨none, none, (.e (.store 7 (.t 2) (.t 43)))⟩,
 ⟨some 3, none, (.p (.move (.c (.bool true))))⟩]) .ret) (.seq (.reg 
[⟨some 45, none, (.p (.bin .eql .int (.t 4) (.c (.int .i64 14))))⟩,
 ⟨some 44, none, (.p (.move (.t 45)))⟩]) (.cond (.t 44) (.seq (.reg 
[⟨some 46, none, (.p (.build [(.int .i64 0), (.int .i64 0), (.bool false), (.bool false), (.bool false), (.bool false), (.bool false)] [(0, 1, (.c (.int .i64 (-1)))), (1, 1, (.c (.int .i64 1))), (3, 1, (.c (.bool true)))]))⟩,
 ⟨none, none, (.e (.store 7 (.t 2) (.t 46)))⟩,
 ⟨some 3, none, (.p (.move (.c (.bool true))))⟩]) .ret) (.seq (.reg 
[⟨some 48, none, (.p (.bin .eql .int (.t 4) (.c (.int .i64 15))))⟩,
 ⟨some 47, none, (.p (.move (.t 48)))⟩]) (.cond (.t 47) (.seq (.reg 
[⟨some 49, none, (.p (.build [(.int .i64 0), (.int .i64 0), (.bool false), (.bool false), (.bool false), (.bool false), (.bool false)] [(0, 1, (.c (.int .i64 (-1)))), (6, 1, (.c (.bool true)))]))⟩,
 ⟨none, none, (.e (.store 7 (.t 2) (.t 49)))⟩,
 ⟨some 3, none, (.p (.move (.c (.bool true))))⟩]) .ret) (.seq (.reg 
[⟨some 51, none, (.p (.bin .eql .int (.t 4) (.c (.int .i64 16))))⟩,
 ⟨some 50, none, (.p (.move (.t 51)))⟩]) (.cond (.t 50) (.seq (.reg 
[⟨some 52, none, (.p (.build [(.int .i64 0), (.int .i64 0), (.bool false), (.bool false), (.bool false), (.bool false), (.bool false)] [(0, 1, (.c (.int .i64 (-1)))), (1, 1, (.c (.int .i64 1)))]))⟩,
 ⟨none, none, (.e (.store 7 (.t 2) (.t 52)))⟩,
 ⟨some 3, none, (.p (.move (.c (.bool true))))⟩]) .ret) (.seq (.seq (.reg 
[⟨some 54, none, (.p (.bin .eql .int (.t 4) (.c (.int .i64 17))))⟩,
 ⟨some 53, none, (.p (.move (.t 54)))⟩]) (.cond (.t 53) .skip (.seq (.reg 
[⟨some 55, none, (.p (.bin .eql .int (.t 4) (.c (.int .i64 23))))⟩,
 ⟨some 53, none, (.p (.move (.t 55)))⟩]) (.cond (.t 53) .skip (.reg 
[⟨some 56, none, (.p (.bin .eql .int (.t 4) (.c (.int .i64 24))))⟩,
 ⟨some 53, none, (.p (.move (.t 56)))⟩]))))) (.cond (.t 53) (.seq (.reg 
[⟨some 57, none, (.p (.build [(.int .i64 0), (.int .i64 0), (.bool false), (.bool false), (.bool false), (.bool false), (.bool false)] [(0, 1, (.c (.int .i64 1)))]))⟩,
 ⟨none, none, (.e (.store 7 (.t 2) (.t 57)))⟩,
 ⟨some 3, none, (.p (.move (.c (.bool true))))⟩]) .ret) (.seq (.reg 
[⟨some 59, none, (.p (.bin .eql .int (.t 4) (.c (.int .i64 20))))⟩,
 ⟨some 58, none, (.p (.move (.t 59)))⟩]) (.cond (.t 58) (.seq (.reg 
[⟨some 60, none, (.p (.build [(.int .i64 0), (.int .i64 0), (.bool false), (.bool false), (.bool false), (.bool false), (.bool false)] [(2, 1, (.c (.bool true))), (4, 1, (.c (.bool true)))]))⟩,
 ⟨none, none, (.e (.store 7 (.t 2) (.t 60)))⟩,
 ⟨some 3, none, (.p (.move (.c (.bool true))))⟩]) .ret) .skip)))))))))))))))))))))))))))))))))))) (.seq (.reg 
[⟨some 61, none, (.p (.build [(.int .i64 0), (.int .i64 0), (.bool false), (.bool false), (.bool false), (.bool false), (.bool false)] []))⟩,
 ⟨none, none, (.e (.store 7 (.t 2) (.t 61)))⟩,
 ⟨some 3, none, (.p (.move (.c (.bool false))))⟩]) .ret))), [.cell 2 7 true, .t 3]⟩
/-- libevolution/libevolutionref02.operator -/
def x312 : XF := ⟨(.seq (.reg 
[⟨some 2, none, (.p (.move (.c (.bool false))))⟩]) (.seq (.reg 
[⟨some 3, none, (.p (.move (.t 0)))⟩,
 ⟨some 4, none, (.p (.bin .eql .str (.t 3) (.c (.str [61, 61]))))⟩,
 ⟨some 5, none, (.p (.move (.t 4)))⟩,
 ⟨some 6, some (5, false), (.p (.move (.t 0)))⟩,
 ⟨some 7, some (5, false), (.p (.bin .eql .str (.t 6) (.c (.str [60]))))⟩,
 ⟨some 8, none, (.p (.pick (.t 5) (.c (.bool true)) (.t 7)))⟩,
 ⟨some 9, none, (.p (.move (.t 8)))⟩,
 ⟨some 10, some (9, false), (.p (.move (.t 0)))⟩,
 ⟨some 11, some (9, false), (.p (.bin .eql .str (.t 10) (.c (.str [43]))))⟩,
 ⟨some 12, none, (.p (.pick (.t 9) (.c (.bool true)) (.t 11)))⟩,
 ⟨some 13, none, (.p (.move (.t 12)))⟩,
 ⟨some 14, some (13, false), (.p (.move (.t 0)))⟩,
 ⟨some 15, some (13, false), (.p (.bin .eql .str (.t 14) (.c (.str [45]))))⟩,
 ⟨some 16, none, (.p (.pick (.t 13) (.c (.bool true)) (.t 15)))⟩,
 ⟨some 17, none, (.p (.move (.t 16)))⟩,
 ⟨some 18, some (17, false), (.p (.move (.t 0)))⟩,
 ⟨some 19, some (17, false), (.p (.bin .eql .str (.t 18) (.c (.str [42]))))⟩,
 ⟨some 20, none, (.p (.pick (.t 17) (.c (.bool true)) (.t 19)))⟩,
 ⟨some 21, none, (.p (.move (.t 20)))⟩,
 ⟨some 22, some (21, false), (.p (.move (.t 0)))⟩,
 ⟨some 23, some (21, false), (.p (.bin .eql .str (.t 22) (.c (.str [47]))))⟩,
 ⟨some 24, none, (.p (.pick (.t 21) (.c (.bool true)) (.t 23)))⟩,
 ⟨some 25, none, (.p (.move (.t 24)))⟩,
 ⟨some 26, some (25, false), (.p (.move (.t 0)))⟩,
 ⟨some 27, some (25, false), (.p (.bin .eql .str (.t 26) (.c (.str [37]))))⟩,
 ⟨some 28, none, (.p (.pick (.t 25) (.c (.bool true)) (.t 27)))⟩,
 ⟨some 2, none, (.p (.move (.t 28)))⟩]) .ret)), [.t 2]⟩
/-- libevolution/libevolutionref02.arms -/
def x313 : XF := ⟨(.seq (.reg 
[⟨some 2, none, (.p (.move (.c (.bool false))))⟩]) (.seq (.seq (.reg 
[⟨some 5, none, (.p (.move (.t 0)))⟩,
 ⟨some 6, none, (.p (.lenl (.t 5)))⟩,
 ⟨some 7, none, (.p (.move (.c (.int .i64 0))))⟩]) (.block 0 (.loop (.seq (.reg 
[⟨some 8, none, (.p (.bin .lss .int (.t 7) (.t 6)))⟩]) (.seq (.cond (.t 8) .skip (.exit 0)) (.seq (.block 1 (.seq (.reg 
[⟨some 9, none, (.p (.move (.t 7)))⟩,
 ⟨some 10, none, (.p (.iaddr 3 (.t 5) (.t 7)))⟩,
 ⟨some 11, none, (.l (.load 3 true (.t 10)))⟩,
 ⟨some 4, none, (.e (.alloc [(.bool false), (.str []), .nils]))⟩,
 ⟨some 3, none, (.p (.move (.t 9)))⟩,
 ⟨none, none, (.e (.store 3 (.t 4) (.t 11)))⟩]) (.block 2 (.seq (.reg 
[⟨some 13, none, (.p (.faddr 0 (.t 4)))⟩,
 ⟨some 14, none, (.l (.load 1 false (.t 13)))⟩,
 ⟨some 15, none, (.p (.move (.t 14)))⟩,
 ⟨some 16, some (15, true), (.p (.move (.t 3)))⟩,
 ⟨some 17, some (15, true), (.p (.bin .add .int (.t 16) (.c (.int .i64 1))))⟩,
 ⟨some 18, some (15, true), (.p (.move (.t 0)))⟩,
 ⟨some 19, some (15, true), (.p (.lenl (.t 18)))⟩,
 ⟨some 20, some (15, true), (.p (.bin .lss .int (.t 17) (.t 19)))⟩,
 ⟨some 21, some (15, true), (.p (.move (.t 20)))⟩,
 ⟨some 22, some (21, false), (.p (.faddr 1 (.t 4)))⟩,
 ⟨some 23, some (21, false), (.l (.load 1 false (.t 22)))⟩,
 ⟨some 24, some (21, false), (.p (.bin .neq .str (.t 23) (.c (.str []))))⟩,
 ⟨some 25, some (15, true), (.p (.pick (.t 21) (.c (.bool true)) (.t 24)))⟩,
 ⟨some 26, some (15, true), (.p (.move (.t 25)))⟩,
 ⟨some 27, some (26, false), (.p (.faddr 2 (.t 4)))⟩,
 ⟨some 28, some (26, false), (.l (.load 1 false (.t 27)))⟩,
 ⟨some 29, some (26, false), (.p (.lenl (.t 28)))⟩,
 ⟨some 30, some (26, false), (.p (.bin .gtr .int (.t 29) (.c (.int .i64 0))))⟩,
 ⟨some 31, some (15, true), (.p (.pick (.t 26) (.c (.bool true)) (.t 30)))⟩,
 ⟨some 32, none, (.p (.pick (.t 15) (.t 31) (.c (.bool false))))⟩,
 ⟨some 12, none, (.p (.move (.t 32)))⟩]) (.cond (.t 12) (.seq (.reg 
[⟨some 2, none, (.p (.move (.c (.bool false))))⟩]) .ret) (.seq (.reg 
[⟨some 34, none, (.p (.faddr 0 (.t 4)))⟩,
 ⟨some 35, none, (.l (.load 1 false (.t 34)))⟩,
 ⟨some 36, none, (.p (.not (.t 35)))⟩,
 ⟨some 37, none, (.p (.move (.t 36)))⟩,
 ⟨some 38, some (37, true), (.p (.faddr 1 (.t 4)))⟩,
 ⟨some 39, some (37, true), (.l (.load 1 false (.t 38)))⟩,
 ⟨some 40, some (37, true), (.e (.call (.c (.fn 121 [] [])) [(.t 39)]))⟩,
 ⟨some 41, some (37, true), (.p (.not (.t 40)))⟩,
 ⟨some 42, some (37, true), (.p (.move (.t 41)))⟩,
 ⟨some 43, some (42, false), (.p (.faddr 2 (.t 4)))⟩,
 ⟨some 44, some (42, false), (.l (.load 1 false (.t 43)))⟩,
 ⟨some 45, some (42, false), (.e (.call (.c (.fn 125 [] [])) [(.t 44)]))⟩,
 ⟨some 46, some (42, false), (.p (.not (.t 45)))⟩,
 ⟨some 47, some (37, true), (.p (.pick (.t 42) (.c (.bool true)) (.t 46)))⟩,
 ⟨some 48, none, (.p (.pick (.t 37) (.t 47) (.c (.bool false))))⟩,
 ⟨some 33, none, (.p (.move (.t 48)))⟩]) (.cond (.t 33) (.seq (.reg 
[⟨some 2, none, (.p (.move (.c (.bool false))))⟩]) .ret) .skip))))))) (.reg 
[⟨some 49, none, (.p (.bin .add .int (.t 7) (.c (.int .i64 1))))⟩,
 ⟨some 7, none, (.p (.move (.t 49)))⟩]))))))) (.seq (.reg 
[⟨some 2, none, (.p (.move (.c (.bool true))))⟩]) .ret))), [.t 2]⟩
/-- (*libevolution/libevolutionref02.parser).qname -/
def x338 : XF := ⟨(.seq (.reg 
[⟨some 2, none, (.p (.move (.c (.str []))))⟩]) (.seq (.reg 
[⟨some 4, none, (.p (.move (.t 0)))⟩,
 ⟨some 5, none, (.e (.call (.c (.fn 246 [] [])) [(.t 4)]))⟩,
 ⟨some 3, none, (.p (.move (.t 5)))⟩]) (.seq (.seq (.reg 
[⟨some 6, none, (.p (.move (.t 0)))⟩,
 ⟨some 7, none, (.e (.call (.c (.fn 243 [] [])) [(.t 6), (.c (.str [46]))]))⟩]) (.cond (.t 7) (.reg 
[⟨some 8, none, (.p (.move (.t 3)))⟩,
 ⟨some 9, none, (.p (.move (.t 0)))⟩,
 ⟨some 10, none, (.e (.call (.c (.fn 246 [] [])) [(.t 9)]))⟩,
 ⟨some 11, none, (.p (.bin .add .str (.c (.str [46])) (.t 10)))⟩,
 ⟨some 12, none, (.p (.bin .add .str (.t 8) (.t 11)))⟩,
 ⟨some 3, none, (.p (.move (.t 12)))⟩]) .skip)) (.seq (.reg 
[⟨some 13, none, (.p (.move (.t 3)))⟩,
 ⟨some 2, none, (.p (.move (.t 13)))⟩]) .ret)))), [.t 2]⟩
/-- (*libevolution/libevolutionref02.parser).generics -/
def x339 : XF := ⟨(.seq (.reg 
[⟨some 2, none, (.p (.move (.c .nils)))⟩]) (.seq (.seq (.reg 
[⟨some 4, none, (.p (.move (.t 0)))⟩,
 ⟨some 5, none, (.e (.call (.c (.fn 243 [] [])) [(.t 4), (.c (.str [91]))]))⟩,
 ⟨some 6, none, (.p (.not (.t 5)))⟩]) (.cond (.t 6) (.seq (.reg 
[⟨some 2, none, (.p (.move (.c .nils)))⟩]) .ret) .skip)) (.seq (.reg 
[⟨some 7, none, (.p (.move (.t 0)))⟩,
 ⟨some 8, none, (.e (.call (.c (.fn 361 [] [])) [(.t 7)]))⟩,
 ⟨some 9, none, (.p (.bslice 2 [(.agg [(.str []), .nils])] [(0, (.t 8))]))⟩,
 ⟨some 3, none, (.p (.move (.t 9)))⟩]) (.seq (.block 0 (.loop (.seq (.seq (.reg 
[⟨some 10, none, (.p (.move (.t 0)))⟩,
 ⟨some 11, none, (.e (.call (.c (.fn 243 [] [])) [(.t 10), (.c (.str [44]))]))⟩]) (.cond (.t 11) .skip (.exit 0))) (.block 1 (.reg 
[⟨some 12, none, (.p (.move (.t 3)))⟩,
 ⟨some 13, none, (.p (.move (.t 0)))⟩,
 ⟨some 14, none, (.e (.call (.c (.fn 361 [] [])) [(.t 13)]))⟩,
 ⟨some 15, none, (.p (.bslice 2 [(.agg [(.str []), .nils])] [(0, (.t 14))]))⟩,
 ⟨some 16, none, (.e (.app 2 40 (.t 12) (.t 15)))⟩,
 ⟨some 3, none, (.p (.move (.t 16)))⟩]))))) (.seq (.reg 
[⟨some 17, none, (.p (.move (.t 0)))⟩,
 ⟨some 18, none, (.e (.call (.c (.fn 247 [] [])) [(.t 17), (.c (.str [93]))]))⟩]) (.seq (.reg 
[⟨some 19, none, (.p (.move (.t 3)))⟩,
 ⟨some 2, none, (.p (.move (.t 19)))⟩]) .ret)))))), [.t 2]⟩
/-- (*libevolution/libevolutionref02.parser).typ -/
def x340 : XF := ⟨(.seq (.reg 
[⟨some 2, none, (.e (.alloc [(.str []), .nils]))⟩]) (.seq (.reg 
[⟨some 3, none, (.e (.alloc [(.str []), .nils]))⟩]) (.seq (.seq (.reg 
[⟨some 5, none, (.p (.move (.t 0)))⟩,
 ⟨some 6, none, (.e (.call (.c (.fn 296 [] [])) [(.t 5), (.c (.int .i64 0))]))⟩,
 ⟨some 4, none, (.p (.move (.t 6)))⟩]) (.seq (.reg 
[⟨some 7, none, (.p (.move (.t 4)))⟩]) (.block 0 (.seq (.seq (.reg 
[⟨some 12, none, (.p (.bin .eql .str (.t 7) (.c (.str [73, 110, 116]))))⟩,
 ⟨some 11, none, (.p (.move (.t 12)))⟩]) (.cond (.t 11) .skip (.seq (.reg 
[⟨some 13, none, (.p (.bin .eql .str (.t 7) (.c (.str [66, 121, 116, 101]))))⟩,
 ⟨some 11, none, (.p (.move (.t 13)))⟩]) (.cond (.t 11) .skip (.seq (.reg 
[⟨some 14, none, (.p (.bin .eql .str (.t 7) (.c (.str [66, 111, 111, 108]))))⟩,
 ⟨some 11, none, (.p (.move (.t 14)))⟩]) (.cond (.t 11) .skip (.seq (.reg 
[⟨some 15, none, (.p (.bin .eql .str (.t 7) (.c (.str [65, 114, 114, 97, 121]))))⟩,
 ⟨some 11, none, (.p (.move (.t 15)))⟩]) (.cond (.t 11) .skip (.reg 
[⟨some 16, none, (.p (.bin .eql .str (.t 7) (.c (.str [83, 101, 108, 102]))))⟩,
 ⟨some 11, none, (.p (.move (.t 16)))⟩]))))))))) (.cond (.t 11) (.seq (.reg 
[⟨some 17, none, (.p (.move (.t 0)))⟩,
 ⟨some 18, none, (.p (.nilc (.t 17)))⟩,
 ⟨some 19, none, (.p (.faddr 4 (.t 18)))⟩,
 ⟨some 20, none, (.l (.load 1 false (.t 19)))⟩,
 ⟨some 21, none, (.p (.bin .eql .int (.t 20) (.c (.int .i64 0))))⟩]) (.cond (.t 21) (.seq (.reg 
[⟨some 22, none, (.p (.move (.t 0)))⟩,
 ⟨some 23, none, (.p (.nilc (.t 22)))⟩,
 ⟨some 24, none, (.p (.faddr 2 (.t 23)))⟩,
 ⟨some 25, none, (.l (.load 1 false (.t 24)))⟩,
 ⟨some 26, none, (.p (.bin .add .int (.t 25) (.c (.int .i64 1))))⟩,
 ⟨some 27, none, (.p (.nilc (.t 22)))⟩,
 ⟨some 28, none, (.p (.faddr 2 (.t 27)))⟩,
 ⟨none, none, (.e (.store 1 (.t 28) (.t 26)))⟩]) (.reg 
[⟨some 29, none, (.p (.move (.t 4)))⟩,
 ⟨some 30, none, (.p (.faddr 0 (.t 3)))⟩,
 ⟨none, none, (.e (.store 1 (.t 30) (.t 29)))⟩])) .skip)) (.reg 
[⟨some 8, none, (.p (.move (.t 0)))⟩,
 ⟨some 9, none, (.e (.call (.c (.fn 338 [] [])) [(.t 8)]))⟩,
 ⟨some 10, none, (.p (.faddr 0 (.t 3)))⟩,
 ⟨none, none, (.e (.store 1 (.t 10) (.t 9)))⟩])))))) (.seq (.seq (.reg 
[⟨some 31, none, (.p (.move (.t 0)))⟩,
 ⟨some 32, none, (.e (.call (.c (.fn 293 [] [])) [(.t 31), (.c (.str [91]))]))⟩]) (.cond (.t 32) (.reg 
[⟨some 33, none, (.p (.move (.t 0)))⟩,
 ⟨some 34, none, (.e (.call (.c (.fn 362 [] [])) [(.t 33)]))⟩,
 ⟨some 35, none, (.p (.faddr 1 (.t 3)))⟩,
 ⟨none, none, (.e (.store 1 (.t 35) (.t 34)))⟩]) .skip)) (.seq (.reg 
[⟨some 36, none, (.l (.load 2 true (.t 3)))⟩,
 ⟨none, none, (.e (.store 2 (.t 2) (.t 36)))⟩]) .ret))))), [.cell 2 2 true]⟩
/-- (*libevolution/libevolutionref02.parser).params -/
def x341 : XF := ⟨(.seq (.reg 
[⟨some 2, none, (.p (.move (.c .nils)))⟩]) (.seq (.seq (.reg 
[⟨some 4, none, (.p (.move (.t 0)))⟩,
 ⟨some 5, none, (.e (.call (.c (.fn 243 [] [])) [(.t 4), (.c (.str [91]))]))⟩,
 ⟨some 6, none, (.p (.not (.t 5)))⟩]) (.cond (.t 6) (.seq (.reg 
[⟨some 2, none, (.p (.move (.c .nils)))⟩]) .ret) .skip)) (.seq (.reg 
[⟨some 7, none, (.p (.move (.t 0)))⟩,
 ⟨some 8, none, (.e (.call (.c (.fn 246 [] [])) [(.t 7)]))⟩,
 ⟨some 9, none, (.p (.bslice 1 [(.str [])] [(0, (.t 8))]))⟩,
 ⟨some 3, none, (.p (.move (.t 9)))⟩]) (.seq (.block 0 (.loop (.seq (.seq (.reg 
[⟨some 10, none, (.p (.move (.t 0)))⟩,
 ⟨some 11, none, (.e (.call (.c (.fn 243 [] [])) [(.t 10), (.c (.str [44]))]))⟩]) (.cond (.t 11) .skip (.exit 0))) (.block 1 (.reg 
[⟨some 12, none, (.p (.move (.t 3)))⟩,
 ⟨some 13, none, (.p (.move (.t 0)))⟩,
 ⟨some 14, none, (.e (.call (.c (.fn 246 [] [])) [(.t 13)]))⟩,
 ⟨some 15, none, (.p (.bslice 1 [(.str [])] [(0, (.t 14))]))⟩,
 ⟨some 16, none, (.e (.app 1 16 (.t 12) (.t 15)))⟩,
 ⟨some 3, none, (.p (.move (.t 16)))⟩]))))) (.seq (.reg 
[⟨some 17, none, (.p (.move (.t 0)))⟩,
 ⟨some 18, none, (.e (.call (.c (.fn 247 [] [])) [(.t 17), (.c (.str [93]))]))⟩]) (.seq (.reg 
[⟨some 19, none, (.p (.move (.t 3)))⟩,
 ⟨some 2, none, (.p (.move (.t 19)))⟩]) .ret)))))), [.t 2]⟩
/-- (*libevolution/libevolutionref02.parser).payload -/
def x342 : XF := ⟨(.seq (.reg 
[⟨some 2, none, (.p (.move (.c .nils)))⟩]) (.seq (.reg 
[⟨some 4, none, (.p (.move (.t 0)))⟩,
 ⟨some 5, none, (.e (.call (.c (.fn 340 [] [])) [(.t 4)]))⟩,
 ⟨some 6, none, (.p (.bslice 2 [(.agg [(.str []), .nils])] [(0, (.t 5))]))⟩,
 ⟨some 3, none, (.p (.move (.t 6)))⟩]) (.seq (.block 0 (.loop (.seq (.seq (.reg 
[⟨some 7, none, (.p (.move (.t 0)))⟩,
 ⟨some 8, none, (.e (.call (.c (.fn 243 [] [])) [(.t 7), (.c (.str [44]))]))⟩]) (.cond (.t 8) .skip (.exit 0))) (.block 1 (.reg 
[⟨some 9, none, (.p (.move (.t 3)))⟩,
 ⟨some 10, none, (.p (.move (.t 0)))⟩,
 ⟨some 11, none, (.e (.call (.c (.fn 340 [] [])) [(.t 10)]))⟩,
 ⟨some 12, none, (.p (.bslice 2 [(.agg [(.str []), .nils])] [(0, (.t 11))]))⟩,
 ⟨some 13, none, (.e (.app 2 40 (.t 9) (.t 12)))⟩,
 ⟨some 3, none, (.p (.move (.t 13)))⟩]))))) (.seq (.reg 
[⟨some 14, none, (.p (.move (.t 3)))⟩,
 ⟨some 2, none, (.p (.move (.t 14)))⟩]) .ret)))), [.t 2]⟩
/-- (*libevolution/libevolutionref02.parser).arg -/
def x343 : XF := ⟨(.seq (.reg 
[⟨some 2, none, (.e (.alloc [(.str []), (.str []), .nils, (.bool false), (.int .i64 0), (.str []), (.str []), (.int .i64 0), .nils, .nils, .nils, .nils, (.str []), .nils, (.int .i64 0)]))⟩]) (.seq (.reg 
[⟨some 4, none, (.p (.move (.t 0)))⟩,
 ⟨some 5, none, (.e (.call (.c (.fn 246 [] [])) [(.t 4)]))⟩,
 ⟨some 6, none, (.p (.build [(.str []), (.str []), .nils, (.bool false), (.int .i64 0), (.str []), (.str []), (.int .i64 0), .nils, .nils, .nils, .nils, (.str []), .nils, (.int .i64 0)] [(0, 1, (.t 5))]))⟩,
 ⟨some 3, none, (.e (.alloc [(.str []), (.str []), .nils, (.bool false), (.int .i64 0), (.str []), (.str []), (.int .i64 0), .nils, .nils, .nils, .nils, (.str []), .nils, (.int .i64 0)]))⟩,
 ⟨none, none, (.e (.store 15 (.t 3) (.t 6)))⟩]) (.seq (.reg 
[⟨some 7, none, (.p (.move (.t 0)))⟩,
 ⟨some 8, none, (.e (.call (.c (.fn 247 [] [])) [(.t 7), (.c (.str [58]))]))⟩]) (.seq (.reg 
[⟨some 9, none, (.p (.move (.t 0)))⟩,
 ⟨some 10, none, (.e (.call (.c (.fn 340 [] [])) [(.t 9)]))⟩,
 ⟨some 11, none, (.p (.faddr 1 (.t 3)))⟩,
 ⟨none, none, (.e (.store 2 (.t 11) (.t 10)))⟩]) (.seq (.seq (.reg 
[⟨some 12, none, (.p (.move (.t 0)))⟩,
 ⟨some 13, none, (.e (.call (.c (.fn 243 [] [])) [(.t 12), (.c (.str [61]))]))⟩]) (.cond (.t 13) (.seq (.reg 
[⟨some 14, none, (.p (.faddr 3 (.t 3)))⟩,
 ⟨none, none, (.e (.store 1 (.t 14) (.c (.bool true))))⟩]) (.seq (.reg 
[⟨some 15, none, (.p (.move (.t 0)))⟩,
 ⟨some 16, none, (.e (.call (.c (.fn 293 [] [])) [(.t 15), (.c (.str [44]))]))⟩,
 ⟨some 17, none, (.p (.not (.t 16)))⟩,
 ⟨some 18, none, (.p (.move (.t 17)))⟩,
 ⟨some 19, some (18, true), (.p (.move (.t 0)))⟩,
 ⟨some 20, some (18, true), (.e (.call (.c (.fn 293 [] [])) [(.t 19), (.c (.str [41]))]))⟩,
 ⟨some 21, some (18, true), (.p (.not (.t 20)))⟩,
 ⟨some 22, none, (.p (.pick (.t 18) (.t 21) (.c (.bool false))))⟩]) (.cond (.t 22) (.reg 
[⟨some 23, none, (.p (.move (.t 0)))⟩,
 ⟨some 24, none, (.e (.call (.c (.fn 344 [] [])) [(.t 23)]))⟩,
 ⟨some 25, none, (.p (.faddr 4 (.t 3)))⟩,
 ⟨none, none, (.e (.store 11 (.t 25) (.t 24)))⟩]) .skip))) .skip)) (.seq (.reg 
[⟨some 26, none, (.l (.load 15 true (.t 3)))⟩,
 ⟨none, none, (.e (.store 15 (.t 2) (.t 26)))⟩]) .ret)))))), [.cell 2 15 true]⟩
/-- (*libevolution/libevolutionref02.parser).expr -/
def x344 : XF := ⟨(.seq (.reg 
[⟨some 2, none, (.e (.alloc [(.int .i64 0), (.str []), (.str []), (.int .i64 0), .nils, .nils, .nils, .nils, (.str []), .nils, (.int .i64 0)]))⟩]) (.seq (.reg 
[⟨some 4, none, (.p (.move (.t 0)))⟩,
 ⟨some 5, none, (.e (.call (.c (.fn 245 [] [])) [(.t 4)]))⟩,
 ⟨some 6, none, (.p (.build [(.int .i64 0), (.str []), (.str []), (.int .i64 0), .nils, .nils, .nils, .nils, (.str []), .nils, (.int .i64 0)] [(10, 1, (.t 5))]))⟩,
 ⟨some 3, none, (.e (.alloc [(.int .i64 0), (.str []), (.str []), (.int .i64 0), .nils, .nils, .nils, .nils, (.str []), .nils, (.int .i64 0)]))⟩,
 ⟨none, none, (.e (.store 11 (.t 3) (.t 6)))⟩]) (.seq (.block 0 (.seq (.reg 
[⟨some 8, none, (.p (.move (.t 0)))⟩,
 ⟨some 9, none, (.e (.call (.c (.fn 243 [] [])) [(.t 8), (.c (.str [108, 101, 116]))]))⟩,
 ⟨some 7, none, (.p (.move (.t 9)))⟩]) (.cond (.t 7) (.seq (.reg 
[⟨some 10, none, (.p (.move (.t 0)))⟩,
 ⟨some 11, none, (.e (.call (.c (.fn 246 [] [])) [(.t 10)]))⟩,
 ⟨some 12, none, (.p (.faddr 0 (.t 3)))⟩,
 ⟨none, none, (.e (.store 1 (.t 12) (.c (.int .i64 4))))⟩,
 ⟨some 13, none, (.p (.faddr 1 (.t 3)))⟩,
 ⟨none, none, (.e (.store 1 (.t 13) (.t 11)))⟩]) (.seq (.reg 
[⟨some 14, none, (.p (.move (.t 0)))⟩,
 ⟨some 15, none, (.e (.call (.c (.fn 247 [] [])) [(.t 14), (.c (.str [61]))]))⟩]) (.seq (.regd [] 
[⟨some 16, none, (.p (.faddr 7 (.t 3)))⟩,
 ⟨some 17, none, (.l (.load 1 false (.t 16)))⟩,
 ⟨some 18, none, (.p (.move (.t 0)))⟩,
 ⟨some 19, none, (.e (.call (.c (.fn 344 [] [])) [(.t 18)]))⟩,
 ⟨some 20, none, (.p (.bslice 11 [(.agg [(.int .i64 0), (.str []), (.str []), (.int .i64 0), .nils, .nils, .nils, .nils, (.str []), .nils, (.int .i64 0)])] [(0, (.t 19))]))⟩,
 ⟨some 21, none, (.e (.app 11 192 (.t 17) (.t 20)))⟩,
 ⟨some 22, none, (.p (.faddr 7 (.t 3)))⟩,
 ⟨none, none, (.e (.store 1 (.t 22) (.t 21)))⟩] [(1, 3)]) (.seq (.reg 
[⟨some 23, none, (.p (.move (.t 0)))⟩,
 ⟨some 24, none, (.e (.call (.c (.fn 247 [] [])) [(.t 23), (.c (.str [105, 110]))]))⟩]) (.regd [] 
[⟨some 25, none, (.p (.faddr 7 (.t 3)))⟩,
 ⟨some 26, none, (.l (.load 1 false (.t 25)))⟩,
 ⟨some 27, none, (.p (.move (.t 0)))⟩,
 ⟨some 28, none, (.e (.call (.c (.fn 344 [] [])) [(.t 27)]))⟩,
 ⟨some 29, none, (.p (.bslice 11 [(.agg [(.int .i64 0), (.str []), (.str []), (.int .i64 0), .nils, .nils, .nils, .nils, (.str []), .nils, (.int .i64 0)])] [(0, (.t 28))]))⟩,
 ⟨some 30, none, (.e (.app 11 192 (.t 26) (.t 29)))⟩,
 ⟨some 31, none, (.p (.faddr 7 (.t 3)))⟩,
 ⟨none, none, (.e (.store 1 (.t 31) (.t 30)))⟩] [(1, 3)]))))) (.seq (.reg 
[⟨some 33, none, (.p (.move (.t 0)))⟩,
 ⟨some 34, none, (.e (.call (.c (.fn 243 [] [])) [(.t 33), (.c (.str [105, 102]))]))⟩,
 ⟨some 32, none, (.p (.move (.t 34)))⟩]) (.cond (.t 32) (.seq (.reg 
[⟨some 35, none, (.p (.faddr 0 (.t 3)))⟩,
 ⟨none, none, (.e (.store 1 (.t 35) (.c (.int .i64 5))))⟩]) (.seq (.regd [] 
[⟨some 36, none, (.p (.faddr 7 (.t 3)))⟩,
 ⟨some 37, none, (.l (.load 1 false (.t 36)))⟩,
 ⟨some 38, none, (.p (.move (.t 0)))⟩,
 ⟨some 39, none, (.e (.call (.c (.fn 344 [] [])) [(.t 38)]))⟩,
 ⟨some 40, none, (.p (.bslice 11 [(.agg [(.int .i64 0), (.str []), (.str []), (.int .i64 0), .nils, .nils, .nils, .nils, (.str []), .nils, (.int .i64 0)])] [(0, (.t 39))]))⟩,
 ⟨some 41, none, (.e (.app 11 192 (.t 37) (.t 40)))⟩,
 ⟨some 42, none, (.p (.faddr 7 (.t 3)))⟩,
 ⟨none, none, (.e (.store 1 (.t 42) (.t 41)))⟩] [(1, 3)]) (.seq (.reg 
[⟨some 43, none, (.p (.move (.t 0)))⟩,
 ⟨some 44, none, (.e (.call (.c (.fn 247 [] [])) [(.t 43), (.c (.str [116, 104, 101, 110]))]))⟩]) (.seq (.regd [] 
[⟨some 45, none, (.p (.faddr 7 (.t 3)))⟩,
 ⟨some 46, none, (.l (.load 1 false (.t 45)))⟩,
 ⟨some 47, none, (.p (.move (.t 0)))⟩,
 ⟨some 48, none, (.e (.call (.c (.fn 344 [] [])) [(.t 47)]))⟩,
 ⟨some 49, none, (.p (.bslice 11 [(.agg [(.int .i64 0), (.str []), (.str []), (.int .i64 0), .nils, .nils, .nils, .nils, (.str []), .nils, (.int .i64 0)])] [(0, (.t 48))]))⟩,
 ⟨some 50, none, (.e (.app 11 192 (.t 46) (.t 49)))⟩,
 ⟨some 51, none, (.p (.faddr 7 (.t 3)))⟩,
 ⟨none, none, (.e (.store 1 (.t 51) (.t 50)))⟩] [(1, 3)]) (.seq (.reg 
[⟨some 52, none, (.p (.move (.t 0)))⟩,
 ⟨some 53, none, (.e (.call (.c (.fn 247 [] [])) [(.t 52), (.c (.str [101, 108, 115, 101]))]))⟩]) (.regd [] 
[⟨some 54, none, (.p (.faddr 7 (.t 3)))⟩,
 ⟨some 55, none, (.l (.load 1 false (.t 54)))⟩,
 ⟨some 56, none, (.p (.move (.t 0)))⟩,
 ⟨some 57, none, (.e (.call (.c (.fn 344 [] [])) [(.t 56)]))⟩,
 ⟨some 58, none, (.p (.bslice 11 [(.agg [(.int .i64 0), (.str []), (.str []), (.int .i64 0), .nils, .nils, .nils, .nils, (.str []), .nils, (.int .i64 0)])] [(0, (.t 57))]))⟩,
 ⟨some 59, none, (.e (.app 11 192 (.t 55) (.t 58)))⟩,
 ⟨some 60, none, (.p (.faddr 7 (.t 3)))⟩,
 ⟨none, none, (.e (.store 1 (.t 60) (.t 59)))⟩] [(1, 3)])))))) (.seq (.reg 
[⟨some 62, none, (.p (.move (.t 0)))⟩,
 ⟨some 63, none, (.e (.call (.c (.fn 243 [] [])) [(.t 62), (.c (.str [112, 114, 105, 110, 116]))]))⟩,
 ⟨some 61, none, (.p (.move (.t 63)))⟩]) (.cond (.t 61) (.seq (.reg 
[⟨some 64, none, (.p (.faddr 0 (.t 3)))⟩,
 ⟨none, none, (.e (.store 1 (.t 64) (.c (.int .i64 6))))⟩]) (.seq (.regd [] 
[⟨some 65, none, (.p (.faddr 7 (.t 3)))⟩,
 ⟨some 66, none, (.l (.load 1 false (.t 65)))⟩,
 ⟨some 67, none, (.p (.move (.t 0)))⟩,
 ⟨some 68, none, (.e (.call (.c (.fn 344 [] [])) [(.t 67)]))⟩,
 ⟨some 69, none, (.p (.bslice 11 [(.agg [(.int .i64 0), (.str []), (.str []), (.int .i64 0), .nils, .nils, .nils, .nils, (.str []), .nils, (.int .i64 0)])] [(0, (.t 68))]))⟩,
 ⟨some 70, none, (.e (.app 11 192 (.t 66) (.t 69)))⟩,
 ⟨some 71, none, (.p (.faddr 7 (.t 3)))⟩,
 ⟨none, none, (.e (.store 1 (.t 71) (.t 70)))⟩] [(1, 3)]) (.seq (.reg 
[⟨some 72, none, (.p (.move (.t 0)))⟩,
 ⟨some 73, none, (.e (.call (.c (.fn 247 [] [])) [(.t 72), (.c (.str [105, 110]))]))⟩]) (.regd [] 
[⟨some 74, none, (.p (.faddr 7 (.t 3)))⟩,
 ⟨some 75, none, (.l (.load 1 false (.t 74)))⟩,
 ⟨some 76, none, (.p (.move (.t 0)))⟩,
 ⟨some 77, none, (.e (.call (.c (.fn 344 [] [])) [(.t 76)]))⟩,
 ⟨some 78, none, (.p (.bslice 11 [(.agg [(.int .i64 0), (.str []), (.str []), (.int .i64 0), .nils, .nils, .nils, .nils, (.str []), .nils, (.int .i64 0)])] [(0, (.t 77))]))⟩,
 ⟨some 79, none, (.e (.app 11 192 (.t 75) (.t 78)))⟩,
 ⟨some 80, none, (.p (.faddr 7 (.t 3)))⟩,
 ⟨none, none, (.e (.store 1 (.t 80) (.t 79)))⟩] [(1, 3)])))) (.seq (.reg 
[⟨some 82, none, (.p (.move (.t 0)))⟩,
 ⟨some 83, none, (.p (.nilc (.t 82)))⟩,
 ⟨some 84, none, (.p (.faddr 4 (.t 83)))⟩,
 ⟨some 85, none, (.l (.load 1 false (.t 84)))⟩,
 ⟨some 86, none, (.p (.bin .eql .int (.t 85) (.c (.int .i64 0))))⟩,
 ⟨some 81, none, (.p (.move (.t 86)))⟩]) (.cond (.t 81) (.seq (.reg 
[⟨some 87, none, (.p (.move (.t 0)))⟩,
 ⟨some 88, none, (.e (.call (.c (.fn 363 [] [])) [(.t 87)]))⟩,
 ⟨none, none, (.e (.store 11 (.t 2) (.t 88)))⟩]) .ret) .skip))))))))) (.seq (.reg 
[⟨some 89, none, (.l (.load 11 true (.t 3)))⟩,
 ⟨none, none, (.e (.store 11 (.t 2) (.t 89)))⟩]) .ret)))), [.cell 2 11 true]⟩
/-- (*libevolution/libevolutionref02.parser).generic -/
def x361 : XF := ⟨(.seq (.reg 
[⟨some 2, none, (.e (.alloc [(.str []), .nils]))⟩]) (.seq (.reg 
[⟨some 4, none, (.p (.move (.t 0)))⟩,
 ⟨some 5, none, (.e (.call (.c (.fn 246 [] [])) [(.t 4)]))⟩,
 ⟨some 6, none, (.p (.build [(.str []), .nils] [(0, 1, (.t 5))]))⟩,
 ⟨some 3, none, (.e (.alloc [(.str []), .nils]))⟩,
 ⟨none, none, (.e (.store 2 (.t 3) (.t 6)))⟩]) (.seq (.seq (.reg 
[⟨some 7, none, (.p (.move (.t 0)))⟩,
 ⟨some 8, none, (.e (.call (.c (.fn 243 [] [])) [(.t 7), (.c (.str [58]))]))⟩]) (.cond (.t 8) (.seq (.regd [] 
[⟨some 9, none, (.p (.faddr 1 (.t 3)))⟩,
 ⟨some 10, none, (.l (.load 1 false (.t 9)))⟩,
 ⟨some 11, none, (.p (.move (.t 0)))⟩,
 ⟨some 12, none, (.e (.call (.c (.fn 338 [] [])) [(.t 11)]))⟩,
 ⟨some 13, none, (.p (.bslice 1 [(.str [])] [(0, (.t 12))]))⟩,
 ⟨some 14, none, (.e (.app 1 16 (.t 10) (.t 13)))⟩,
 ⟨some 15, none, (.p (.faddr 1 (.t 3)))⟩,
 ⟨none, none, (.e (.store 1 (.t 15) (.t 14)))⟩] [(1, 3)]) (.block 0 (.loop (.seq (.seq (.reg 
[⟨some 16, none, (.p (.move (.t 0)))⟩,
 ⟨some 17, none, (.e (.call (.c (.fn 243 [] [])) [(.t 16), (.c (.str [43]))]))⟩]) (.cond (.t 17) .skip (.exit 0))) (.block 1 (.regd [] 
[⟨some 18, none, (.p (.faddr 1 (.t 3)))⟩,
 ⟨some 19, none, (.l (.load 1 false (.t 18)))⟩,
 ⟨some 20, none, (.p (.move (.t 0)))⟩,
 ⟨some 21, none, (.e (.call (.c (.fn 338 [] [])) [(.t 20)]))⟩,
 ⟨some 22, none, (.p (.bslice 1 [(.str [])] [(0, (.t 21))]))⟩,
 ⟨some 23, none, (.e (.app 1 16 (.t 19) (.t 22)))⟩,
 ⟨some 24, none, (.p (.faddr 1 (.t 3)))⟩,
 ⟨none, none, (.e (.store 1 (.t 24) (.t 23)))⟩] [(1, 3)])))))) .skip)) (.seq (.reg 
[⟨some 25, none, (.l (.load 2 true (.t 3)))⟩,
 ⟨none, none, (.e (.store 2 (.t 2) (.t 25)))⟩]) .ret)))), [.cell 2 2 true]⟩
/-- (*libevolution/libevolutionref02.parser).types -/
def x362 : XF := ⟨(.seq (.reg 
[⟨some 2, none, (.p (.move (.c .nils)))⟩]) (.seq (.reg 
[⟨some 4, none, (.p (.move (.t 0)))⟩,
 ⟨some 5, none, (.e (.call (.c (.fn 247 [] [])) [(.t 4), (.c (.str [91]))]))⟩]) (.seq (.reg 
[⟨some 6, none, (.p (.move (.t 0)))⟩,
 ⟨some 7, none, (.e (.call (.c (.fn 340 [] [])) [(.t 6)]))⟩,
 ⟨some 8, none, (.p (.bslice 2 [(.agg [(.str []), .nils])] [(0, (.t 7))]))⟩,
 ⟨some 3, none, (.p (.move (.t 8)))⟩]) (.seq (.block 0 (.loop (.seq (.seq (.reg 
[⟨some 9, none, (.p (.move (.t 0)))⟩,
 ⟨some 10, none, (.e (.call (.c (.fn 243 [] [])) [(.t 9), (.c (.str [44]))]))⟩]) (.cond (.t 10) .skip (.exit 0))) (.block 1 (.reg 
[⟨some 11, none, (.p (.move (.t 3)))⟩,
 ⟨some 12, none, (.p (.move (.t 0)))⟩,
 ⟨some 13, none, (.e (.call (.c (.fn 340 [] [])) [(.t 12)]))⟩,
 ⟨some 14, none, (.p (.bslice 2 [(.agg [(.str []), .nils])] [(0, (.t 13))]))⟩,
 ⟨some 15, none, (.e (.app 2 40 (.t 11) (.t 14)))⟩,
 ⟨some 3, none, (.p (.move (.t 15)))⟩]))))) (.seq (.reg 
[⟨some 16, none, (.p (.move (.t 0)))⟩,
 ⟨some 17, none, (.e (.call (.c (.fn 247 [] [])) [(.t 16), (.c (.str [93]))]))⟩]) (.seq (.reg 
[⟨some 18, none, (.p (.move (.t 3)))⟩,
 ⟨some 2, none, (.p (.move (.t 18)))⟩]) .ret)))))), [.t 2]⟩
/-- (*libevolution/libevolutionref02.parser).compare -/
def x363 : XF := ⟨(.seq (.reg 
[⟨some 2, none, (.e (.alloc [(.int .i64 0), (.str []), (.str []), (.int .i64 0), .nils, .nils, .nils, .nils, (.str []), .nils, (.int .i64 0)]))⟩]) (.seq (.reg 
[⟨some 6, none, (.p (.move (.t 0)))⟩,
 ⟨some 7, none, (.e (.call (.c (.fn 366 [] [])) [(.t 6)]))⟩,
 ⟨some 3, none, (.e (.alloc [(.int .i64 0), (.str []), (.str []), (.int .i64 0), .nils, .nils, .nils, .nils, (.str []), .nils, (.int .i64 0)]))⟩,
 ⟨none, none, (.e (.store 11 (.t 3) (.t 7)))⟩]) (.seq (.seq (.reg 
[⟨some 8, none, (.p (.bslice 1 [(.str []), (.str [])] [(0, (.c (.str [61, 61]))), (1, (.c (.str [60])))]))⟩,
 ⟨some 9, none, (.p (.lenl (.t 8)))⟩,
 ⟨some 10, none, (.p (.move (.c (.int .i64 0))))⟩]) (.block 0 (.loop (.seq (.reg 
[⟨some 11, none, (.p (.bin .lss .int (.t 10) (.t 9)))⟩]) (.seq (.cond (.t 11) .skip (.exit 0)) (.seq (.block 1 (.seq (.reg 
[⟨some 12, none, (.p (.iaddr 1 (.t 8) (.t 10)))⟩,
 ⟨some 13, none, (.l (.load 1 false (.t 12)))⟩,
 ⟨some 5, none, (.p (.move (.t 13)))⟩]) (.seq (.reg 
[⟨some 14, none, (.p (.move (.t 0)))⟩,
 ⟨some 15, none, (.p (.move (.t 5)))⟩,
 ⟨some 16, none, (.e (.call (.c (.fn 243 [] [])) [(.t 14), (.t 15)]))⟩]) (.cond (.t 16) (.seq (.regd [] 
[⟨some 17, none, (.p (.move (.t 5)))⟩,
 ⟨some 18, none, (.l (.load 11 true (.t 3)))⟩,
 ⟨some 19, none, (.p (.move (.t 0)))⟩,
 ⟨some 20, none, (.e (.call (.c (.fn 366 [] [])) [(.t 19)]))⟩,
 ⟨some 21, none, (.e (.call (.c (.fn 367 [] [])) [(.t 17), (.t 18), (.t 20)]))⟩,
 ⟨none, none, (.e (.store 11 (.t 2) (.t 21)))⟩] [(1, 3)]) .ret) .skip)))) (.reg 
[⟨some 22, none, (.p (.bin .add .int (.t 10) (.c (.int .i64 1))))⟩,
 ⟨some 10, none, (.p (.move (.t 22)))⟩]))))))) (.seq (.reg 
[⟨some 23, none, (.l (.load 11 true (.t 3)))⟩,
 ⟨none, none, (.e (.store 11 (.t 2) (.t 23)))⟩]) .ret)))), [.cell 2 11 true]⟩
/-- (*libevolution/libevolutionref02.parser).sum -/
def x366 : XF := ⟨(.seq (.reg 
[⟨some 2, none, (.e (.alloc [(.int .i64 0), (.str []), (.str []), (.int .i64 0), .nils, .nils, .nils, .nils, (.str []), .nils, (.int .i64 0)]))⟩]) (.seq (.reg 
[⟨some 5, none, (.p (.move (.t 0)))⟩,
 ⟨some 6, none, (.e (.call (.c (.fn 368 [] [])) [(.t 5)]))⟩,
 ⟨some 3, none, (.e (.alloc [(.int .i64 0), (.str []), (.str []), (.int .i64 0), .nils, .nils, .nils, .nils, (.str []), .nils, (.int .i64 0)]))⟩,
 ⟨none, none, (.e (.store 11 (.t 3) (.t 6)))⟩]) (.seq (.block 0 (.loop (.seq (.seq (.reg 
[⟨some 7, none, (.p (.move (.t 0)))⟩,
 ⟨some 8, none, (.e (.call (.c (.fn 293 [] [])) [(.t 7), (.c (.str [43]))]))⟩,
 ⟨some 9, none, (.p (.move (.t 8)))⟩,
 ⟨some 10, some (9, false), (.p (.move (.t 0)))⟩,
 ⟨some 11, some (9, false), (.e (.call (.c (.fn 293 [] [])) [(.t 10), (.c (.str [45]))]))⟩,
 ⟨some 12, none, (.p (.pick (.t 9) (.c (.bool true)) (.t 11)))⟩]) (.cond (.t 12) .skip (.exit 0))) (.block 1 (.seq (.reg 
[⟨some 13, none, (.p (.move (.t 0)))⟩,
 ⟨some 14, none, (.e (.call (.c (.fn 296 [] [])) [(.t 13), (.c (.int .i64 0))]))⟩,
 ⟨some 4, none, (.p (.move (.t 14)))⟩]) (.seq (.reg 
[⟨some 15, none, (.p (.move (.t 0)))⟩,
 ⟨some 16, none, (.p (.nilc (.t 15)))⟩,
 ⟨some 17, none, (.p (.faddr 2 (.t 16)))⟩,
 ⟨some 18, none, (.l (.load 1 false (.t 17)))⟩,
 ⟨some 19, none, (.p (.bin .add .int (.t 18) (.c (.int .i64 1))))⟩,
 ⟨some 20, none, (.p (.nilc (.t 15)))⟩,
 ⟨some 21, none, (.p (.faddr 2 (.t 20)))⟩,
 ⟨none, none, (.e (.store 1 (.t 21) (.t 19)))⟩]) (.regd [] 
[⟨some 22, none, (.p (.move (.t 4)))⟩,
 ⟨some 23, none, (.l (.load 11 true (.t 3)))⟩,
 ⟨some 24, none, (.p (.move (.t 0)))⟩,
 ⟨some 25, none, (.e (.call (.c (.fn 368 [] [])) [(.t 24)]))⟩,
 ⟨some 26, none, (.e (.call (.c (.fn 367 [] [])) [(.t 22), (.t 23), (.t 25)]))⟩,
 ⟨none, none, (.e (.store 11 (.t 3) (.t 26)))⟩] [(1, 3)]))))))) (.seq (.reg 
[⟨some 27, none, (.l (.load 11 true (.t 3)))⟩,
 ⟨none, none, (.e (.store 11 (.t 2) (.t 27)))⟩]) .ret)))), [.cell 2 11 true]⟩
/-- libevolution/libevolutionref02.binary -/
def x367 : XF := ⟨(.seq (.reg 
[⟨some 4, none, (.e (.box 11 (.t 1)))⟩,
 ⟨some 5, none, (.e (.box 11 (.t 2)))⟩,
 ⟨some 6, none, (.e (.alloc [(.int .i64 0), (.str []), (.str []), (.int .i64 0), .nils, .nils, .nils, .nils, (.str []), .nils, (.int .i64 0)]))⟩]) (.seq (.reg 
[⟨some 7, none, (.p (.move (.t 0)))⟩,
 ⟨some 8, none, (.l (.load 11 true (.t 4)))⟩,
 ⟨some 9, none, (.l (.load 11 true (.t 5)))⟩,
 ⟨some 10, none, (.p (.bslice 11 [(.agg [(.int .i64 0), (.str []), (.str []), (.int .i64 0), .nils, .nils, .nils, .nils, (.str []), .nils, (.int .i64 0)]), (.agg [(.int .i64 0), (.str []), (.str []), (.int .i64 0), .nils, .nils, .nils, .nils, (.str []), .nils, (.int .i64 0)])] [(0, (.t 8)), (1, (.t 9))]))⟩,
 ⟨some 11, none, (.p (.faddr 10 (.t 4)))⟩,
 ⟨some 12, none, (.l (.load 1 false (.t 11)))⟩,
 ⟨some 13, none, (.p (.build [(.int .i64 0), (.str []), (.str []), (.int .i64 0), .nils, .nils, .nils, .nils, (.str []), .nils, (.int .i64 0)] [(0, 1, (.c (.int .i64 8))), (1, 1, (.t 7)), (7, 1, (.t 10)), (10, 1, (.t 12))]))⟩,
 ⟨none, none, (.e (.store 11 (.t 6) (.t 13)))⟩]) .ret)), [.cell 6 11 true]⟩
/-- (*libevolution/libevolutionref02.parser).term -/
def x368 : XF := ⟨(.seq (.reg 
[⟨some 2, none, (.e (.alloc [(.int .i64 0), (.str []), (.str []), (.int .i64 0), .nils, .nils, .nils, .nils, (.str []), .nils, (.int .i64 0)]))⟩]) (.seq (.reg 
[⟨some 5, none, (.p (.move (.t 0)))⟩,
 ⟨some 6, none, (.e (.call (.c (.fn 369 [] [])) [(.t 5)]))⟩,
 ⟨some 3, none, (.e (.alloc [(.int .i64 0), (.str []), (.str []), (.int .i64 0), .nils, .nils, .nils, .nils, (.str []), .nils, (.int .i64 0)]))⟩,
 ⟨none, none, (.e (.store 11 (.t 3) (.t 6)))⟩]) (.seq (.block 0 (.loop (.seq (.seq (.reg 
[⟨some 7, none, (.p (.move (.t 0)))⟩,
 ⟨some 8, none, (.e (.call (.c (.fn 293 [] [])) [(.t 7), (.c (.str [42]))]))⟩,
 ⟨some 9, none, (.p (.move (.t 8)))⟩,
 ⟨some 10, some (9, false), (.p (.move (.t 0)))⟩,
 ⟨some 11, some (9, false), (.e (.call (.c (.fn 293 [] [])) [(.t 10), (.c (.str [47]))]))⟩,
 ⟨some 12, none, (.p (.pick (.t 9) (.c (.bool true)) (.t 11)))⟩,
 ⟨some 13, none, (.p (.move (.t 12)))⟩,
 ⟨some 14, some (13, false), (.p (.move (.t 0)))⟩,
 ⟨some 15, some (13, false), (.e (.call (.c (.fn 293 [] [])) [(.t 14), (.c (.str [37]))]))⟩,
 ⟨some 16, none, (.p (.pick (.t 13) (.c (.bool true)) (.t 15)))⟩]) (.cond (.t 16) .skip (.exit 0))) (.block 1 (.seq (.reg 
[⟨some 17, none, (.p (.move (.t 0)))⟩,
 ⟨some 18, none, (.e (.call (.c (.fn 296 [] [])) [(.t 17), (.c (.int .i64 0))]))⟩,
 ⟨some 4, none, (.p (.move (.t 18)))⟩]) (.seq (.reg 
[⟨some 19, none, (.p (.move (.t 0)))⟩,
 ⟨some 20, none, (.p (.nilc (.t 19)))⟩,
 ⟨some 21, none, (.p (.faddr 2 (.t 20)))⟩,
 ⟨some 22, none, (.l (.load 1 false (.t 21)))⟩,
 ⟨some 23, none, (.p (.bin .add .int (.t 22) (.c (.int .i64 1))))⟩,
 ⟨some 24, none, (.p (.nilc (.t 19)))⟩,
 ⟨some 25, none, (.p (.faddr 2 (.t 24)))⟩,
 ⟨none, none, (.e (.store 1 (.t 25) (.t 23)))⟩]) (.regd [] 
[⟨some 26, none, (.p (.move (.t 4)))⟩,
 ⟨some 27, none, (.l (.load 11 true (.t 3)))⟩,
 ⟨some 28, none, (.p (.move (.t 0)))⟩,
 ⟨some 29, none, (.e (.call (.c (.fn 369 [] [])) [(.t 28)]))⟩,
 ⟨some 30, none, (.e (.call (.c (.fn 367 [] [])) [(.t 26), (.t 27), (.t 29)]))⟩,
 ⟨none, none, (.e (.store 11 (.t 3) (.t 30)))⟩] [(1, 3)]))))))) (.seq (.reg 
[⟨some 31, none, (.l (.load 11 true (.t 3)))⟩,
 ⟨none, none, (.e (.store 11 (.t 2) (.t 31)))⟩]) .ret)))), [.cell 2 11 true]⟩
/-- (*libevolution/libevolutionref02.parser).postfix -/
def x369 : XF := ⟨(.seq (.reg 
[⟨some 2, none, (.e (.alloc [(.int .i64 0), (.str []), (.str []), (.int .i64 0), .nils, .nils, .nils, .nils, (.str []), .nils, (.int .i64 0)]))⟩]) (.seq (.reg 
[⟨some 4, none, (.p (.move (.t 0)))⟩,
 ⟨some 5, none, (.e (.call (.c (.fn 370 [] [])) [(.t 4)]))⟩,
 ⟨some 3, none, (.e (.alloc [(.int .i64 0), (.str []), (.str []), (.int .i64 0), .nils, .nils, .nils, .nils, (.str []), .nils, (.int .i64 0)]))⟩,
 ⟨none, none, (.e (.store 11 (.t 3) (.t 5)))⟩]) (.block 0 (.loop (.block 1 (.block 2 (.seq (.reg 
[⟨some 8, none, (.p (.move (.t 0)))⟩,
 ⟨some 9, none, (.e (.call (.c (.fn 243 [] [])) [(.t 8), (.c (.str [46]))]))⟩,
 ⟨some 7, none, (.p (.move (.t 9)))⟩]) (.cond (.t 7) (.seq (.reg 
[⟨some 10, none, (.l (.load 11 true (.t 3)))⟩,
 ⟨some 11, none, (.p (.bslice 11 [(.agg [(.int .i64 0), (.str []), (.str []), (.int .i64 0), .nils, .nils, .nils, .nils, (.str []), .nils, (.int .i64 0)])] [(0, (.t 10))]))⟩,
 ⟨some 12, none, (.p (.faddr 10 (.t 3)))⟩,
 ⟨some 13, none, (.l (.load 1 false (.t 12)))⟩,
 ⟨some 14, none, (.p (.build [(.int .i64 0), (.str []), (.str []), (.int .i64 0), .nils, .nils, .nils, .nils, (.str []), .nils, (.int .i64 0)] [(0, 1, (.c (.int .i64 12))), (7, 1, (.t 11)), (10, 1, (.t 13))]))⟩,
 ⟨none, none, (.e (.store 11 (.t 3) (.t 14)))⟩]) (.reg 
[⟨some 15, none, (.p (.move (.t 0)))⟩,
 ⟨some 16, none, (.e (.call (.c (.fn 246 [] [])) [(.t 15)]))⟩,
 ⟨some 17, none, (.p (.faddr 2 (.t 3)))⟩,
 ⟨none, none, (.e (.store 1 (.t 17) (.t 16)))⟩])) (.seq (.reg 
[⟨some 19, none, (.p (.move (.t 0)))⟩,
 ⟨some 20, none, (.e (.call (.c (.fn 243 [] [])) [(.t 19), (.c (.str [119, 105, 116, 104]))]))⟩,
 ⟨some 18, none, (.p (.move (.t 20)))⟩]) (.cond (.t 18) (.seq (.reg 
[⟨some 21, none, (.l (.load 11 true (.t 3)))⟩,
 ⟨some 22, none, (.p (.bslice 11 [(.agg [(.int .i64 0), (.str []), (.str []), (.int .i64 0), .nils, .nils, .nils, .nils, (.str []), .nils, (.int .i64 0)])] [(0, (.t 21))]))⟩,
 ⟨some 23, none, (.p (.faddr 10 (.t 3)))⟩,
 ⟨some 24, none, (.l (.load 1 false (.t 23)))⟩,
 ⟨some 25, none, (.p (.build [(.int .i64 0), (.str []), (.str []), (.int .i64 0), .nils, .nils, .nils, .nils, (.str []), .nils, (.int .i64 0)] [(0, 1, (.c (.int .i64 13))), (7, 1, (.t 22)), (10, 1, (.t 24))]))⟩,
 ⟨none, none, (.e (.store 11 (.t 3) (.t 25)))⟩]) (.seq (.reg 
[⟨some 26, none, (.p (.move (.t 0)))⟩,
 ⟨some 27, none, (.e (.call (.c (.fn 247 [] [])) [(.t 26), (.c (.str [123]))]))⟩]) (.seq (.reg 
[⟨some 28, none, (.p (.move (.t 0)))⟩,
 ⟨some 29, none, (.e (.call (.c (.fn 371 [] [])) [(.t 28), (.t 3)]))⟩]) (.reg 
[⟨some 30, none, (.p (.move (.t 0)))⟩,
 ⟨some 31, none, (.e (.call (.c (.fn 247 [] [])) [(.t 30), (.c (.str [125]))]))⟩])))) (.seq (.reg 
[⟨some 6, none, (.l (.load 11 true (.t 3)))⟩,
 ⟨none, none, (.e (.store 11 (.t 2) (.t 6)))⟩]) .ret))))))))))), [.cell 2 11 true]⟩
end Go.Proofs.YthlkmffimhnehaaGreat
