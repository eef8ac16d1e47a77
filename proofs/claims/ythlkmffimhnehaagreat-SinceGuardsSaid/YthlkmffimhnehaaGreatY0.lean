/- Functions of the program in the evaluator's code, printed by Gen2; no condition. -/
import Derived.Test.YthlkmffimhnehaaGreatMa
namespace Go.Proofs.YthlkmffimhnehaaGreat
open Go Go.Ev
set_option maxRecDepth 10000
/-- libevolution/libevolutionlaw08.SinceGuards -/
def x4 : XF := ⟨(.seq (.reg 
[⟨some 8, none, (.p (.move (.c (.bool false))))⟩]) (.seq (.reg 
[⟨some 19, none, (.p (.move (.t 0)))⟩,
 ⟨some 20, none, (.p (.bin .rem .int (.t 19) (.c (.int .u8 4))))⟩,
 ⟨some 21, none, (.p (.cint .i64 (.t 20)))⟩,
 ⟨some 22, none, (.p (.bin .add .int (.c (.int .i64 1)) (.t 21)))⟩,
 ⟨some 23, none, (.p (.move (.t 1)))⟩,
 ⟨some 24, none, (.p (.bin .rem .int (.t 23) (.c (.int .u8 4))))⟩,
 ⟨some 25, none, (.p (.cint .i64 (.t 24)))⟩,
 ⟨some 26, none, (.p (.bin .add .int (.c (.int .i64 1)) (.t 25)))⟩,
 ⟨some 27, none, (.p (.move (.t 2)))⟩,
 ⟨some 28, none, (.p (.bin .rem .int (.t 27) (.c (.int .u8 4))))⟩,
 ⟨some 29, none, (.p (.cint .i64 (.t 28)))⟩,
 ⟨some 30, none, (.p (.bin .add .int (.c (.int .i64 1)) (.t 29)))⟩,
 ⟨some 9, none, (.p (.move (.t 22)))⟩,
 ⟨some 10, none, (.p (.move (.t 26)))⟩,
 ⟨some 11, none, (.p (.move (.t 30)))⟩]) (.seq (.reg 
[⟨some 12, none, (.p (.move (.c (.str [103, 101, 111, 46, 110, 101, 119, 40, 41]))))⟩]) (.seq (.reg 
[⟨some 31, none, (.p (.move (.t 11)))⟩,
 ⟨some 32, none, (.e (.call (.c (.fn 20 [] [])) [(.t 31)]))⟩,
 ⟨some 33, none, (.p (.bin .add .str (.c (.str [105, 102, 32, 97, 118, 97, 105, 108, 97, 98, 108, 101, 40, 103, 101, 111, 44, 32])) (.t 32)))⟩,
 ⟨some 34, none, (.p (.bin .add .str (.t 33) (.c (.str [41, 32, 116, 104, 101, 110, 32]))))⟩,
 ⟨some 35, none, (.p (.move (.t 12)))⟩,
 ⟨some 36, none, (.p (.bin .add .str (.t 34) (.t 35)))⟩,
 ⟨some 37, none, (.p (.bin .add .str (.t 36) (.c (.str [32, 101, 108, 115, 101, 32, 48]))))⟩,
 ⟨some 38, none, (.p (.move (.t 11)))⟩,
 ⟨some 39, none, (.e (.call (.c (.fn 20 [] [])) [(.t 38)]))⟩,
 ⟨some 40, none, (.p (.bin .add .str (.c (.str [105, 102, 32, 97, 118, 97, 105, 108, 97, 98, 108, 101, 40, 103, 101, 111, 44, 32])) (.t 39)))⟩,
 ⟨some 41, none, (.p (.bin .add .str (.t 40) (.c (.str [41, 32, 116, 104, 101, 110, 32, 48, 32, 101, 108, 115, 101, 32]))))⟩,
 ⟨some 42, none, (.p (.move (.t 12)))⟩,
 ⟨some 43, none, (.p (.bin .add .str (.t 41) (.t 42)))⟩,
 ⟨some 44, none, (.p (.move (.t 11)))⟩,
 ⟨some 45, none, (.e (.call (.c (.fn 20 [] [])) [(.t 44)]))⟩,
 ⟨some 46, none, (.p (.bin .add .str (.c (.str [40, 105, 102, 32, 97, 118, 97, 105, 108, 97, 98, 108, 101, 40, 103, 101, 111, 44, 32])) (.t 45)))⟩,
 ⟨some 47, none, (.p (.bin .add .str (.t 46) (.c (.str [41, 32, 116, 104, 101, 110, 32, 48, 32, 101, 108, 115, 101, 32, 49, 41, 32, 43, 32]))))⟩,
 ⟨some 48, none, (.p (.move (.t 12)))⟩,
 ⟨some 49, none, (.p (.bin .add .str (.t 47) (.t 48)))⟩,
 ⟨some 50, none, (.p (.move (.t 11)))⟩,
 ⟨some 51, none, (.e (.call (.c (.fn 20 [] [])) [(.t 50)]))⟩,
 ⟨some 52, none, (.p (.bin .add .str (.c (.str [105, 102, 32, 97, 118, 97, 105, 108, 97, 98, 108, 101, 40, 103, 101, 111, 44, 32])) (.t 51)))⟩,
 ⟨some 53, none, (.p (.bin .add .str (.t 52) (.c (.str [41, 32, 116, 104, 101, 110, 32, 40, 108, 101, 116, 32, 120, 32, 61, 32, 49, 32, 105, 110, 32, 120, 32, 43, 32]))))⟩,
 ⟨some 54, none, (.p (.move (.t 12)))⟩,
 ⟨some 55, none, (.p (.bin .add .str (.t 53) (.t 54)))⟩,
 ⟨some 56, none, (.p (.bin .add .str (.t 55) (.c (.str [41, 32, 101, 108, 115, 101, 32, 48]))))⟩,
 ⟨some 57, none, (.p (.move (.t 12)))⟩,
 ⟨some 58, none, (.p (.bin .add .str (.c (.str [105, 102, 32, 49, 32, 60, 32, 50, 32, 116, 104, 101, 110, 32])) (.t 57)))⟩,
 ⟨some 59, none, (.p (.bin .add .str (.t 58) (.c (.str [32, 101, 108, 115, 101, 32, 48]))))⟩,
 ⟨some 60, none, (.p (.bslice 1 [(.str []), (.str []), (.str []), (.str []), (.str [])] [(0, (.t 37)), (1, (.t 43)), (2, (.t 49)), (3, (.t 56)), (4, (.t 59))]))⟩,
 ⟨some 13, none, (.p (.move (.t 60)))⟩]) (.seq (.reg 
[⟨some 61, none, (.p (.move (.t 3)))⟩,
 ⟨some 62, none, (.p (.move (.t 13)))⟩,
 ⟨some 63, none, (.p (.lenl (.t 62)))⟩,
 ⟨some 64, none, (.e (.call (.c (.fn 21 [] [])) [(.t 61), (.t 63)]))⟩,
 ⟨some 14, none, (.p (.move (.t 64)))⟩]) (.seq (.regd [] 
[⟨some 65, none, (.p (.move (.t 10)))⟩,
 ⟨some 66, none, (.e (.call (.c (.fn 20 [] [])) [(.t 65)]))⟩,
 ⟨some 67, none, (.p (.bin .add .str (.c (.str [108, 105, 98, 114, 97, 114, 121, 32, 103, 101, 111, 32, 114, 101, 108, 101, 97, 115, 101, 32, 52, 59, 32, 115, 105, 110, 99, 101, 32])) (.t 66)))⟩,
 ⟨some 68, none, (.p (.bin .add .str (.t 67) (.c (.str [32, 112, 117, 98, 108, 105, 99, 32, 102, 117, 110, 99, 32, 110, 101, 119, 40, 41, 58, 32, 73, 110, 116, 32, 61, 32, 49, 59]))))⟩,
 ⟨some 69, none, (.p (.move (.t 9)))⟩,
 ⟨some 70, none, (.e (.call (.c (.fn 20 [] [])) [(.t 69)]))⟩,
 ⟨some 71, none, (.p (.bin .add .str (.c (.str [99, 108, 105, 101, 110, 116, 32, 97, 112, 112, 59, 32, 105, 109, 112, 111, 114, 116, 32, 103, 101, 111, 32])) (.t 70)))⟩,
 ⟨some 72, none, (.p (.bin .add .str (.t 71) (.c (.str [59, 32, 102, 117, 110, 99, 32, 109, 97, 105, 110, 40, 41, 58, 32, 73, 110, 116, 32, 61, 32]))))⟩,
 ⟨some 73, none, (.p (.move (.t 13)))⟩,
 ⟨some 74, none, (.p (.move (.t 14)))⟩,
 ⟨some 75, none, (.p (.iaddr 1 (.t 73) (.t 74)))⟩,
 ⟨some 76, none, (.l (.load 1 false (.t 75)))⟩,
 ⟨some 77, none, (.p (.bin .add .str (.t 72) (.t 76)))⟩,
 ⟨some 78, none, (.p (.bin .add .str (.t 77) (.c (.str [59]))))⟩,
 ⟨some 79, none, (.p (.bslice 1 [(.str []), (.str [])] [(0, (.t 68)), (1, (.t 78))]))⟩,
 ⟨some 80, none, (.e (.call (.c (.fn 22 [] [])) [(.t 79)]))⟩,
 ⟨some 15, none, (.p (.move (.t 80)))⟩] [(11, 1), (11, 5)]) (.seq (.regd [] 
[⟨some 82, none, (.p (.move (.t 15)))⟩,
 ⟨some 83, none, (.p (.iaddr 9 (.t 82) (.c (.int .i64 1))))⟩,
 ⟨some 84, none, (.l (.load 9 true (.t 83)))⟩,
 ⟨some 85, none, (.p (.move (.t 15)))⟩,
 ⟨some 86, none, (.p (.subl 9 (.t 85) none (some (.c (.int .i64 1)))))⟩,
 ⟨some 87, none, (.e (.call (.c (.fn 23 [] [])) [(.t 84), (.t 86)]))⟩,
 ⟨some 81, none, (.p (.move (.t 87)))⟩,
 ⟨some 88, none, (.p (.ext (.t 81) 0))⟩,
 ⟨some 89, none, (.p (.ext (.t 81) 1))⟩,
 ⟨some 16, none, (.p (.move (.t 88)))⟩,
 ⟨some 17, none, (.p (.move (.t 89)))⟩] []) (.seq (.reg 
[⟨some 90, none, (.p (.move (.t 9)))⟩,
 ⟨some 18, none, (.p (.move (.t 90)))⟩]) (.seq (.seq (.reg 
[⟨some 91, none, (.p (.move (.t 14)))⟩,
 ⟨some 92, none, (.p (.bin .eql .int (.t 91) (.c (.int .i64 0))))⟩,
 ⟨some 93, none, (.p (.move (.t 92)))⟩,
 ⟨some 94, some (93, false), (.p (.move (.t 14)))⟩,
 ⟨some 95, some (93, false), (.p (.bin .eql .int (.t 94) (.c (.int .i64 3))))⟩,
 ⟨some 96, none, (.p (.pick (.t 93) (.c (.bool true)) (.t 95)))⟩]) (.cond (.t 96) (.reg 
[⟨some 97, none, (.p (.move (.t 9)))⟩,
 ⟨some 98, none, (.p (.move (.t 11)))⟩,
 ⟨some 99, none, (.p (.max (.t 97) (.t 98)))⟩,
 ⟨some 18, none, (.p (.move (.t 99)))⟩]) .skip)) (.seq (.reg 
[⟨some 100, none, (.p (.move (.t 17)))⟩,
 ⟨some 101, none, (.p (.bin .eql .int (.t 100) (.c (.int .i64 0))))⟩,
 ⟨some 102, none, (.p (.move (.t 10)))⟩,
 ⟨some 103, none, (.p (.move (.t 18)))⟩,
 ⟨some 104, none, (.p (.bin .leq .int (.t 102) (.t 103)))⟩,
 ⟨some 105, none, (.p (.bin .eql .bool (.t 101) (.t 104)))⟩,
 ⟨some 106, none, (.p (.move (.t 105)))⟩,
 ⟨some 107, some (106, true), (.p (.move (.t 17)))⟩,
 ⟨some 108, some (106, true), (.p (.bin .eql .int (.t 107) (.c (.int .i64 0))))⟩,
 ⟨some 109, some (106, true), (.p (.move (.t 108)))⟩,
 ⟨some 110, some (109, false), (.p (.move (.t 17)))⟩,
 ⟨some 111, some (109, false), (.p (.bin .eql .int (.t 110) (.c (.int .i64 16))))⟩,
 ⟨some 112, some (106, true), (.p (.pick (.t 109) (.c (.bool true)) (.t 111)))⟩,
 ⟨some 113, none, (.p (.pick (.t 106) (.t 112) (.c (.bool false))))⟩,
 ⟨some 114, none, (.p (.move (.t 113)))⟩,
 ⟨some 115, some (114, true), (.e (.call (.c (.fn 24 [] [])) []))⟩,
 ⟨some 116, none, (.p (.pick (.t 114) (.t 115) (.c (.bool false))))⟩,
 ⟨some 8, none, (.p (.move (.t 116)))⟩]) .ret)))))))))), [.t 8]⟩
/-- libevolution/libevolutionlaw08.SinceOwn -/
def x6 : XF := ⟨(.seq (.reg 
[⟨some 6, none, (.p (.move (.c (.bool false))))⟩]) (.seq (.reg 
[⟨some 18, none, (.p (.move (.t 0)))⟩,
 ⟨some 19, none, (.p (.bin .rem .int (.t 18) (.c (.int .u8 4))))⟩,
 ⟨some 20, none, (.p (.cint .i64 (.t 19)))⟩,
 ⟨some 21, none, (.p (.bin .add .int (.c (.int .i64 1)) (.t 20)))⟩,
 ⟨some 22, none, (.p (.move (.t 1)))⟩,
 ⟨some 23, none, (.p (.bin .rem .int (.t 22) (.c (.int .u8 4))))⟩,
 ⟨some 24, none, (.p (.cint .i64 (.t 23)))⟩,
 ⟨some 25, none, (.p (.bin .add .int (.c (.int .i64 1)) (.t 24)))⟩,
 ⟨some 7, none, (.p (.move (.t 21)))⟩,
 ⟨some 8, none, (.p (.move (.t 25)))⟩]) (.seq (.reg 
[⟨some 26, none, (.p (.move (.t 7)))⟩,
 ⟨some 27, none, (.p (.bin .add .int (.c (.int .i64 48)) (.t 26)))⟩,
 ⟨some 28, none, (.p (.cint .u8 (.t 27)))⟩,
 ⟨some 29, none, (.p (.bslice 1 [(.int .u8 0)] [(0, (.t 28))]))⟩,
 ⟨some 30, none, (.p (.cbytes (.t 29)))⟩,
 ⟨some 9, none, (.p (.move (.t 30)))⟩]) (.seq (.reg 
[⟨some 31, none, (.p (.move (.t 8)))⟩,
 ⟨some 32, none, (.p (.bin .add .int (.c (.int .i64 48)) (.t 31)))⟩,
 ⟨some 33, none, (.p (.cint .u8 (.t 32)))⟩,
 ⟨some 34, none, (.p (.bslice 1 [(.int .u8 0)] [(0, (.t 33))]))⟩,
 ⟨some 35, none, (.p (.cbytes (.t 34)))⟩,
 ⟨some 10, none, (.p (.move (.t 35)))⟩]) (.seq (.reg 
[⟨some 36, none, (.p (.move (.t 9)))⟩,
 ⟨some 37, none, (.p (.bin .add .str (.c (.str [108, 105, 98, 114, 97, 114, 121, 32, 103, 101, 111, 32, 114, 101, 108, 101, 97, 115, 101, 32, 52, 59, 32, 115, 105, 110, 99, 101, 32])) (.t 36)))⟩,
 ⟨some 38, none, (.p (.bin .add .str (.t 37) (.c (.str [32, 112, 117, 98, 108, 105, 99, 32, 102, 114, 111, 122, 101, 110, 32, 115, 116, 114, 117, 99, 116, 32, 83, 32, 123, 32, 112, 117, 98, 108, 105, 99, 32, 97, 58, 32, 73, 110, 116, 59, 32, 125, 32, 115, 105, 110, 99, 101, 32]))))⟩,
 ⟨some 39, none, (.p (.move (.t 9)))⟩,
 ⟨some 40, none, (.p (.bin .add .str (.t 38) (.t 39)))⟩,
 ⟨some 41, none, (.p (.bin .add .str (.t 40) (.c (.str [32, 112, 117, 98, 108, 105, 99, 32, 102, 117, 110, 99, 32, 110, 101, 119, 40, 41, 58, 32, 73, 110, 116, 32, 61, 32, 49, 59, 32, 115, 105, 110, 99, 101, 32]))))⟩,
 ⟨some 42, none, (.p (.move (.t 10)))⟩,
 ⟨some 43, none, (.p (.bin .add .str (.t 41) (.t 42)))⟩,
 ⟨some 44, none, (.p (.bin .add .str (.t 43) (.c (.str [32, 112, 117, 98, 108, 105, 99, 32]))))⟩,
 ⟨some 11, none, (.p (.move (.t 44)))⟩]) (.seq (.reg 
[⟨some 45, none, (.p (.move (.t 9)))⟩,
 ⟨some 46, none, (.p (.bin .add .str (.c (.str [105, 110, 108, 105, 110, 101, 32, 102, 117, 110, 99, 32, 102, 40, 41, 58, 32, 73, 110, 116, 32, 61, 32, 105, 102, 32, 97, 118, 97, 105, 108, 97, 98, 108, 101, 40, 103, 101, 111, 44, 32])) (.t 45)))⟩,
 ⟨some 47, none, (.p (.bin .add .str (.t 46) (.c (.str [41, 32, 116, 104, 101, 110, 32, 110, 101, 119, 40, 41, 32, 101, 108, 115, 101, 32, 48, 59]))))⟩,
 ⟨some 48, none, (.p (.bslice 1 [(.str []), (.str []), (.str []), (.str []), (.str []), (.str []), (.str [])] [(0, (.c (.str [102, 117, 110, 99, 32, 102, 40, 120, 58, 32, 83, 41, 58, 32, 73, 110, 116, 32, 61, 32, 49, 59]))), (1, (.c (.str [102, 117, 110, 99, 32, 102, 40, 41, 58, 32, 65, 114, 114, 97, 121, 91, 83, 93, 32, 61, 32, 97, 114, 114, 97, 121, 91, 83, 93, 40, 41, 59]))), (2, (.c (.str [105, 110, 108, 105, 110, 101, 32, 102, 117, 110, 99, 32, 102, 40, 41, 58, 32, 73, 110, 116, 32, 61, 32, 110, 101, 119, 40, 41, 59]))), (3, (.c (.str [102, 117, 110, 99, 32, 102, 40, 41, 58, 32, 73, 110, 116, 32, 61, 32, 110, 101, 119, 40, 41, 59]))), (4, (.c (.str [115, 116, 114, 117, 99, 116, 32, 80, 32, 123, 32, 112, 117, 98, 108, 105, 99, 32, 97, 58, 32, 83, 59, 32, 125]))), (5, (.t 47)), (6, (.c (.str [117, 110, 105, 111, 110, 32, 85, 32, 123, 32, 99, 97, 40, 83, 41, 59, 32, 125])))]))⟩,
 ⟨some 12, none, (.p (.move (.t 48)))⟩]) (.seq (.reg 
[⟨some 49, none, (.p (.move (.t 2)))⟩,
 ⟨some 50, none, (.p (.move (.t 12)))⟩,
 ⟨some 51, none, (.p (.lenl (.t 50)))⟩,
 ⟨some 52, none, (.e (.call (.c (.fn 21 [] [])) [(.t 49), (.t 51)]))⟩,
 ⟨some 13, none, (.p (.move (.t 52)))⟩]) (.seq (.reg 
[⟨some 53, none, (.p (.move (.t 11)))⟩,
 ⟨some 54, none, (.p (.move (.t 12)))⟩,
 ⟨some 55, none, (.p (.move (.t 13)))⟩,
 ⟨some 56, none, (.p (.iaddr 1 (.t 54) (.t 55)))⟩,
 ⟨some 57, none, (.l (.load 1 false (.t 56)))⟩,
 ⟨some 58, none, (.p (.bin .add .str (.t 53) (.t 57)))⟩,
 ⟨some 59, none, (.p (.bslice 1 [(.str [])] [(0, (.t 58))]))⟩,
 ⟨some 60, none, (.e (.call (.c (.fn 22 [] [])) [(.t 59)]))⟩,
 ⟨some 61, none, (.p (.iaddr 9 (.t 60) (.c (.int .i64 0))))⟩,
 ⟨some 62, none, (.l (.load 9 true (.t 61)))⟩,
 ⟨some 14, none, (.e (.alloc [(.int .i64 0), (.str []), (.int .i64 0), .nils, .nils, .nils, .nils, .nils, .nils]))⟩,
 ⟨none, none, (.e (.store 9 (.t 14) (.t 62)))⟩]) (.seq (.reg 
[⟨some 64, none, (.l (.load 9 true (.t 14)))⟩,
 ⟨some 65, none, (.e (.call (.c (.fn 23 [] [])) [(.t 64), (.c .nils)]))⟩,
 ⟨some 63, none, (.p (.move (.t 65)))⟩,
 ⟨some 66, none, (.p (.ext (.t 63) 0))⟩,
 ⟨some 67, none, (.p (.ext (.t 63) 1))⟩,
 ⟨some 15, none, (.p (.move (.t 66)))⟩,
 ⟨some 16, none, (.p (.move (.t 67)))⟩]) (.seq (.reg 
[⟨some 68, none, (.p (.move (.t 13)))⟩,
 ⟨some 69, none, (.p (.bin .eql .int (.t 68) (.c (.int .i64 3))))⟩,
 ⟨some 70, none, (.p (.move (.t 69)))⟩,
 ⟨some 71, some (70, false), (.p (.move (.t 13)))⟩,
 ⟨some 72, some (70, false), (.p (.bin .eql .int (.t 71) (.c (.int .i64 5))))⟩,
 ⟨some 73, none, (.p (.pick (.t 70) (.c (.bool true)) (.t 72)))⟩,
 ⟨some 17, none, (.p (.move (.t 73)))⟩]) (.seq (.reg 
[⟨some 74, none, (.p (.faddr 0 (.t 14)))⟩,
 ⟨some 75, none, (.l (.load 1 false (.t 74)))⟩,
 ⟨some 76, none, (.p (.bin .eql .int (.t 75) (.c (.int .i64 1))))⟩,
 ⟨some 77, none, (.p (.move (.t 76)))⟩,
 ⟨some 78, some (77, true), (.p (.move (.t 16)))⟩,
 ⟨some 79, some (77, true), (.p (.bin .eql .int (.t 78) (.c (.int .i64 0))))⟩,
 ⟨some 80, some (77, true), (.p (.move (.t 17)))⟩,
 ⟨some 81, some (77, true), (.p (.move (.t 80)))⟩,
 ⟨some 82, some (81, false), (.p (.move (.t 7)))⟩,
 ⟨some 83, some (81, false), (.p (.move (.t 8)))⟩,
 ⟨some 84, some (81, false), (.p (.bin .leq .int (.t 82) (.t 83)))⟩,
 ⟨some 85, some (77, true), (.p (.pick (.t 81) (.c (.bool true)) (.t 84)))⟩,
 ⟨some 86, some (77, true), (.p (.bin .eql .bool (.t 79) (.t 85)))⟩,
 ⟨some 87, none, (.p (.pick (.t 77) (.t 86) (.c (.bool false))))⟩,
 ⟨some 88, none, (.p (.move (.t 87)))⟩,
 ⟨some 89, some (88, true), (.p (.move (.t 16)))⟩,
 ⟨some 90, some (88, true), (.p (.bin .eql .int (.t 89) (.c (.int .i64 0))))⟩,
 ⟨some 91, some (88, true), (.p (.move (.t 90)))⟩,
 ⟨some 92, some (91, false), (.p (.move (.t 16)))⟩,
 ⟨some 93, some (91, false), (.p (.bin .eql .int (.t 92) (.c (.int .i64 16))))⟩,
 ⟨some 94, some (88, true), (.p (.pick (.t 91) (.c (.bool true)) (.t 93)))⟩,
 ⟨some 95, none, (.p (.pick (.t 88) (.t 94) (.c (.bool false))))⟩,
 ⟨some 96, none, (.p (.move (.t 95)))⟩,
 ⟨some 97, some (96, true), (.e (.call (.c (.fn 24 [] [])) []))⟩,
 ⟨some 98, none, (.p (.pick (.t 96) (.t 97) (.c (.bool false))))⟩,
 ⟨some 6, none, (.p (.move (.t 98)))⟩]) .ret))))))))))), [.t 6]⟩
/-- libevolution/libevolutionref01.Scan -/
def x18 : XF := ⟨(.seq (.reg 
[⟨some 2, none, (.p (.move (.c .nils)))⟩,
 ⟨some 3, none, (.p (.move (.c (.int .i64 0))))⟩,
 ⟨some 4, none, (.p (.move (.c (.int .i64 0))))⟩]) (.seq (.seq (.reg 
[⟨some 8, none, (.p (.move (.t 0)))⟩,
 ⟨some 9, none, (.p (.lens (.t 8)))⟩,
 ⟨some 10, none, (.p (.bin .gtr .int (.t 9) (.c (.int .i64 16384))))⟩]) (.cond (.t 10) (.seq (.reg 
[⟨some 2, none, (.p (.move (.c .nils)))⟩,
 ⟨some 3, none, (.p (.move (.c (.int .i64 0))))⟩,
 ⟨some 4, none, (.p (.move (.c (.int .i64 4))))⟩]) .ret) .skip)) (.seq (.reg 
[⟨some 12, none, (.p (.move (.t 0)))⟩,
 ⟨some 13, none, (.e (.call (.c (.fn 39 [] [])) [(.t 12)]))⟩,
 ⟨some 11, none, (.p (.move (.t 13)))⟩,
 ⟨some 14, none, (.p (.ext (.t 11) 0))⟩,
 ⟨some 15, none, (.p (.ext (.t 11) 1))⟩,
 ⟨some 16, none, (.p (.ext (.t 11) 2))⟩,
 ⟨some 5, none, (.p (.move (.t 14)))⟩,
 ⟨some 6, none, (.p (.move (.t 15)))⟩,
 ⟨some 7, none, (.p (.move (.t 16)))⟩]) (.seq (.seq (.reg 
[⟨some 17, none, (.p (.move (.t 7)))⟩,
 ⟨some 18, none, (.p (.bin .neq .int (.t 17) (.c (.int .i64 0))))⟩]) (.cond (.t 18) (.seq (.reg 
[⟨some 19, none, (.p (.move (.t 6)))⟩,
 ⟨some 20, none, (.p (.move (.t 7)))⟩,
 ⟨some 2, none, (.p (.move (.c .nils)))⟩,
 ⟨some 3, none, (.p (.move (.t 19)))⟩,
 ⟨some 4, none, (.p (.move (.t 20)))⟩]) .ret) .skip)) (.seq (.reg 
[⟨some 21, none, (.p (.move (.t 5)))⟩,
 ⟨some 2, none, (.p (.move (.t 21)))⟩,
 ⟨some 3, none, (.p (.move (.c (.int .i64 0))))⟩,
 ⟨some 4, none, (.p (.move (.c (.int .i64 0))))⟩]) .ret))))), [.t 2, .t 3, .t 4]⟩
/-- libevolution/libevolutionlaw08.digit -/
def x20 : XF := ⟨(.seq (.reg 
[⟨some 2, none, (.p (.move (.c (.str []))))⟩]) (.seq (.reg 
[⟨some 3, none, (.p (.move (.t 0)))⟩,
 ⟨some 4, none, (.p (.bin .add .int (.c (.int .i64 48)) (.t 3)))⟩,
 ⟨some 5, none, (.p (.cint .u8 (.t 4)))⟩,
 ⟨some 6, none, (.p (.bslice 1 [(.int .u8 0)] [(0, (.t 5))]))⟩,
 ⟨some 7, none, (.p (.cbytes (.t 6)))⟩,
 ⟨some 2, none, (.p (.move (.t 7)))⟩]) .ret)), [.t 2]⟩
/-- libevolution/libevolutionmade.Mod -/
def x21 : XF := ⟨(.seq (.reg 
[⟨some 4, none, (.p (.move (.c (.int .i64 0))))⟩]) (.seq (.seq (.reg 
[⟨some 5, none, (.p (.move (.t 1)))⟩,
 ⟨some 6, none, (.p (.bin .lss .int (.t 5) (.c (.int .i64 1))))⟩]) (.cond (.t 6) (.seq (.reg 
[⟨some 4, none, (.p (.move (.c (.int .i64 0))))⟩]) .ret) .skip)) (.seq (.reg 
[⟨some 7, none, (.p (.move (.t 0)))⟩,
 ⟨some 8, none, (.p (.move (.t 1)))⟩,
 ⟨some 9, none, (.p (.bin .rem .int (.t 7) (.t 8)))⟩,
 ⟨some 0, none, (.p (.move (.t 9)))⟩]) (.seq (.seq (.reg 
[⟨some 10, none, (.p (.move (.t 0)))⟩,
 ⟨some 11, none, (.p (.bin .lss .int (.t 10) (.c (.int .i64 0))))⟩]) (.cond (.t 11) (.reg 
[⟨some 12, none, (.p (.move (.t 0)))⟩,
 ⟨some 13, none, (.p (.move (.t 1)))⟩,
 ⟨some 14, none, (.p (.bin .add .int (.t 12) (.t 13)))⟩,
 ⟨some 0, none, (.p (.move (.t 14)))⟩]) .skip)) (.seq (.reg 
[⟨some 15, none, (.p (.move (.t 0)))⟩,
 ⟨some 4, none, (.p (.move (.t 15)))⟩]) .ret))))), [.t 4]⟩
/-- libevolution/libevolutionmade.Resolved -/
def x22 : XF := ⟨(.seq (.reg 
[⟨some 2, none, (.p (.move (.c .nils)))⟩]) (.seq (.reg 
[⟨some 3, none, (.p (.move (.c .nils)))⟩]) (.seq (.seq (.reg 
[⟨some 9, none, (.p (.move (.t 0)))⟩,
 ⟨some 10, none, (.p (.lenl (.t 9)))⟩,
 ⟨some 11, none, (.p (.move (.c (.int .i64 0))))⟩]) (.block 0 (.loop (.seq (.reg 
[⟨some 12, none, (.p (.bin .lss .int (.t 11) (.t 10)))⟩]) (.seq (.cond (.t 12) .skip (.exit 0)) (.seq (.block 1 (.seq (.reg 
[⟨some 13, none, (.p (.iaddr 1 (.t 9) (.t 11)))⟩,
 ⟨some 14, none, (.l (.load 1 false (.t 13)))⟩,
 ⟨some 5, none, (.p (.move (.t 14)))⟩]) (.seq (.reg 
[⟨some 16, none, (.p (.move (.t 5)))⟩,
 ⟨some 17, none, (.p (.move (.t 3)))⟩,
 ⟨some 18, none, (.e (.call (.c (.fn 40 [] [])) [(.t 16), (.t 17)]))⟩,
 ⟨some 15, none, (.p (.move (.t 18)))⟩,
 ⟨some 19, none, (.p (.ext (.t 15) 0))⟩,
 ⟨some 20, none, (.p (.ext (.t 15) 1))⟩,
 ⟨some 21, none, (.p (.ext (.t 15) 2))⟩,
 ⟨some 6, none, (.e (.alloc [(.int .i64 0), (.str []), (.int .i64 0), .nils, .nils, .nils, .nils, .nils, .nils]))⟩,
 ⟨none, none, (.e (.store 9 (.t 6) (.t 19)))⟩,
 ⟨some 7, none, (.p (.move (.t 20)))⟩,
 ⟨some 8, none, (.p (.move (.t 21)))⟩]) (.reg 
[⟨some 22, none, (.p (.move (.t 3)))⟩,
 ⟨some 23, none, (.l (.load 9 true (.t 6)))⟩,
 ⟨some 24, none, (.p (.bslice 9 [(.agg [(.int .i64 0), (.str []), (.int .i64 0), .nils, .nils, .nils, .nils, .nils, .nils])] [(0, (.t 23))]))⟩,
 ⟨some 25, none, (.e (.app 9 176 (.t 22) (.t 24)))⟩,
 ⟨some 3, none, (.p (.move (.t 25)))⟩])))) (.reg 
[⟨some 26, none, (.p (.bin .add .int (.t 11) (.c (.int .i64 1))))⟩,
 ⟨some 11, none, (.p (.move (.t 26)))⟩]))))))) (.seq (.reg 
[⟨some 27, none, (.p (.move (.t 3)))⟩,
 ⟨some 2, none, (.p (.move (.t 27)))⟩]) .ret)))), [.t 2]⟩
/-- libevolution/since.Check -/
def x23 : XF := ⟨(.seq (.reg 
[⟨some 2, none, (.e (.box 9 (.t 0)))⟩,
 ⟨some 4, none, (.p (.move (.c (.int .i64 0))))⟩,
 ⟨some 5, none, (.p (.move (.c (.int .i64 0))))⟩]) (.seq (.reg 
[⟨some 12, none, (.l (.load 9 true (.t 2)))⟩,
 ⟨some 13, none, (.p (.move (.t 1)))⟩,
 ⟨some 14, none, (.e (.call (.c (.fn 41 [] [])) [(.t 12), (.t 13)]))⟩,
 ⟨some 11, none, (.p (.move (.t 14)))⟩,
 ⟨some 15, none, (.p (.ext (.t 11) 0))⟩,
 ⟨some 16, none, (.p (.ext (.t 11) 1))⟩,
 ⟨some 6, none, (.e (.alloc [.nils]))⟩,
 ⟨none, none, (.e (.store 1 (.t 6) (.t 15)))⟩,
 ⟨some 7, none, (.p (.move (.t 16)))⟩]) (.seq (.seq (.reg 
[⟨some 17, none, (.p (.move (.t 7)))⟩,
 ⟨some 18, none, (.p (.bin .neq .int (.t 17) (.c (.int .i64 0))))⟩]) (.cond (.t 18) (.seq (.reg 
[⟨some 19, none, (.p (.move (.t 7)))⟩,
 ⟨some 4, none, (.p (.move (.c (.int .i64 0))))⟩,
 ⟨some 5, none, (.p (.move (.t 19)))⟩]) .ret) .skip)) (.seq (.reg 
[⟨some 8, none, (.e (.alloc [(.int .i64 0)]))⟩,
 ⟨some 9, none, (.e (.alloc [(.bool false)]))⟩,
 ⟨none, none, (.e (.store 1 (.t 8) (.c (.int .i64 0))))⟩,
 ⟨none, none, (.e (.store 1 (.t 9) (.c (.bool false))))⟩]) (.seq (.reg 
[⟨some 20, none, (.l (.load 9 true (.t 2)))⟩,
 ⟨some 21, none, (.p (.build [(.int .i64 0), (.str []), (.int .i64 0), .nils, .nils, .nils, .nils, .nils, .nils, .nilf] [(0, 9, (.t 20))]))⟩,
 ⟨some 22, none, (.e (.box 10 (.t 21)))⟩,
 ⟨some 10, none, (.p (.move (.t 22)))⟩]) (.seq (.reg 
[⟨some 23, none, (.p (.move (.t 10)))⟩,
 ⟨some 24, none, (.p (.mkf 42 [] [(.t 6), (.t 2), (.t 9), (.t 8)]))⟩,
 ⟨some 25, none, (.p (.nilc (.t 23)))⟩,
 ⟨some 26, none, (.p (.faddr 9 (.t 25)))⟩,
 ⟨none, none, (.e (.store 1 (.t 26) (.t 24)))⟩]) (.seq (.reg 
[⟨some 27, none, (.p (.move (.t 10)))⟩,
 ⟨some 28, none, (.e (.call (.c (.fn 47 [] [])) [(.t 27)]))⟩]) (.seq (.seq (.reg 
[⟨some 29, none, (.l (.load 1 false (.t 9)))⟩]) (.cond (.t 29) (.seq (.reg 
[⟨some 30, none, (.l (.load 1 false (.t 8)))⟩,
 ⟨some 4, none, (.p (.move (.t 30)))⟩,
 ⟨some 5, none, (.p (.move (.c (.int .i64 16))))⟩]) .ret) .skip)) (.seq (.reg 
[⟨some 4, none, (.p (.move (.c (.int .i64 0))))⟩,
 ⟨some 5, none, (.p (.move (.c (.int .i64 0))))⟩]) .ret))))))))), [.t 4, .t 5]⟩
/-- libevolution/libevolutionlaw08.awake -/
def x24 : XF := ⟨(.seq (.reg 
[⟨some 0, none, (.p (.move (.c (.bool false))))⟩]) (.seq (.reg 
[⟨some 10, none, (.e (.call (.c (.fn 48 [] [])) [(.c (.str [105, 102, 32, 97, 118, 97, 105, 108, 97, 98, 108, 101, 40, 103, 101, 111, 44, 32, 50, 41, 32, 116, 104, 101, 110, 32])), (.c (.str [49]))]))⟩,
 ⟨some 1, none, (.p (.move (.t 10)))⟩]) (.seq (.reg 
[⟨some 11, none, (.e (.call (.c (.fn 48 [] [])) [(.c (.str [])), (.c (.str [49]))]))⟩,
 ⟨some 2, none, (.p (.move (.t 11)))⟩]) (.seq (.reg 
[⟨some 12, none, (.e (.call (.c (.fn 48 [] [])) [(.c (.str [])), (.c (.str [50]))]))⟩,
 ⟨some 3, none, (.p (.move (.t 12)))⟩]) (.seq (.regd [] 
[⟨some 14, none, (.p (.move (.t 1)))⟩,
 ⟨some 15, none, (.p (.iaddr 9 (.t 14) (.c (.int .i64 1))))⟩,
 ⟨some 16, none, (.l (.load 9 true (.t 15)))⟩,
 ⟨some 17, none, (.p (.move (.t 1)))⟩,
 ⟨some 18, none, (.p (.subl 9 (.t 17) none (some (.c (.int .i64 1)))))⟩,
 ⟨some 19, none, (.e (.call (.c (.fn 23 [] [])) [(.t 16), (.t 18)]))⟩,
 ⟨some 13, none, (.p (.move (.t 19)))⟩,
 ⟨some 20, none, (.p (.ext (.t 13) 0))⟩,
 ⟨some 21, none, (.p (.ext (.t 13) 1))⟩,
 ⟨some 4, none, (.p (.move (.t 20)))⟩,
 ⟨some 5, none, (.p (.move (.t 21)))⟩] []) (.seq (.regd [] 
[⟨some 23, none, (.p (.move (.t 2)))⟩,
 ⟨some 24, none, (.p (.iaddr 9 (.t 23) (.c (.int .i64 1))))⟩,
 ⟨some 25, none, (.l (.load 9 true (.t 24)))⟩,
 ⟨some 26, none, (.p (.move (.t 2)))⟩,
 ⟨some 27, none, (.p (.subl 9 (.t 26) none (some (.c (.int .i64 1)))))⟩,
 ⟨some 28, none, (.e (.call (.c (.fn 23 [] [])) [(.t 25), (.t 27)]))⟩,
 ⟨some 22, none, (.p (.move (.t 28)))⟩,
 ⟨some 29, none, (.p (.ext (.t 22) 0))⟩,
 ⟨some 30, none, (.p (.ext (.t 22) 1))⟩,
 ⟨some 6, none, (.p (.move (.t 29)))⟩,
 ⟨some 7, none, (.p (.move (.t 30)))⟩] []) (.seq (.regd [] 
[⟨some 32, none, (.p (.move (.t 3)))⟩,
 ⟨some 33, none, (.p (.iaddr 9 (.t 32) (.c (.int .i64 1))))⟩,
 ⟨some 34, none, (.l (.load 9 true (.t 33)))⟩,
 ⟨some 35, none, (.p (.move (.t 3)))⟩,
 ⟨some 36, none, (.p (.subl 9 (.t 35) none (some (.c (.int .i64 1)))))⟩,
 ⟨some 37, none, (.e (.call (.c (.fn 23 [] [])) [(.t 34), (.t 36)]))⟩,
 ⟨some 31, none, (.p (.move (.t 37)))⟩,
 ⟨some 38, none, (.p (.ext (.t 31) 0))⟩,
 ⟨some 39, none, (.p (.ext (.t 31) 1))⟩,
 ⟨some 8, none, (.p (.move (.t 38)))⟩,
 ⟨some 9, none, (.p (.move (.t 39)))⟩] []) (.seq (.reg 
[⟨some 40, none, (.p (.move (.t 5)))⟩,
 ⟨some 41, none, (.p (.bin .eql .int (.t 40) (.c (.int .i64 0))))⟩,
 ⟨some 42, none, (.p (.move (.t 41)))⟩,
 ⟨some 43, some (42, true), (.p (.move (.t 7)))⟩,
 ⟨some 44, some (42, true), (.p (.bin .eql .int (.t 43) (.c (.int .i64 16))))⟩,
 ⟨some 45, none, (.p (.pick (.t 42) (.t 44) (.c (.bool false))))⟩,
 ⟨some 46, none, (.p (.move (.t 45)))⟩,
 ⟨some 47, some (46, true), (.p (.move (.t 9)))⟩,
 ⟨some 48, some (46, true), (.p (.bin .eql .int (.t 47) (.c (.int .i64 0))))⟩,
 ⟨some 49, none, (.p (.pick (.t 46) (.t 48) (.c (.bool false))))⟩,
 ⟨some 0, none, (.p (.move (.t 49)))⟩]) .ret)))))))), [.t 0]⟩
/-- libevolution/libevolutionref05.ModuleOf -/
def x25 : XF := ⟨(.seq (.reg 
[⟨some 4, none, (.p (.move (.c (.int .i64 0))))⟩,
 ⟨some 5, none, (.p (.move (.c (.bool false))))⟩]) (.seq (.seq (.reg 
[⟨some 8, none, (.p (.move (.t 0)))⟩,
 ⟨some 9, none, (.p (.lenl (.t 8)))⟩,
 ⟨some 10, none, (.p (.move (.c (.int .i64 0))))⟩]) (.block 0 (.loop (.seq (.reg 
[⟨some 11, none, (.p (.bin .lss .int (.t 10) (.t 9)))⟩]) (.seq (.cond (.t 11) .skip (.exit 0)) (.seq (.block 1 (.seq (.reg 
[⟨some 12, none, (.p (.move (.t 10)))⟩,
 ⟨some 13, none, (.p (.iaddr 9 (.t 8) (.t 10)))⟩,
 ⟨some 14, none, (.l (.load 9 true (.t 13)))⟩,
 ⟨some 7, none, (.e (.alloc [(.int .i64 0), (.str []), (.int .i64 0), .nils, .nils, .nils, .nils, .nils, .nils]))⟩,
 ⟨some 6, none, (.p (.move (.t 12)))⟩,
 ⟨none, none, (.e (.store 9 (.t 7) (.t 14)))⟩]) (.seq (.reg 
[⟨some 15, none, (.p (.faddr 1 (.t 7)))⟩,
 ⟨some 16, none, (.l (.load 1 false (.t 15)))⟩,
 ⟨some 17, none, (.p (.move (.t 1)))⟩,
 ⟨some 18, none, (.p (.bin .eql .str (.t 16) (.t 17)))⟩]) (.cond (.t 18) (.seq (.reg 
[⟨some 19, none, (.p (.move (.t 6)))⟩,
 ⟨some 4, none, (.p (.move (.t 19)))⟩,
 ⟨some 5, none, (.p (.move (.c (.bool true))))⟩]) .ret) .skip)))) (.reg 
[⟨some 20, none, (.p (.bin .add .int (.t 10) (.c (.int .i64 1))))⟩,
 ⟨some 10, none, (.p (.move (.t 20)))⟩]))))))) (.seq (.reg 
[⟨some 4, none, (.p (.move (.c (.int .i64 0))))⟩,
 ⟨some 5, none, (.p (.move (.c (.bool false))))⟩]) .ret))), [.t 4, .t 5]⟩
/-- libevolution/libevolutionref05.Resolve -/
def x32 : XF := ⟨(.seq (.reg 
[⟨some 2, none, (.e (.box 9 (.t 0)))⟩,
 ⟨some 4, none, (.e (.alloc [(.int .i64 0), (.str []), (.int .i64 0), .nils, .nils, .nils, .nils, .nils, .nils]))⟩,
 ⟨some 5, none, (.p (.move (.c (.int .i64 0))))⟩,
 ⟨some 6, none, (.p (.move (.c (.int .i64 0))))⟩]) (.seq (.seq (.reg 
[⟨some 12, none, (.l (.load 9 true (.t 2)))⟩,
 ⟨some 13, none, (.e (.call (.c (.fn 61 [] [])) [(.t 12)]))⟩,
 ⟨some 14, none, (.p (.not (.t 13)))⟩]) (.cond (.t 14) (.seq (.reg 
[⟨some 15, none, (.p (.build [(.int .i64 0), (.str []), (.int .i64 0), .nils, .nils, .nils, .nils, .nils, .nils] []))⟩,
 ⟨none, none, (.e (.store 9 (.t 4) (.t 15)))⟩,
 ⟨some 5, none, (.p (.move (.c (.int .i64 0))))⟩,
 ⟨some 6, none, (.p (.move (.c (.int .i64 19))))⟩]) .ret) .skip)) (.seq (.reg 
[⟨some 16, none, (.p (.move (.t 1)))⟩,
 ⟨some 17, none, (.l (.load 9 true (.t 2)))⟩,
 ⟨some 18, none, (.e (.call (.c (.fn 56 [] [])) [(.t 16), (.t 17)]))⟩,
 ⟨some 7, none, (.p (.move (.t 18)))⟩]) (.seq (.seq (.reg 
[⟨some 20, none, (.p (.move (.t 7)))⟩,
 ⟨some 21, none, (.e (.call (.c (.fn 62 [] [])) [(.t 20)]))⟩,
 ⟨some 19, none, (.p (.move (.t 21)))⟩,
 ⟨some 22, none, (.p (.ext (.t 19) 0))⟩,
 ⟨some 23, none, (.p (.ext (.t 19) 1))⟩,
 ⟨some 8, none, (.p (.move (.t 22)))⟩,
 ⟨some 9, none, (.p (.move (.t 23)))⟩]) (.seq (.reg 
[⟨some 24, none, (.p (.move (.t 9)))⟩,
 ⟨some 25, none, (.p (.bin .neq .int (.t 24) (.c (.int .i64 0))))⟩]) (.cond (.t 25) (.seq (.reg 
[⟨some 26, none, (.p (.build [(.int .i64 0), (.str []), (.int .i64 0), .nils, .nils, .nils, .nils, .nils, .nils] []))⟩,
 ⟨some 27, none, (.p (.move (.t 9)))⟩,
 ⟨none, none, (.e (.store 9 (.t 4) (.t 26)))⟩,
 ⟨some 5, none, (.p (.move (.c (.int .i64 0))))⟩,
 ⟨some 6, none, (.p (.move (.t 27)))⟩]) .ret) .skip))) (.seq (.reg 
[⟨some 28, none, (.l (.load 9 true (.t 2)))⟩,
 ⟨some 29, none, (.p (.move (.t 7)))⟩,
 ⟨some 30, none, (.p (.build [(.int .i64 0), (.str []), (.int .i64 0), .nils, .nils, .nils, .nils, .nils, .nils, .nils, .nils, (.bool false), (.int .i64 0), (.int .i64 0), (.int .i64 0)] [(0, 9, (.t 28)), (9, 1, (.t 29))]))⟩,
 ⟨some 10, none, (.e (.alloc [(.int .i64 0), (.str []), (.int .i64 0), .nils, .nils, .nils, .nils, .nils, .nils, .nils, .nils, (.bool false), (.int .i64 0), (.int .i64 0), (.int .i64 0)]))⟩,
 ⟨none, none, (.e (.store 15 (.t 10) (.t 30)))⟩]) (.seq (.regd [(11, [(.int .i64 0), (.str []), (.int .i64 0), .nils, .nils, .nils, .nils, .nils, .nils])] 
[⟨some 31, none, (.p (.faddr 0 (.t 2)))⟩,
 ⟨some 32, none, (.l (.load 1 false (.t 31)))⟩,
 ⟨some 33, none, (.p (.faddr 1 (.t 2)))⟩,
 ⟨some 34, none, (.l (.load 1 false (.t 33)))⟩,
 ⟨some 35, none, (.p (.faddr 2 (.t 2)))⟩,
 ⟨some 36, none, (.l (.load 1 false (.t 35)))⟩,
 ⟨some 37, none, (.p (.faddr 3 (.t 2)))⟩,
 ⟨some 38, none, (.l (.load 1 false (.t 37)))⟩,
 ⟨some 39, none, (.e (.app 2 24 (.c .nils) (.t 38)))⟩,
 ⟨some 40, none, (.p (.build [(.int .i64 0), (.str []), (.int .i64 0), .nils, .nils, .nils, .nils, .nils, .nils] [(0, 1, (.t 32)), (1, 1, (.t 34)), (2, 1, (.t 36)), (3, 1, (.t 39))]))⟩,
 ⟨some 11, none, (.p (.move (.t 11)))⟩,
 ⟨none, none, (.e (.store 9 (.t 11) (.t 40)))⟩] [(1, 8), (3, 8), (5, 8)]) (.seq (.reg 
[⟨some 41, none, (.e (.call (.c (.fn 63 [] [])) [(.t 10)]))⟩]) (.seq (.reg 
[⟨some 42, none, (.e (.call (.c (.fn 64 [] [])) [(.t 10), (.t 11)]))⟩]) (.seq (.reg 
[⟨some 43, none, (.e (.call (.c (.fn 65 [] [])) [(.t 10), (.t 11)]))⟩]) (.seq (.reg 
[⟨some 44, none, (.e (.call (.c (.fn 66 [] [])) [(.t 10), (.t 11)]))⟩]) (.seq (.seq (.reg 
[⟨some 45, none, (.p (.faddr 14 (.t 10)))⟩,
 ⟨some 46, none, (.l (.load 1 false (.t 45)))⟩,
 ⟨some 47, none, (.p (.bin .neq .int (.t 46) (.c (.int .i64 0))))⟩]) (.cond (.t 47) (.seq (.regd [] 
[⟨some 48, none, (.p (.build [(.int .i64 0), (.str []), (.int .i64 0), .nils, .nils, .nils, .nils, .nils, .nils] []))⟩,
 ⟨some 49, none, (.p (.faddr 13 (.t 10)))⟩,
 ⟨some 50, none, (.l (.load 1 false (.t 49)))⟩,
 ⟨some 51, none, (.p (.faddr 14 (.t 10)))⟩,
 ⟨some 52, none, (.l (.load 1 false (.t 51)))⟩,
 ⟨none, none, (.e (.store 9 (.t 4) (.t 48)))⟩,
 ⟨some 5, none, (.p (.move (.t 50)))⟩,
 ⟨some 6, none, (.p (.move (.t 52)))⟩] [(2, 5), (4, 5)]) .ret) .skip)) (.seq (.reg 
[⟨some 53, none, (.l (.load 9 true (.t 11)))⟩,
 ⟨none, none, (.e (.store 9 (.t 4) (.t 53)))⟩,
 ⟨some 5, none, (.p (.move (.c (.int .i64 0))))⟩,
 ⟨some 6, none, (.p (.move (.c (.int .i64 0))))⟩]) .ret)))))))))))), [.cell 4 9 true, .t 5, .t 6]⟩
/-- libevolution/libevolutionref01.Tokens -/
def x39 : XF := ⟨(.seq (.reg 
[⟨some 2, none, (.p (.move (.c .nils)))⟩,
 ⟨some 3, none, (.p (.move (.c (.int .i64 0))))⟩,
 ⟨some 4, none, (.p (.move (.c (.int .i64 0))))⟩]) (.seq (.reg 
[⟨some 5, none, (.p (.move (.c .nils)))⟩]) (.seq (.seq (.reg 
[⟨some 9, none, (.p (.move (.t 0)))⟩,
 ⟨some 10, none, (.e (.call (.c (.fn 83 [] [])) [(.t 9), (.c (.int .i64 0))]))⟩,
 ⟨some 6, none, (.p (.move (.t 10)))⟩]) (.block 0 (.loop (.seq (.seq (.reg 
[⟨some 11, none, (.p (.move (.t 6)))⟩,
 ⟨some 12, none, (.p (.move (.t 0)))⟩,
 ⟨some 13, none, (.p (.lens (.t 12)))⟩,
 ⟨some 14, none, (.p (.bin .lss .int (.t 11) (.t 13)))⟩]) (.cond (.t 14) .skip (.exit 0))) (.seq (.block 1 (.seq (.reg 
[⟨some 19, none, (.p (.move (.t 0)))⟩,
 ⟨some 20, none, (.p (.move (.t 6)))⟩,
 ⟨some 21, none, (.e (.call (.c (.fn 84 [] [])) [(.t 19), (.t 20)]))⟩,
 ⟨some 18, none, (.p (.move (.t 21)))⟩,
 ⟨some 22, none, (.p (.ext (.t 18) 0))⟩,
 ⟨some 23, none, (.p (.ext (.t 18) 1))⟩,
 ⟨some 7, none, (.e (.alloc [(.int .i64 0), (.str []), (.int .i64 0)]))⟩,
 ⟨none, none, (.e (.store 3 (.t 7) (.t 22)))⟩,
 ⟨some 8, none, (.p (.move (.t 23)))⟩]) (.seq (.seq (.reg 
[⟨some 24, none, (.p (.move (.t 8)))⟩,
 ⟨some 25, none, (.p (.bin .neq .int (.t 24) (.c (.int .i64 0))))⟩]) (.cond (.t 25) (.seq (.reg 
[⟨some 26, none, (.p (.move (.t 6)))⟩,
 ⟨some 27, none, (.p (.move (.t 8)))⟩,
 ⟨some 2, none, (.p (.move (.c .nils)))⟩,
 ⟨some 3, none, (.p (.move (.t 26)))⟩,
 ⟨some 4, none, (.p (.move (.t 27)))⟩]) .ret) .skip)) (.seq (.seq (.reg 
[⟨some 28, none, (.p (.move (.t 5)))⟩,
 ⟨some 29, none, (.p (.lenl (.t 28)))⟩,
 ⟨some 30, none, (.p (.bin .geq .int (.t 29) (.c (.int .i64 6000))))⟩]) (.cond (.t 30) (.seq (.reg 
[⟨some 31, none, (.p (.move (.t 6)))⟩,
 ⟨some 2, none, (.p (.move (.c .nils)))⟩,
 ⟨some 3, none, (.p (.move (.t 31)))⟩,
 ⟨some 4, none, (.p (.move (.c (.int .i64 4))))⟩]) .ret) .skip)) (.seq (.reg 
[⟨some 32, none, (.p (.move (.t 5)))⟩,
 ⟨some 33, none, (.l (.load 3 true (.t 7)))⟩,
 ⟨some 34, none, (.p (.bslice 3 [(.agg [(.int .i64 0), (.str []), (.int .i64 0)])] [(0, (.t 33))]))⟩,
 ⟨some 35, none, (.e (.app 3 32 (.t 32) (.t 34)))⟩,
 ⟨some 5, none, (.p (.move (.t 35)))⟩]) (.reg 
[⟨some 36, none, (.p (.move (.t 6)))⟩,
 ⟨some 37, none, (.p (.faddr 1 (.t 7)))⟩,
 ⟨some 38, none, (.l (.load 1 false (.t 37)))⟩,
 ⟨some 39, none, (.p (.lens (.t 38)))⟩,
 ⟨some 40, none, (.p (.bin .add .int (.t 36) (.t 39)))⟩,
 ⟨some 6, none, (.p (.move (.t 40)))⟩])))))) (.reg 
[⟨some 15, none, (.p (.move (.t 0)))⟩,
 ⟨some 16, none, (.p (.move (.t 6)))⟩,
 ⟨some 17, none, (.e (.call (.c (.fn 83 [] [])) [(.t 15), (.t 16)]))⟩,
 ⟨some 6, none, (.p (.move (.t 17)))⟩])))))) (.seq (.reg 
[⟨some 41, none, (.p (.move (.t 5)))⟩,
 ⟨some 2, none, (.p (.move (.t 41)))⟩,
 ⟨some 3, none, (.p (.move (.c (.int .i64 0))))⟩,
 ⟨some 4, none, (.p (.move (.c (.int .i64 0))))⟩]) .ret)))), [.t 2, .t 3, .t 4]⟩
/-- libevolution/libevolutionref10.Resolved -/
def x40 : XF := ⟨(.seq (.reg 
[⟨some 4, none, (.e (.alloc [(.int .i64 0), (.str []), (.int .i64 0), .nils, .nils, .nils, .nils, .nils, .nils]))⟩,
 ⟨some 5, none, (.p (.move (.c (.int .i64 0))))⟩,
 ⟨some 6, none, (.p (.move (.c (.int .i64 0))))⟩]) (.seq (.reg 
[⟨some 11, none, (.p (.move (.t 0)))⟩,
 ⟨some 12, none, (.e (.call (.c (.fn 85 [] [])) [(.t 11)]))⟩,
 ⟨some 10, none, (.p (.move (.t 12)))⟩,
 ⟨some 13, none, (.p (.ext (.t 10) 0))⟩,
 ⟨some 14, none, (.p (.ext (.t 10) 1))⟩,
 ⟨some 15, none, (.p (.ext (.t 10) 2))⟩,
 ⟨some 7, none, (.e (.alloc [(.int .i64 0), (.str []), (.int .i64 0), .nils, .nils, .nils, .nils, .nils, .nils]))⟩,
 ⟨none, none, (.e (.store 9 (.t 7) (.t 13)))⟩,
 ⟨some 8, none, (.p (.move (.t 14)))⟩,
 ⟨some 9, none, (.p (.move (.t 15)))⟩]) (.seq (.seq (.reg 
[⟨some 16, none, (.p (.move (.t 9)))⟩,
 ⟨some 17, none, (.p (.bin .neq .int (.t 16) (.c (.int .i64 0))))⟩]) (.cond (.t 17) (.seq (.reg 
[⟨some 18, none, (.p (.build [(.int .i64 0), (.str []), (.int .i64 0), .nils, .nils, .nils, .nils, .nils, .nils] []))⟩,
 ⟨some 19, none, (.p (.move (.t 8)))⟩,
 ⟨some 20, none, (.p (.move (.t 9)))⟩,
 ⟨none, none, (.e (.store 9 (.t 4) (.t 18)))⟩,
 ⟨some 5, none, (.p (.move (.t 19)))⟩,
 ⟨some 6, none, (.p (.move (.t 20)))⟩]) .ret) .skip)) (.seq (.reg 
[⟨some 21, none, (.l (.load 9 true (.t 7)))⟩,
 ⟨some 22, none, (.p (.move (.t 1)))⟩,
 ⟨some 23, none, (.e (.call (.c (.fn 32 [] [])) [(.t 21), (.t 22)]))⟩,
 ⟨some 24, none, (.p (.ext (.t 23) 0))⟩,
 ⟨some 25, none, (.p (.ext (.t 23) 1))⟩,
 ⟨some 26, none, (.p (.ext (.t 23) 2))⟩,
 ⟨none, none, (.e (.store 9 (.t 4) (.t 24)))⟩,
 ⟨some 5, none, (.p (.move (.t 25)))⟩,
 ⟨some 6, none, (.p (.move (.t 26)))⟩]) .ret)))), [.cell 4 9 true, .t 5, .t 6]⟩
/-- libevolution/since.begin -/
def x41 : XF := ⟨(.seq (.reg 
[⟨some 2, none, (.e (.box 9 (.t 0)))⟩,
 ⟨some 4, none, (.p (.move (.c .nils)))⟩,
 ⟨some 5, none, (.p (.move (.c (.int .i64 0))))⟩]) (.seq (.regd [] 
[⟨some 9, none, (.p (.move (.t 1)))⟩,
 ⟨some 10, none, (.e (.call (.c (.fn 86 [] [])) [(.t 9)]))⟩,
 ⟨some 11, none, (.l (.load 9 true (.t 2)))⟩,
 ⟨some 12, none, (.p (.bslice 9 [(.agg [(.int .i64 0), (.str []), (.int .i64 0), .nils, .nils, .nils, .nils, .nils, .nils])] [(0, (.t 11))]))⟩,
 ⟨some 13, none, (.e (.app 9 176 (.t 10) (.t 12)))⟩,
 ⟨some 6, none, (.p (.move (.t 13)))⟩] [(2, 1)]) (.seq (.seq (.reg 
[⟨some 15, none, (.p (.move (.t 6)))⟩,
 ⟨some 16, none, (.e (.call (.c (.fn 87 [] [])) [(.t 15)]))⟩,
 ⟨some 14, none, (.p (.move (.t 16)))⟩,
 ⟨some 17, none, (.p (.ext (.t 14) 0))⟩,
 ⟨some 18, none, (.p (.ext (.t 14) 1))⟩,
 ⟨some 7, none, (.p (.move (.t 17)))⟩,
 ⟨some 8, none, (.p (.move (.t 18)))⟩]) (.seq (.reg 
[⟨some 19, none, (.p (.move (.t 8)))⟩,
 ⟨some 20, none, (.p (.bin .neq .int (.t 19) (.c (.int .i64 0))))⟩]) (.cond (.t 20) (.seq (.reg 
[⟨some 21, none, (.p (.move (.t 8)))⟩,
 ⟨some 4, none, (.p (.move (.c .nils)))⟩,
 ⟨some 5, none, (.p (.move (.t 21)))⟩]) .ret) .skip))) (.seq (.seq (.reg 
[⟨some 22, none, (.l (.load 9 true (.t 2)))⟩,
 ⟨some 23, none, (.e (.call (.c (.fn 88 [] [])) [(.t 22)]))⟩]) (.cond (.t 23) (.seq (.reg 
[⟨some 4, none, (.p (.move (.c .nils)))⟩,
 ⟨some 5, none, (.p (.move (.c (.int .i64 20))))⟩]) .ret) .skip)) (.seq (.reg 
[⟨some 24, none, (.p (.move (.t 6)))⟩,
 ⟨some 4, none, (.p (.move (.t 24)))⟩,
 ⟨some 5, none, (.p (.move (.c (.int .i64 0))))⟩]) .ret))))), [.t 4, .t 5]⟩
/-- libevolution/since.Check$1 -/
def x42 : XF := ⟨(.seq (.reg 
[⟨some 7, none, (.e (.box 3 (.t 1)))⟩]) (.seq (.reg 
[⟨some 16, none, (.p (.move (.t 0)))⟩,
 ⟨some 17, none, (.e (.call (.c (.fn 43 [] [])) [(.t 16)]))⟩,
 ⟨some 15, none, (.p (.move (.t 17)))⟩,
 ⟨some 18, none, (.p (.ext (.t 15) 0))⟩,
 ⟨some 19, none, (.p (.ext (.t 15) 1))⟩,
 ⟨some 20, none, (.p (.ext (.t 15) 2))⟩,
 ⟨some 8, none, (.p (.move (.t 18)))⟩,
 ⟨some 9, none, (.p (.move (.t 19)))⟩,
 ⟨some 10, none, (.p (.move (.t 20)))⟩]) (.seq (.reg 
[⟨some 22, none, (.l (.load 1 false (.t 2)))⟩,
 ⟨some 23, none, (.p (.move (.t 0)))⟩,
 ⟨some 24, none, (.e (.call (.c (.fn 44 [] [])) [(.t 22), (.t 23)]))⟩,
 ⟨some 21, none, (.p (.move (.t 24)))⟩,
 ⟨some 25, none, (.p (.ext (.t 21) 0))⟩,
 ⟨some 26, none, (.p (.ext (.t 21) 1))⟩,
 ⟨some 11, none, (.p (.move (.t 25)))⟩,
 ⟨some 12, none, (.p (.move (.t 26)))⟩]) (.seq (.reg 
[⟨some 28, none, (.l (.load 9 true (.t 3)))⟩,
 ⟨some 29, none, (.l (.load 3 true (.t 7)))⟩,
 ⟨some 30, none, (.p (.move (.t 8)))⟩,
 ⟨some 31, none, (.e (.call (.c (.fn 45 [] [])) [(.t 28), (.t 29), (.t 30)]))⟩,
 ⟨some 27, none, (.p (.move (.t 31)))⟩,
 ⟨some 32, none, (.p (.ext (.t 27) 0))⟩,
 ⟨some 33, none, (.p (.ext (.t 27) 1))⟩,
 ⟨some 13, none, (.p (.move (.t 32)))⟩,
 ⟨some 14, none, (.p (.move (.t 33)))⟩]) (.seq (.reg 
[⟨some 34, none, (.l (.load 1 false (.t 4)))⟩,
 ⟨some 35, none, (.p (.not (.t 34)))⟩,
 ⟨some 36, none, (.p (.move (.t 35)))⟩,
 ⟨some 37, some (36, true), (.p (.move (.t 12)))⟩,
 ⟨some 38, none, (.p (.pick (.t 36) (.t 37) (.c (.bool false))))⟩,
 ⟨some 39, none, (.p (.move (.t 38)))⟩,
 ⟨some 40, some (39, true), (.p (.move (.t 14)))⟩,
 ⟨some 41, none, (.p (.pick (.t 39) (.t 40) (.c (.bool false))))⟩,
 ⟨some 42, none, (.p (.move (.t 41)))⟩,
 ⟨some 43, some (42, true), (.p (.move (.t 11)))⟩,
 ⟨some 44, some (42, true), (.p (.move (.t 13)))⟩,
 ⟨some 45, some (42, true), (.l (.load 3 true (.t 7)))⟩,
 ⟨some 46, some (42, true), (.p (.move (.t 8)))⟩,
 ⟨some 47, some (42, true), (.e (.call (.c (.fn 46 [] [])) [(.t 45), (.t 46)]))⟩,
 ⟨some 48, some (42, true), (.p (.max (.t 44) (.t 47)))⟩,
 ⟨some 49, some (42, true), (.p (.bin .gtr .int (.t 43) (.t 48)))⟩,
 ⟨some 50, none, (.p (.pick (.t 42) (.t 49) (.c (.bool false))))⟩]) (.cond (.t 50) (.reg 
[⟨some 51, none, (.p (.faddr 0 (.t 7)))⟩,
 ⟨some 52, none, (.l (.load 1 false (.t 51)))⟩,
 ⟨none, none, (.e (.store 1 (.t 5) (.t 52)))⟩,
 ⟨none, none, (.e (.store 1 (.t 4) (.c (.bool true))))⟩]) .skip)))))), []⟩
/-- libevolution/typeterm.Split -/
def x43 : XF := ⟨(.seq (.reg 
[⟨some 2, none, (.p (.move (.c (.str []))))⟩,
 ⟨some 3, none, (.p (.move (.c (.str []))))⟩,
 ⟨some 4, none, (.p (.move (.c (.bool false))))⟩]) (.seq (.reg 
[⟨some 9, none, (.p (.move (.t 0)))⟩,
 ⟨some 10, none, (.e (.call (.c (.fn 89 [] [])) [(.t 9), (.c (.str [46]))]))⟩,
 ⟨some 8, none, (.p (.move (.t 10)))⟩,
 ⟨some 11, none, (.p (.ext (.t 8) 0))⟩,
 ⟨some 12, none, (.p (.ext (.t 8) 1))⟩,
 ⟨some 13, none, (.p (.ext (.t 8) 2))⟩,
 ⟨some 5, none, (.p (.move (.t 11)))⟩,
 ⟨some 6, none, (.p (.move (.t 12)))⟩,
 ⟨some 7, none, (.p (.move (.t 13)))⟩]) (.seq (.seq (.reg 
[⟨some 14, none, (.p (.move (.t 7)))⟩,
 ⟨some 15, none, (.p (.not (.t 14)))⟩,
 ⟨some 16, none, (.p (.move (.t 15)))⟩,
 ⟨some 17, some (16, false), (.p (.move (.t 5)))⟩,
 ⟨some 18, some (16, false), (.p (.bin .eql .str (.t 17) (.c (.str []))))⟩,
 ⟨some 19, none, (.p (.pick (.t 16) (.c (.bool true)) (.t 18)))⟩,
 ⟨some 20, none, (.p (.move (.t 19)))⟩,
 ⟨some 21, some (20, false), (.p (.move (.t 6)))⟩,
 ⟨some 22, some (20, false), (.p (.bin .eql .str (.t 21) (.c (.str []))))⟩,
 ⟨some 23, none, (.p (.pick (.t 20) (.c (.bool true)) (.t 22)))⟩,
 ⟨some 24, none, (.p (.move (.t 23)))⟩,
 ⟨some 25, some (24, false), (.p (.move (.t 6)))⟩,
 ⟨some 26, some (24, false), (.e (.call (.c (.fn 90 [] [])) [(.t 25), (.c (.str [46]))]))⟩,
 ⟨some 27, none, (.p (.pick (.t 24) (.c (.bool true)) (.t 26)))⟩]) (.cond (.t 27) (.seq (.reg 
[⟨some 2, none, (.p (.move (.c (.str []))))⟩,
 ⟨some 3, none, (.p (.move (.c (.str []))))⟩,
 ⟨some 4, none, (.p (.move (.c (.bool false))))⟩]) .ret) .skip)) (.seq (.reg 
[⟨some 28, none, (.p (.move (.t 5)))⟩,
 ⟨some 29, none, (.p (.move (.t 6)))⟩,
 ⟨some 2, none, (.p (.move (.t 28)))⟩,
 ⟨some 3, none, (.p (.move (.t 29)))⟩,
 ⟨some 4, none, (.p (.move (.c (.bool true))))⟩]) .ret)))), [.t 2, .t 3, .t 4]⟩
/-- libevolution/since.sinceOf -/
def x44 : XF := ⟨(.seq (.reg 
[⟨some 4, none, (.p (.move (.c (.int .i64 0))))⟩,
 ⟨some 5, none, (.p (.move (.c (.bool false))))⟩]) (.seq (.reg 
[⟨some 16, none, (.p (.move (.t 1)))⟩,
 ⟨some 17, none, (.e (.call (.c (.fn 43 [] [])) [(.t 16)]))⟩,
 ⟨some 15, none, (.p (.move (.t 17)))⟩,
 ⟨some 18, none, (.p (.ext (.t 15) 0))⟩,
 ⟨some 19, none, (.p (.ext (.t 15) 1))⟩,
 ⟨some 20, none, (.p (.ext (.t 15) 2))⟩,
 ⟨some 7, none, (.e (.alloc [(.str [])]))⟩,
 ⟨some 6, none, (.p (.move (.t 18)))⟩,
 ⟨none, none, (.e (.store 1 (.t 7) (.t 19)))⟩,
 ⟨some 8, none, (.p (.move (.t 20)))⟩]) (.seq (.seq (.reg 
[⟨some 21, none, (.p (.move (.t 0)))⟩,
 ⟨some 22, none, (.p (.lenl (.t 21)))⟩,
 ⟨some 23, none, (.p (.move (.c (.int .i64 0))))⟩]) (.block 0 (.loop (.seq (.reg 
[⟨some 24, none, (.p (.bin .lss .int (.t 23) (.t 22)))⟩]) (.seq (.cond (.t 24) .skip (.exit 0)) (.seq (.block 1 (.seq (.reg 
[⟨some 25, none, (.p (.iaddr 9 (.t 21) (.t 23)))⟩,
 ⟨some 26, none, (.l (.load 9 true (.t 25)))⟩,
 ⟨some 10, none, (.e (.alloc [(.int .i64 0), (.str []), (.int .i64 0), .nils, .nils, .nils, .nils, .nils, .nils]))⟩,
 ⟨none, none, (.e (.store 9 (.t 10) (.t 26)))⟩]) (.seq (.seq (.reg 
[⟨some 27, none, (.p (.move (.t 8)))⟩,
 ⟨some 28, none, (.p (.not (.t 27)))⟩,
 ⟨some 29, none, (.p (.move (.t 28)))⟩,
 ⟨some 30, some (29, false), (.p (.faddr 1 (.t 10)))⟩,
 ⟨some 31, some (29, false), (.l (.load 1 false (.t 30)))⟩,
 ⟨some 32, some (29, false), (.p (.move (.t 6)))⟩,
 ⟨some 33, some (29, false), (.p (.bin .neq .str (.t 31) (.t 32)))⟩,
 ⟨some 34, none, (.p (.pick (.t 29) (.c (.bool true)) (.t 33)))⟩]) (.cond (.t 34) (.exit 1) .skip)) (.seq (.seq (.reg 
[⟨some 35, none, (.p (.faddr 4 (.t 10)))⟩,
 ⟨some 36, none, (.l (.load 1 false (.t 35)))⟩,
 ⟨some 37, none, (.p (.mkf 92 [] [(.t 7)]))⟩,
 ⟨some 38, none, (.e (.call (.c (.fn 91 [] [])) [(.t 36), (.t 37)]))⟩,
 ⟨some 11, none, (.p (.move (.t 38)))⟩]) (.seq (.reg 
[⟨some 39, none, (.p (.move (.t 11)))⟩,
 ⟨some 40, none, (.p (.bin .geq .int (.t 39) (.c (.int .i64 0))))⟩]) (.cond (.t 40) (.seq (.reg 
[⟨some 41, none, (.p (.faddr 4 (.t 10)))⟩,
 ⟨some 42, none, (.l (.load 1 false (.t 41)))⟩,
 ⟨some 43, none, (.p (.move (.t 11)))⟩,
 ⟨some 44, none, (.p (.iaddr 6 (.t 42) (.t 43)))⟩,
 ⟨some 45, none, (.p (.faddr 0 (.t 44)))⟩,
 ⟨some 46, none, (.l (.load 1 false (.t 45)))⟩,
 ⟨some 47, none, (.e (.call (.c (.fn 93 [] [])) [(.t 46)]))⟩,
 ⟨some 4, none, (.p (.move (.t 47)))⟩,
 ⟨some 5, none, (.p (.move (.c (.bool true))))⟩]) .ret) .skip))) (.seq (.seq (.reg 
[⟨some 48, none, (.p (.faddr 5 (.t 10)))⟩,
 ⟨some 49, none, (.l (.load 1 false (.t 48)))⟩,
 ⟨some 50, none, (.p (.mkf 95 [] [(.t 7)]))⟩,
 ⟨some 51, none, (.e (.call (.c (.fn 94 [] [])) [(.t 49), (.t 50)]))⟩,
 ⟨some 12, none, (.p (.move (.t 51)))⟩]) (.seq (.reg 
[⟨some 52, none, (.p (.move (.t 12)))⟩,
 ⟨some 53, none, (.p (.bin .geq .int (.t 52) (.c (.int .i64 0))))⟩]) (.cond (.t 53) (.seq (.reg 
[⟨some 54, none, (.p (.faddr 5 (.t 10)))⟩,
 ⟨some 55, none, (.l (.load 1 false (.t 54)))⟩,
 ⟨some 56, none, (.p (.move (.t 12)))⟩,
 ⟨some 57, none, (.p (.iaddr 6 (.t 55) (.t 56)))⟩,
 ⟨some 58, none, (.p (.faddr 0 (.t 57)))⟩,
 ⟨some 59, none, (.l (.load 1 false (.t 58)))⟩,
 ⟨some 60, none, (.e (.call (.c (.fn 93 [] [])) [(.t 59)]))⟩,
 ⟨some 4, none, (.p (.move (.t 60)))⟩,
 ⟨some 5, none, (.p (.move (.c (.bool true))))⟩]) .ret) .skip))) (.seq (.seq (.reg 
[⟨some 61, none, (.p (.faddr 6 (.t 10)))⟩,
 ⟨some 62, none, (.l (.load 1 false (.t 61)))⟩,
 ⟨some 63, none, (.p (.mkf 97 [] [(.t 7)]))⟩,
 ⟨some 64, none, (.e (.call (.c (.fn 96 [] [])) [(.t 62), (.t 63)]))⟩,
 ⟨some 13, none, (.p (.move (.t 64)))⟩]) (.seq (.reg 
[⟨some 65, none, (.p (.move (.t 13)))⟩,
 ⟨some 66, none, (.p (.bin .geq .int (.t 65) (.c (.int .i64 0))))⟩]) (.cond (.t 66) (.seq (.reg 
[⟨some 67, none, (.p (.faddr 6 (.t 10)))⟩,
 ⟨some 68, none, (.l (.load 1 false (.t 67)))⟩,
 ⟨some 69, none, (.p (.move (.t 13)))⟩,
 ⟨some 70, none, (.p (.iaddr 5 (.t 68) (.t 69)))⟩,
 ⟨some 71, none, (.p (.faddr 0 (.t 70)))⟩,
 ⟨some 72, none, (.l (.load 1 false (.t 71)))⟩,
 ⟨some 73, none, (.e (.call (.c (.fn 93 [] [])) [(.t 72)]))⟩,
 ⟨some 4, none, (.p (.move (.t 73)))⟩,
 ⟨some 5, none, (.p (.move (.c (.bool true))))⟩]) .ret) .skip))) (.seq (.reg 
[⟨some 74, none, (.p (.faddr 8 (.t 10)))⟩,
 ⟨some 75, none, (.l (.load 1 false (.t 74)))⟩,
 ⟨some 76, none, (.p (.mkf 99 [] [(.t 7)]))⟩,
 ⟨some 77, none, (.e (.call (.c (.fn 98 [] [])) [(.t 75), (.t 76)]))⟩,
 ⟨some 14, none, (.p (.move (.t 77)))⟩]) (.seq (.reg 
[⟨some 78, none, (.p (.move (.t 14)))⟩,
 ⟨some 79, none, (.p (.bin .geq .int (.t 78) (.c (.int .i64 0))))⟩]) (.cond (.t 79) (.seq (.reg 
[⟨some 80, none, (.p (.faddr 8 (.t 10)))⟩,
 ⟨some 81, none, (.l (.load 1 false (.t 80)))⟩,
 ⟨some 82, none, (.p (.move (.t 14)))⟩,
 ⟨some 83, none, (.p (.iaddr 20 (.t 81) (.t 82)))⟩,
 ⟨some 84, none, (.p (.faddr 0 (.t 83)))⟩,
 ⟨some 85, none, (.l (.load 1 false (.t 84)))⟩,
 ⟨some 86, none, (.e (.call (.c (.fn 93 [] [])) [(.t 85)]))⟩,
 ⟨some 4, none, (.p (.move (.t 86)))⟩,
 ⟨some 5, none, (.p (.move (.c (.bool true))))⟩]) .ret) .skip))))))))) (.reg 
[⟨some 87, none, (.p (.bin .add .int (.t 23) (.c (.int .i64 1))))⟩,
 ⟨some 23, none, (.p (.move (.t 87)))⟩]))))))) (.seq (.reg 
[⟨some 4, none, (.p (.move (.c (.int .i64 0))))⟩,
 ⟨some 5, none, (.p (.move (.c (.bool false))))⟩]) .ret)))), [.t 4, .t 5]⟩
/-- libevolution/since.least -/
def x45 : XF := ⟨(.seq (.reg 
[⟨some 3, none, (.e (.box 9 (.t 0)))⟩,
 ⟨some 4, none, (.e (.box 3 (.t 1)))⟩,
 ⟨some 5, none, (.e (.box 1 (.t 2)))⟩,
 ⟨some 6, none, (.p (.move (.c (.int .i64 0))))⟩,
 ⟨some 7, none, (.p (.move (.c (.bool false))))⟩]) (.seq (.seq (.reg 
[⟨some 9, none, (.l (.load 1 false (.t 5)))⟩,
 ⟨some 10, none, (.p (.faddr 1 (.t 3)))⟩,
 ⟨some 11, none, (.l (.load 1 false (.t 10)))⟩,
 ⟨some 12, none, (.p (.bin .eql .str (.t 9) (.t 11)))⟩]) (.cond (.t 12) (.seq (.regd [] 
[⟨some 13, none, (.p (.faddr 1 (.t 4)))⟩,
 ⟨some 14, none, (.l (.load 1 false (.t 13)))⟩,
 ⟨some 15, none, (.p (.faddr 0 (.t 3)))⟩,
 ⟨some 16, none, (.l (.load 1 false (.t 15)))⟩,
 ⟨some 17, none, (.p (.bin .neq .int (.t 16) (.c (.int .i64 2))))⟩,
 ⟨some 6, none, (.p (.move (.t 14)))⟩,
 ⟨some 7, none, (.p (.move (.t 17)))⟩] []) .ret) .skip)) (.seq (.reg 
[⟨some 18, none, (.p (.faddr 3 (.t 3)))⟩,
 ⟨some 19, none, (.l (.load 1 false (.t 18)))⟩,
 ⟨some 20, none, (.p (.mkf 100 [] [(.t 5)]))⟩,
 ⟨some 21, none, (.e (.call (.c (.fn 59 [] [])) [(.t 19), (.t 20)]))⟩,
 ⟨some 8, none, (.p (.move (.t 21)))⟩]) (.seq (.seq (.reg 
[⟨some 22, none, (.p (.move (.t 8)))⟩,
 ⟨some 23, none, (.p (.bin .lss .int (.t 22) (.c (.int .i64 0))))⟩]) (.cond (.t 23) (.seq (.reg 
[⟨some 6, none, (.p (.move (.c (.int .i64 0))))⟩,
 ⟨some 7, none, (.p (.move (.c (.bool false))))⟩]) .ret) .skip)) (.seq (.reg 
[⟨some 24, none, (.p (.faddr 3 (.t 3)))⟩,
 ⟨some 25, none, (.l (.load 1 false (.t 24)))⟩,
 ⟨some 26, none, (.p (.move (.t 8)))⟩,
 ⟨some 27, none, (.p (.iaddr 2 (.t 25) (.t 26)))⟩,
 ⟨some 28, none, (.p (.faddr 1 (.t 27)))⟩,
 ⟨some 29, none, (.l (.load 1 false (.t 28)))⟩,
 ⟨some 6, none, (.p (.move (.t 29)))⟩,
 ⟨some 7, none, (.p (.move (.c (.bool true))))⟩]) .ret))))), [.t 6, .t 7]⟩
/-- libevolution/since.guarded -/
def x46 : XF := ⟨(.seq (.reg 
[⟨some 2, none, (.e (.box 3 (.t 0)))⟩,
 ⟨some 4, none, (.p (.move (.c (.int .i64 0))))⟩]) (.seq (.reg 
[⟨some 5, none, (.p (.move (.c (.int .i64 0))))⟩]) (.seq (.seq (.reg 
[⟨some 7, none, (.p (.faddr 2 (.t 2)))⟩,
 ⟨some 8, none, (.l (.load 1 false (.t 7)))⟩,
 ⟨some 6, none, (.p (.move (.t 8)))⟩]) (.block 0 (.loop (.seq (.seq (.reg 
[⟨some 9, none, (.p (.move (.t 6)))⟩,
 ⟨some 10, none, (.p (.bin .neq .ptr (.t 9) (.c .nilp)))⟩]) (.cond (.t 10) .skip (.exit 0))) (.seq (.block 1 (.seq (.reg 
[⟨some 15, none, (.p (.move (.t 6)))⟩,
 ⟨some 16, none, (.p (.nilc (.t 15)))⟩,
 ⟨some 17, none, (.p (.faddr 0 (.t 16)))⟩,
 ⟨some 18, none, (.l (.load 1 false (.t 17)))⟩,
 ⟨some 19, none, (.p (.move (.t 1)))⟩,
 ⟨some 20, none, (.p (.bin .eql .str (.t 18) (.t 19)))⟩]) (.cond (.t 20) (.reg 
[⟨some 21, none, (.p (.move (.t 5)))⟩,
 ⟨some 22, none, (.p (.move (.t 6)))⟩,
 ⟨some 23, none, (.p (.nilc (.t 22)))⟩,
 ⟨some 24, none, (.p (.faddr 1 (.t 23)))⟩,
 ⟨some 25, none, (.l (.load 1 false (.t 24)))⟩,
 ⟨some 26, none, (.p (.max (.t 21) (.t 25)))⟩,
 ⟨some 5, none, (.p (.move (.t 26)))⟩]) .skip))) (.reg 
[⟨some 11, none, (.p (.move (.t 6)))⟩,
 ⟨some 12, none, (.p (.nilc (.t 11)))⟩,
 ⟨some 13, none, (.p (.faddr 2 (.t 12)))⟩,
 ⟨some 14, none, (.l (.load 1 false (.t 13)))⟩,
 ⟨some 6, none, (.p (.move (.t 14)))⟩])))))) (.seq (.reg 
[⟨some 27, none, (.p (.move (.t 5)))⟩,
 ⟨some 4, none, (.p (.move (.t 27)))⟩]) .ret)))), [.t 4]⟩
/-- (*libevolution/since.walker).walk -/
def x47 : XF := ⟨(.seq (.seq (.reg 
[⟨some 22, none, (.p (.move (.t 0)))⟩,
 ⟨some 23, none, (.p (.nilc (.t 22)))⟩,
 ⟨some 24, none, (.p (.faddr 0 (.t 23)))⟩,
 ⟨some 25, none, (.p (.faddr 4 (.t 24)))⟩,
 ⟨some 26, none, (.l (.load 1 false (.t 25)))⟩,
 ⟨some 27, none, (.p (.lenl (.t 26)))⟩,
 ⟨some 28, none, (.p (.move (.c (.int .i64 0))))⟩]) (.block 0 (.loop (.seq (.reg 
[⟨some 29, none, (.p (.bin .lss .int (.t 28) (.t 27)))⟩]) (.seq (.cond (.t 29) .skip (.exit 0)) (.seq (.block 1 (.seq (.reg 
[⟨some 30, none, (.p (.iaddr 6 (.t 26) (.t 28)))⟩,
 ⟨some 31, none, (.l (.load 6 true (.t 30)))⟩,
 ⟨some 3, none, (.e (.alloc [(.int .i64 0), (.bool false), (.bool false), (.str []), .nils, .nils]))⟩,
 ⟨none, none, (.e (.store 6 (.t 3) (.t 31)))⟩]) (.seq (.reg 
[⟨some 32, none, (.p (.faddr 5 (.t 3)))⟩,
 ⟨some 33, none, (.l (.load 1 false (.t 32)))⟩,
 ⟨some 34, none, (.p (.lenl (.t 33)))⟩,
 ⟨some 35, none, (.p (.move (.c (.int .i64 0))))⟩]) (.block 2 (.loop (.seq (.reg 
[⟨some 36, none, (.p (.bin .lss .int (.t 35) (.t 34)))⟩]) (.seq (.cond (.t 36) .skip (.exit 2)) (.seq (.block 3 (.seq (.reg 
[⟨some 37, none, (.p (.iaddr 4 (.t 33) (.t 35)))⟩,
 ⟨some 38, none, (.l (.load 4 true (.t 37)))⟩,
 ⟨some 5, none, (.e (.alloc [(.bool false), (.str []), (.str []), .nils]))⟩,
 ⟨none, none, (.e (.store 4 (.t 5) (.t 38)))⟩]) (.regd [] 
[⟨some 39, none, (.p (.move (.t 0)))⟩,
 ⟨some 40, none, (.p (.faddr 2 (.t 5)))⟩,
 ⟨some 41, none, (.l (.load 2 true (.t 40)))⟩,
 ⟨some 42, none, (.p (.move (.t 0)))⟩,
 ⟨some 43, none, (.p (.faddr 1 (.t 3)))⟩,
 ⟨some 44, none, (.l (.load 1 false (.t 43)))⟩,
 ⟨some 45, none, (.p (.faddr 0 (.t 3)))⟩,
 ⟨some 46, none, (.l (.load 1 false (.t 45)))⟩,
 ⟨some 47, none, (.e (.call (.c (.fn 102 [] [])) [(.t 42), (.t 44), (.t 46)]))⟩,
 ⟨some 48, none, (.e (.call (.c (.fn 101 [] [])) [(.t 39), (.t 41), (.t 47)]))⟩] [(2, 8)]))) (.reg 
[⟨some 49, none, (.p (.bin .add .int (.t 35) (.c (.int .i64 1))))⟩,
 ⟨some 35, none, (.p (.move (.t 49)))⟩]))))))))) (.reg 
[⟨some 50, none, (.p (.bin .add .int (.t 28) (.c (.int .i64 1))))⟩,
 ⟨some 28, none, (.p (.move (.t 50)))⟩]))))))) (.seq (.seq (.reg 
[⟨some 51, none, (.p (.move (.t 0)))⟩,
 ⟨some 52, none, (.p (.nilc (.t 51)))⟩,
 ⟨some 53, none, (.p (.faddr 0 (.t 52)))⟩,
 ⟨some 54, none, (.p (.faddr 5 (.t 53)))⟩,
 ⟨some 55, none, (.l (.load 1 false (.t 54)))⟩,
 ⟨some 56, none, (.p (.lenl (.t 55)))⟩,
 ⟨some 57, none, (.p (.move (.c (.int .i64 0))))⟩]) (.block 4 (.loop (.seq (.reg 
[⟨some 58, none, (.p (.bin .lss .int (.t 57) (.t 56)))⟩]) (.seq (.cond (.t 58) .skip (.exit 4)) (.seq (.block 5 (.seq (.reg 
[⟨some 59, none, (.p (.iaddr 6 (.t 55) (.t 57)))⟩,
 ⟨some 60, none, (.l (.load 6 true (.t 59)))⟩,
 ⟨some 7, none, (.e (.alloc [(.int .i64 0), (.bool false), (.bool false), (.str []), .nils, .nils]))⟩,
 ⟨none, none, (.e (.store 6 (.t 7) (.t 60)))⟩]) (.seq (.reg 
[⟨some 61, none, (.p (.faddr 5 (.t 7)))⟩,
 ⟨some 62, none, (.l (.load 1 false (.t 61)))⟩,
 ⟨some 63, none, (.p (.lenl (.t 62)))⟩,
 ⟨some 64, none, (.p (.move (.c (.int .i64 0))))⟩]) (.block 6 (.loop (.seq (.reg 
[⟨some 65, none, (.p (.bin .lss .int (.t 64) (.t 63)))⟩]) (.seq (.cond (.t 65) .skip (.exit 6)) (.seq (.block 7 (.seq (.reg 
[⟨some 66, none, (.p (.iaddr 3 (.t 62) (.t 64)))⟩,
 ⟨some 67, none, (.l (.load 3 true (.t 66)))⟩,
 ⟨some 9, none, (.e (.alloc [(.bool false), (.str []), .nils]))⟩,
 ⟨none, none, (.e (.store 3 (.t 9) (.t 67)))⟩]) (.regd [] 
[⟨some 68, none, (.p (.move (.t 0)))⟩,
 ⟨some 69, none, (.p (.faddr 2 (.t 9)))⟩,
 ⟨some 70, none, (.l (.load 1 false (.t 69)))⟩,
 ⟨some 71, none, (.p (.move (.t 0)))⟩,
 ⟨some 72, none, (.p (.faddr 1 (.t 7)))⟩,
 ⟨some 73, none, (.l (.load 1 false (.t 72)))⟩,
 ⟨some 74, none, (.p (.faddr 0 (.t 7)))⟩,
 ⟨some 75, none, (.l (.load 1 false (.t 74)))⟩,
 ⟨some 76, none, (.e (.call (.c (.fn 102 [] [])) [(.t 71), (.t 73), (.t 75)]))⟩,
 ⟨some 77, none, (.e (.call (.c (.fn 103 [] [])) [(.t 68), (.t 70), (.t 76)]))⟩] [(2, 8)]))) (.reg 
[⟨some 78, none, (.p (.bin .add .int (.t 64) (.c (.int .i64 1))))⟩,
 ⟨some 64, none, (.p (.move (.t 78)))⟩]))))))))) (.reg 
[⟨some 79, none, (.p (.bin .add .int (.t 57) (.c (.int .i64 1))))⟩,
 ⟨some 57, none, (.p (.move (.t 79)))⟩]))))))) (.seq (.seq (.reg 
[⟨some 80, none, (.p (.move (.t 0)))⟩,
 ⟨some 81, none, (.p (.nilc (.t 80)))⟩,
 ⟨some 82, none, (.p (.faddr 0 (.t 81)))⟩,
 ⟨some 83, none, (.p (.faddr 6 (.t 82)))⟩,
 ⟨some 84, none, (.l (.load 1 false (.t 83)))⟩,
 ⟨some 85, none, (.p (.lenl (.t 84)))⟩,
 ⟨some 86, none, (.p (.move (.c (.int .i64 0))))⟩]) (.block 8 (.loop (.seq (.reg 
[⟨some 87, none, (.p (.bin .lss .int (.t 86) (.t 85)))⟩]) (.seq (.cond (.t 87) .skip (.exit 8)) (.seq (.block 9 (.seq (.reg 
[⟨some 88, none, (.p (.iaddr 5 (.t 84) (.t 86)))⟩,
 ⟨some 89, none, (.l (.load 5 true (.t 88)))⟩,
 ⟨some 11, none, (.e (.alloc [(.int .i64 0), (.bool false), (.bool false), (.str []), .nils]))⟩,
 ⟨none, none, (.e (.store 5 (.t 11) (.t 89)))⟩]) (.seq (.reg 
[⟨some 90, none, (.p (.move (.t 0)))⟩,
 ⟨some 91, none, (.p (.faddr 1 (.t 11)))⟩,
 ⟨some 92, none, (.l (.load 1 false (.t 91)))⟩,
 ⟨some 93, none, (.p (.faddr 0 (.t 11)))⟩,
 ⟨some 94, none, (.l (.load 1 false (.t 93)))⟩,
 ⟨some 95, none, (.e (.call (.c (.fn 102 [] [])) [(.t 90), (.t 92), (.t 94)]))⟩,
 ⟨some 12, none, (.e (.alloc [(.int .i64 0), (.int .i64 0), .nilp]))⟩,
 ⟨none, none, (.e (.store 3 (.t 12) (.t 95)))⟩]) (.seq (.reg 
[⟨some 96, none, (.p (.faddr 4 (.t 11)))⟩,
 ⟨some 97, none, (.l (.load 1 false (.t 96)))⟩,
 ⟨some 98, none, (.p (.lenl (.t 97)))⟩,
 ⟨some 99, none, (.p (.move (.c (.int .i64 0))))⟩]) (.block 10 (.loop (.seq (.reg 
[⟨some 100, none, (.p (.bin .lss .int (.t 99) (.t 98)))⟩]) (.seq (.cond (.t 100) .skip (.exit 10)) (.seq (.block 11 (.seq (.reg 
[⟨some 101, none, (.p (.iaddr 5 (.t 97) (.t 99)))⟩,
 ⟨some 102, none, (.l (.load 5 true (.t 101)))⟩,
 ⟨some 14, none, (.e (.alloc [(.str []), .nils, (.str []), .nils, (.str [])]))⟩,
 ⟨none, none, (.e (.store 5 (.t 14) (.t 102)))⟩]) (.seq (.reg 
[⟨some 103, none, (.p (.move (.t 0)))⟩,
 ⟨some 104, none, (.p (.faddr 1 (.t 14)))⟩,
 ⟨some 105, none, (.l (.load 1 false (.t 104)))⟩,
 ⟨some 106, none, (.l (.load 3 true (.t 12)))⟩,
 ⟨some 107, none, (.e (.call (.c (.fn 103 [] [])) [(.t 103), (.t 105), (.t 106)]))⟩]) (.seq (.reg 
[⟨some 108, none, (.p (.move (.t 0)))⟩,
 ⟨some 109, none, (.p (.faddr 2 (.t 14)))⟩,
 ⟨some 110, none, (.l (.load 2 true (.t 109)))⟩,
 ⟨some 111, none, (.l (.load 3 true (.t 12)))⟩,
 ⟨some 112, none, (.e (.call (.c (.fn 101 [] [])) [(.t 108), (.t 110), (.t 111)]))⟩]) (.regd [] 
[⟨some 113, none, (.p (.move (.t 0)))⟩,
 ⟨some 114, none, (.p (.nilc (.t 113)))⟩,
 ⟨some 115, none, (.p (.faddr 9 (.t 114)))⟩,
 ⟨some 116, none, (.l (.load 1 false (.t 115)))⟩,
 ⟨some 117, none, (.p (.faddr 4 (.t 14)))⟩,
 ⟨some 118, none, (.l (.load 1 false (.t 117)))⟩,
 ⟨some 119, none, (.l (.load 3 true (.t 12)))⟩,
 ⟨some 120, none, (.e (.call (.t 116) [(.t 118), (.t 119)]))⟩] []))))) (.reg 
[⟨some 121, none, (.p (.bin .add .int (.t 99) (.c (.int .i64 1))))⟩,
 ⟨some 99, none, (.p (.move (.t 121)))⟩])))))))))) (.reg 
[⟨some 122, none, (.p (.bin .add .int (.t 86) (.c (.int .i64 1))))⟩,
 ⟨some 86, none, (.p (.move (.t 122)))⟩]))))))) (.seq (.seq (.reg 
[⟨some 123, none, (.p (.move (.t 0)))⟩,
 ⟨some 124, none, (.p (.nilc (.t 123)))⟩,
 ⟨some 125, none, (.p (.faddr 0 (.t 124)))⟩,
 ⟨some 126, none, (.p (.faddr 7 (.t 125)))⟩,
 ⟨some 127, none, (.l (.load 1 false (.t 126)))⟩,
 ⟨some 128, none, (.p (.lenl (.t 127)))⟩,
 ⟨some 129, none, (.p (.move (.c (.int .i64 0))))⟩]) (.block 12 (.loop (.seq (.reg 
[⟨some 130, none, (.p (.bin .lss .int (.t 129) (.t 128)))⟩]) (.seq (.cond (.t 130) .skip (.exit 12)) (.seq (.block 13 (.seq (.reg 
[⟨some 131, none, (.p (.iaddr 5 (.t 127) (.t 129)))⟩,
 ⟨some 132, none, (.l (.load 5 true (.t 131)))⟩,
 ⟨some 16, none, (.e (.alloc [(.str []), .nils, (.str []), .nils, .nils]))⟩,
 ⟨none, none, (.e (.store 5 (.t 16) (.t 132)))⟩]) (.seq (.reg 
[⟨some 133, none, (.p (.move (.t 0)))⟩,
 ⟨some 134, none, (.e (.call (.c (.fn 102 [] [])) [(.t 133), (.c (.bool false)), (.c (.int .i64 0))]))⟩,
 ⟨some 17, none, (.e (.alloc [(.int .i64 0), (.int .i64 0), .nilp]))⟩,
 ⟨none, none, (.e (.store 3 (.t 17) (.t 134)))⟩]) (.seq (.regd [] 
[⟨some 135, none, (.p (.move (.t 0)))⟩,
 ⟨some 136, none, (.p (.nilc (.t 135)))⟩,
 ⟨some 137, none, (.p (.faddr 9 (.t 136)))⟩,
 ⟨some 138, none, (.l (.load 1 false (.t 137)))⟩,
 ⟨some 139, none, (.p (.faddr 0 (.t 16)))⟩,
 ⟨some 140, none, (.l (.load 1 false (.t 139)))⟩,
 ⟨some 141, none, (.l (.load 3 true (.t 17)))⟩,
 ⟨some 142, none, (.e (.call (.t 138) [(.t 140), (.t 141)]))⟩] []) (.seq (.reg 
[⟨some 143, none, (.p (.move (.t 0)))⟩,
 ⟨some 144, none, (.p (.faddr 1 (.t 16)))⟩,
 ⟨some 145, none, (.l (.load 1 false (.t 144)))⟩,
 ⟨some 146, none, (.l (.load 3 true (.t 17)))⟩,
 ⟨some 147, none, (.e (.call (.c (.fn 104 [] [])) [(.t 143), (.t 145), (.t 146)]))⟩]) (.seq (.reg 
[⟨some 148, none, (.p (.move (.t 0)))⟩,
 ⟨some 149, none, (.p (.faddr 2 (.t 16)))⟩,
 ⟨some 150, none, (.l (.load 2 true (.t 149)))⟩,
 ⟨some 151, none, (.l (.load 3 true (.t 17)))⟩,
 ⟨some 152, none, (.e (.call (.c (.fn 101 [] [])) [(.t 148), (.t 150), (.t 151)]))⟩]) (.seq (.reg 
[⟨some 153, none, (.p (.faddr 4 (.t 16)))⟩,
 ⟨some 154, none, (.l (.load 1 false (.t 153)))⟩,
 ⟨some 155, none, (.p (.lenl (.t 154)))⟩,
 ⟨some 156, none, (.p (.move (.c (.int .i64 0))))⟩]) (.block 14 (.loop (.seq (.reg 
[⟨some 157, none, (.p (.bin .lss .int (.t 156) (.t 155)))⟩]) (.seq (.cond (.t 157) .skip (.exit 14)) (.seq (.block 15 (.seq (.reg 
[⟨some 158, none, (.p (.iaddr 2 (.t 154) (.t 156)))⟩,
 ⟨some 159, none, (.l (.load 2 true (.t 158)))⟩,
 ⟨some 19, none, (.e (.alloc [(.str []), (.str [])]))⟩,
 ⟨none, none, (.e (.store 2 (.t 19) (.t 159)))⟩]) (.regd [] 
[⟨some 160, none, (.p (.move (.t 0)))⟩,
 ⟨some 161, none, (.p (.nilc (.t 160)))⟩,
 ⟨some 162, none, (.p (.faddr 9 (.t 161)))⟩,
 ⟨some 163, none, (.l (.load 1 false (.t 162)))⟩,
 ⟨some 164, none, (.p (.faddr 1 (.t 19)))⟩,
 ⟨some 165, none, (.l (.load 1 false (.t 164)))⟩,
 ⟨some 166, none, (.l (.load 3 true (.t 17)))⟩,
 ⟨some 167, none, (.e (.call (.t 163) [(.t 165), (.t 166)]))⟩] []))) (.reg 
[⟨some 168, none, (.p (.bin .add .int (.t 156) (.c (.int .i64 1))))⟩,
 ⟨some 156, none, (.p (.move (.t 168)))⟩]))))))))))))) (.reg 
[⟨some 169, none, (.p (.bin .add .int (.t 129) (.c (.int .i64 1))))⟩,
 ⟨some 129, none, (.p (.move (.t 169)))⟩]))))))) (.seq (.reg 
[⟨some 170, none, (.p (.move (.t 0)))⟩,
 ⟨some 171, none, (.p (.nilc (.t 170)))⟩,
 ⟨some 172, none, (.p (.faddr 0 (.t 171)))⟩,
 ⟨some 173, none, (.p (.faddr 8 (.t 172)))⟩,
 ⟨some 174, none, (.l (.load 1 false (.t 173)))⟩,
 ⟨some 175, none, (.p (.lenl (.t 174)))⟩,
 ⟨some 176, none, (.p (.move (.c (.int .i64 0))))⟩]) (.block 16 (.loop (.seq (.reg 
[⟨some 177, none, (.p (.bin .lss .int (.t 176) (.t 175)))⟩]) (.seq (.cond (.t 177) .skip (.exit 16)) (.seq (.block 17 (.seq (.reg 
[⟨some 178, none, (.p (.iaddr 20 (.t 174) (.t 176)))⟩,
 ⟨some 179, none, (.l (.load 20 true (.t 178)))⟩,
 ⟨some 21, none, (.e (.alloc [(.int .i64 0), (.bool false), (.bool false), (.str []), .nils, .nils, (.str []), .nils, (.bool false), (.int .i64 0), (.str []), (.str []), (.int .i64 0), .nils, .nils, .nils, .nils, (.str []), .nils, (.int .i64 0)]))⟩,
 ⟨none, none, (.e (.store 20 (.t 21) (.t 179)))⟩]) (.reg 
[⟨some 180, none, (.p (.move (.t 0)))⟩,
 ⟨some 181, none, (.l (.load 20 true (.t 21)))⟩,
 ⟨some 182, none, (.e (.call (.c (.fn 105 [] [])) [(.t 180), (.t 181)]))⟩]))) (.reg 
[⟨some 183, none, (.p (.bin .add .int (.t 176) (.c (.int .i64 1))))⟩,
 ⟨some 176, none, (.p (.move (.t 183)))⟩]))))))))))), []⟩
/-- libevolution/libevolutionlaw08.two -/
def x48 : XF := ⟨(.seq (.reg 
[⟨some 4, none, (.p (.move (.c .nils)))⟩]) (.seq (.reg 
[⟨some 5, none, (.p (.move (.t 1)))⟩,
 ⟨some 6, none, (.p (.bin .add .str (.c (.str [99, 108, 105, 101, 110, 116, 32, 97, 112, 112, 59, 32, 105, 109, 112, 111, 114, 116, 32, 103, 101, 111, 32])) (.t 5)))⟩,
 ⟨some 7, none, (.p (.bin .add .str (.t 6) (.c (.str [59, 32, 102, 117, 110, 99, 32, 109, 97, 105, 110, 40, 41, 58, 32, 73, 110, 116, 32, 61, 32]))))⟩,
 ⟨some 8, none, (.p (.move (.t 0)))⟩,
 ⟨some 9, none, (.p (.bin .add .str (.t 7) (.t 8)))⟩,
 ⟨some 10, none, (.p (.bin .add .str (.t 9) (.c (.str [103, 101, 111, 46, 110, 101, 119, 40, 41]))))⟩,
 ⟨some 11, none, (.e (.mkmap))⟩,
 ⟨none, none, (.e (.put .bool (.t 11) (.c (.bool true)) (.c (.str []))))⟩,
 ⟨none, none, (.e (.put .bool (.t 11) (.c (.bool false)) (.c (.str [32, 101, 108, 115, 101, 32, 48]))))⟩,
 ⟨some 12, none, (.p (.move (.t 11)))⟩,
 ⟨some 13, none, (.p (.move (.t 0)))⟩,
 ⟨some 14, none, (.p (.bin .eql .str (.t 13) (.c (.str []))))⟩,
 ⟨some 15, none, (.l (.look .bool (.str []) false (.t 12) (.t 14)))⟩,
 ⟨some 16, none, (.p (.bin .add .str (.t 10) (.t 15)))⟩,
 ⟨some 17, none, (.p (.bin .add .str (.t 16) (.c (.str [59]))))⟩,
 ⟨some 18, none, (.p (.bslice 1 [(.str []), (.str [])] [(0, (.c (.str [108, 105, 98, 114, 97, 114, 121, 32, 103, 101, 111, 32, 114, 101, 108, 101, 97, 115, 101, 32, 51, 59, 32, 115, 105, 110, 99, 101, 32, 50, 32, 112, 117, 98, 108, 105, 99, 32, 102, 117, 110, 99, 32, 110, 101, 119, 40, 41, 58, 32, 73, 110, 116, 32, 61, 32, 49, 59]))), (1, (.t 17))]))⟩,
 ⟨some 19, none, (.e (.call (.c (.fn 22 [] [])) [(.t 18)]))⟩,
 ⟨some 4, none, (.p (.move (.t 19)))⟩]) .ret)), [.t 4]⟩
/-- libevolution/libevolutionref04.Split -/
def x49 : XF := ⟨(.seq (.reg 
[⟨some 2, none, (.p (.move (.c (.str []))))⟩,
 ⟨some 3, none, (.p (.move (.c (.str []))))⟩,
 ⟨some 4, none, (.p (.move (.c (.bool false))))⟩]) (.seq (.seq (.reg 
[⟨some 6, none, (.p (.move (.t 0)))⟩,
 ⟨some 7, none, (.e (.call (.c (.fn 106 [] [])) [(.t 6)]))⟩,
 ⟨some 8, none, (.p (.bin .neq .int (.t 7) (.c (.int .i64 1))))⟩,
 ⟨some 9, none, (.p (.move (.t 8)))⟩,
 ⟨some 10, some (9, false), (.p (.move (.t 0)))⟩,
 ⟨some 11, some (9, false), (.p (.ixs (.t 10) (.c (.int .i64 0))))⟩,
 ⟨some 12, some (9, false), (.p (.bin .eql .int (.t 11) (.c (.int .u8 46))))⟩,
 ⟨some 13, none, (.p (.pick (.t 9) (.c (.bool true)) (.t 12)))⟩,
 ⟨some 14, none, (.p (.move (.t 13)))⟩,
 ⟨some 15, some (14, false), (.p (.move (.t 0)))⟩,
 ⟨some 16, some (14, false), (.p (.move (.t 0)))⟩,
 ⟨some 17, some (14, false), (.p (.lens (.t 16)))⟩,
 ⟨some 18, some (14, false), (.p (.bin .sub .int (.t 17) (.c (.int .i64 1))))⟩,
 ⟨some 19, some (14, false), (.p (.ixs (.t 15) (.t 18)))⟩,
 ⟨some 20, some (14, false), (.p (.bin .eql .int (.t 19) (.c (.int .u8 46))))⟩,
 ⟨some 21, none, (.p (.pick (.t 14) (.c (.bool true)) (.t 20)))⟩]) (.cond (.t 21) (.seq (.reg 
[⟨some 2, none, (.p (.move (.c (.str []))))⟩,
 ⟨some 3, none, (.p (.move (.c (.str []))))⟩,
 ⟨some 4, none, (.p (.move (.c (.bool false))))⟩]) .ret) .skip)) (.seq (.reg 
[⟨some 5, none, (.p (.move (.c (.int .i64 0))))⟩]) (.seq (.block 0 (.loop (.seq (.seq (.reg 
[⟨some 22, none, (.p (.move (.t 0)))⟩,
 ⟨some 23, none, (.p (.move (.t 5)))⟩,
 ⟨some 24, none, (.p (.ixs (.t 22) (.t 23)))⟩,
 ⟨some 25, none, (.p (.bin .neq .int (.t 24) (.c (.int .u8 46))))⟩]) (.cond (.t 25) .skip (.exit 0))) (.block 1 (.reg 
[⟨some 26, none, (.p (.move (.t 5)))⟩,
 ⟨some 27, none, (.p (.bin .add .int (.t 26) (.c (.int .i64 1))))⟩,
 ⟨some 5, none, (.p (.move (.t 27)))⟩]))))) (.seq (.regd [] 
[⟨some 28, none, (.p (.move (.t 0)))⟩,
 ⟨some 29, none, (.p (.move (.t 5)))⟩,
 ⟨some 30, none, (.p (.subs (.t 28) none (some (.t 29))))⟩,
 ⟨some 31, none, (.p (.move (.t 0)))⟩,
 ⟨some 32, none, (.p (.move (.t 5)))⟩,
 ⟨some 33, none, (.p (.bin .add .int (.t 32) (.c (.int .i64 1))))⟩,
 ⟨some 34, none, (.p (.subs (.t 31) (some (.t 33)) none))⟩,
 ⟨some 2, none, (.p (.move (.t 30)))⟩,
 ⟨some 3, none, (.p (.move (.t 34)))⟩,
 ⟨some 4, none, (.p (.move (.c (.bool true))))⟩] []) .ret))))), [.t 2, .t 3, .t 4]⟩
/-- libevolution/libevolutionref05.StructOf -/
def x50 : XF := ⟨(.seq (.reg 
[⟨some 4, none, (.e (.alloc [(.int .i64 0), (.bool false), (.bool false), (.str []), .nils, .nils]))⟩,
 ⟨some 5, none, (.p (.move (.c (.bool false))))⟩]) (.seq (.reg 
[⟨some 14, none, (.p (.move (.t 1)))⟩,
 ⟨some 15, none, (.e (.call (.c (.fn 49 [] [])) [(.t 14)]))⟩,
 ⟨some 13, none, (.p (.move (.t 15)))⟩,
 ⟨some 16, none, (.p (.ext (.t 13) 0))⟩,
 ⟨some 17, none, (.p (.ext (.t 13) 1))⟩,
 ⟨some 18, none, (.p (.ext (.t 13) 2))⟩,
 ⟨some 6, none, (.p (.move (.t 16)))⟩,
 ⟨some 7, none, (.p (.move (.t 17)))⟩,
 ⟨some 8, none, (.p (.move (.t 18)))⟩]) (.seq (.seq (.reg 
[⟨some 19, none, (.p (.move (.t 0)))⟩,
 ⟨some 20, none, (.p (.lenl (.t 19)))⟩,
 ⟨some 21, none, (.p (.move (.c (.int .i64 0))))⟩]) (.block 0 (.loop (.seq (.reg 
[⟨some 22, none, (.p (.bin .lss .int (.t 21) (.t 20)))⟩]) (.seq (.cond (.t 22) .skip (.exit 0)) (.seq (.block 1 (.seq (.reg 
[⟨some 23, none, (.p (.iaddr 9 (.t 19) (.t 21)))⟩,
 ⟨some 24, none, (.l (.load 9 true (.t 23)))⟩,
 ⟨some 10, none, (.e (.alloc [(.int .i64 0), (.str []), (.int .i64 0), .nils, .nils, .nils, .nils, .nils, .nils]))⟩,
 ⟨none, none, (.e (.store 9 (.t 10) (.t 24)))⟩]) (.seq (.reg 
[⟨some 25, none, (.p (.faddr 4 (.t 10)))⟩,
 ⟨some 26, none, (.l (.load 1 false (.t 25)))⟩,
 ⟨some 27, none, (.p (.lenl (.t 26)))⟩,
 ⟨some 28, none, (.p (.move (.c (.int .i64 0))))⟩]) (.block 2 (.loop (.seq (.reg 
[⟨some 29, none, (.p (.bin .lss .int (.t 28) (.t 27)))⟩]) (.seq (.cond (.t 29) .skip (.exit 2)) (.seq (.block 3 (.seq (.reg 
[⟨some 30, none, (.p (.iaddr 6 (.t 26) (.t 28)))⟩,
 ⟨some 31, none, (.l (.load 6 true (.t 30)))⟩,
 ⟨some 12, none, (.e (.alloc [(.int .i64 0), (.bool false), (.bool false), (.str []), .nils, .nils]))⟩,
 ⟨none, none, (.e (.store 6 (.t 12) (.t 31)))⟩]) (.seq (.reg 
[⟨some 32, none, (.p (.move (.t 8)))⟩,
 ⟨some 33, none, (.p (.move (.t 32)))⟩,
 ⟨some 34, some (33, true), (.p (.faddr 1 (.t 10)))⟩,
 ⟨some 35, some (33, true), (.l (.load 1 false (.t 34)))⟩,
 ⟨some 36, some (33, true), (.p (.move (.t 6)))⟩,
 ⟨some 37, some (33, true), (.p (.bin .eql .str (.t 35) (.t 36)))⟩,
 ⟨some 38, none, (.p (.pick (.t 33) (.t 37) (.c (.bool false))))⟩,
 ⟨some 39, none, (.p (.move (.t 38)))⟩,
 ⟨some 40, some (39, true), (.p (.faddr 3 (.t 12)))⟩,
 ⟨some 41, some (39, true), (.l (.load 1 false (.t 40)))⟩,
 ⟨some 42, some (39, true), (.p (.move (.t 7)))⟩,
 ⟨some 43, some (39, true), (.p (.bin .eql .str (.t 41) (.t 42)))⟩,
 ⟨some 44, none, (.p (.pick (.t 39) (.t 43) (.c (.bool false))))⟩]) (.cond (.t 44) (.seq (.reg 
[⟨some 45, none, (.l (.load 6 true (.t 12)))⟩,
 ⟨none, none, (.e (.store 6 (.t 4) (.t 45)))⟩,
 ⟨some 5, none, (.p (.move (.c (.bool true))))⟩]) .ret) .skip)))) (.reg 
[⟨some 46, none, (.p (.bin .add .int (.t 28) (.c (.int .i64 1))))⟩,
 ⟨some 28, none, (.p (.move (.t 46)))⟩]))))))))) (.reg 
[⟨some 47, none, (.p (.bin .add .int (.t 21) (.c (.int .i64 1))))⟩,
 ⟨some 21, none, (.p (.move (.t 47)))⟩]))))))) (.seq (.reg 
[⟨some 48, none, (.p (.build [(.int .i64 0), (.bool false), (.bool false), (.str []), .nils, .nils] []))⟩,
 ⟨none, none, (.e (.store 6 (.t 4) (.t 48)))⟩,
 ⟨some 5, none, (.p (.move (.c (.bool false))))⟩]) .ret)))), [.cell 4 6 true, .t 5]⟩
/-- libevolution/libevolutionref05.UnionOf -/
def x51 : XF := ⟨(.seq (.reg 
[⟨some 4, none, (.e (.alloc [(.int .i64 0), (.bool false), (.bool false), (.str []), .nils, .nils]))⟩,
 ⟨some 5, none, (.p (.move (.c (.bool false))))⟩]) (.seq (.reg 
[⟨some 14, none, (.p (.move (.t 1)))⟩,
 ⟨some 15, none, (.e (.call (.c (.fn 49 [] [])) [(.t 14)]))⟩,
 ⟨some 13, none, (.p (.move (.t 15)))⟩,
 ⟨some 16, none, (.p (.ext (.t 13) 0))⟩,
 ⟨some 17, none, (.p (.ext (.t 13) 1))⟩,
 ⟨some 18, none, (.p (.ext (.t 13) 2))⟩,
 ⟨some 6, none, (.p (.move (.t 16)))⟩,
 ⟨some 7, none, (.p (.move (.t 17)))⟩,
 ⟨some 8, none, (.p (.move (.t 18)))⟩]) (.seq (.seq (.reg 
[⟨some 19, none, (.p (.move (.t 0)))⟩,
 ⟨some 20, none, (.p (.lenl (.t 19)))⟩,
 ⟨some 21, none, (.p (.move (.c (.int .i64 0))))⟩]) (.block 0 (.loop (.seq (.reg 
[⟨some 22, none, (.p (.bin .lss .int (.t 21) (.t 20)))⟩]) (.seq (.cond (.t 22) .skip (.exit 0)) (.seq (.block 1 (.seq (.reg 
[⟨some 23, none, (.p (.iaddr 9 (.t 19) (.t 21)))⟩,
 ⟨some 24, none, (.l (.load 9 true (.t 23)))⟩,
 ⟨some 10, none, (.e (.alloc [(.int .i64 0), (.str []), (.int .i64 0), .nils, .nils, .nils, .nils, .nils, .nils]))⟩,
 ⟨none, none, (.e (.store 9 (.t 10) (.t 24)))⟩]) (.seq (.reg 
[⟨some 25, none, (.p (.faddr 5 (.t 10)))⟩,
 ⟨some 26, none, (.l (.load 1 false (.t 25)))⟩,
 ⟨some 27, none, (.p (.lenl (.t 26)))⟩,
 ⟨some 28, none, (.p (.move (.c (.int .i64 0))))⟩]) (.block 2 (.loop (.seq (.reg 
[⟨some 29, none, (.p (.bin .lss .int (.t 28) (.t 27)))⟩]) (.seq (.cond (.t 29) .skip (.exit 2)) (.seq (.block 3 (.seq (.reg 
[⟨some 30, none, (.p (.iaddr 6 (.t 26) (.t 28)))⟩,
 ⟨some 31, none, (.l (.load 6 true (.t 30)))⟩,
 ⟨some 12, none, (.e (.alloc [(.int .i64 0), (.bool false), (.bool false), (.str []), .nils, .nils]))⟩,
 ⟨none, none, (.e (.store 6 (.t 12) (.t 31)))⟩]) (.seq (.reg 
[⟨some 32, none, (.p (.move (.t 8)))⟩,
 ⟨some 33, none, (.p (.move (.t 32)))⟩,
 ⟨some 34, some (33, true), (.p (.faddr 1 (.t 10)))⟩,
 ⟨some 35, some (33, true), (.l (.load 1 false (.t 34)))⟩,
 ⟨some 36, some (33, true), (.p (.move (.t 6)))⟩,
 ⟨some 37, some (33, true), (.p (.bin .eql .str (.t 35) (.t 36)))⟩,
 ⟨some 38, none, (.p (.pick (.t 33) (.t 37) (.c (.bool false))))⟩,
 ⟨some 39, none, (.p (.move (.t 38)))⟩,
 ⟨some 40, some (39, true), (.p (.faddr 3 (.t 12)))⟩,
 ⟨some 41, some (39, true), (.l (.load 1 false (.t 40)))⟩,
 ⟨some 42, some (39, true), (.p (.move (.t 7)))⟩,
 ⟨some 43, some (39, true), (.p (.bin .eql .str (.t 41) (.t 42)))⟩,
 ⟨some 44, none, (.p (.pick (.t 39) (.t 43) (.c (.bool false))))⟩]) (.cond (.t 44) (.seq (.reg 
[⟨some 45, none, (.l (.load 6 true (.t 12)))⟩,
 ⟨none, none, (.e (.store 6 (.t 4) (.t 45)))⟩,
 ⟨some 5, none, (.p (.move (.c (.bool true))))⟩]) .ret) .skip)))) (.reg 
[⟨some 46, none, (.p (.bin .add .int (.t 28) (.c (.int .i64 1))))⟩,
 ⟨some 28, none, (.p (.move (.t 46)))⟩]))))))))) (.reg 
[⟨some 47, none, (.p (.bin .add .int (.t 21) (.c (.int .i64 1))))⟩,
 ⟨some 21, none, (.p (.move (.t 47)))⟩]))))))) (.seq (.reg 
[⟨some 48, none, (.p (.build [(.int .i64 0), (.bool false), (.bool false), (.str []), .nils, .nils] []))⟩,
 ⟨none, none, (.e (.store 6 (.t 4) (.t 48)))⟩,
 ⟨some 5, none, (.p (.move (.c (.bool false))))⟩]) .ret)))), [.cell 4 6 true, .t 5]⟩
/-- libevolution/libevolutionref05.TraitOf -/
def x52 : XF := ⟨(.seq (.reg 
[⟨some 4, none, (.e (.alloc [(.int .i64 0), (.bool false), (.bool false), (.str []), .nils]))⟩,
 ⟨some 5, none, (.p (.move (.c (.bool false))))⟩]) (.seq (.reg 
[⟨some 14, none, (.p (.move (.t 1)))⟩,
 ⟨some 15, none, (.e (.call (.c (.fn 49 [] [])) [(.t 14)]))⟩,
 ⟨some 13, none, (.p (.move (.t 15)))⟩,
 ⟨some 16, none, (.p (.ext (.t 13) 0))⟩,
 ⟨some 17, none, (.p (.ext (.t 13) 1))⟩,
 ⟨some 18, none, (.p (.ext (.t 13) 2))⟩,
 ⟨some 6, none, (.p (.move (.t 16)))⟩,
 ⟨some 7, none, (.p (.move (.t 17)))⟩,
 ⟨some 8, none, (.p (.move (.t 18)))⟩]) (.seq (.seq (.reg 
[⟨some 19, none, (.p (.move (.t 0)))⟩,
 ⟨some 20, none, (.p (.lenl (.t 19)))⟩,
 ⟨some 21, none, (.p (.move (.c (.int .i64 0))))⟩]) (.block 0 (.loop (.seq (.reg 
[⟨some 22, none, (.p (.bin .lss .int (.t 21) (.t 20)))⟩]) (.seq (.cond (.t 22) .skip (.exit 0)) (.seq (.block 1 (.seq (.reg 
[⟨some 23, none, (.p (.iaddr 9 (.t 19) (.t 21)))⟩,
 ⟨some 24, none, (.l (.load 9 true (.t 23)))⟩,
 ⟨some 10, none, (.e (.alloc [(.int .i64 0), (.str []), (.int .i64 0), .nils, .nils, .nils, .nils, .nils, .nils]))⟩,
 ⟨none, none, (.e (.store 9 (.t 10) (.t 24)))⟩]) (.seq (.reg 
[⟨some 25, none, (.p (.faddr 6 (.t 10)))⟩,
 ⟨some 26, none, (.l (.load 1 false (.t 25)))⟩,
 ⟨some 27, none, (.p (.lenl (.t 26)))⟩,
 ⟨some 28, none, (.p (.move (.c (.int .i64 0))))⟩]) (.block 2 (.loop (.seq (.reg 
[⟨some 29, none, (.p (.bin .lss .int (.t 28) (.t 27)))⟩]) (.seq (.cond (.t 29) .skip (.exit 2)) (.seq (.block 3 (.seq (.reg 
[⟨some 30, none, (.p (.iaddr 5 (.t 26) (.t 28)))⟩,
 ⟨some 31, none, (.l (.load 5 true (.t 30)))⟩,
 ⟨some 12, none, (.e (.alloc [(.int .i64 0), (.bool false), (.bool false), (.str []), .nils]))⟩,
 ⟨none, none, (.e (.store 5 (.t 12) (.t 31)))⟩]) (.seq (.reg 
[⟨some 32, none, (.p (.move (.t 8)))⟩,
 ⟨some 33, none, (.p (.move (.t 32)))⟩,
 ⟨some 34, some (33, true), (.p (.faddr 1 (.t 10)))⟩,
 ⟨some 35, some (33, true), (.l (.load 1 false (.t 34)))⟩,
 ⟨some 36, some (33, true), (.p (.move (.t 6)))⟩,
 ⟨some 37, some (33, true), (.p (.bin .eql .str (.t 35) (.t 36)))⟩,
 ⟨some 38, none, (.p (.pick (.t 33) (.t 37) (.c (.bool false))))⟩,
 ⟨some 39, none, (.p (.move (.t 38)))⟩,
 ⟨some 40, some (39, true), (.p (.faddr 3 (.t 12)))⟩,
 ⟨some 41, some (39, true), (.l (.load 1 false (.t 40)))⟩,
 ⟨some 42, some (39, true), (.p (.move (.t 7)))⟩,
 ⟨some 43, some (39, true), (.p (.bin .eql .str (.t 41) (.t 42)))⟩,
 ⟨some 44, none, (.p (.pick (.t 39) (.t 43) (.c (.bool false))))⟩]) (.cond (.t 44) (.seq (.reg 
[⟨some 45, none, (.l (.load 5 true (.t 12)))⟩,
 ⟨none, none, (.e (.store 5 (.t 4) (.t 45)))⟩,
 ⟨some 5, none, (.p (.move (.c (.bool true))))⟩]) .ret) .skip)))) (.reg 
[⟨some 46, none, (.p (.bin .add .int (.t 28) (.c (.int .i64 1))))⟩,
 ⟨some 28, none, (.p (.move (.t 46)))⟩]))))))))) (.reg 
[⟨some 47, none, (.p (.bin .add .int (.t 21) (.c (.int .i64 1))))⟩,
 ⟨some 21, none, (.p (.move (.t 47)))⟩]))))))) (.seq (.reg 
[⟨some 48, none, (.p (.build [(.int .i64 0), (.bool false), (.bool false), (.str []), .nils] []))⟩,
 ⟨none, none, (.e (.store 5 (.t 4) (.t 48)))⟩,
 ⟨some 5, none, (.p (.move (.c (.bool false))))⟩]) .ret)))), [.cell 4 5 true, .t 5]⟩
/-- libevolution/libevolutionref05.FuncOf -/
def x53 : XF := ⟨(.seq (.reg 
[⟨some 4, none, (.e (.alloc [(.int .i64 0), (.bool false), (.bool false), (.str []), .nils, .nils, (.str []), .nils, (.bool false), (.int .i64 0), (.str []), (.str []), (.int .i64 0), .nils, .nils, .nils, .nils, (.str []), .nils, (.int .i64 0)]))⟩,
 ⟨some 5, none, (.p (.move (.c (.bool false))))⟩]) (.seq (.reg 
[⟨some 14, none, (.p (.move (.t 1)))⟩,
 ⟨some 15, none, (.e (.call (.c (.fn 49 [] [])) [(.t 14)]))⟩,
 ⟨some 13, none, (.p (.move (.t 15)))⟩,
 ⟨some 16, none, (.p (.ext (.t 13) 0))⟩,
 ⟨some 17, none, (.p (.ext (.t 13) 1))⟩,
 ⟨some 18, none, (.p (.ext (.t 13) 2))⟩,
 ⟨some 6, none, (.p (.move (.t 16)))⟩,
 ⟨some 7, none, (.p (.move (.t 17)))⟩,
 ⟨some 8, none, (.p (.move (.t 18)))⟩]) (.seq (.seq (.reg 
[⟨some 19, none, (.p (.move (.t 0)))⟩,
 ⟨some 20, none, (.p (.lenl (.t 19)))⟩,
 ⟨some 21, none, (.p (.move (.c (.int .i64 0))))⟩]) (.block 0 (.loop (.seq (.reg 
[⟨some 22, none, (.p (.bin .lss .int (.t 21) (.t 20)))⟩]) (.seq (.cond (.t 22) .skip (.exit 0)) (.seq (.block 1 (.seq (.reg 
[⟨some 23, none, (.p (.iaddr 9 (.t 19) (.t 21)))⟩,
 ⟨some 24, none, (.l (.load 9 true (.t 23)))⟩,
 ⟨some 10, none, (.e (.alloc [(.int .i64 0), (.str []), (.int .i64 0), .nils, .nils, .nils, .nils, .nils, .nils]))⟩,
 ⟨none, none, (.e (.store 9 (.t 10) (.t 24)))⟩]) (.seq (.reg 
[⟨some 25, none, (.p (.faddr 8 (.t 10)))⟩,
 ⟨some 26, none, (.l (.load 1 false (.t 25)))⟩,
 ⟨some 27, none, (.p (.lenl (.t 26)))⟩,
 ⟨some 28, none, (.p (.move (.c (.int .i64 0))))⟩]) (.block 2 (.loop (.seq (.reg 
[⟨some 29, none, (.p (.bin .lss .int (.t 28) (.t 27)))⟩]) (.seq (.cond (.t 29) .skip (.exit 2)) (.seq (.block 3 (.seq (.reg 
[⟨some 30, none, (.p (.iaddr 20 (.t 26) (.t 28)))⟩,
 ⟨some 31, none, (.l (.load 20 true (.t 30)))⟩,
 ⟨some 12, none, (.e (.alloc [(.int .i64 0), (.bool false), (.bool false), (.str []), .nils, .nils, (.str []), .nils, (.bool false), (.int .i64 0), (.str []), (.str []), (.int .i64 0), .nils, .nils, .nils, .nils, (.str []), .nils, (.int .i64 0)]))⟩,
 ⟨none, none, (.e (.store 20 (.t 12) (.t 31)))⟩]) (.seq (.reg 
[⟨some 32, none, (.p (.move (.t 8)))⟩,
 ⟨some 33, none, (.p (.move (.t 32)))⟩,
 ⟨some 34, some (33, true), (.p (.faddr 1 (.t 10)))⟩,
 ⟨some 35, some (33, true), (.l (.load 1 false (.t 34)))⟩,
 ⟨some 36, some (33, true), (.p (.move (.t 6)))⟩,
 ⟨some 37, some (33, true), (.p (.bin .eql .str (.t 35) (.t 36)))⟩,
 ⟨some 38, none, (.p (.pick (.t 33) (.t 37) (.c (.bool false))))⟩,
 ⟨some 39, none, (.p (.move (.t 38)))⟩,
 ⟨some 40, some (39, true), (.p (.faddr 3 (.t 12)))⟩,
 ⟨some 41, some (39, true), (.l (.load 1 false (.t 40)))⟩,
 ⟨some 42, some (39, true), (.p (.move (.t 7)))⟩,
 ⟨some 43, some (39, true), (.p (.bin .eql .str (.t 41) (.t 42)))⟩,
 ⟨some 44, none, (.p (.pick (.t 39) (.t 43) (.c (.bool false))))⟩]) (.cond (.t 44) (.seq (.reg 
[⟨some 45, none, (.l (.load 20 true (.t 12)))⟩,
 ⟨none, none, (.e (.store 20 (.t 4) (.t 45)))⟩,
 ⟨some 5, none, (.p (.move (.c (.bool true))))⟩]) .ret) .skip)))) (.reg 
[⟨some 46, none, (.p (.bin .add .int (.t 28) (.c (.int .i64 1))))⟩,
 ⟨some 28, none, (.p (.move (.t 46)))⟩]))))))))) (.reg 
[⟨some 47, none, (.p (.bin .add .int (.t 21) (.c (.int .i64 1))))⟩,
 ⟨some 21, none, (.p (.move (.t 47)))⟩]))))))) (.seq (.reg 
[⟨some 48, none, (.p (.build [(.int .i64 0), (.bool false), (.bool false), (.str []), .nils, .nils, (.str []), .nils, (.bool false), (.int .i64 0), (.str []), (.str []), (.int .i64 0), .nils, .nils, .nils, .nils, (.str []), .nils, (.int .i64 0)] []))⟩,
 ⟨none, none, (.e (.store 20 (.t 4) (.t 48)))⟩,
 ⟨some 5, none, (.p (.move (.c (.bool false))))⟩]) .ret)))), [.cell 4 20 true, .t 5]⟩
/-- libevolution/libevolutionref05.Put -/
def x56 : XF := ⟨(.seq (.reg 
[⟨some 3, none, (.e (.box 9 (.t 1)))⟩,
 ⟨some 4, none, (.p (.move (.c .nils)))⟩]) (.seq (.regd [] 
[⟨some 5, none, (.p (.move (.t 0)))⟩,
 ⟨some 6, none, (.e (.app 9 176 (.c .nils) (.t 5)))⟩,
 ⟨some 7, none, (.l (.load 9 true (.t 3)))⟩,
 ⟨some 8, none, (.p (.bslice 9 [(.agg [(.int .i64 0), (.str []), (.int .i64 0), .nils, .nils, .nils, .nils, .nils, .nils])] [(0, (.t 7))]))⟩,
 ⟨some 9, none, (.e (.app 9 176 (.t 6) (.t 8)))⟩,
 ⟨some 4, none, (.p (.move (.t 9)))⟩] [(2, 1)]) .ret)), [.t 4]⟩
/-- slices.IndexFunc[[]libevolution/api.Import,libevolution/api.Import] -/
def x59 : XF := ⟨(.seq (.reg 
[⟨some 4, none, (.p (.move (.c (.int .i64 0))))⟩]) (.seq (.seq (.reg 
[⟨some 6, none, (.p (.move (.t 0)))⟩,
 ⟨some 7, none, (.p (.lenl (.t 6)))⟩,
 ⟨some 8, none, (.p (.move (.c (.int .i64 0))))⟩]) (.block 0 (.loop (.seq (.reg 
[⟨some 9, none, (.p (.bin .lss .int (.t 8) (.t 7)))⟩]) (.seq (.cond (.t 9) .skip (.exit 0)) (.seq (.block 1 (.seq (.reg 
[⟨some 10, none, (.p (.move (.t 8)))⟩,
 ⟨some 5, none, (.p (.move (.t 10)))⟩]) (.seq (.reg 
[⟨some 11, none, (.p (.move (.t 1)))⟩,
 ⟨some 12, none, (.p (.move (.t 0)))⟩,
 ⟨some 13, none, (.p (.move (.t 5)))⟩,
 ⟨some 14, none, (.p (.iaddr 2 (.t 12) (.t 13)))⟩,
 ⟨some 15, none, (.l (.load 2 true (.t 14)))⟩,
 ⟨some 16, none, (.e (.call (.t 11) [(.t 15)]))⟩]) (.cond (.t 16) (.seq (.reg 
[⟨some 17, none, (.p (.move (.t 5)))⟩,
 ⟨some 4, none, (.p (.move (.t 17)))⟩]) .ret) .skip)))) (.reg 
[⟨some 18, none, (.p (.bin .add .int (.t 8) (.c (.int .i64 1))))⟩,
 ⟨some 8, none, (.p (.move (.t 18)))⟩]))))))) (.seq (.reg 
[⟨some 4, none, (.p (.move (.c (.int .i64 (-1)))))⟩]) .ret))), [.t 4]⟩
/-- libevolution/libevolutionref02.Valid -/
def x61 : XF := ⟨(.seq (.reg 
[⟨some 1, none, (.e (.box 9 (.t 0)))⟩,
 ⟨some 2, none, (.p (.move (.c (.bool false))))⟩]) (.seq (.seq (.reg 
[⟨some 13, none, (.p (.faddr 0 (.t 1)))⟩,
 ⟨some 14, none, (.l (.load 1 false (.t 13)))⟩,
 ⟨some 15, none, (.p (.bin .lss .int (.t 14) (.c (.int .i64 1))))⟩,
 ⟨some 16, none, (.p (.move (.t 15)))⟩,
 ⟨some 17, some (16, false), (.p (.faddr 0 (.t 1)))⟩,
 ⟨some 18, some (16, false), (.l (.load 1 false (.t 17)))⟩,
 ⟨some 19, some (16, false), (.p (.bin .gtr .int (.t 18) (.c (.int .i64 3))))⟩,
 ⟨some 20, none, (.p (.pick (.t 16) (.c (.bool true)) (.t 19)))⟩,
 ⟨some 21, none, (.p (.move (.t 20)))⟩,
 ⟨some 22, some (21, false), (.p (.faddr 1 (.t 1)))⟩,
 ⟨some 23, some (21, false), (.l (.load 1 false (.t 22)))⟩,
 ⟨some 24, some (21, false), (.e (.call (.c (.fn 121 [] [])) [(.t 23)]))⟩,
 ⟨some 25, some (21, false), (.p (.not (.t 24)))⟩,
 ⟨some 26, none, (.p (.pick (.t 21) (.c (.bool true)) (.t 25)))⟩,
 ⟨some 27, none, (.p (.move (.t 26)))⟩,
 ⟨some 28, some (27, false), (.p (.faddr 0 (.t 1)))⟩,
 ⟨some 29, some (27, false), (.l (.load 1 false (.t 28)))⟩,
 ⟨some 30, some (27, false), (.p (.bin .eql .int (.t 29) (.c (.int .i64 2))))⟩,
 ⟨some 31, some (27, false), (.p (.move (.t 30)))⟩,
 ⟨some 32, some (31, true), (.p (.faddr 2 (.t 1)))⟩,
 ⟨some 33, some (31, true), (.l (.load 1 false (.t 32)))⟩,
 ⟨some 34, some (31, true), (.p (.bin .neq .int (.t 33) (.c (.int .i64 0))))⟩,
 ⟨some 35, some (27, false), (.p (.pick (.t 31) (.t 34) (.c (.bool false))))⟩,
 ⟨some 36, none, (.p (.pick (.t 27) (.c (.bool true)) (.t 35)))⟩,
 ⟨some 37, none, (.p (.move (.t 36)))⟩,
 ⟨some 38, some (37, false), (.p (.faddr 0 (.t 1)))⟩,
 ⟨some 39, some (37, false), (.l (.load 1 false (.t 38)))⟩,
 ⟨some 40, some (37, false), (.p (.bin .neq .int (.t 39) (.c (.int .i64 2))))⟩,
 ⟨some 41, some (37, false), (.p (.move (.t 40)))⟩,
 ⟨some 42, some (41, true), (.p (.faddr 2 (.t 1)))⟩,
 ⟨some 43, some (41, true), (.l (.load 1 false (.t 42)))⟩,
 ⟨some 44, some (41, true), (.e (.call (.c (.fn 122 [] [])) [(.t 43)]))⟩,
 ⟨some 45, some (41, true), (.p (.not (.t 44)))⟩,
 ⟨some 46, some (37, false), (.p (.pick (.t 41) (.t 45) (.c (.bool false))))⟩,
 ⟨some 47, none, (.p (.pick (.t 37) (.c (.bool true)) (.t 46)))⟩,
 ⟨some 48, none, (.p (.move (.t 47)))⟩,
 ⟨some 49, some (48, false), (.l (.load 9 true (.t 1)))⟩,
 ⟨some 50, some (48, false), (.e (.call (.c (.fn 123 [] [])) [(.t 49)]))⟩,
 ⟨some 51, some (48, false), (.p (.bin .neq .int (.t 50) (.c (.int .i64 0))))⟩,
 ⟨some 52, none, (.p (.pick (.t 48) (.c (.bool true)) (.t 51)))⟩]) (.cond (.t 52) (.seq (.reg 
[⟨some 2, none, (.p (.move (.c (.bool false))))⟩]) .ret) .skip)) (.seq (.seq (.reg 
[⟨some 53, none, (.p (.faddr 3 (.t 1)))⟩,
 ⟨some 54, none, (.l (.load 1 false (.t 53)))⟩,
 ⟨some 55, none, (.p (.lenl (.t 54)))⟩,
 ⟨some 56, none, (.p (.move (.c (.int .i64 0))))⟩]) (.block 0 (.loop (.seq (.reg 
[⟨some 57, none, (.p (.bin .lss .int (.t 56) (.t 55)))⟩]) (.seq (.cond (.t 57) .skip (.exit 0)) (.seq (.block 1 (.seq (.reg 
[⟨some 58, none, (.p (.iaddr 2 (.t 54) (.t 56)))⟩,
 ⟨some 59, none, (.l (.load 2 true (.t 58)))⟩,
 ⟨some 4, none, (.e (.alloc [(.str []), (.int .i64 0)]))⟩,
 ⟨none, none, (.e (.store 2 (.t 4) (.t 59)))⟩]) (.seq (.reg 
[⟨some 60, none, (.p (.faddr 0 (.t 4)))⟩,
 ⟨some 61, none, (.l (.load 1 false (.t 60)))⟩,
 ⟨some 62, none, (.e (.call (.c (.fn 121 [] [])) [(.t 61)]))⟩,
 ⟨some 63, none, (.p (.not (.t 62)))⟩,
 ⟨some 64, none, (.p (.move (.t 63)))⟩,
 ⟨some 65, some (64, false), (.p (.faddr 1 (.t 4)))⟩,
 ⟨some 66, some (64, false), (.l (.load 1 false (.t 65)))⟩,
 ⟨some 67, some (64, false), (.e (.call (.c (.fn 122 [] [])) [(.t 66)]))⟩,
 ⟨some 68, some (64, false), (.p (.not (.t 67)))⟩,
 ⟨some 69, none, (.p (.pick (.t 64) (.c (.bool true)) (.t 68)))⟩]) (.cond (.t 69) (.seq (.reg 
[⟨some 2, none, (.p (.move (.c (.bool false))))⟩]) .ret) .skip)))) (.reg 
[⟨some 70, none, (.p (.bin .add .int (.t 56) (.c (.int .i64 1))))⟩,
 ⟨some 56, none, (.p (.move (.t 70)))⟩]))))))) (.seq (.seq (.reg 
[⟨some 71, none, (.p (.faddr 4 (.t 1)))⟩,
 ⟨some 72, none, (.l (.load 1 false (.t 71)))⟩,
 ⟨some 73, none, (.p (.lenl (.t 72)))⟩,
 ⟨some 74, none, (.p (.move (.c (.int .i64 0))))⟩]) (.block 2 (.loop (.seq (.reg 
[⟨some 75, none, (.p (.bin .lss .int (.t 74) (.t 73)))⟩]) (.seq (.cond (.t 75) .skip (.exit 2)) (.seq (.block 3 (.seq (.reg 
[⟨some 76, none, (.p (.iaddr 6 (.t 72) (.t 74)))⟩,
 ⟨some 77, none, (.l (.load 6 true (.t 76)))⟩,
 ⟨some 6, none, (.e (.alloc [(.int .i64 0), (.bool false), (.bool false), (.str []), .nils, .nils]))⟩,
 ⟨none, none, (.e (.store 6 (.t 6) (.t 77)))⟩]) (.seq (.seq (.reg 
[⟨some 78, none, (.p (.faddr 0 (.t 6)))⟩,
 ⟨some 79, none, (.l (.load 1 false (.t 78)))⟩,
 ⟨some 80, none, (.e (.call (.c (.fn 124 [] [])) [(.t 79)]))⟩,
 ⟨some 81, none, (.p (.not (.t 80)))⟩,
 ⟨some 82, none, (.p (.move (.t 81)))⟩,
 ⟨some 83, some (82, false), (.p (.faddr 3 (.t 6)))⟩,
 ⟨some 84, some (82, false), (.l (.load 1 false (.t 83)))⟩,
 ⟨some 85, some (82, false), (.e (.call (.c (.fn 121 [] [])) [(.t 84)]))⟩,
 ⟨some 86, some (82, false), (.p (.not (.t 85)))⟩,
 ⟨some 87, none, (.p (.pick (.t 82) (.c (.bool true)) (.t 86)))⟩,
 ⟨some 88, none, (.p (.move (.t 87)))⟩,
 ⟨some 89, some (88, false), (.p (.faddr 4 (.t 6)))⟩,
 ⟨some 90, some (88, false), (.l (.load 1 false (.t 89)))⟩,
 ⟨some 91, some (88, false), (.e (.call (.c (.fn 125 [] [])) [(.t 90)]))⟩,
 ⟨some 92, some (88, false), (.p (.not (.t 91)))⟩,
 ⟨some 93, none, (.p (.pick (.t 88) (.c (.bool true)) (.t 92)))⟩]) (.cond (.t 93) (.seq (.reg 
[⟨some 2, none, (.p (.move (.c (.bool false))))⟩]) .ret) .skip)) (.seq (.reg 
[⟨some 94, none, (.p (.faddr 5 (.t 6)))⟩,
 ⟨some 95, none, (.l (.load 1 false (.t 94)))⟩,
 ⟨some 96, none, (.p (.lenl (.t 95)))⟩,
 ⟨some 97, none, (.p (.move (.c (.int .i64 0))))⟩]) (.block 4 (.loop (.seq (.reg 
[⟨some 98, none, (.p (.bin .lss .int (.t 97) (.t 96)))⟩]) (.seq (.cond (.t 98) .skip (.exit 4)) (.seq (.block 5 (.seq (.reg 
[⟨some 99, none, (.p (.iaddr 4 (.t 95) (.t 97)))⟩,
 ⟨some 100, none, (.l (.load 4 true (.t 99)))⟩,
 ⟨some 8, none, (.e (.alloc [(.bool false), (.str []), (.str []), .nils]))⟩,
 ⟨none, none, (.e (.store 4 (.t 8) (.t 100)))⟩]) (.seq (.reg 
[⟨some 101, none, (.p (.faddr 1 (.t 8)))⟩,
 ⟨some 102, none, (.l (.load 1 false (.t 101)))⟩,
 ⟨some 103, none, (.e (.call (.c (.fn 121 [] [])) [(.t 102)]))⟩,
 ⟨some 104, none, (.p (.not (.t 103)))⟩,
 ⟨some 105, none, (.p (.move (.t 104)))⟩,
 ⟨some 106, some (105, false), (.p (.faddr 2 (.t 8)))⟩,
 ⟨some 107, some (105, false), (.l (.load 2 true (.t 106)))⟩,
 ⟨some 108, some (105, false), (.e (.call (.c (.fn 126 [] [])) [(.t 107)]))⟩,
 ⟨some 109, some (105, false), (.p (.not (.t 108)))⟩,
 ⟨some 110, none, (.p (.pick (.t 105) (.c (.bool true)) (.t 109)))⟩]) (.cond (.t 110) (.seq (.reg 
[⟨some 2, none, (.p (.move (.c (.bool false))))⟩]) .ret) .skip)))) (.reg 
[⟨some 111, none, (.p (.bin .add .int (.t 97) (.c (.int .i64 1))))⟩,
 ⟨some 97, none, (.p (.move (.t 111)))⟩])))))))))) (.reg 
[⟨some 112, none, (.p (.bin .add .int (.t 74) (.c (.int .i64 1))))⟩,
 ⟨some 74, none, (.p (.move (.t 112)))⟩]))))))) (.seq (.seq (.reg 
[⟨some 113, none, (.p (.faddr 5 (.t 1)))⟩,
 ⟨some 114, none, (.l (.load 1 false (.t 113)))⟩,
 ⟨some 115, none, (.p (.lenl (.t 114)))⟩,
 ⟨some 116, none, (.p (.move (.c (.int .i64 0))))⟩]) (.block 6 (.loop (.seq (.reg 
[⟨some 117, none, (.p (.bin .lss .int (.t 116) (.t 115)))⟩]) (.seq (.cond (.t 117) .skip (.exit 6)) (.seq (.block 7 (.seq (.reg 
[⟨some 118, none, (.p (.iaddr 6 (.t 114) (.t 116)))⟩,
 ⟨some 119, none, (.l (.load 6 true (.t 118)))⟩,
 ⟨some 10, none, (.e (.alloc [(.int .i64 0), (.bool false), (.bool false), (.str []), .nils, .nils]))⟩,
 ⟨none, none, (.e (.store 6 (.t 10) (.t 119)))⟩]) (.seq (.seq (.reg 
[⟨some 120, none, (.p (.faddr 0 (.t 10)))⟩,
 ⟨some 121, none, (.l (.load 1 false (.t 120)))⟩,
 ⟨some 122, none, (.e (.call (.c (.fn 124 [] [])) [(.t 121)]))⟩,
 ⟨some 123, none, (.p (.not (.t 122)))⟩,
 ⟨some 124, none, (.p (.move (.t 123)))⟩,
 ⟨some 125, some (124, false), (.p (.faddr 3 (.t 10)))⟩,
 ⟨some 126, some (124, false), (.l (.load 1 false (.t 125)))⟩,
 ⟨some 127, some (124, false), (.e (.call (.c (.fn 121 [] [])) [(.t 126)]))⟩,
 ⟨some 128, some (124, false), (.p (.not (.t 127)))⟩,
 ⟨some 129, none, (.p (.pick (.t 124) (.c (.bool true)) (.t 128)))⟩,
 ⟨some 130, none, (.p (.move (.t 129)))⟩,
 ⟨some 131, some (130, false), (.p (.faddr 4 (.t 10)))⟩,
 ⟨some 132, some (130, false), (.l (.load 1 false (.t 131)))⟩,
 ⟨some 133, some (130, false), (.e (.call (.c (.fn 125 [] [])) [(.t 132)]))⟩,
 ⟨some 134, some (130, false), (.p (.not (.t 133)))⟩,
 ⟨some 135, none, (.p (.pick (.t 130) (.c (.bool true)) (.t 134)))⟩]) (.cond (.t 135) (.seq (.reg 
[⟨some 2, none, (.p (.move (.c (.bool false))))⟩]) .ret) .skip)) (.seq (.reg 
[⟨some 136, none, (.p (.faddr 5 (.t 10)))⟩,
 ⟨some 137, none, (.l (.load 1 false (.t 136)))⟩,
 ⟨some 138, none, (.p (.lenl (.t 137)))⟩,
 ⟨some 139, none, (.p (.move (.c (.int .i64 0))))⟩]) (.block 8 (.loop (.seq (.reg 
[⟨some 140, none, (.p (.bin .lss .int (.t 139) (.t 138)))⟩]) (.seq (.cond (.t 140) .skip (.exit 8)) (.seq (.block 9 (.seq (.reg 
[⟨some 141, none, (.p (.iaddr 3 (.t 137) (.t 139)))⟩,
 ⟨some 142, none, (.l (.load 3 true (.t 141)))⟩,
 ⟨some 12, none, (.e (.alloc [(.bool false), (.str []), .nils]))⟩,
 ⟨none, none, (.e (.store 3 (.t 12) (.t 142)))⟩]) (.seq (.reg 
[⟨some 143, none, (.p (.faddr 1 (.t 12)))⟩,
 ⟨some 144, none, (.l (.load 1 false (.t 143)))⟩,
 ⟨some 145, none, (.e (.call (.c (.fn 121 [] [])) [(.t 144)]))⟩,
 ⟨some 146, none, (.p (.not (.t 145)))⟩,
 ⟨some 147, none, (.p (.move (.t 146)))⟩,
 ⟨some 148, some (147, false), (.p (.faddr 2 (.t 12)))⟩,
 ⟨some 149, some (147, false), (.l (.load 1 false (.t 148)))⟩,
 ⟨some 150, some (147, false), (.e (.call (.c (.fn 127 [] [])) [(.t 149)]))⟩,
 ⟨some 151, some (147, false), (.p (.not (.t 150)))⟩,
 ⟨some 152, none, (.p (.pick (.t 147) (.c (.bool true)) (.t 151)))⟩]) (.cond (.t 152) (.seq (.reg 
[⟨some 2, none, (.p (.move (.c (.bool false))))⟩]) .ret) .skip)))) (.reg 
[⟨some 153, none, (.p (.bin .add .int (.t 139) (.c (.int .i64 1))))⟩,
 ⟨some 139, none, (.p (.move (.t 153)))⟩])))))))))) (.reg 
[⟨some 154, none, (.p (.bin .add .int (.t 116) (.c (.int .i64 1))))⟩,
 ⟨some 116, none, (.p (.move (.t 154)))⟩]))))))) (.seq (.reg 
[⟨some 155, none, (.l (.load 9 true (.t 1)))⟩,
 ⟨some 156, none, (.e (.call (.c (.fn 128 [] [])) [(.t 155)]))⟩,
 ⟨some 157, none, (.p (.move (.t 156)))⟩,
 ⟨some 158, some (157, true), (.l (.load 9 true (.t 1)))⟩,
 ⟨some 159, some (157, true), (.e (.call (.c (.fn 129 [] [])) [(.t 158)]))⟩,
 ⟨some 160, none, (.p (.pick (.t 157) (.t 159) (.c (.bool false))))⟩,
 ⟨some 161, none, (.p (.move (.t 160)))⟩,
 ⟨some 162, some (161, true), (.l (.load 9 true (.t 1)))⟩,
 ⟨some 163, some (161, true), (.e (.call (.c (.fn 130 [] [])) [(.t 162)]))⟩,
 ⟨some 164, none, (.p (.pick (.t 161) (.t 163) (.c (.bool false))))⟩,
 ⟨some 2, none, (.p (.move (.t 164)))⟩]) .ret)))))), [.t 2]⟩
/-- libevolution/libevolutionref05.Order -/
def x62 : XF := ⟨(.seq (.reg 
[⟨some 2, none, (.p (.move (.c .nils)))⟩,
 ⟨some 3, none, (.p (.move (.c (.int .i64 0))))⟩]) (.seq (.seq (.reg 
[⟨some 19, none, (.p (.move (.t 0)))⟩,
 ⟨some 20, none, (.p (.lenl (.t 19)))⟩,
 ⟨some 21, none, (.p (.move (.c (.int .i64 0))))⟩]) (.block 0 (.loop (.seq (.reg 
[⟨some 22, none, (.p (.bin .lss .int (.t 21) (.t 20)))⟩]) (.seq (.cond (.t 22) .skip (.exit 0)) (.seq (.block 1 (.seq (.reg 
[⟨some 23, none, (.p (.move (.t 21)))⟩,
 ⟨some 24, none, (.p (.iaddr 9 (.t 19) (.t 21)))⟩,
 ⟨some 25, none, (.l (.load 9 true (.t 24)))⟩,
 ⟨some 5, none, (.e (.alloc [(.int .i64 0), (.str []), (.int .i64 0), .nils, .nils, .nils, .nils, .nils, .nils]))⟩,
 ⟨some 4, none, (.p (.move (.t 23)))⟩,
 ⟨none, none, (.e (.store 9 (.t 5) (.t 25)))⟩]) (.seq (.seq (.reg 
[⟨some 27, none, (.p (.move (.t 0)))⟩,
 ⟨some 28, none, (.p (.faddr 1 (.t 5)))⟩,
 ⟨some 29, none, (.l (.load 1 false (.t 28)))⟩,
 ⟨some 30, none, (.e (.call (.c (.fn 25 [] [])) [(.t 27), (.t 29)]))⟩,
 ⟨some 26, none, (.p (.move (.t 30)))⟩,
 ⟨some 31, none, (.p (.ext (.t 26) 0))⟩,
 ⟨some 32, none, (.p (.ext (.t 26) 1))⟩,
 ⟨some 6, none, (.p (.move (.t 31)))⟩,
 ⟨some 7, none, (.p (.move (.t 32)))⟩]) (.seq (.reg 
[⟨some 33, none, (.p (.move (.t 6)))⟩,
 ⟨some 34, none, (.p (.move (.t 4)))⟩,
 ⟨some 35, none, (.p (.bin .lss .int (.t 33) (.t 34)))⟩]) (.cond (.t 35) (.seq (.reg 
[⟨some 2, none, (.p (.move (.c .nils)))⟩,
 ⟨some 3, none, (.p (.move (.c (.int .i64 5))))⟩]) .ret) .skip))) (.seq (.reg 
[⟨some 36, none, (.p (.faddr 3 (.t 5)))⟩,
 ⟨some 37, none, (.l (.load 1 false (.t 36)))⟩,
 ⟨some 38, none, (.p (.lenl (.t 37)))⟩,
 ⟨some 39, none, (.p (.move (.c (.int .i64 0))))⟩]) (.block 2 (.loop (.seq (.reg 
[⟨some 40, none, (.p (.bin .lss .int (.t 39) (.t 38)))⟩]) (.seq (.cond (.t 40) .skip (.exit 2)) (.seq (.block 3 (.seq (.reg 
[⟨some 41, none, (.p (.move (.t 39)))⟩,
 ⟨some 42, none, (.p (.iaddr 2 (.t 37) (.t 39)))⟩,
 ⟨some 43, none, (.l (.load 2 true (.t 42)))⟩,
 ⟨some 9, none, (.e (.alloc [(.str []), (.int .i64 0)]))⟩,
 ⟨some 8, none, (.p (.move (.t 41)))⟩,
 ⟨none, none, (.e (.store 2 (.t 9) (.t 43)))⟩]) (.seq (.seq (.reg 
[⟨some 44, none, (.p (.faddr 3 (.t 5)))⟩,
 ⟨some 45, none, (.l (.load 1 false (.t 44)))⟩,
 ⟨some 46, none, (.p (.move (.t 8)))⟩,
 ⟨some 47, none, (.p (.subl 2 (.t 45) none (some (.t 46))))⟩,
 ⟨some 48, none, (.p (.lenl (.t 47)))⟩,
 ⟨some 49, none, (.p (.move (.c (.int .i64 0))))⟩]) (.block 4 (.loop (.seq (.reg 
[⟨some 50, none, (.p (.bin .lss .int (.t 49) (.t 48)))⟩]) (.seq (.cond (.t 50) .skip (.exit 4)) (.seq (.block 5 (.seq (.reg 
[⟨some 51, none, (.p (.iaddr 2 (.t 47) (.t 49)))⟩,
 ⟨some 52, none, (.l (.load 2 true (.t 51)))⟩,
 ⟨some 11, none, (.e (.alloc [(.str []), (.int .i64 0)]))⟩,
 ⟨none, none, (.e (.store 2 (.t 11) (.t 52)))⟩]) (.seq (.reg 
[⟨some 53, none, (.p (.faddr 0 (.t 9)))⟩,
 ⟨some 54, none, (.l (.load 1 false (.t 53)))⟩,
 ⟨some 55, none, (.p (.faddr 0 (.t 11)))⟩,
 ⟨some 56, none, (.l (.load 1 false (.t 55)))⟩,
 ⟨some 57, none, (.p (.bin .eql .str (.t 54) (.t 56)))⟩]) (.cond (.t 57) (.seq (.reg 
[⟨some 2, none, (.p (.move (.c .nils)))⟩,
 ⟨some 3, none, (.p (.move (.c (.int .i64 5))))⟩]) .ret) .skip)))) (.reg 
[⟨some 58, none, (.p (.bin .add .int (.t 49) (.c (.int .i64 1))))⟩,
 ⟨some 49, none, (.p (.move (.t 58)))⟩]))))))) (.seq (.reg 
[⟨some 60, none, (.p (.move (.t 0)))⟩,
 ⟨some 61, none, (.p (.faddr 0 (.t 9)))⟩,
 ⟨some 62, none, (.l (.load 1 false (.t 61)))⟩,
 ⟨some 63, none, (.e (.call (.c (.fn 25 [] [])) [(.t 60), (.t 62)]))⟩,
 ⟨some 59, none, (.p (.move (.t 63)))⟩,
 ⟨some 64, none, (.p (.ext (.t 59) 0))⟩,
 ⟨some 65, none, (.p (.ext (.t 59) 1))⟩,
 ⟨some 12, none, (.p (.move (.t 64)))⟩,
 ⟨some 13, none, (.p (.move (.t 65)))⟩]) (.seq (.seq (.reg 
[⟨some 66, none, (.p (.move (.t 13)))⟩,
 ⟨some 67, none, (.p (.not (.t 66)))⟩,
 ⟨some 68, none, (.p (.move (.t 67)))⟩,
 ⟨some 69, some (68, false), (.p (.move (.t 0)))⟩,
 ⟨some 70, some (68, false), (.p (.move (.t 12)))⟩,
 ⟨some 71, some (68, false), (.p (.iaddr 9 (.t 69) (.t 70)))⟩,
 ⟨some 72, some (68, false), (.p (.faddr 0 (.t 71)))⟩,
 ⟨some 73, some (68, false), (.l (.load 1 false (.t 72)))⟩,
 ⟨some 74, some (68, false), (.p (.bin .eql .int (.t 73) (.c (.int .i64 2))))⟩,
 ⟨some 75, none, (.p (.pick (.t 68) (.c (.bool true)) (.t 74)))⟩]) (.cond (.t 75) (.seq (.reg 
[⟨some 2, none, (.p (.move (.c .nils)))⟩,
 ⟨some 3, none, (.p (.move (.c (.int .i64 8))))⟩]) .ret) .skip)) (.seq (.regd [] 
[⟨some 76, none, (.p (.move (.t 0)))⟩,
 ⟨some 77, none, (.p (.move (.t 12)))⟩,
 ⟨some 78, none, (.p (.iaddr 9 (.t 76) (.t 77)))⟩,
 ⟨some 79, none, (.p (.faddr 2 (.t 78)))⟩,
 ⟨some 80, none, (.l (.load 1 false (.t 79)))⟩,
 ⟨some 81, none, (.p (.faddr 1 (.t 9)))⟩,
 ⟨some 82, none, (.l (.load 1 false (.t 81)))⟩,
 ⟨some 83, none, (.p (.bin .lss .int (.t 80) (.t 82)))⟩] []) (.cond (.t 83) (.seq (.reg 
[⟨some 2, none, (.p (.move (.c .nils)))⟩,
 ⟨some 3, none, (.p (.move (.c (.int .i64 16))))⟩]) .ret) .skip))))))) (.reg 
[⟨some 84, none, (.p (.bin .add .int (.t 39) (.c (.int .i64 1))))⟩,
 ⟨some 39, none, (.p (.move (.t 84)))⟩])))))))))) (.reg 
[⟨some 85, none, (.p (.bin .add .int (.t 21) (.c (.int .i64 1))))⟩,
 ⟨some 21, none, (.p (.move (.t 85)))⟩]))))))) (.seq (.reg 
[⟨some 14, none, (.p (.move (.c .nils)))⟩]) (.seq (.reg 
[⟨some 86, none, (.p (.move (.t 0)))⟩,
 ⟨some 87, none, (.p (.lenl (.t 86)))⟩,
 ⟨some 88, none, (.e (.mksl 1 1 (.bool false) (.t 87) (.t 87)))⟩,
 ⟨some 15, none, (.p (.move (.t 88)))⟩]) (.seq (.block 6 (.loop (.seq (.seq (.reg 
[⟨some 89, none, (.p (.move (.t 14)))⟩,
 ⟨some 90, none, (.p (.lenl (.t 89)))⟩,
 ⟨some 91, none, (.p (.move (.t 0)))⟩,
 ⟨some 92, none, (.p (.lenl (.t 91)))⟩,
 ⟨some 93, none, (.p (.bin .lss .int (.t 90) (.t 92)))⟩]) (.cond (.t 93) .skip (.exit 6))) (.block 7 (.seq (.reg 
[⟨some 16, none, (.p (.move (.c (.int .i64 (-1)))))⟩]) (.seq (.seq (.reg 
[⟨some 94, none, (.p (.move (.t 0)))⟩,
 ⟨some 95, none, (.p (.lenl (.t 94)))⟩,
 ⟨some 96, none, (.p (.move (.c (.int .i64 0))))⟩]) (.block 8 (.loop (.seq (.reg 
[⟨some 97, none, (.p (.bin .lss .int (.t 96) (.t 95)))⟩]) (.seq (.cond (.t 97) .skip (.exit 8)) (.seq (.block 9 (.seq (.reg 
[⟨some 98, none, (.p (.move (.t 96)))⟩,
 ⟨some 99, none, (.p (.iaddr 9 (.t 94) (.t 96)))⟩,
 ⟨some 100, none, (.l (.load 9 true (.t 99)))⟩,
 ⟨some 18, none, (.e (.alloc [(.int .i64 0), (.str []), (.int .i64 0), .nils, .nils, .nils, .nils, .nils, .nils]))⟩,
 ⟨some 17, none, (.p (.move (.t 98)))⟩,
 ⟨none, none, (.e (.store 9 (.t 18) (.t 100)))⟩]) (.seq (.reg 
[⟨some 101, none, (.p (.move (.t 16)))⟩,
 ⟨some 102, none, (.p (.bin .lss .int (.t 101) (.c (.int .i64 0))))⟩,
 ⟨some 103, none, (.p (.move (.t 102)))⟩,
 ⟨some 104, some (103, true), (.p (.move (.t 15)))⟩,
 ⟨some 105, some (103, true), (.p (.move (.t 17)))⟩,
 ⟨some 106, some (103, true), (.p (.iaddr 1 (.t 104) (.t 105)))⟩,
 ⟨some 107, some (103, true), (.l (.load 1 false (.t 106)))⟩,
 ⟨some 108, some (103, true), (.p (.not (.t 107)))⟩,
 ⟨some 109, none, (.p (.pick (.t 103) (.t 108) (.c (.bool false))))⟩,
 ⟨some 110, none, (.p (.move (.t 109)))⟩,
 ⟨some 111, some (110, true), (.p (.move (.t 0)))⟩,
 ⟨some 112, some (110, true), (.l (.load 9 true (.t 18)))⟩,
 ⟨some 113, some (110, true), (.p (.move (.t 15)))⟩,
 ⟨some 114, some (110, true), (.e (.call (.c (.fn 131 [] [])) [(.t 111), (.t 112), (.t 113)]))⟩,
 ⟨some 115, none, (.p (.pick (.t 110) (.t 114) (.c (.bool false))))⟩]) (.cond (.t 115) (.reg 
[⟨some 116, none, (.p (.move (.t 17)))⟩,
 ⟨some 16, none, (.p (.move (.t 116)))⟩]) .skip)))) (.reg 
[⟨some 117, none, (.p (.bin .add .int (.t 96) (.c (.int .i64 1))))⟩,
 ⟨some 96, none, (.p (.move (.t 117)))⟩]))))))) (.seq (.seq (.reg 
[⟨some 118, none, (.p (.move (.t 16)))⟩,
 ⟨some 119, none, (.p (.bin .lss .int (.t 118) (.c (.int .i64 0))))⟩]) (.cond (.t 119) (.seq (.reg 
[⟨some 2, none, (.p (.move (.c .nils)))⟩,
 ⟨some 3, none, (.p (.move (.c (.int .i64 8))))⟩]) .ret) .skip)) (.seq (.reg 
[⟨some 120, none, (.p (.move (.t 15)))⟩,
 ⟨some 121, none, (.p (.move (.t 16)))⟩,
 ⟨some 122, none, (.p (.iaddr 1 (.t 120) (.t 121)))⟩,
 ⟨none, none, (.e (.store 1 (.t 122) (.c (.bool true))))⟩]) (.reg 
[⟨some 123, none, (.p (.move (.t 14)))⟩,
 ⟨some 124, none, (.p (.move (.t 16)))⟩,
 ⟨some 125, none, (.p (.bslice 1 [(.int .i64 0)] [(0, (.t 124))]))⟩,
 ⟨some 126, none, (.e (.app 1 8 (.t 123) (.t 125)))⟩,
 ⟨some 14, none, (.p (.move (.t 126)))⟩]))))))))) (.seq (.reg 
[⟨some 127, none, (.p (.move (.t 14)))⟩,
 ⟨some 2, none, (.p (.move (.t 127)))⟩,
 ⟨some 3, none, (.p (.move (.c (.int .i64 0))))⟩]) .ret)))))), [.t 2, .t 3]⟩
/-- (*libevolution/libevolutionref05.resolver).declared -/
def x63 : XF := ⟨(.seq (.reg 
[⟨some 2, none, (.p (.move (.c .nils)))⟩]) (.seq (.seq (.reg 
[⟨some 13, none, (.p (.move (.t 0)))⟩,
 ⟨some 14, none, (.p (.nilc (.t 13)))⟩,
 ⟨some 15, none, (.p (.faddr 0 (.t 14)))⟩,
 ⟨some 16, none, (.p (.faddr 4 (.t 15)))⟩,
 ⟨some 17, none, (.l (.load 1 false (.t 16)))⟩,
 ⟨some 18, none, (.p (.lenl (.t 17)))⟩,
 ⟨some 19, none, (.p (.move (.c (.int .i64 0))))⟩]) (.block 0 (.loop (.seq (.reg 
[⟨some 20, none, (.p (.bin .lss .int (.t 19) (.t 18)))⟩]) (.seq (.cond (.t 20) .skip (.exit 0)) (.seq (.block 1 (.seq (.reg 
[⟨some 21, none, (.p (.iaddr 6 (.t 17) (.t 19)))⟩,
 ⟨some 22, none, (.l (.load 6 true (.t 21)))⟩,
 ⟨some 4, none, (.e (.alloc [(.int .i64 0), (.bool false), (.bool false), (.str []), .nils, .nils]))⟩,
 ⟨none, none, (.e (.store 6 (.t 4) (.t 22)))⟩]) (.reg 
[⟨some 23, none, (.p (.move (.t 2)))⟩,
 ⟨some 24, none, (.p (.faddr 3 (.t 4)))⟩,
 ⟨some 25, none, (.l (.load 1 false (.t 24)))⟩,
 ⟨some 26, none, (.p (.bslice 1 [(.str [])] [(0, (.t 25))]))⟩,
 ⟨some 27, none, (.e (.app 1 16 (.t 23) (.t 26)))⟩,
 ⟨some 2, none, (.p (.move (.t 27)))⟩]))) (.reg 
[⟨some 28, none, (.p (.bin .add .int (.t 19) (.c (.int .i64 1))))⟩,
 ⟨some 19, none, (.p (.move (.t 28)))⟩]))))))) (.seq (.seq (.reg 
[⟨some 29, none, (.p (.move (.t 0)))⟩,
 ⟨some 30, none, (.p (.nilc (.t 29)))⟩,
 ⟨some 31, none, (.p (.faddr 0 (.t 30)))⟩,
 ⟨some 32, none, (.p (.faddr 5 (.t 31)))⟩,
 ⟨some 33, none, (.l (.load 1 false (.t 32)))⟩,
 ⟨some 34, none, (.p (.lenl (.t 33)))⟩,
 ⟨some 35, none, (.p (.move (.c (.int .i64 0))))⟩]) (.block 2 (.loop (.seq (.reg 
[⟨some 36, none, (.p (.bin .lss .int (.t 35) (.t 34)))⟩]) (.seq (.cond (.t 36) .skip (.exit 2)) (.seq (.block 3 (.seq (.reg 
[⟨some 37, none, (.p (.iaddr 6 (.t 33) (.t 35)))⟩,
 ⟨some 38, none, (.l (.load 6 true (.t 37)))⟩,
 ⟨some 6, none, (.e (.alloc [(.int .i64 0), (.bool false), (.bool false), (.str []), .nils, .nils]))⟩,
 ⟨none, none, (.e (.store 6 (.t 6) (.t 38)))⟩]) (.reg 
[⟨some 39, none, (.p (.move (.t 2)))⟩,
 ⟨some 40, none, (.p (.faddr 3 (.t 6)))⟩,
 ⟨some 41, none, (.l (.load 1 false (.t 40)))⟩,
 ⟨some 42, none, (.p (.bslice 1 [(.str [])] [(0, (.t 41))]))⟩,
 ⟨some 43, none, (.e (.app 1 16 (.t 39) (.t 42)))⟩,
 ⟨some 2, none, (.p (.move (.t 43)))⟩]))) (.reg 
[⟨some 44, none, (.p (.bin .add .int (.t 35) (.c (.int .i64 1))))⟩,
 ⟨some 35, none, (.p (.move (.t 44)))⟩]))))))) (.seq (.seq (.reg 
[⟨some 45, none, (.p (.move (.t 0)))⟩,
 ⟨some 46, none, (.p (.nilc (.t 45)))⟩,
 ⟨some 47, none, (.p (.faddr 0 (.t 46)))⟩,
 ⟨some 48, none, (.p (.faddr 6 (.t 47)))⟩,
 ⟨some 49, none, (.l (.load 1 false (.t 48)))⟩,
 ⟨some 50, none, (.p (.lenl (.t 49)))⟩,
 ⟨some 51, none, (.p (.move (.c (.int .i64 0))))⟩]) (.block 4 (.loop (.seq (.reg 
[⟨some 52, none, (.p (.bin .lss .int (.t 51) (.t 50)))⟩]) (.seq (.cond (.t 52) .skip (.exit 4)) (.seq (.block 5 (.seq (.reg 
[⟨some 53, none, (.p (.iaddr 5 (.t 49) (.t 51)))⟩,
 ⟨some 54, none, (.l (.load 5 true (.t 53)))⟩,
 ⟨some 8, none, (.e (.alloc [(.int .i64 0), (.bool false), (.bool false), (.str []), .nils]))⟩,
 ⟨none, none, (.e (.store 5 (.t 8) (.t 54)))⟩]) (.reg 
[⟨some 55, none, (.p (.move (.t 2)))⟩,
 ⟨some 56, none, (.p (.faddr 3 (.t 8)))⟩,
 ⟨some 57, none, (.l (.load 1 false (.t 56)))⟩,
 ⟨some 58, none, (.p (.bslice 1 [(.str [])] [(0, (.t 57))]))⟩,
 ⟨some 59, none, (.e (.app 1 16 (.t 55) (.t 58)))⟩,
 ⟨some 2, none, (.p (.move (.t 59)))⟩]))) (.reg 
[⟨some 60, none, (.p (.bin .add .int (.t 51) (.c (.int .i64 1))))⟩,
 ⟨some 51, none, (.p (.move (.t 60)))⟩]))))))) (.seq (.seq (.reg 
[⟨some 61, none, (.p (.move (.t 0)))⟩,
 ⟨some 62, none, (.p (.nilc (.t 61)))⟩,
 ⟨some 63, none, (.p (.faddr 0 (.t 62)))⟩,
 ⟨some 64, none, (.p (.faddr 8 (.t 63)))⟩,
 ⟨some 65, none, (.l (.load 1 false (.t 64)))⟩,
 ⟨some 66, none, (.p (.lenl (.t 65)))⟩,
 ⟨some 67, none, (.p (.move (.c (.int .i64 0))))⟩]) (.block 6 (.loop (.seq (.reg 
[⟨some 68, none, (.p (.bin .lss .int (.t 67) (.t 66)))⟩]) (.seq (.cond (.t 68) .skip (.exit 6)) (.seq (.block 7 (.seq (.reg 
[⟨some 69, none, (.p (.iaddr 20 (.t 65) (.t 67)))⟩,
 ⟨some 70, none, (.l (.load 20 true (.t 69)))⟩,
 ⟨some 10, none, (.e (.alloc [(.int .i64 0), (.bool false), (.bool false), (.str []), .nils, .nils, (.str []), .nils, (.bool false), (.int .i64 0), (.str []), (.str []), (.int .i64 0), .nils, .nils, .nils, .nils, (.str []), .nils, (.int .i64 0)]))⟩,
 ⟨none, none, (.e (.store 20 (.t 10) (.t 70)))⟩]) (.reg 
[⟨some 71, none, (.p (.move (.t 2)))⟩,
 ⟨some 72, none, (.p (.faddr 3 (.t 10)))⟩,
 ⟨some 73, none, (.l (.load 1 false (.t 72)))⟩,
 ⟨some 74, none, (.p (.bslice 1 [(.str [])] [(0, (.t 73))]))⟩,
 ⟨some 75, none, (.e (.app 1 16 (.t 71) (.t 74)))⟩,
 ⟨some 2, none, (.p (.move (.t 75)))⟩]))) (.reg 
[⟨some 76, none, (.p (.bin .add .int (.t 67) (.c (.int .i64 1))))⟩,
 ⟨some 67, none, (.p (.move (.t 76)))⟩]))))))) (.seq (.reg 
[⟨some 77, none, (.p (.move (.t 2)))⟩,
 ⟨some 78, none, (.p (.lenl (.t 77)))⟩,
 ⟨some 79, none, (.p (.move (.c (.int .i64 0))))⟩]) (.block 8 (.loop (.seq (.reg 
[⟨some 80, none, (.p (.bin .lss .int (.t 79) (.t 78)))⟩]) (.seq (.cond (.t 80) .skip (.exit 8)) (.seq (.block 9 (.seq (.reg 
[⟨some 81, none, (.p (.move (.t 79)))⟩,
 ⟨some 82, none, (.p (.iaddr 1 (.t 77) (.t 79)))⟩,
 ⟨some 83, none, (.l (.load 1 false (.t 82)))⟩,
 ⟨some 11, none, (.p (.move (.t 81)))⟩,
 ⟨some 12, none, (.p (.move (.t 83)))⟩]) (.reg 
[⟨some 84, none, (.p (.move (.t 0)))⟩,
 ⟨some 85, none, (.p (.move (.t 2)))⟩,
 ⟨some 86, none, (.p (.move (.t 11)))⟩,
 ⟨some 87, none, (.p (.subl 1 (.t 85) none (some (.t 86))))⟩,
 ⟨some 88, none, (.p (.move (.t 12)))⟩,
 ⟨some 89, none, (.e (.call (.c (.fn 132 [] [])) [(.t 84), (.t 87), (.t 88)]))⟩]))) (.reg 
[⟨some 90, none, (.p (.bin .add .int (.t 79) (.c (.int .i64 1))))⟩,
 ⟨some 79, none, (.p (.move (.t 90)))⟩])))))))))))), []⟩
/-- (*libevolution/libevolutionref05.resolver).structs -/
def x64 : XF := ⟨(.seq (.seq (.reg 
[⟨some 16, none, (.p (.move (.t 0)))⟩,
 ⟨some 17, none, (.p (.nilc (.t 16)))⟩,
 ⟨some 18, none, (.p (.faddr 0 (.t 17)))⟩,
 ⟨some 19, none, (.p (.faddr 4 (.t 18)))⟩,
 ⟨some 20, none, (.l (.load 1 false (.t 19)))⟩,
 ⟨some 21, none, (.p (.lenl (.t 20)))⟩,
 ⟨some 22, none, (.p (.move (.c (.int .i64 0))))⟩]) (.block 0 (.loop (.seq (.reg 
[⟨some 23, none, (.p (.bin .lss .int (.t 22) (.t 21)))⟩]) (.seq (.cond (.t 23) .skip (.exit 0)) (.seq (.block 1 (.seq (.reg 
[⟨some 24, none, (.p (.iaddr 6 (.t 20) (.t 22)))⟩,
 ⟨some 25, none, (.l (.load 6 true (.t 24)))⟩,
 ⟨some 5, none, (.e (.alloc [(.int .i64 0), (.bool false), (.bool false), (.str []), .nils, .nils]))⟩,
 ⟨none, none, (.e (.store 6 (.t 5) (.t 25)))⟩]) (.seq (.reg 
[⟨some 26, none, (.p (.move (.t 0)))⟩,
 ⟨some 27, none, (.p (.faddr 4 (.t 5)))⟩,
 ⟨some 28, none, (.l (.load 1 false (.t 27)))⟩,
 ⟨some 29, none, (.e (.call (.c (.fn 133 [] [])) [(.t 26), (.t 28)]))⟩]) (.seq (.reg 
[⟨some 30, none, (.l (.load 6 true (.t 5)))⟩,
 ⟨some 6, none, (.e (.alloc [(.int .i64 0), (.bool false), (.bool false), (.str []), .nils, .nils]))⟩,
 ⟨none, none, (.e (.store 6 (.t 6) (.t 30)))⟩]) (.seq (.reg 
[⟨some 31, none, (.p (.faddr 4 (.t 5)))⟩,
 ⟨some 32, none, (.l (.load 1 false (.t 31)))⟩,
 ⟨some 33, none, (.e (.app 1 16 (.c .nils) (.t 32)))⟩,
 ⟨some 34, none, (.p (.faddr 4 (.t 6)))⟩,
 ⟨none, none, (.e (.store 1 (.t 34) (.t 33)))⟩,
 ⟨some 35, none, (.p (.faddr 5 (.t 6)))⟩,
 ⟨none, none, (.e (.store 1 (.t 35) (.c .nils)))⟩]) (.seq (.reg 
[⟨some 7, none, (.p (.move (.c .nils)))⟩]) (.seq (.seq (.reg 
[⟨some 36, none, (.p (.faddr 5 (.t 5)))⟩,
 ⟨some 37, none, (.l (.load 1 false (.t 36)))⟩,
 ⟨some 38, none, (.p (.lenl (.t 37)))⟩,
 ⟨some 39, none, (.p (.move (.c (.int .i64 0))))⟩]) (.block 2 (.loop (.seq (.reg 
[⟨some 40, none, (.p (.bin .lss .int (.t 39) (.t 38)))⟩]) (.seq (.cond (.t 40) .skip (.exit 2)) (.seq (.block 3 (.seq (.reg 
[⟨some 41, none, (.p (.iaddr 4 (.t 37) (.t 39)))⟩,
 ⟨some 42, none, (.l (.load 4 true (.t 41)))⟩,
 ⟨some 9, none, (.e (.alloc [(.bool false), (.str []), (.str []), .nils]))⟩,
 ⟨none, none, (.e (.store 4 (.t 9) (.t 42)))⟩]) (.seq (.reg 
[⟨some 43, none, (.p (.move (.t 0)))⟩,
 ⟨some 44, none, (.p (.move (.t 7)))⟩,
 ⟨some 45, none, (.p (.faddr 1 (.t 9)))⟩,
 ⟨some 46, none, (.l (.load 1 false (.t 45)))⟩,
 ⟨some 47, none, (.e (.call (.c (.fn 132 [] [])) [(.t 43), (.t 44), (.t 46)]))⟩]) (.seq (.reg 
[⟨some 48, none, (.p (.move (.t 7)))⟩,
 ⟨some 49, none, (.p (.faddr 1 (.t 9)))⟩,
 ⟨some 50, none, (.l (.load 1 false (.t 49)))⟩,
 ⟨some 51, none, (.p (.bslice 1 [(.str [])] [(0, (.t 50))]))⟩,
 ⟨some 52, none, (.e (.app 1 16 (.t 48) (.t 51)))⟩,
 ⟨some 7, none, (.p (.move (.t 52)))⟩]) (.seq (.reg 
[⟨some 53, none, (.p (.move (.t 0)))⟩,
 ⟨some 54, none, (.p (.faddr 2 (.t 9)))⟩,
 ⟨some 55, none, (.l (.load 2 true (.t 54)))⟩,
 ⟨some 56, none, (.e (.call (.c (.fn 134 [] [])) [(.t 53), (.t 55)]))⟩,
 ⟨some 57, none, (.p (.faddr 2 (.t 9)))⟩,
 ⟨none, none, (.e (.store 2 (.t 57) (.t 56)))⟩]) (.reg 
[⟨some 58, none, (.p (.faddr 5 (.t 6)))⟩,
 ⟨some 59, none, (.l (.load 1 false (.t 58)))⟩,
 ⟨some 60, none, (.l (.load 4 true (.t 9)))⟩,
 ⟨some 61, none, (.p (.bslice 4 [(.agg [(.bool false), (.str []), (.str []), .nils])] [(0, (.t 60))]))⟩,
 ⟨some 62, none, (.e (.app 4 64 (.t 59) (.t 61)))⟩,
 ⟨some 63, none, (.p (.faddr 5 (.t 6)))⟩,
 ⟨none, none, (.e (.store 1 (.t 63) (.t 62)))⟩])))))) (.reg 
[⟨some 64, none, (.p (.bin .add .int (.t 39) (.c (.int .i64 1))))⟩,
 ⟨some 39, none, (.p (.move (.t 64)))⟩]))))))) (.regd [] 
[⟨some 65, none, (.p (.move (.t 1)))⟩,
 ⟨some 66, none, (.p (.move (.t 1)))⟩,
 ⟨some 67, none, (.p (.nilc (.t 66)))⟩,
 ⟨some 68, none, (.p (.faddr 4 (.t 67)))⟩,
 ⟨some 69, none, (.l (.load 1 false (.t 68)))⟩,
 ⟨some 70, none, (.l (.load 6 true (.t 6)))⟩,
 ⟨some 71, none, (.p (.bslice 6 [(.agg [(.int .i64 0), (.bool false), (.bool false), (.str []), .nils, .nils])] [(0, (.t 70))]))⟩,
 ⟨some 72, none, (.e (.app 6 80 (.t 69) (.t 71)))⟩,
 ⟨some 73, none, (.p (.nilc (.t 65)))⟩,
 ⟨some 74, none, (.p (.faddr 4 (.t 73)))⟩,
 ⟨none, none, (.e (.store 1 (.t 74) (.t 72)))⟩] [])))))))) (.reg 
[⟨some 75, none, (.p (.bin .add .int (.t 22) (.c (.int .i64 1))))⟩,
 ⟨some 22, none, (.p (.move (.t 75)))⟩]))))))) (.seq (.reg 
[⟨some 76, none, (.p (.move (.t 0)))⟩,
 ⟨some 77, none, (.p (.nilc (.t 76)))⟩,
 ⟨some 78, none, (.p (.faddr 0 (.t 77)))⟩,
 ⟨some 79, none, (.p (.faddr 5 (.t 78)))⟩,
 ⟨some 80, none, (.l (.load 1 false (.t 79)))⟩,
 ⟨some 81, none, (.p (.lenl (.t 80)))⟩,
 ⟨some 82, none, (.p (.move (.c (.int .i64 0))))⟩]) (.block 4 (.loop (.seq (.reg 
[⟨some 83, none, (.p (.bin .lss .int (.t 82) (.t 81)))⟩]) (.seq (.cond (.t 83) .skip (.exit 4)) (.seq (.block 5 (.seq (.reg 
[⟨some 84, none, (.p (.iaddr 6 (.t 80) (.t 82)))⟩,
 ⟨some 85, none, (.l (.load 6 true (.t 84)))⟩,
 ⟨some 11, none, (.e (.alloc [(.int .i64 0), (.bool false), (.bool false), (.str []), .nils, .nils]))⟩,
 ⟨none, none, (.e (.store 6 (.t 11) (.t 85)))⟩]) (.seq (.reg 
[⟨some 86, none, (.p (.move (.t 0)))⟩,
 ⟨some 87, none, (.p (.faddr 4 (.t 11)))⟩,
 ⟨some 88, none, (.l (.load 1 false (.t 87)))⟩,
 ⟨some 89, none, (.e (.call (.c (.fn 133 [] [])) [(.t 86), (.t 88)]))⟩]) (.seq (.reg 
[⟨some 90, none, (.l (.load 6 true (.t 11)))⟩,
 ⟨some 12, none, (.e (.alloc [(.int .i64 0), (.bool false), (.bool false), (.str []), .nils, .nils]))⟩,
 ⟨none, none, (.e (.store 6 (.t 12) (.t 90)))⟩]) (.seq (.reg 
[⟨some 91, none, (.p (.faddr 4 (.t 11)))⟩,
 ⟨some 92, none, (.l (.load 1 false (.t 91)))⟩,
 ⟨some 93, none, (.e (.app 1 16 (.c .nils) (.t 92)))⟩,
 ⟨some 94, none, (.p (.faddr 4 (.t 12)))⟩,
 ⟨none, none, (.e (.store 1 (.t 94) (.t 93)))⟩,
 ⟨some 95, none, (.p (.faddr 5 (.t 12)))⟩,
 ⟨none, none, (.e (.store 1 (.t 95) (.c .nils)))⟩]) (.seq (.reg 
[⟨some 13, none, (.p (.move (.c .nils)))⟩]) (.seq (.seq (.reg 
[⟨some 96, none, (.p (.faddr 5 (.t 11)))⟩,
 ⟨some 97, none, (.l (.load 1 false (.t 96)))⟩,
 ⟨some 98, none, (.p (.lenl (.t 97)))⟩,
 ⟨some 99, none, (.p (.move (.c (.int .i64 0))))⟩]) (.block 6 (.loop (.seq (.reg 
[⟨some 100, none, (.p (.bin .lss .int (.t 99) (.t 98)))⟩]) (.seq (.cond (.t 100) .skip (.exit 6)) (.seq (.block 7 (.seq (.reg 
[⟨some 101, none, (.p (.iaddr 3 (.t 97) (.t 99)))⟩,
 ⟨some 102, none, (.l (.load 3 true (.t 101)))⟩,
 ⟨some 15, none, (.e (.alloc [(.bool false), (.str []), .nils]))⟩,
 ⟨none, none, (.e (.store 3 (.t 15) (.t 102)))⟩]) (.seq (.reg 
[⟨some 103, none, (.p (.move (.t 0)))⟩,
 ⟨some 104, none, (.p (.move (.t 13)))⟩,
 ⟨some 105, none, (.p (.faddr 1 (.t 15)))⟩,
 ⟨some 106, none, (.l (.load 1 false (.t 105)))⟩,
 ⟨some 107, none, (.e (.call (.c (.fn 132 [] [])) [(.t 103), (.t 104), (.t 106)]))⟩]) (.seq (.reg 
[⟨some 108, none, (.p (.move (.t 13)))⟩,
 ⟨some 109, none, (.p (.faddr 1 (.t 15)))⟩,
 ⟨some 110, none, (.l (.load 1 false (.t 109)))⟩,
 ⟨some 111, none, (.p (.bslice 1 [(.str [])] [(0, (.t 110))]))⟩,
 ⟨some 112, none, (.e (.app 1 16 (.t 108) (.t 111)))⟩,
 ⟨some 13, none, (.p (.move (.t 112)))⟩]) (.seq (.reg 
[⟨some 113, none, (.p (.move (.t 0)))⟩,
 ⟨some 114, none, (.p (.faddr 2 (.t 15)))⟩,
 ⟨some 115, none, (.l (.load 1 false (.t 114)))⟩,
 ⟨some 116, none, (.e (.call (.c (.fn 135 [] [])) [(.t 113), (.t 115)]))⟩,
 ⟨some 117, none, (.p (.faddr 2 (.t 15)))⟩,
 ⟨none, none, (.e (.store 1 (.t 117) (.t 116)))⟩]) (.reg 
[⟨some 118, none, (.p (.faddr 5 (.t 12)))⟩,
 ⟨some 119, none, (.l (.load 1 false (.t 118)))⟩,
 ⟨some 120, none, (.l (.load 3 true (.t 15)))⟩,
 ⟨some 121, none, (.p (.bslice 3 [(.agg [(.bool false), (.str []), .nils])] [(0, (.t 120))]))⟩,
 ⟨some 122, none, (.e (.app 3 48 (.t 119) (.t 121)))⟩,
 ⟨some 123, none, (.p (.faddr 5 (.t 12)))⟩,
 ⟨none, none, (.e (.store 1 (.t 123) (.t 122)))⟩])))))) (.reg 
[⟨some 124, none, (.p (.bin .add .int (.t 99) (.c (.int .i64 1))))⟩,
 ⟨some 99, none, (.p (.move (.t 124)))⟩]))))))) (.regd [] 
[⟨some 125, none, (.p (.move (.t 1)))⟩,
 ⟨some 126, none, (.p (.move (.t 1)))⟩,
 ⟨some 127, none, (.p (.nilc (.t 126)))⟩,
 ⟨some 128, none, (.p (.faddr 5 (.t 127)))⟩,
 ⟨some 129, none, (.l (.load 1 false (.t 128)))⟩,
 ⟨some 130, none, (.l (.load 6 true (.t 12)))⟩,
 ⟨some 131, none, (.p (.bslice 6 [(.agg [(.int .i64 0), (.bool false), (.bool false), (.str []), .nils, .nils])] [(0, (.t 130))]))⟩,
 ⟨some 132, none, (.e (.app 6 80 (.t 129) (.t 131)))⟩,
 ⟨some 133, none, (.p (.nilc (.t 125)))⟩,
 ⟨some 134, none, (.p (.faddr 5 (.t 133)))⟩,
 ⟨none, none, (.e (.store 1 (.t 134) (.t 132)))⟩] [])))))))) (.reg 
[⟨some 135, none, (.p (.bin .add .int (.t 82) (.c (.int .i64 1))))⟩,
 ⟨some 82, none, (.p (.move (.t 135)))⟩])))))))), []⟩
/-- (*libevolution/libevolutionref05.resolver).traits -/
def x65 : XF := ⟨(.seq (.seq (.reg 
[⟨some 16, none, (.p (.move (.t 0)))⟩,
 ⟨some 17, none, (.p (.nilc (.t 16)))⟩,
 ⟨some 18, none, (.p (.faddr 0 (.t 17)))⟩,
 ⟨some 19, none, (.p (.faddr 6 (.t 18)))⟩,
 ⟨some 20, none, (.l (.load 1 false (.t 19)))⟩,
 ⟨some 21, none, (.p (.lenl (.t 20)))⟩,
 ⟨some 22, none, (.p (.move (.c (.int .i64 0))))⟩]) (.block 0 (.loop (.seq (.reg 
[⟨some 23, none, (.p (.bin .lss .int (.t 22) (.t 21)))⟩]) (.seq (.cond (.t 23) .skip (.exit 0)) (.seq (.block 1 (.seq (.reg 
[⟨some 24, none, (.p (.iaddr 5 (.t 20) (.t 22)))⟩,
 ⟨some 25, none, (.l (.load 5 true (.t 24)))⟩,
 ⟨some 5, none, (.e (.alloc [(.int .i64 0), (.bool false), (.bool false), (.str []), .nils]))⟩,
 ⟨none, none, (.e (.store 5 (.t 5) (.t 25)))⟩]) (.seq (.reg 
[⟨some 26, none, (.p (.move (.t 0)))⟩,
 ⟨some 27, none, (.e (.call (.c (.fn 133 [] [])) [(.t 26), (.c .nils)]))⟩]) (.seq (.reg 
[⟨some 28, none, (.p (.move (.t 0)))⟩,
 ⟨some 29, none, (.p (.nilc (.t 28)))⟩,
 ⟨some 30, none, (.p (.faddr 11 (.t 29)))⟩,
 ⟨none, none, (.e (.store 1 (.t 30) (.c (.bool true))))⟩]) (.seq (.reg 
[⟨some 31, none, (.l (.load 5 true (.t 5)))⟩,
 ⟨some 6, none, (.e (.alloc [(.int .i64 0), (.bool false), (.bool false), (.str []), .nils]))⟩,
 ⟨none, none, (.e (.store 5 (.t 6) (.t 31)))⟩]) (.seq (.reg 
[⟨some 32, none, (.p (.faddr 4 (.t 6)))⟩,
 ⟨none, none, (.e (.store 1 (.t 32) (.c .nils)))⟩]) (.seq (.reg 
[⟨some 7, none, (.p (.move (.c .nils)))⟩]) (.seq (.seq (.reg 
[⟨some 33, none, (.p (.faddr 4 (.t 5)))⟩,
 ⟨some 34, none, (.l (.load 1 false (.t 33)))⟩,
 ⟨some 35, none, (.p (.lenl (.t 34)))⟩,
 ⟨some 36, none, (.p (.move (.c (.int .i64 0))))⟩]) (.block 2 (.loop (.seq (.reg 
[⟨some 37, none, (.p (.bin .lss .int (.t 36) (.t 35)))⟩]) (.seq (.cond (.t 37) .skip (.exit 2)) (.seq (.block 3 (.seq (.reg 
[⟨some 38, none, (.p (.iaddr 5 (.t 34) (.t 36)))⟩,
 ⟨some 39, none, (.l (.load 5 true (.t 38)))⟩,
 ⟨some 9, none, (.e (.alloc [(.str []), .nils, (.str []), .nils, (.str [])]))⟩,
 ⟨none, none, (.e (.store 5 (.t 9) (.t 39)))⟩]) (.seq (.reg 
[⟨some 40, none, (.p (.move (.t 0)))⟩,
 ⟨some 41, none, (.p (.move (.t 7)))⟩,
 ⟨some 42, none, (.p (.faddr 0 (.t 9)))⟩,
 ⟨some 43, none, (.l (.load 1 false (.t 42)))⟩,
 ⟨some 44, none, (.e (.call (.c (.fn 132 [] [])) [(.t 40), (.t 41), (.t 43)]))⟩]) (.seq (.reg 
[⟨some 45, none, (.p (.move (.t 7)))⟩,
 ⟨some 46, none, (.p (.faddr 0 (.t 9)))⟩,
 ⟨some 47, none, (.l (.load 1 false (.t 46)))⟩,
 ⟨some 48, none, (.p (.bslice 1 [(.str [])] [(0, (.t 47))]))⟩,
 ⟨some 49, none, (.e (.app 1 16 (.t 45) (.t 48)))⟩,
 ⟨some 7, none, (.p (.move (.t 49)))⟩]) (.seq (.reg 
[⟨some 50, none, (.p (.move (.t 0)))⟩,
 ⟨some 51, none, (.p (.faddr 1 (.t 9)))⟩,
 ⟨some 52, none, (.l (.load 1 false (.t 51)))⟩,
 ⟨some 53, none, (.e (.call (.c (.fn 135 [] [])) [(.t 50), (.t 52)]))⟩,
 ⟨some 54, none, (.p (.faddr 1 (.t 9)))⟩,
 ⟨none, none, (.e (.store 1 (.t 54) (.t 53)))⟩]) (.seq (.reg 
[⟨some 55, none, (.p (.move (.t 0)))⟩,
 ⟨some 56, none, (.p (.faddr 2 (.t 9)))⟩,
 ⟨some 57, none, (.l (.load 2 true (.t 56)))⟩,
 ⟨some 58, none, (.e (.call (.c (.fn 134 [] [])) [(.t 55), (.t 57)]))⟩,
 ⟨some 59, none, (.p (.faddr 2 (.t 9)))⟩,
 ⟨none, none, (.e (.store 2 (.t 59) (.t 58)))⟩]) (.seq (.seq (.reg 
[⟨some 60, none, (.p (.faddr 4 (.t 9)))⟩,
 ⟨some 61, none, (.l (.load 1 false (.t 60)))⟩,
 ⟨some 62, none, (.p (.bin .neq .str (.t 61) (.c (.str []))))⟩,
 ⟨some 63, none, (.p (.move (.t 62)))⟩,
 ⟨some 64, some (63, true), (.p (.move (.t 0)))⟩,
 ⟨some 65, some (63, true), (.p (.nilc (.t 64)))⟩,
 ⟨some 66, some (63, true), (.p (.faddr 0 (.t 65)))⟩,
 ⟨some 67, some (63, true), (.p (.faddr 0 (.t 66)))⟩,
 ⟨some 68, some (63, true), (.l (.load 1 false (.t 67)))⟩,
 ⟨some 69, some (63, true), (.p (.bin .neq .int (.t 68) (.c (.int .i64 3))))⟩,
 ⟨some 70, none, (.p (.pick (.t 63) (.t 69) (.c (.bool false))))⟩]) (.cond (.t 70) (.reg 
[⟨some 71, none, (.p (.move (.t 0)))⟩,
 ⟨some 72, none, (.p (.faddr 4 (.t 9)))⟩,
 ⟨some 73, none, (.l (.load 1 false (.t 72)))⟩,
 ⟨some 74, none, (.e (.call (.c (.fn 136 [] [])) [(.t 71), (.t 73)]))⟩,
 ⟨some 75, none, (.p (.faddr 4 (.t 9)))⟩,
 ⟨none, none, (.e (.store 1 (.t 75) (.t 74)))⟩]) .skip)) (.reg 
[⟨some 76, none, (.p (.faddr 4 (.t 6)))⟩,
 ⟨some 77, none, (.l (.load 1 false (.t 76)))⟩,
 ⟨some 78, none, (.l (.load 5 true (.t 9)))⟩,
 ⟨some 79, none, (.p (.bslice 5 [(.agg [(.str []), .nils, (.str []), .nils, (.str [])])] [(0, (.t 78))]))⟩,
 ⟨some 80, none, (.e (.app 5 96 (.t 77) (.t 79)))⟩,
 ⟨some 81, none, (.p (.faddr 4 (.t 6)))⟩,
 ⟨none, none, (.e (.store 1 (.t 81) (.t 80)))⟩])))))))) (.reg 
[⟨some 82, none, (.p (.bin .add .int (.t 36) (.c (.int .i64 1))))⟩,
 ⟨some 36, none, (.p (.move (.t 82)))⟩]))))))) (.seq (.regd [] 
[⟨some 83, none, (.p (.move (.t 1)))⟩,
 ⟨some 84, none, (.p (.move (.t 1)))⟩,
 ⟨some 85, none, (.p (.nilc (.t 84)))⟩,
 ⟨some 86, none, (.p (.faddr 6 (.t 85)))⟩,
 ⟨some 87, none, (.l (.load 1 false (.t 86)))⟩,
 ⟨some 88, none, (.l (.load 5 true (.t 6)))⟩,
 ⟨some 89, none, (.p (.bslice 5 [(.agg [(.int .i64 0), (.bool false), (.bool false), (.str []), .nils])] [(0, (.t 88))]))⟩,
 ⟨some 90, none, (.e (.app 5 56 (.t 87) (.t 89)))⟩,
 ⟨some 91, none, (.p (.nilc (.t 83)))⟩,
 ⟨some 92, none, (.p (.faddr 6 (.t 91)))⟩,
 ⟨none, none, (.e (.store 1 (.t 92) (.t 90)))⟩] []) (.reg 
[⟨some 93, none, (.p (.move (.t 0)))⟩,
 ⟨some 94, none, (.p (.nilc (.t 93)))⟩,
 ⟨some 95, none, (.p (.faddr 11 (.t 94)))⟩,
 ⟨none, none, (.e (.store 1 (.t 95) (.c (.bool false))))⟩])))))))))) (.reg 
[⟨some 96, none, (.p (.bin .add .int (.t 22) (.c (.int .i64 1))))⟩,
 ⟨some 22, none, (.p (.move (.t 96)))⟩]))))))) (.seq (.reg 
[⟨some 97, none, (.p (.move (.t 0)))⟩,
 ⟨some 98, none, (.p (.nilc (.t 97)))⟩,
 ⟨some 99, none, (.p (.faddr 0 (.t 98)))⟩,
 ⟨some 100, none, (.p (.faddr 7 (.t 99)))⟩,
 ⟨some 101, none, (.l (.load 1 false (.t 100)))⟩,
 ⟨some 102, none, (.p (.lenl (.t 101)))⟩,
 ⟨some 103, none, (.p (.move (.c (.int .i64 0))))⟩]) (.block 4 (.loop (.seq (.reg 
[⟨some 104, none, (.p (.bin .lss .int (.t 103) (.t 102)))⟩]) (.seq (.cond (.t 104) .skip (.exit 4)) (.seq (.block 5 (.seq (.reg 
[⟨some 105, none, (.p (.iaddr 5 (.t 101) (.t 103)))⟩,
 ⟨some 106, none, (.l (.load 5 true (.t 105)))⟩,
 ⟨some 11, none, (.e (.alloc [(.str []), .nils, (.str []), .nils, .nils]))⟩,
 ⟨none, none, (.e (.store 5 (.t 11) (.t 106)))⟩]) (.seq (.reg 
[⟨some 107, none, (.p (.move (.t 0)))⟩,
 ⟨some 108, none, (.e (.call (.c (.fn 133 [] [])) [(.t 107), (.c .nils)]))⟩]) (.seq (.reg 
[⟨some 109, none, (.p (.move (.t 0)))⟩,
 ⟨some 110, none, (.p (.faddr 0 (.t 11)))⟩,
 ⟨some 111, none, (.l (.load 1 false (.t 110)))⟩,
 ⟨some 112, none, (.e (.call (.c (.fn 137 [] [])) [(.t 109), (.t 111), (.c (.int .i64 2))]))⟩,
 ⟨some 113, none, (.p (.build [(.str []), .nils, (.str []), .nils, .nils] [(0, 1, (.t 112))]))⟩,
 ⟨some 12, none, (.e (.alloc [(.str []), .nils, (.str []), .nils, .nils]))⟩,
 ⟨none, none, (.e (.store 5 (.t 12) (.t 113)))⟩]) (.seq (.reg 
[⟨some 114, none, (.p (.move (.t 0)))⟩,
 ⟨some 115, none, (.p (.faddr 1 (.t 11)))⟩,
 ⟨some 116, none, (.l (.load 1 false (.t 115)))⟩,
 ⟨some 117, none, (.e (.call (.c (.fn 138 [] [])) [(.t 114), (.t 116)]))⟩,
 ⟨some 118, none, (.p (.faddr 1 (.t 12)))⟩,
 ⟨none, none, (.e (.store 1 (.t 118) (.t 117)))⟩]) (.seq (.reg 
[⟨some 119, none, (.p (.move (.t 0)))⟩,
 ⟨some 120, none, (.p (.faddr 2 (.t 11)))⟩,
 ⟨some 121, none, (.l (.load 2 true (.t 120)))⟩,
 ⟨some 122, none, (.e (.call (.c (.fn 134 [] [])) [(.t 119), (.t 121)]))⟩,
 ⟨some 123, none, (.p (.faddr 2 (.t 12)))⟩,
 ⟨none, none, (.e (.store 2 (.t 123) (.t 122)))⟩]) (.seq (.reg 
[⟨some 13, none, (.p (.move (.c .nils)))⟩]) (.seq (.seq (.reg 
[⟨some 124, none, (.p (.faddr 4 (.t 11)))⟩,
 ⟨some 125, none, (.l (.load 1 false (.t 124)))⟩,
 ⟨some 126, none, (.p (.lenl (.t 125)))⟩,
 ⟨some 127, none, (.p (.move (.c (.int .i64 0))))⟩]) (.block 6 (.loop (.seq (.reg 
[⟨some 128, none, (.p (.bin .lss .int (.t 127) (.t 126)))⟩]) (.seq (.cond (.t 128) .skip (.exit 6)) (.seq (.block 7 (.seq (.reg 
[⟨some 129, none, (.p (.iaddr 2 (.t 125) (.t 127)))⟩,
 ⟨some 130, none, (.l (.load 2 true (.t 129)))⟩,
 ⟨some 15, none, (.e (.alloc [(.str []), (.str [])]))⟩,
 ⟨none, none, (.e (.store 2 (.t 15) (.t 130)))⟩]) (.seq (.reg 
[⟨some 131, none, (.p (.move (.t 0)))⟩,
 ⟨some 132, none, (.p (.move (.t 13)))⟩,
 ⟨some 133, none, (.p (.faddr 0 (.t 15)))⟩,
 ⟨some 134, none, (.l (.load 1 false (.t 133)))⟩,
 ⟨some 135, none, (.e (.call (.c (.fn 132 [] [])) [(.t 131), (.t 132), (.t 134)]))⟩]) (.seq (.reg 
[⟨some 136, none, (.p (.move (.t 13)))⟩,
 ⟨some 137, none, (.p (.faddr 0 (.t 15)))⟩,
 ⟨some 138, none, (.l (.load 1 false (.t 137)))⟩,
 ⟨some 139, none, (.p (.bslice 1 [(.str [])] [(0, (.t 138))]))⟩,
 ⟨some 140, none, (.e (.app 1 16 (.t 136) (.t 139)))⟩,
 ⟨some 13, none, (.p (.move (.t 140)))⟩]) (.regd [] 
[⟨some 141, none, (.p (.faddr 4 (.t 12)))⟩,
 ⟨some 142, none, (.l (.load 1 false (.t 141)))⟩,
 ⟨some 143, none, (.p (.faddr 0 (.t 15)))⟩,
 ⟨some 144, none, (.l (.load 1 false (.t 143)))⟩,
 ⟨some 145, none, (.p (.move (.t 0)))⟩,
 ⟨some 146, none, (.p (.faddr 1 (.t 15)))⟩,
 ⟨some 147, none, (.l (.load 1 false (.t 146)))⟩,
 ⟨some 148, none, (.e (.call (.c (.fn 136 [] [])) [(.t 145), (.t 147)]))⟩,
 ⟨some 149, none, (.p (.build [(.str []), (.str [])] [(0, 1, (.t 144)), (1, 1, (.t 148))]))⟩,
 ⟨some 150, none, (.p (.bslice 2 [(.agg [(.str []), (.str [])])] [(0, (.t 149))]))⟩,
 ⟨some 151, none, (.e (.app 2 32 (.t 142) (.t 150)))⟩,
 ⟨some 152, none, (.p (.faddr 4 (.t 12)))⟩,
 ⟨none, none, (.e (.store 1 (.t 152) (.t 151)))⟩] [(1, 7), (3, 7)]))))) (.reg 
[⟨some 153, none, (.p (.bin .add .int (.t 127) (.c (.int .i64 1))))⟩,
 ⟨some 127, none, (.p (.move (.t 153)))⟩]))))))) (.regd [] 
[⟨some 154, none, (.p (.move (.t 1)))⟩,
 ⟨some 155, none, (.p (.move (.t 1)))⟩,
 ⟨some 156, none, (.p (.nilc (.t 155)))⟩,
 ⟨some 157, none, (.p (.faddr 7 (.t 156)))⟩,
 ⟨some 158, none, (.l (.load 1 false (.t 157)))⟩,
 ⟨some 159, none, (.l (.load 5 true (.t 12)))⟩,
 ⟨some 160, none, (.p (.bslice 5 [(.agg [(.str []), .nils, (.str []), .nils, .nils])] [(0, (.t 159))]))⟩,
 ⟨some 161, none, (.e (.app 5 104 (.t 158) (.t 160)))⟩,
 ⟨some 162, none, (.p (.nilc (.t 154)))⟩,
 ⟨some 163, none, (.p (.faddr 7 (.t 162)))⟩,
 ⟨none, none, (.e (.store 1 (.t 163) (.t 161)))⟩] []))))))))) (.reg 
[⟨some 164, none, (.p (.bin .add .int (.t 103) (.c (.int .i64 1))))⟩,
 ⟨some 103, none, (.p (.move (.t 164)))⟩])))))))), []⟩
/-- (*libevolution/libevolutionref05.resolver).funcs -/
def x66 : XF := ⟨(.seq (.reg 
[⟨some 10, none, (.p (.move (.t 0)))⟩,
 ⟨some 11, none, (.p (.nilc (.t 10)))⟩,
 ⟨some 12, none, (.p (.faddr 0 (.t 11)))⟩,
 ⟨some 13, none, (.p (.faddr 8 (.t 12)))⟩,
 ⟨some 14, none, (.l (.load 1 false (.t 13)))⟩,
 ⟨some 15, none, (.p (.lenl (.t 14)))⟩,
 ⟨some 16, none, (.p (.move (.c (.int .i64 0))))⟩]) (.block 0 (.loop (.seq (.reg 
[⟨some 17, none, (.p (.bin .lss .int (.t 16) (.t 15)))⟩]) (.seq (.cond (.t 17) .skip (.exit 0)) (.seq (.block 1 (.seq (.reg 
[⟨some 18, none, (.p (.iaddr 20 (.t 14) (.t 16)))⟩,
 ⟨some 19, none, (.l (.load 20 true (.t 18)))⟩,
 ⟨some 5, none, (.e (.alloc [(.int .i64 0), (.bool false), (.bool false), (.str []), .nils, .nils, (.str []), .nils, (.bool false), (.int .i64 0), (.str []), (.str []), (.int .i64 0), .nils, .nils, .nils, .nils, (.str []), .nils, (.int .i64 0)]))⟩,
 ⟨none, none, (.e (.store 20 (.t 5) (.t 19)))⟩]) (.seq (.reg 
[⟨some 20, none, (.p (.move (.t 0)))⟩,
 ⟨some 21, none, (.e (.call (.c (.fn 133 [] [])) [(.t 20), (.c .nils)]))⟩]) (.seq (.reg 
[⟨some 22, none, (.l (.load 20 true (.t 5)))⟩,
 ⟨some 6, none, (.e (.alloc [(.int .i64 0), (.bool false), (.bool false), (.str []), .nils, .nils, (.str []), .nils, (.bool false), (.int .i64 0), (.str []), (.str []), (.int .i64 0), .nils, .nils, .nils, .nils, (.str []), .nils, (.int .i64 0)]))⟩,
 ⟨none, none, (.e (.store 20 (.t 6) (.t 22)))⟩]) (.seq (.reg 
[⟨some 23, none, (.p (.move (.t 0)))⟩,
 ⟨some 24, none, (.p (.faddr 4 (.t 5)))⟩,
 ⟨some 25, none, (.l (.load 1 false (.t 24)))⟩,
 ⟨some 26, none, (.e (.call (.c (.fn 138 [] [])) [(.t 23), (.t 25)]))⟩,
 ⟨some 27, none, (.p (.faddr 4 (.t 6)))⟩,
 ⟨none, none, (.e (.store 1 (.t 27) (.t 26)))⟩,
 ⟨some 28, none, (.p (.faddr 5 (.t 6)))⟩,
 ⟨none, none, (.e (.store 1 (.t 28) (.c .nils)))⟩]) (.seq (.reg 
[⟨some 7, none, (.p (.move (.c .nils)))⟩]) (.seq (.seq (.reg 
[⟨some 29, none, (.p (.faddr 5 (.t 5)))⟩,
 ⟨some 30, none, (.l (.load 1 false (.t 29)))⟩,
 ⟨some 31, none, (.p (.lenl (.t 30)))⟩,
 ⟨some 32, none, (.p (.move (.c (.int .i64 0))))⟩]) (.block 2 (.loop (.seq (.reg 
[⟨some 33, none, (.p (.bin .lss .int (.t 32) (.t 31)))⟩]) (.seq (.cond (.t 33) .skip (.exit 2)) (.seq (.block 3 (.seq (.reg 
[⟨some 34, none, (.p (.iaddr 15 (.t 30) (.t 32)))⟩,
 ⟨some 35, none, (.l (.load 15 true (.t 34)))⟩,
 ⟨some 9, none, (.e (.alloc [(.str []), (.str []), .nils, (.bool false), (.int .i64 0), (.str []), (.str []), (.int .i64 0), .nils, .nils, .nils, .nils, (.str []), .nils, (.int .i64 0)]))⟩,
 ⟨none, none, (.e (.store 15 (.t 9) (.t 35)))⟩]) (.seq (.reg 
[⟨some 36, none, (.p (.move (.t 0)))⟩,
 ⟨some 37, none, (.p (.move (.t 7)))⟩,
 ⟨some 38, none, (.p (.faddr 0 (.t 9)))⟩,
 ⟨some 39, none, (.l (.load 1 false (.t 38)))⟩,
 ⟨some 40, none, (.e (.call (.c (.fn 132 [] [])) [(.t 36), (.t 37), (.t 39)]))⟩]) (.seq (.reg 
[⟨some 41, none, (.p (.move (.t 7)))⟩,
 ⟨some 42, none, (.p (.faddr 0 (.t 9)))⟩,
 ⟨some 43, none, (.l (.load 1 false (.t 42)))⟩,
 ⟨some 44, none, (.p (.bslice 1 [(.str [])] [(0, (.t 43))]))⟩,
 ⟨some 45, none, (.e (.app 1 16 (.t 41) (.t 44)))⟩,
 ⟨some 7, none, (.p (.move (.t 45)))⟩]) (.seq (.reg 
[⟨some 46, none, (.p (.move (.t 0)))⟩,
 ⟨some 47, none, (.p (.faddr 1 (.t 9)))⟩,
 ⟨some 48, none, (.l (.load 2 true (.t 47)))⟩,
 ⟨some 49, none, (.e (.call (.c (.fn 134 [] [])) [(.t 46), (.t 48)]))⟩,
 ⟨some 50, none, (.p (.faddr 1 (.t 9)))⟩,
 ⟨none, none, (.e (.store 2 (.t 50) (.t 49)))⟩]) (.seq (.reg 
[⟨some 51, none, (.p (.move (.t 0)))⟩,
 ⟨some 52, none, (.p (.faddr 4 (.t 9)))⟩,
 ⟨some 53, none, (.l (.load 11 true (.t 52)))⟩,
 ⟨some 54, none, (.e (.call (.c (.fn 139 [] [])) [(.t 51), (.t 53)]))⟩,
 ⟨some 55, none, (.p (.faddr 4 (.t 9)))⟩,
 ⟨none, none, (.e (.store 11 (.t 55) (.t 54)))⟩]) (.seq (.reg 
[⟨some 56, none, (.p (.move (.t 0)))⟩,
 ⟨some 57, none, (.p (.nilc (.t 56)))⟩,
 ⟨some 58, none, (.p (.faddr 12 (.t 57)))⟩,
 ⟨none, none, (.e (.store 1 (.t 58) (.c (.int .i64 0))))⟩]) (.reg 
[⟨some 59, none, (.p (.faddr 5 (.t 6)))⟩,
 ⟨some 60, none, (.l (.load 1 false (.t 59)))⟩,
 ⟨some 61, none, (.l (.load 15 true (.t 9)))⟩,
 ⟨some 62, none, (.p (.bslice 15 [(.agg [(.str []), (.str []), .nils, (.bool false), (.int .i64 0), (.str []), (.str []), (.int .i64 0), .nils, .nils, .nils, .nils, (.str []), .nils, (.int .i64 0)])] [(0, (.t 61))]))⟩,
 ⟨some 63, none, (.e (.app 15 256 (.t 60) (.t 62)))⟩,
 ⟨some 64, none, (.p (.faddr 5 (.t 6)))⟩,
 ⟨none, none, (.e (.store 1 (.t 64) (.t 63)))⟩])))))))) (.reg 
[⟨some 65, none, (.p (.bin .add .int (.t 32) (.c (.int .i64 1))))⟩,
 ⟨some 32, none, (.p (.move (.t 65)))⟩]))))))) (.seq (.reg 
[⟨some 66, none, (.p (.move (.t 0)))⟩,
 ⟨some 67, none, (.p (.faddr 6 (.t 5)))⟩,
 ⟨some 68, none, (.l (.load 2 true (.t 67)))⟩,
 ⟨some 69, none, (.e (.call (.c (.fn 134 [] [])) [(.t 66), (.t 68)]))⟩,
 ⟨some 70, none, (.p (.faddr 6 (.t 6)))⟩,
 ⟨none, none, (.e (.store 2 (.t 70) (.t 69)))⟩]) (.seq (.reg 
[⟨some 71, none, (.p (.move (.t 0)))⟩,
 ⟨some 72, none, (.p (.faddr 9 (.t 5)))⟩,
 ⟨some 73, none, (.l (.load 11 true (.t 72)))⟩,
 ⟨some 74, none, (.e (.call (.c (.fn 139 [] [])) [(.t 71), (.t 73)]))⟩,
 ⟨some 75, none, (.p (.faddr 9 (.t 6)))⟩,
 ⟨none, none, (.e (.store 11 (.t 75) (.t 74)))⟩]) (.seq (.reg 
[⟨some 76, none, (.p (.move (.t 0)))⟩,
 ⟨some 77, none, (.p (.nilc (.t 76)))⟩,
 ⟨some 78, none, (.p (.faddr 12 (.t 77)))⟩,
 ⟨none, none, (.e (.store 1 (.t 78) (.c (.int .i64 0))))⟩]) (.regd [] 
[⟨some 79, none, (.p (.move (.t 1)))⟩,
 ⟨some 80, none, (.p (.move (.t 1)))⟩,
 ⟨some 81, none, (.p (.nilc (.t 80)))⟩,
 ⟨some 82, none, (.p (.faddr 8 (.t 81)))⟩,
 ⟨some 83, none, (.l (.load 1 false (.t 82)))⟩,
 ⟨some 84, none, (.l (.load 20 true (.t 6)))⟩,
 ⟨some 85, none, (.p (.bslice 20 [(.agg [(.int .i64 0), (.bool false), (.bool false), (.str []), .nils, .nils, (.str []), .nils, (.bool false), (.int .i64 0), (.str []), (.str []), (.int .i64 0), .nils, .nils, .nils, .nils, (.str []), .nils, (.int .i64 0)])] [(0, (.t 84))]))⟩,
 ⟨some 86, none, (.e (.app 20 320 (.t 83) (.t 85)))⟩,
 ⟨some 87, none, (.p (.nilc (.t 79)))⟩,
 ⟨some 88, none, (.p (.faddr 8 (.t 87)))⟩,
 ⟨none, none, (.e (.store 1 (.t 88) (.t 86)))⟩] []))))))))))) (.reg 
[⟨some 89, none, (.p (.bin .add .int (.t 16) (.c (.int .i64 1))))⟩,
 ⟨some 16, none, (.p (.move (.t 89)))⟩]))))))), []⟩
/-- libevolution/libevolutionref01.blank -/
def x83 : XF := ⟨(.seq (.reg 
[⟨some 4, none, (.p (.move (.c (.int .i64 0))))⟩]) (.seq (.block 0 (.loop (.seq (.seq (.reg 
[⟨some 5, none, (.p (.move (.t 1)))⟩,
 ⟨some 6, none, (.p (.move (.t 0)))⟩,
 ⟨some 7, none, (.p (.lens (.t 6)))⟩,
 ⟨some 8, none, (.p (.bin .lss .int (.t 5) (.t 7)))⟩]) (.cond (.t 8) .skip (.exit 0))) (.block 1 (.block 2 (.seq (.reg 
[⟨some 11, none, (.p (.move (.t 0)))⟩,
 ⟨some 12, none, (.p (.move (.t 1)))⟩,
 ⟨some 13, none, (.p (.ixs (.t 11) (.t 12)))⟩,
 ⟨some 14, none, (.p (.bin .eql .int (.t 13) (.c (.int .u8 32))))⟩,
 ⟨some 15, none, (.p (.move (.t 14)))⟩,
 ⟨some 16, some (15, false), (.p (.move (.t 0)))⟩,
 ⟨some 17, some (15, false), (.p (.move (.t 1)))⟩,
 ⟨some 18, some (15, false), (.p (.ixs (.t 16) (.t 17)))⟩,
 ⟨some 19, some (15, false), (.p (.bin .eql .int (.t 18) (.c (.int .u8 9))))⟩,
 ⟨some 20, none, (.p (.pick (.t 15) (.c (.bool true)) (.t 19)))⟩,
 ⟨some 21, none, (.p (.move (.t 20)))⟩,
 ⟨some 22, some (21, false), (.p (.move (.t 0)))⟩,
 ⟨some 23, some (21, false), (.p (.move (.t 1)))⟩,
 ⟨some 24, some (21, false), (.p (.ixs (.t 22) (.t 23)))⟩,
 ⟨some 25, some (21, false), (.p (.bin .eql .int (.t 24) (.c (.int .u8 10))))⟩,
 ⟨some 26, none, (.p (.pick (.t 21) (.c (.bool true)) (.t 25)))⟩,
 ⟨some 27, none, (.p (.move (.t 26)))⟩,
 ⟨some 28, some (27, false), (.p (.move (.t 0)))⟩,
 ⟨some 29, some (27, false), (.p (.move (.t 1)))⟩,
 ⟨some 30, some (27, false), (.p (.ixs (.t 28) (.t 29)))⟩,
 ⟨some 31, some (27, false), (.p (.bin .eql .int (.t 30) (.c (.int .u8 13))))⟩,
 ⟨some 32, none, (.p (.pick (.t 27) (.c (.bool true)) (.t 31)))⟩,
 ⟨some 10, none, (.p (.move (.t 32)))⟩]) (.cond (.t 10) (.reg 
[⟨some 33, none, (.p (.move (.t 1)))⟩,
 ⟨some 34, none, (.p (.bin .add .int (.t 33) (.c (.int .i64 1))))⟩,
 ⟨some 1, none, (.p (.move (.t 34)))⟩]) (.seq (.reg 
[⟨some 36, none, (.p (.move (.t 0)))⟩,
 ⟨some 37, none, (.p (.move (.t 1)))⟩,
 ⟨some 38, none, (.p (.ixs (.t 36) (.t 37)))⟩,
 ⟨some 39, none, (.p (.bin .eql .int (.t 38) (.c (.int .u8 35))))⟩,
 ⟨some 35, none, (.p (.move (.t 39)))⟩]) (.cond (.t 35) (.block 3 (.loop (.seq (.seq (.reg 
[⟨some 40, none, (.p (.move (.t 1)))⟩,
 ⟨some 41, none, (.p (.move (.t 0)))⟩,
 ⟨some 42, none, (.p (.lens (.t 41)))⟩,
 ⟨some 43, none, (.p (.bin .lss .int (.t 40) (.t 42)))⟩,
 ⟨some 44, none, (.p (.move (.t 43)))⟩,
 ⟨some 45, some (44, true), (.p (.move (.t 0)))⟩,
 ⟨some 46, some (44, true), (.p (.move (.t 1)))⟩,
 ⟨some 47, some (44, true), (.p (.ixs (.t 45) (.t 46)))⟩,
 ⟨some 48, some (44, true), (.p (.bin .neq .int (.t 47) (.c (.int .u8 10))))⟩,
 ⟨some 49, none, (.p (.pick (.t 44) (.t 48) (.c (.bool false))))⟩]) (.cond (.t 49) .skip (.exit 3))) (.block 4 (.reg 
[⟨some 50, none, (.p (.move (.t 1)))⟩,
 ⟨some 51, none, (.p (.bin .add .int (.t 50) (.c (.int .i64 1))))⟩,
 ⟨some 1, none, (.p (.move (.t 51)))⟩]))))) (.seq (.reg 
[⟨some 9, none, (.p (.move (.t 1)))⟩,
 ⟨some 4, none, (.p (.move (.t 9)))⟩]) .ret)))))))))) (.seq (.reg 
[⟨some 52, none, (.p (.move (.t 1)))⟩,
 ⟨some 4, none, (.p (.move (.t 52)))⟩]) .ret))), [.t 4]⟩
/-- libevolution/libevolutionref01.next -/
def x84 : XF := ⟨(.seq (.reg 
[⟨some 4, none, (.e (.alloc [(.int .i64 0), (.str []), (.int .i64 0)]))⟩,
 ⟨some 5, none, (.p (.move (.c (.int .i64 0))))⟩]) (.seq (.seq (.reg 
[⟨some 9, none, (.p (.move (.t 0)))⟩,
 ⟨some 10, none, (.p (.move (.t 1)))⟩,
 ⟨some 11, none, (.p (.ixs (.t 9) (.t 10)))⟩,
 ⟨some 12, none, (.e (.call (.c (.fn 163 [] [])) [(.t 11)]))⟩]) (.cond (.t 12) (.seq (.reg 
[⟨some 13, none, (.p (.move (.t 0)))⟩,
 ⟨some 14, none, (.p (.move (.t 1)))⟩,
 ⟨some 15, none, (.e (.call (.c (.fn 164 [] [])) [(.t 13), (.t 14)]))⟩,
 ⟨some 6, none, (.p (.move (.t 15)))⟩]) (.seq (.seq (.reg 
[⟨some 16, none, (.p (.move (.t 6)))⟩,
 ⟨some 17, none, (.p (.move (.t 1)))⟩,
 ⟨some 18, none, (.p (.bin .sub .int (.t 16) (.t 17)))⟩,
 ⟨some 19, none, (.p (.bin .gtr .int (.t 18) (.c (.int .i64 16))))⟩]) (.cond (.t 19) (.seq (.reg 
[⟨some 20, none, (.p (.build [(.int .i64 0), (.str []), (.int .i64 0)] []))⟩,
 ⟨none, none, (.e (.store 3 (.t 4) (.t 20)))⟩,
 ⟨some 5, none, (.p (.move (.c (.int .i64 4))))⟩]) .ret) .skip)) (.seq (.reg 
[⟨some 21, none, (.p (.move (.t 0)))⟩,
 ⟨some 22, none, (.p (.move (.t 1)))⟩,
 ⟨some 23, none, (.p (.move (.t 6)))⟩,
 ⟨some 24, none, (.p (.subs (.t 21) (some (.t 22)) (some (.t 23))))⟩,
 ⟨some 25, none, (.p (.move (.t 1)))⟩,
 ⟨some 26, none, (.p (.build [(.int .i64 0), (.str []), (.int .i64 0)] [(0, 1, (.c (.int .i64 1))), (1, 1, (.t 24)), (2, 1, (.t 25))]))⟩,
 ⟨none, none, (.e (.store 3 (.t 4) (.t 26)))⟩,
 ⟨some 5, none, (.p (.move (.c (.int .i64 0))))⟩]) .ret))) .skip)) (.seq (.seq (.reg 
[⟨some 27, none, (.p (.move (.t 0)))⟩,
 ⟨some 28, none, (.p (.move (.t 1)))⟩,
 ⟨some 29, none, (.p (.ixs (.t 27) (.t 28)))⟩,
 ⟨some 30, none, (.e (.call (.c (.fn 165 [] [])) [(.t 29)]))⟩]) (.cond (.t 30) (.seq (.reg 
[⟨some 31, none, (.p (.move (.t 0)))⟩,
 ⟨some 32, none, (.p (.move (.t 1)))⟩,
 ⟨some 33, none, (.e (.call (.c (.fn 166 [] [])) [(.t 31), (.t 32)]))⟩,
 ⟨some 7, none, (.p (.move (.t 33)))⟩]) (.seq (.block 0 (.seq (.reg 
[⟨some 35, none, (.p (.move (.t 7)))⟩,
 ⟨some 36, none, (.p (.move (.t 1)))⟩,
 ⟨some 37, none, (.p (.bin .sub .int (.t 35) (.t 36)))⟩,
 ⟨some 38, none, (.p (.bin .gtr .int (.t 37) (.c (.int .i64 1))))⟩,
 ⟨some 39, none, (.p (.move (.t 38)))⟩,
 ⟨some 40, some (39, true), (.p (.move (.t 0)))⟩,
 ⟨some 41, some (39, true), (.p (.move (.t 1)))⟩,
 ⟨some 42, some (39, true), (.p (.ixs (.t 40) (.t 41)))⟩,
 ⟨some 43, some (39, true), (.p (.bin .eql .int (.t 42) (.c (.int .u8 48))))⟩,
 ⟨some 44, none, (.p (.pick (.t 39) (.t 43) (.c (.bool false))))⟩,
 ⟨some 34, none, (.p (.move (.t 44)))⟩]) (.cond (.t 34) (.seq (.reg 
[⟨some 45, none, (.p (.build [(.int .i64 0), (.str []), (.int .i64 0)] []))⟩,
 ⟨none, none, (.e (.store 3 (.t 4) (.t 45)))⟩,
 ⟨some 5, none, (.p (.move (.c (.int .i64 1))))⟩]) .ret) (.seq (.reg 
[⟨some 47, none, (.p (.move (.t 0)))⟩,
 ⟨some 48, none, (.p (.move (.t 1)))⟩,
 ⟨some 49, none, (.p (.move (.t 7)))⟩,
 ⟨some 50, none, (.p (.subs (.t 47) (some (.t 48)) (some (.t 49))))⟩,
 ⟨some 51, none, (.e (.call (.c (.fn 167 [] [])) [(.t 50)]))⟩,
 ⟨some 46, none, (.p (.move (.t 51)))⟩]) (.cond (.t 46) (.seq (.reg 
[⟨some 52, none, (.p (.build [(.int .i64 0), (.str []), (.int .i64 0)] []))⟩,
 ⟨none, none, (.e (.store 3 (.t 4) (.t 52)))⟩,
 ⟨some 5, none, (.p (.move (.c (.int .i64 4))))⟩]) .ret) .skip))))) (.seq (.reg 
[⟨some 53, none, (.p (.move (.t 0)))⟩,
 ⟨some 54, none, (.p (.move (.t 1)))⟩,
 ⟨some 55, none, (.p (.move (.t 7)))⟩,
 ⟨some 56, none, (.p (.subs (.t 53) (some (.t 54)) (some (.t 55))))⟩,
 ⟨some 57, none, (.p (.move (.t 1)))⟩,
 ⟨some 58, none, (.p (.build [(.int .i64 0), (.str []), (.int .i64 0)] [(0, 1, (.c (.int .i64 2))), (1, 1, (.t 56)), (2, 1, (.t 57))]))⟩,
 ⟨none, none, (.e (.store 3 (.t 4) (.t 58)))⟩,
 ⟨some 5, none, (.p (.move (.c (.int .i64 0))))⟩]) .ret))) .skip)) (.seq (.reg 
[⟨some 59, none, (.p (.move (.t 0)))⟩,
 ⟨some 60, none, (.p (.move (.t 1)))⟩,
 ⟨some 61, none, (.e (.call (.c (.fn 168 [] [])) [(.t 59), (.t 60)]))⟩,
 ⟨some 8, none, (.p (.move (.t 61)))⟩]) (.seq (.seq (.reg 
[⟨some 62, none, (.p (.move (.t 8)))⟩,
 ⟨some 63, none, (.p (.move (.t 1)))⟩,
 ⟨some 64, none, (.p (.bin .eql .int (.t 62) (.t 63)))⟩]) (.cond (.t 64) (.seq (.reg 
[⟨some 65, none, (.p (.build [(.int .i64 0), (.str []), (.int .i64 0)] []))⟩,
 ⟨none, none, (.e (.store 3 (.t 4) (.t 65)))⟩,
 ⟨some 5, none, (.p (.move (.c (.int .i64 1))))⟩]) .ret) .skip)) (.seq (.reg 
[⟨some 66, none, (.p (.move (.t 0)))⟩,
 ⟨some 67, none, (.p (.move (.t 1)))⟩,
 ⟨some 68, none, (.p (.move (.t 8)))⟩,
 ⟨some 69, none, (.p (.subs (.t 66) (some (.t 67)) (some (.t 68))))⟩,
 ⟨some 70, none, (.p (.move (.t 1)))⟩,
 ⟨some 71, none, (.p (.build [(.int .i64 0), (.str []), (.int .i64 0)] [(0, 1, (.c (.int .i64 3))), (1, 1, (.t 69)), (2, 1, (.t 70))]))⟩,
 ⟨none, none, (.e (.store 3 (.t 4) (.t 71)))⟩,
 ⟨some 5, none, (.p (.move (.c (.int .i64 0))))⟩]) .ret)))))), [.cell 4 3 true, .t 5]⟩
/-- libevolution/libevolutionref02.Parse -/
def x85 : XF := ⟨(.seq (.reg 
[⟨some 2, none, (.e (.alloc [(.int .i64 0), (.str []), (.int .i64 0), .nils, .nils, .nils, .nils, .nils, .nils]))⟩,
 ⟨some 3, none, (.p (.move (.c (.int .i64 0))))⟩,
 ⟨some 4, none, (.p (.move (.c (.int .i64 0))))⟩]) (.seq (.reg 
[⟨some 13, none, (.p (.move (.t 0)))⟩,
 ⟨some 14, none, (.e (.call (.c (.fn 169 [] [])) [(.t 13)]))⟩,
 ⟨some 12, none, (.p (.move (.t 14)))⟩,
 ⟨some 15, none, (.p (.ext (.t 12) 0))⟩,
 ⟨some 16, none, (.p (.ext (.t 12) 1))⟩,
 ⟨some 17, none, (.p (.ext (.t 12) 2))⟩,
 ⟨some 5, none, (.p (.move (.t 15)))⟩,
 ⟨some 6, none, (.p (.move (.t 16)))⟩,
 ⟨some 7, none, (.p (.move (.t 17)))⟩]) (.seq (.seq (.reg 
[⟨some 18, none, (.p (.move (.t 7)))⟩,
 ⟨some 19, none, (.p (.bin .neq .int (.t 18) (.c (.int .i64 0))))⟩]) (.cond (.t 19) (.seq (.reg 
[⟨some 20, none, (.p (.build [(.int .i64 0), (.str []), (.int .i64 0), .nils, .nils, .nils, .nils, .nils, .nils] []))⟩,
 ⟨some 21, none, (.p (.move (.t 6)))⟩,
 ⟨some 22, none, (.p (.move (.t 7)))⟩,
 ⟨none, none, (.e (.store 9 (.t 2) (.t 20)))⟩,
 ⟨some 3, none, (.p (.move (.t 21)))⟩,
 ⟨some 4, none, (.p (.move (.t 22)))⟩]) .ret) .skip)) (.seq (.reg 
[⟨some 23, none, (.p (.move (.t 5)))⟩,
 ⟨some 24, none, (.e (.call (.c (.fn 170 [] [])) [(.t 23)]))⟩,
 ⟨some 8, none, (.e (.alloc [(.int .i64 0), (.str []), (.int .i64 0), .nils, .nils, .nils, .nils, .nils, .nils]))⟩,
 ⟨none, none, (.e (.store 9 (.t 8) (.t 24)))⟩]) (.seq (.seq (.reg 
[⟨some 26, none, (.p (.move (.t 5)))⟩,
 ⟨some 27, none, (.e (.call (.c (.fn 171 [] [])) [(.t 26)]))⟩,
 ⟨some 25, none, (.p (.move (.t 27)))⟩,
 ⟨some 28, none, (.p (.ext (.t 25) 0))⟩,
 ⟨some 29, none, (.p (.ext (.t 25) 1))⟩,
 ⟨some 9, none, (.p (.move (.t 28)))⟩,
 ⟨some 10, none, (.p (.move (.t 29)))⟩]) (.seq (.reg 
[⟨some 30, none, (.p (.move (.t 10)))⟩,
 ⟨some 31, none, (.p (.bin .neq .int (.t 30) (.c (.int .i64 0))))⟩]) (.cond (.t 31) (.seq (.reg 
[⟨some 32, none, (.p (.build [(.int .i64 0), (.str []), (.int .i64 0), .nils, .nils, .nils, .nils, .nils, .nils] []))⟩,
 ⟨some 33, none, (.p (.move (.t 9)))⟩,
 ⟨some 34, none, (.p (.move (.t 10)))⟩,
 ⟨none, none, (.e (.store 9 (.t 2) (.t 32)))⟩,
 ⟨some 3, none, (.p (.move (.t 33)))⟩,
 ⟨some 4, none, (.p (.move (.t 34)))⟩]) .ret) .skip))) (.seq (.seq (.reg 
[⟨some 35, none, (.l (.load 9 true (.t 8)))⟩,
 ⟨some 36, none, (.e (.call (.c (.fn 123 [] [])) [(.t 35)]))⟩,
 ⟨some 11, none, (.p (.move (.t 36)))⟩]) (.seq (.reg 
[⟨some 37, none, (.p (.move (.t 11)))⟩,
 ⟨some 38, none, (.p (.bin .neq .int (.t 37) (.c (.int .i64 0))))⟩]) (.cond (.t 38) (.seq (.reg 
[⟨some 39, none, (.p (.build [(.int .i64 0), (.str []), (.int .i64 0), .nils, .nils, .nils, .nils, .nils, .nils] []))⟩,
 ⟨some 40, none, (.p (.move (.t 11)))⟩,
 ⟨none, none, (.e (.store 9 (.t 2) (.t 39)))⟩,
 ⟨some 3, none, (.p (.move (.c (.int .i64 0))))⟩,
 ⟨some 4, none, (.p (.move (.t 40)))⟩]) .ret) .skip))) (.seq (.reg 
[⟨some 41, none, (.l (.load 9 true (.t 8)))⟩,
 ⟨none, none, (.e (.store 9 (.t 2) (.t 41)))⟩,
 ⟨some 3, none, (.p (.move (.c (.int .i64 0))))⟩,
 ⟨some 4, none, (.p (.move (.c (.int .i64 0))))⟩]) .ret))))))), [.cell 2 9 true, .t 3, .t 4]⟩
/-- slices.Clone[[]libevolution/api.Module,libevolution/api.Module] -/
def x86 : XF := ⟨(.seq (.reg 
[⟨some 2, none, (.p (.move (.c .nils)))⟩]) (.seq (.seq (.reg 
[⟨some 3, none, (.p (.move (.t 0)))⟩,
 ⟨some 4, none, (.p (.bin .eql .slice (.t 3) (.c .nils)))⟩]) (.cond (.t 4) (.seq (.reg 
[⟨some 2, none, (.p (.move (.c .nils)))⟩]) .ret) .skip)) (.seq (.reg 
[⟨some 5, none, (.p (.bslice 9 [] []))⟩,
 ⟨some 6, none, (.p (.move (.t 0)))⟩,
 ⟨some 7, none, (.e (.app 9 176 (.t 5) (.t 6)))⟩,
 ⟨some 2, none, (.p (.move (.t 7)))⟩]) .ret))), [.t 2]⟩
/-- libevolution/scope.Order -/
def x87 : XF := ⟨(.seq (.reg 
[⟨some 2, none, (.p (.move (.c .nils)))⟩,
 ⟨some 3, none, (.p (.move (.c (.int .i64 0))))⟩]) (.seq (.seq (.reg 
[⟨some 9, none, (.p (.move (.t 0)))⟩,
 ⟨some 10, none, (.p (.lenl (.t 9)))⟩,
 ⟨some 11, none, (.p (.move (.c (.int .i64 0))))⟩]) (.block 0 (.loop (.seq (.reg 
[⟨some 12, none, (.p (.bin .lss .int (.t 11) (.t 10)))⟩]) (.seq (.cond (.t 12) .skip (.exit 0)) (.seq (.block 1 (.seq (.reg 
[⟨some 13, none, (.p (.move (.t 11)))⟩,
 ⟨some 4, none, (.p (.move (.t 13)))⟩]) (.seq (.reg 
[⟨some 14, none, (.p (.move (.t 0)))⟩,
 ⟨some 15, none, (.p (.move (.t 4)))⟩,
 ⟨some 16, none, (.e (.call (.c (.fn 172 [] [])) [(.t 14), (.t 15)]))⟩,
 ⟨some 5, none, (.p (.move (.t 16)))⟩]) (.seq (.reg 
[⟨some 17, none, (.p (.move (.t 5)))⟩,
 ⟨some 18, none, (.p (.bin .neq .int (.t 17) (.c (.int .i64 0))))⟩]) (.cond (.t 18) (.seq (.reg 
[⟨some 19, none, (.p (.move (.t 5)))⟩,
 ⟨some 2, none, (.p (.move (.c .nils)))⟩,
 ⟨some 3, none, (.p (.move (.t 19)))⟩]) .ret) .skip))))) (.reg 
[⟨some 20, none, (.p (.bin .add .int (.t 11) (.c (.int .i64 1))))⟩,
 ⟨some 11, none, (.p (.move (.t 20)))⟩]))))))) (.seq (.reg 
[⟨some 21, none, (.e (.mkmap))⟩,
 ⟨some 6, none, (.e (.alloc [.nilm]))⟩,
 ⟨none, none, (.e (.store 1 (.t 6) (.t 21)))⟩]) (.seq (.reg 
[⟨some 7, none, (.p (.move (.c .nils)))⟩]) (.seq (.block 2 (.loop (.seq (.seq (.reg 
[⟨some 22, none, (.p (.move (.t 7)))⟩,
 ⟨some 23, none, (.p (.lenl (.t 22)))⟩,
 ⟨some 24, none, (.p (.move (.t 0)))⟩,
 ⟨some 25, none, (.p (.lenl (.t 24)))⟩,
 ⟨some 26, none, (.p (.bin .lss .int (.t 23) (.t 25)))⟩]) (.cond (.t 26) .skip (.exit 2))) (.block 3 (.seq (.reg 
[⟨some 27, none, (.p (.move (.t 0)))⟩,
 ⟨some 28, none, (.p (.mkf 174 [] [(.t 6)]))⟩,
 ⟨some 29, none, (.e (.call (.c (.fn 173 [] [])) [(.t 27), (.t 28)]))⟩,
 ⟨some 8, none, (.p (.move (.t 29)))⟩]) (.seq (.seq (.reg 
[⟨some 30, none, (.p (.move (.t 8)))⟩,
 ⟨some 31, none, (.p (.bin .lss .int (.t 30) (.c (.int .i64 0))))⟩]) (.cond (.t 31) (.seq (.reg 
[⟨some 2, none, (.p (.move (.c .nils)))⟩,
 ⟨some 3, none, (.p (.move (.c (.int .i64 8))))⟩]) .ret) .skip)) (.seq (.reg 
[⟨some 32, none, (.p (.move (.t 7)))⟩,
 ⟨some 33, none, (.p (.move (.t 8)))⟩,
 ⟨some 34, none, (.p (.bslice 1 [(.int .i64 0)] [(0, (.t 33))]))⟩,
 ⟨some 35, none, (.e (.app 1 8 (.t 32) (.t 34)))⟩,
 ⟨some 7, none, (.p (.move (.t 35)))⟩]) (.regd [] 
[⟨some 36, none, (.l (.load 1 false (.t 6)))⟩,
 ⟨some 37, none, (.p (.move (.t 0)))⟩,
 ⟨some 38, none, (.p (.move (.t 8)))⟩,
 ⟨some 39, none, (.p (.iaddr 9 (.t 37) (.t 38)))⟩,
 ⟨some 40, none, (.p (.faddr 1 (.t 39)))⟩,
 ⟨some 41, none, (.l (.load 1 false (.t 40)))⟩,
 ⟨none, none, (.e (.put .str (.t 36) (.t 41) (.c (.bool true))))⟩] [])))))))) (.seq (.reg 
[⟨some 42, none, (.p (.move (.t 7)))⟩,
 ⟨some 2, none, (.p (.move (.t 42)))⟩,
 ⟨some 3, none, (.p (.move (.c (.int .i64 0))))⟩]) .ret)))))), [.t 2, .t 3]⟩
/-- libevolution/since.late -/
def x88 : XF := ⟨(.seq (.reg 
[⟨some 1, none, (.e (.box 9 (.t 0)))⟩,
 ⟨some 2, none, (.p (.move (.c (.bool false))))⟩]) (.seq (.reg 
[⟨some 4, none, (.p (.mkf 177 [] [(.t 1)]))⟩,
 ⟨some 3, none, (.e (.alloc [.nilf]))⟩,
 ⟨none, none, (.e (.store 1 (.t 3) (.t 4)))⟩]) (.seq (.reg 
[⟨some 5, none, (.p (.faddr 4 (.t 1)))⟩,
 ⟨some 6, none, (.l (.load 1 false (.t 5)))⟩,
 ⟨some 7, none, (.p (.mkf 179 [] [(.t 3)]))⟩,
 ⟨some 8, none, (.e (.call (.c (.fn 178 [] [])) [(.t 6), (.t 7)]))⟩,
 ⟨some 9, none, (.p (.move (.t 8)))⟩,
 ⟨some 10, some (9, false), (.p (.faddr 5 (.t 1)))⟩,
 ⟨some 11, some (9, false), (.l (.load 1 false (.t 10)))⟩,
 ⟨some 12, some (9, false), (.p (.mkf 181 [] [(.t 3)]))⟩,
 ⟨some 13, some (9, false), (.e (.call (.c (.fn 180 [] [])) [(.t 11), (.t 12)]))⟩,
 ⟨some 14, none, (.p (.pick (.t 9) (.c (.bool true)) (.t 13)))⟩,
 ⟨some 15, none, (.p (.move (.t 14)))⟩,
 ⟨some 16, some (15, false), (.p (.faddr 6 (.t 1)))⟩,
 ⟨some 17, some (15, false), (.l (.load 1 false (.t 16)))⟩,
 ⟨some 18, some (15, false), (.p (.mkf 183 [] [(.t 3)]))⟩,
 ⟨some 19, some (15, false), (.e (.call (.c (.fn 182 [] [])) [(.t 17), (.t 18)]))⟩,
 ⟨some 20, none, (.p (.pick (.t 15) (.c (.bool true)) (.t 19)))⟩,
 ⟨some 21, none, (.p (.move (.t 20)))⟩,
 ⟨some 22, some (21, false), (.p (.faddr 8 (.t 1)))⟩,
 ⟨some 23, some (21, false), (.l (.load 1 false (.t 22)))⟩,
 ⟨some 24, some (21, false), (.p (.mkf 185 [] [(.t 3)]))⟩,
 ⟨some 25, some (21, false), (.e (.call (.c (.fn 184 [] [])) [(.t 23), (.t 24)]))⟩,
 ⟨some 26, none, (.p (.pick (.t 21) (.c (.bool true)) (.t 25)))⟩,
 ⟨some 2, none, (.p (.move (.t 26)))⟩]) .ret))), [.t 2]⟩
/-- strings.Cut -/
def x89 : XF := ⟨(.seq (.reg 
[⟨some 4, none, (.p (.move (.c (.str []))))⟩,
 ⟨some 5, none, (.p (.move (.c (.str []))))⟩,
 ⟨some 6, none, (.p (.move (.c (.bool false))))⟩]) (.seq (.reg 
[⟨some 7, none, (.p (.move (.t 0)))⟩,
 ⟨some 8, none, (.p (.move (.t 1)))⟩,
 ⟨some 9, none, (.e (.call (.c (.fn 186 [] [])) [(.t 7), (.t 8)]))⟩,
 ⟨some 10, none, (.p (.ext (.t 9) 0))⟩,
 ⟨some 11, none, (.p (.ext (.t 9) 1))⟩,
 ⟨some 12, none, (.p (.ext (.t 9) 2))⟩,
 ⟨some 4, none, (.p (.move (.t 10)))⟩,
 ⟨some 5, none, (.p (.move (.t 11)))⟩,
 ⟨some 6, none, (.p (.move (.t 12)))⟩]) .ret)), [.t 4, .t 5, .t 6]⟩
/-- strings.Contains -/
def x90 : XF := ⟨(.seq (.reg 
[⟨some 4, none, (.p (.move (.c (.bool false))))⟩]) (.seq (.reg 
[⟨some 5, none, (.p (.move (.t 0)))⟩,
 ⟨some 6, none, (.p (.move (.t 1)))⟩,
 ⟨some 7, none, (.e (.call (.c (.fn 187 [] [])) [(.t 5), (.t 6)]))⟩,
 ⟨some 8, none, (.p (.bin .geq .int (.t 7) (.c (.int .i64 0))))⟩,
 ⟨some 4, none, (.p (.move (.t 8)))⟩]) .ret)), [.t 4]⟩
/-- slices.IndexFunc[[]libevolution/api.Struct,libevolution/api.Struct] -/
def x91 : XF := ⟨(.seq (.reg 
[⟨some 4, none, (.p (.move (.c (.int .i64 0))))⟩]) (.seq (.seq (.reg 
[⟨some 6, none, (.p (.move (.t 0)))⟩,
 ⟨some 7, none, (.p (.lenl (.t 6)))⟩,
 ⟨some 8, none, (.p (.move (.c (.int .i64 0))))⟩]) (.block 0 (.loop (.seq (.reg 
[⟨some 9, none, (.p (.bin .lss .int (.t 8) (.t 7)))⟩]) (.seq (.cond (.t 9) .skip (.exit 0)) (.seq (.block 1 (.seq (.reg 
[⟨some 10, none, (.p (.move (.t 8)))⟩,
 ⟨some 5, none, (.p (.move (.t 10)))⟩]) (.seq (.reg 
[⟨some 11, none, (.p (.move (.t 1)))⟩,
 ⟨some 12, none, (.p (.move (.t 0)))⟩,
 ⟨some 13, none, (.p (.move (.t 5)))⟩,
 ⟨some 14, none, (.p (.iaddr 6 (.t 12) (.t 13)))⟩,
 ⟨some 15, none, (.l (.load 6 true (.t 14)))⟩,
 ⟨some 16, none, (.e (.call (.t 11) [(.t 15)]))⟩]) (.cond (.t 16) (.seq (.reg 
[⟨some 17, none, (.p (.move (.t 5)))⟩,
 ⟨some 4, none, (.p (.move (.t 17)))⟩]) .ret) .skip)))) (.reg 
[⟨some 18, none, (.p (.bin .add .int (.t 8) (.c (.int .i64 1))))⟩,
 ⟨some 8, none, (.p (.move (.t 18)))⟩]))))))) (.seq (.reg 
[⟨some 4, none, (.p (.move (.c (.int .i64 (-1)))))⟩]) .ret))), [.t 4]⟩
/-- libevolution/since.sinceOf$1 -/
def x92 : XF := ⟨(.seq (.reg 
[⟨some 2, none, (.e (.box 6 (.t 0)))⟩,
 ⟨some 3, none, (.p (.move (.c (.bool false))))⟩]) (.seq (.reg 
[⟨some 4, none, (.p (.faddr 3 (.t 2)))⟩,
 ⟨some 5, none, (.l (.load 1 false (.t 4)))⟩,
 ⟨some 6, none, (.l (.load 1 false (.t 1)))⟩,
 ⟨some 7, none, (.p (.bin .eql .str (.t 5) (.t 6)))⟩,
 ⟨some 3, none, (.p (.move (.t 7)))⟩]) .ret)), [.t 3]⟩
/-- libevolution/since.first -/
def x93 : XF := ⟨(.seq (.reg 
[⟨some 2, none, (.p (.move (.c (.int .i64 0))))⟩]) (.seq (.reg 
[⟨some 3, none, (.p (.move (.t 0)))⟩,
 ⟨some 4, none, (.p (.max (.t 3) (.c (.int .i64 1))))⟩,
 ⟨some 2, none, (.p (.move (.t 4)))⟩]) .ret)), [.t 2]⟩
/-- slices.IndexFunc[[]libevolution/api.Union,libevolution/api.Union] -/
def x94 : XF := ⟨(.seq (.reg 
[⟨some 4, none, (.p (.move (.c (.int .i64 0))))⟩]) (.seq (.seq (.reg 
[⟨some 6, none, (.p (.move (.t 0)))⟩,
 ⟨some 7, none, (.p (.lenl (.t 6)))⟩,
 ⟨some 8, none, (.p (.move (.c (.int .i64 0))))⟩]) (.block 0 (.loop (.seq (.reg 
[⟨some 9, none, (.p (.bin .lss .int (.t 8) (.t 7)))⟩]) (.seq (.cond (.t 9) .skip (.exit 0)) (.seq (.block 1 (.seq (.reg 
[⟨some 10, none, (.p (.move (.t 8)))⟩,
 ⟨some 5, none, (.p (.move (.t 10)))⟩]) (.seq (.reg 
[⟨some 11, none, (.p (.move (.t 1)))⟩,
 ⟨some 12, none, (.p (.move (.t 0)))⟩,
 ⟨some 13, none, (.p (.move (.t 5)))⟩,
 ⟨some 14, none, (.p (.iaddr 6 (.t 12) (.t 13)))⟩,
 ⟨some 15, none, (.l (.load 6 true (.t 14)))⟩,
 ⟨some 16, none, (.e (.call (.t 11) [(.t 15)]))⟩]) (.cond (.t 16) (.seq (.reg 
[⟨some 17, none, (.p (.move (.t 5)))⟩,
 ⟨some 4, none, (.p (.move (.t 17)))⟩]) .ret) .skip)))) (.reg 
[⟨some 18, none, (.p (.bin .add .int (.t 8) (.c (.int .i64 1))))⟩,
 ⟨some 8, none, (.p (.move (.t 18)))⟩]))))))) (.seq (.reg 
[⟨some 4, none, (.p (.move (.c (.int .i64 (-1)))))⟩]) .ret))), [.t 4]⟩
/-- libevolution/since.sinceOf$2 -/
def x95 : XF := ⟨(.seq (.reg 
[⟨some 2, none, (.e (.box 6 (.t 0)))⟩,
 ⟨some 3, none, (.p (.move (.c (.bool false))))⟩]) (.seq (.reg 
[⟨some 4, none, (.p (.faddr 3 (.t 2)))⟩,
 ⟨some 5, none, (.l (.load 1 false (.t 4)))⟩,
 ⟨some 6, none, (.l (.load 1 false (.t 1)))⟩,
 ⟨some 7, none, (.p (.bin .eql .str (.t 5) (.t 6)))⟩,
 ⟨some 3, none, (.p (.move (.t 7)))⟩]) .ret)), [.t 3]⟩
/-- slices.IndexFunc[[]libevolution/api.Trait,libevolution/api.Trait] -/
def x96 : XF := ⟨(.seq (.reg 
[⟨some 4, none, (.p (.move (.c (.int .i64 0))))⟩]) (.seq (.seq (.reg 
[⟨some 6, none, (.p (.move (.t 0)))⟩,
 ⟨some 7, none, (.p (.lenl (.t 6)))⟩,
 ⟨some 8, none, (.p (.move (.c (.int .i64 0))))⟩]) (.block 0 (.loop (.seq (.reg 
[⟨some 9, none, (.p (.bin .lss .int (.t 8) (.t 7)))⟩]) (.seq (.cond (.t 9) .skip (.exit 0)) (.seq (.block 1 (.seq (.reg 
[⟨some 10, none, (.p (.move (.t 8)))⟩,
 ⟨some 5, none, (.p (.move (.t 10)))⟩]) (.seq (.reg 
[⟨some 11, none, (.p (.move (.t 1)))⟩,
 ⟨some 12, none, (.p (.move (.t 0)))⟩,
 ⟨some 13, none, (.p (.move (.t 5)))⟩,
 ⟨some 14, none, (.p (.iaddr 5 (.t 12) (.t 13)))⟩,
 ⟨some 15, none, (.l (.load 5 true (.t 14)))⟩,
 ⟨some 16, none, (.e (.call (.t 11) [(.t 15)]))⟩]) (.cond (.t 16) (.seq (.reg 
[⟨some 17, none, (.p (.move (.t 5)))⟩,
 ⟨some 4, none, (.p (.move (.t 17)))⟩]) .ret) .skip)))) (.reg 
[⟨some 18, none, (.p (.bin .add .int (.t 8) (.c (.int .i64 1))))⟩,
 ⟨some 8, none, (.p (.move (.t 18)))⟩]))))))) (.seq (.reg 
[⟨some 4, none, (.p (.move (.c (.int .i64 (-1)))))⟩]) .ret))), [.t 4]⟩
/-- libevolution/since.sinceOf$3 -/
def x97 : XF := ⟨(.seq (.reg 
[⟨some 2, none, (.e (.box 5 (.t 0)))⟩,
 ⟨some 3, none, (.p (.move (.c (.bool false))))⟩]) (.seq (.reg 
[⟨some 4, none, (.p (.faddr 3 (.t 2)))⟩,
 ⟨some 5, none, (.l (.load 1 false (.t 4)))⟩,
 ⟨some 6, none, (.l (.load 1 false (.t 1)))⟩,
 ⟨some 7, none, (.p (.bin .eql .str (.t 5) (.t 6)))⟩,
 ⟨some 3, none, (.p (.move (.t 7)))⟩]) .ret)), [.t 3]⟩
/-- slices.IndexFunc[[]libevolution/api.Func,libevolution/api.Func] -/
def x98 : XF := ⟨(.seq (.reg 
[⟨some 4, none, (.p (.move (.c (.int .i64 0))))⟩]) (.seq (.seq (.reg 
[⟨some 6, none, (.p (.move (.t 0)))⟩,
 ⟨some 7, none, (.p (.lenl (.t 6)))⟩,
 ⟨some 8, none, (.p (.move (.c (.int .i64 0))))⟩]) (.block 0 (.loop (.seq (.reg 
[⟨some 9, none, (.p (.bin .lss .int (.t 8) (.t 7)))⟩]) (.seq (.cond (.t 9) .skip (.exit 0)) (.seq (.block 1 (.seq (.reg 
[⟨some 10, none, (.p (.move (.t 8)))⟩,
 ⟨some 5, none, (.p (.move (.t 10)))⟩]) (.seq (.reg 
[⟨some 11, none, (.p (.move (.t 1)))⟩,
 ⟨some 12, none, (.p (.move (.t 0)))⟩,
 ⟨some 13, none, (.p (.move (.t 5)))⟩,
 ⟨some 14, none, (.p (.iaddr 20 (.t 12) (.t 13)))⟩,
 ⟨some 15, none, (.l (.load 20 true (.t 14)))⟩,
 ⟨some 16, none, (.e (.call (.t 11) [(.t 15)]))⟩]) (.cond (.t 16) (.seq (.reg 
[⟨some 17, none, (.p (.move (.t 5)))⟩,
 ⟨some 4, none, (.p (.move (.t 17)))⟩]) .ret) .skip)))) (.reg 
[⟨some 18, none, (.p (.bin .add .int (.t 8) (.c (.int .i64 1))))⟩,
 ⟨some 8, none, (.p (.move (.t 18)))⟩]))))))) (.seq (.reg 
[⟨some 4, none, (.p (.move (.c (.int .i64 (-1)))))⟩]) .ret))), [.t 4]⟩
/-- libevolution/since.sinceOf$4 -/
def x99 : XF := ⟨(.seq (.reg 
[⟨some 2, none, (.e (.box 20 (.t 0)))⟩,
 ⟨some 3, none, (.p (.move (.c (.bool false))))⟩]) (.seq (.reg 
[⟨some 4, none, (.p (.faddr 3 (.t 2)))⟩,
 ⟨some 5, none, (.l (.load 1 false (.t 4)))⟩,
 ⟨some 6, none, (.l (.load 1 false (.t 1)))⟩,
 ⟨some 7, none, (.p (.bin .eql .str (.t 5) (.t 6)))⟩,
 ⟨some 3, none, (.p (.move (.t 7)))⟩]) .ret)), [.t 3]⟩
/-- libevolution/since.least$1 -/
def x100 : XF := ⟨(.seq (.reg 
[⟨some 2, none, (.e (.box 2 (.t 0)))⟩,
 ⟨some 3, none, (.p (.move (.c (.bool false))))⟩]) (.seq (.reg 
[⟨some 4, none, (.p (.faddr 0 (.t 2)))⟩,
 ⟨some 5, none, (.l (.load 1 false (.t 4)))⟩,
 ⟨some 6, none, (.l (.load 1 false (.t 1)))⟩,
 ⟨some 7, none, (.p (.bin .eql .str (.t 5) (.t 6)))⟩,
 ⟨some 3, none, (.p (.move (.t 7)))⟩]) .ret)), [.t 3]⟩
/-- (*libevolution/since.walker).typ -/
def x101 : XF := ⟨(.seq (.reg 
[⟨some 4, none, (.e (.box 2 (.t 1)))⟩,
 ⟨some 5, none, (.e (.box 3 (.t 2)))⟩]) (.seq (.regd [] 
[⟨some 8, none, (.p (.move (.t 0)))⟩,
 ⟨some 9, none, (.p (.nilc (.t 8)))⟩,
 ⟨some 10, none, (.p (.faddr 9 (.t 9)))⟩,
 ⟨some 11, none, (.l (.load 1 false (.t 10)))⟩,
 ⟨some 12, none, (.p (.faddr 0 (.t 4)))⟩,
 ⟨some 13, none, (.l (.load 1 false (.t 12)))⟩,
 ⟨some 14, none, (.l (.load 3 true (.t 5)))⟩,
 ⟨some 15, none, (.e (.call (.t 11) [(.t 13), (.t 14)]))⟩] []) (.seq (.reg 
[⟨some 16, none, (.p (.faddr 1 (.t 4)))⟩,
 ⟨some 17, none, (.l (.load 1 false (.t 16)))⟩,
 ⟨some 18, none, (.p (.lenl (.t 17)))⟩,
 ⟨some 19, none, (.p (.move (.c (.int .i64 0))))⟩]) (.block 0 (.loop (.seq (.reg 
[⟨some 20, none, (.p (.bin .lss .int (.t 19) (.t 18)))⟩]) (.seq (.cond (.t 20) .skip (.exit 0)) (.seq (.block 1 (.seq (.reg 
[⟨some 21, none, (.p (.iaddr 2 (.t 17) (.t 19)))⟩,
 ⟨some 22, none, (.l (.load 2 true (.t 21)))⟩,
 ⟨some 7, none, (.e (.alloc [(.str []), .nils]))⟩,
 ⟨none, none, (.e (.store 2 (.t 7) (.t 22)))⟩]) (.reg 
[⟨some 23, none, (.p (.move (.t 0)))⟩,
 ⟨some 24, none, (.l (.load 2 true (.t 7)))⟩,
 ⟨some 25, none, (.l (.load 3 true (.t 5)))⟩,
 ⟨some 26, none, (.e (.call (.c (.fn 101 [] [])) [(.t 23), (.t 24), (.t 25)]))⟩]))) (.reg 
[⟨some 27, none, (.p (.bin .add .int (.t 19) (.c (.int .i64 1))))⟩,
 ⟨some 19, none, (.p (.move (.t 27)))⟩]))))))))), []⟩
/-- (*libevolution/since.walker).own -/
def x102 : XF := ⟨(.seq (.reg 
[⟨some 6, none, (.e (.alloc [(.int .i64 0), (.int .i64 0), .nilp]))⟩]) (.seq (.seq (.reg 
[⟨some 7, none, (.p (.move (.t 1)))⟩]) (.cond (.t 7) (.seq (.reg 
[⟨some 8, none, (.p (.move (.t 2)))⟩,
 ⟨some 9, none, (.e (.call (.c (.fn 93 [] [])) [(.t 8)]))⟩,
 ⟨some 10, none, (.p (.build [(.int .i64 0), (.int .i64 0), .nilp] [(1, 1, (.t 9))]))⟩,
 ⟨none, none, (.e (.store 3 (.t 6) (.t 10)))⟩]) .ret) .skip)) (.seq (.reg 
[⟨some 11, none, (.p (.move (.t 0)))⟩,
 ⟨some 12, none, (.p (.nilc (.t 11)))⟩,
 ⟨some 13, none, (.p (.faddr 0 (.t 12)))⟩,
 ⟨some 14, none, (.p (.faddr 2 (.t 13)))⟩,
 ⟨some 15, none, (.l (.load 1 false (.t 14)))⟩,
 ⟨some 16, none, (.p (.build [(.int .i64 0), (.int .i64 0), .nilp] [(1, 1, (.t 15))]))⟩,
 ⟨none, none, (.e (.store 3 (.t 6) (.t 16)))⟩]) .ret))), [.cell 6 3 true]⟩
/-- (*libevolution/since.walker).types -/
def x103 : XF := ⟨(.seq (.reg 
[⟨some 5, none, (.e (.box 3 (.t 2)))⟩]) (.seq (.reg 
[⟨some 8, none, (.p (.move (.t 1)))⟩,
 ⟨some 9, none, (.p (.lenl (.t 8)))⟩,
 ⟨some 10, none, (.p (.move (.c (.int .i64 0))))⟩]) (.block 0 (.loop (.seq (.reg 
[⟨some 11, none, (.p (.bin .lss .int (.t 10) (.t 9)))⟩]) (.seq (.cond (.t 11) .skip (.exit 0)) (.seq (.block 1 (.seq (.reg 
[⟨some 12, none, (.p (.iaddr 2 (.t 8) (.t 10)))⟩,
 ⟨some 13, none, (.l (.load 2 true (.t 12)))⟩,
 ⟨some 7, none, (.e (.alloc [(.str []), .nils]))⟩,
 ⟨none, none, (.e (.store 2 (.t 7) (.t 13)))⟩]) (.reg 
[⟨some 14, none, (.p (.move (.t 0)))⟩,
 ⟨some 15, none, (.l (.load 2 true (.t 7)))⟩,
 ⟨some 16, none, (.l (.load 3 true (.t 5)))⟩,
 ⟨some 17, none, (.e (.call (.c (.fn 101 [] [])) [(.t 14), (.t 15), (.t 16)]))⟩]))) (.reg 
[⟨some 18, none, (.p (.bin .add .int (.t 10) (.c (.int .i64 1))))⟩,
 ⟨some 10, none, (.p (.move (.t 18)))⟩])))))))), []⟩
/-- (*libevolution/since.walker).generics -/
def x104 : XF := ⟨(.seq (.reg 
[⟨some 5, none, (.e (.box 3 (.t 2)))⟩]) (.seq (.reg 
[⟨some 10, none, (.p (.move (.t 1)))⟩,
 ⟨some 11, none, (.p (.lenl (.t 10)))⟩,
 ⟨some 12, none, (.p (.move (.c (.int .i64 0))))⟩]) (.block 0 (.loop (.seq (.reg 
[⟨some 13, none, (.p (.bin .lss .int (.t 12) (.t 11)))⟩]) (.seq (.cond (.t 13) .skip (.exit 0)) (.seq (.block 1 (.seq (.reg 
[⟨some 14, none, (.p (.iaddr 2 (.t 10) (.t 12)))⟩,
 ⟨some 15, none, (.l (.load 2 true (.t 14)))⟩,
 ⟨some 7, none, (.e (.alloc [(.str []), .nils]))⟩,
 ⟨none, none, (.e (.store 2 (.t 7) (.t 15)))⟩]) (.seq (.reg 
[⟨some 16, none, (.p (.faddr 1 (.t 7)))⟩,
 ⟨some 17, none, (.l (.load 1 false (.t 16)))⟩,
 ⟨some 18, none, (.p (.lenl (.t 17)))⟩,
 ⟨some 19, none, (.p (.move (.c (.int .i64 0))))⟩]) (.block 2 (.loop (.seq (.reg 
[⟨some 20, none, (.p (.bin .lss .int (.t 19) (.t 18)))⟩]) (.seq (.cond (.t 20) .skip (.exit 2)) (.seq (.block 3 (.seq (.reg 
[⟨some 21, none, (.p (.iaddr 1 (.t 17) (.t 19)))⟩,
 ⟨some 22, none, (.l (.load 1 false (.t 21)))⟩,
 ⟨some 9, none, (.p (.move (.t 22)))⟩]) (.regd [] 
[⟨some 23, none, (.p (.move (.t 0)))⟩,
 ⟨some 24, none, (.p (.nilc (.t 23)))⟩,
 ⟨some 25, none, (.p (.faddr 9 (.t 24)))⟩,
 ⟨some 26, none, (.l (.load 1 false (.t 25)))⟩,
 ⟨some 27, none, (.p (.move (.t 9)))⟩,
 ⟨some 28, none, (.l (.load 3 true (.t 5)))⟩,
 ⟨some 29, none, (.e (.call (.t 26) [(.t 27), (.t 28)]))⟩] []))) (.reg 
[⟨some 30, none, (.p (.bin .add .int (.t 19) (.c (.int .i64 1))))⟩,
 ⟨some 19, none, (.p (.move (.t 30)))⟩]))))))))) (.reg 
[⟨some 31, none, (.p (.bin .add .int (.t 12) (.c (.int .i64 1))))⟩,
 ⟨some 12, none, (.p (.move (.t 31)))⟩])))))))), []⟩
/-- (*libevolution/since.walker).function -/
def x105 : XF := ⟨(.seq (.reg 
[⟨some 3, none, (.e (.box 20 (.t 1)))⟩]) (.seq (.reg 
[⟨some 7, none, (.p (.move (.t 0)))⟩,
 ⟨some 8, none, (.p (.faddr 1 (.t 3)))⟩,
 ⟨some 9, none, (.l (.load 1 false (.t 8)))⟩,
 ⟨some 10, none, (.p (.faddr 0 (.t 3)))⟩,
 ⟨some 11, none, (.l (.load 1 false (.t 10)))⟩,
 ⟨some 12, none, (.e (.call (.c (.fn 102 [] [])) [(.t 7), (.t 9), (.t 11)]))⟩,
 ⟨some 4, none, (.e (.alloc [(.int .i64 0), (.int .i64 0), .nilp]))⟩,
 ⟨none, none, (.e (.store 3 (.t 4) (.t 12)))⟩]) (.seq (.reg 
[⟨some 13, none, (.p (.move (.t 0)))⟩,
 ⟨some 14, none, (.p (.faddr 4 (.t 3)))⟩,
 ⟨some 15, none, (.l (.load 1 false (.t 14)))⟩,
 ⟨some 16, none, (.l (.load 3 true (.t 4)))⟩,
 ⟨some 17, none, (.e (.call (.c (.fn 104 [] [])) [(.t 13), (.t 15), (.t 16)]))⟩]) (.seq (.seq (.reg 
[⟨some 18, none, (.p (.faddr 5 (.t 3)))⟩,
 ⟨some 19, none, (.l (.load 1 false (.t 18)))⟩,
 ⟨some 20, none, (.p (.lenl (.t 19)))⟩,
 ⟨some 21, none, (.p (.move (.c (.int .i64 0))))⟩]) (.block 0 (.loop (.seq (.reg 
[⟨some 22, none, (.p (.bin .lss .int (.t 21) (.t 20)))⟩]) (.seq (.cond (.t 22) .skip (.exit 0)) (.seq (.block 1 (.seq (.reg 
[⟨some 23, none, (.p (.iaddr 15 (.t 19) (.t 21)))⟩,
 ⟨some 24, none, (.l (.load 15 true (.t 23)))⟩,
 ⟨some 6, none, (.e (.alloc [(.str []), (.str []), .nils, (.bool false), (.int .i64 0), (.str []), (.str []), (.int .i64 0), .nils, .nils, .nils, .nils, (.str []), .nils, (.int .i64 0)]))⟩,
 ⟨none, none, (.e (.store 15 (.t 6) (.t 24)))⟩]) (.seq (.reg 
[⟨some 25, none, (.p (.move (.t 0)))⟩,
 ⟨some 26, none, (.p (.faddr 1 (.t 6)))⟩,
 ⟨some 27, none, (.l (.load 2 true (.t 26)))⟩,
 ⟨some 28, none, (.l (.load 3 true (.t 4)))⟩,
 ⟨some 29, none, (.e (.call (.c (.fn 101 [] [])) [(.t 25), (.t 27), (.t 28)]))⟩]) (.seq (.reg 
[⟨some 30, none, (.p (.faddr 4 (.t 6)))⟩,
 ⟨some 31, none, (.p (.faddr 0 (.t 30)))⟩,
 ⟨some 32, none, (.l (.load 1 false (.t 31)))⟩,
 ⟨some 33, none, (.p (.bin .neq .int (.t 32) (.c (.int .i64 0))))⟩]) (.cond (.t 33) (.regd [] 
[⟨some 34, none, (.p (.move (.t 0)))⟩,
 ⟨some 35, none, (.p (.faddr 4 (.t 6)))⟩,
 ⟨some 36, none, (.l (.load 11 true (.t 35)))⟩,
 ⟨some 37, none, (.p (.move (.t 0)))⟩,
 ⟨some 38, none, (.e (.call (.c (.fn 102 [] [])) [(.t 37), (.c (.bool false)), (.c (.int .i64 0))]))⟩,
 ⟨some 39, none, (.e (.call (.c (.fn 188 [] [])) [(.t 34), (.t 36), (.t 38)]))⟩] [(2, 4)]) .skip))))) (.reg 
[⟨some 40, none, (.p (.bin .add .int (.t 21) (.c (.int .i64 1))))⟩,
 ⟨some 21, none, (.p (.move (.t 40)))⟩]))))))) (.seq (.reg 
[⟨some 41, none, (.p (.move (.t 0)))⟩,
 ⟨some 42, none, (.p (.faddr 6 (.t 3)))⟩,
 ⟨some 43, none, (.l (.load 2 true (.t 42)))⟩,
 ⟨some 44, none, (.l (.load 3 true (.t 4)))⟩,
 ⟨some 45, none, (.e (.call (.c (.fn 101 [] [])) [(.t 41), (.t 43), (.t 44)]))⟩]) (.seq (.reg 
[⟨some 46, none, (.p (.faddr 8 (.t 3)))⟩,
 ⟨some 47, none, (.l (.load 1 false (.t 46)))⟩]) (.cond (.t 47) (.regd [] 
[⟨some 48, none, (.p (.move (.t 0)))⟩,
 ⟨some 49, none, (.p (.faddr 9 (.t 3)))⟩,
 ⟨some 50, none, (.l (.load 11 true (.t 49)))⟩,
 ⟨some 51, none, (.p (.move (.t 0)))⟩,
 ⟨some 52, none, (.p (.faddr 2 (.t 3)))⟩,
 ⟨some 53, none, (.l (.load 1 false (.t 52)))⟩,
 ⟨some 54, none, (.p (.faddr 0 (.t 3)))⟩,
 ⟨some 55, none, (.l (.load 1 false (.t 54)))⟩,
 ⟨some 56, none, (.e (.call (.c (.fn 102 [] [])) [(.t 51), (.t 53), (.t 55)]))⟩,
 ⟨some 57, none, (.e (.call (.c (.fn 188 [] [])) [(.t 48), (.t 50), (.t 56)]))⟩] [(2, 8)]) .skip))))))), []⟩
/-- libevolution/libevolutionref04.dots -/
def x106 : XF := ⟨(.seq (.reg 
[⟨some 2, none, (.p (.move (.c (.int .i64 0))))⟩]) (.seq (.reg 
[⟨some 3, none, (.p (.move (.c (.int .i64 0))))⟩]) (.seq (.seq (.reg 
[⟨some 4, none, (.p (.move (.c (.int .i64 0))))⟩]) (.block 0 (.loop (.seq (.seq (.reg 
[⟨some 5, none, (.p (.move (.t 4)))⟩,
 ⟨some 6, none, (.p (.move (.t 0)))⟩,
 ⟨some 7, none, (.p (.lens (.t 6)))⟩,
 ⟨some 8, none, (.p (.bin .lss .int (.t 5) (.t 7)))⟩]) (.cond (.t 8) .skip (.exit 0))) (.seq (.block 1 (.seq (.reg 
[⟨some 11, none, (.p (.move (.t 0)))⟩,
 ⟨some 12, none, (.p (.move (.t 4)))⟩,
 ⟨some 13, none, (.p (.ixs (.t 11) (.t 12)))⟩,
 ⟨some 14, none, (.p (.bin .eql .int (.t 13) (.c (.int .u8 46))))⟩]) (.cond (.t 14) (.reg 
[⟨some 15, none, (.p (.move (.t 3)))⟩,
 ⟨some 16, none, (.p (.bin .add .int (.t 15) (.c (.int .i64 1))))⟩,
 ⟨some 3, none, (.p (.move (.t 16)))⟩]) .skip))) (.reg 
[⟨some 9, none, (.p (.move (.t 4)))⟩,
 ⟨some 10, none, (.p (.bin .add .int (.t 9) (.c (.int .i64 1))))⟩,
 ⟨some 4, none, (.p (.move (.t 10)))⟩])))))) (.seq (.reg 
[⟨some 17, none, (.p (.move (.t 3)))⟩,
 ⟨some 2, none, (.p (.move (.t 17)))⟩]) .ret)))), [.t 2]⟩
/-- libevolution/libevolutionref01.ValidName -/
def x121 : XF := ⟨(.seq (.reg 
[⟨some 2, none, (.p (.move (.c (.bool false))))⟩]) (.seq (.seq (.reg 
[⟨some 4, none, (.p (.move (.t 0)))⟩,
 ⟨some 5, none, (.p (.bin .eql .str (.t 4) (.c (.str []))))⟩,
 ⟨some 6, none, (.p (.move (.t 5)))⟩,
 ⟨some 7, some (6, false), (.p (.move (.t 0)))⟩,
 ⟨some 8, some (6, false), (.p (.lens (.t 7)))⟩,
 ⟨some 9, some (6, false), (.p (.bin .gtr .int (.t 8) (.c (.int .i64 16))))⟩,
 ⟨some 10, none, (.p (.pick (.t 6) (.c (.bool true)) (.t 9)))⟩,
 ⟨some 11, none, (.p (.move (.t 10)))⟩,
 ⟨some 12, some (11, false), (.p (.move (.t 0)))⟩,
 ⟨some 13, some (11, false), (.p (.ixs (.t 12) (.c (.int .i64 0))))⟩,
 ⟨some 14, some (11, false), (.e (.call (.c (.fn 163 [] [])) [(.t 13)]))⟩,
 ⟨some 15, some (11, false), (.p (.not (.t 14)))⟩,
 ⟨some 16, none, (.p (.pick (.t 11) (.c (.bool true)) (.t 15)))⟩,
 ⟨some 17, none, (.p (.move (.t 16)))⟩,
 ⟨some 18, some (17, false), (.p (.move (.t 0)))⟩,
 ⟨some 19, some (17, false), (.e (.call (.c (.fn 195 [] [])) [(.t 18)]))⟩,
 ⟨some 20, none, (.p (.pick (.t 17) (.c (.bool true)) (.t 19)))⟩]) (.cond (.t 20) (.seq (.reg 
[⟨some 2, none, (.p (.move (.c (.bool false))))⟩]) .ret) .skip)) (.seq (.seq (.reg 
[⟨some 3, none, (.p (.move (.c (.int .i64 0))))⟩]) (.block 0 (.loop (.seq (.seq (.reg 
[⟨some 21, none, (.p (.move (.t 3)))⟩,
 ⟨some 22, none, (.p (.move (.t 0)))⟩,
 ⟨some 23, none, (.p (.lens (.t 22)))⟩,
 ⟨some 24, none, (.p (.bin .lss .int (.t 21) (.t 23)))⟩]) (.cond (.t 24) .skip (.exit 0))) (.seq (.block 1 (.seq (.reg 
[⟨some 27, none, (.p (.move (.t 0)))⟩,
 ⟨some 28, none, (.p (.move (.t 3)))⟩,
 ⟨some 29, none, (.p (.ixs (.t 27) (.t 28)))⟩,
 ⟨some 30, none, (.e (.call (.c (.fn 163 [] [])) [(.t 29)]))⟩,
 ⟨some 31, none, (.p (.not (.t 30)))⟩,
 ⟨some 32, none, (.p (.move (.t 31)))⟩,
 ⟨some 33, some (32, true), (.p (.move (.t 0)))⟩,
 ⟨some 34, some (32, true), (.p (.move (.t 3)))⟩,
 ⟨some 35, some (32, true), (.p (.ixs (.t 33) (.t 34)))⟩,
 ⟨some 36, some (32, true), (.e (.call (.c (.fn 165 [] [])) [(.t 35)]))⟩,
 ⟨some 37, some (32, true), (.p (.not (.t 36)))⟩,
 ⟨some 38, none, (.p (.pick (.t 32) (.t 37) (.c (.bool false))))⟩]) (.cond (.t 38) (.seq (.reg 
[⟨some 2, none, (.p (.move (.c (.bool false))))⟩]) .ret) .skip))) (.reg 
[⟨some 25, none, (.p (.move (.t 3)))⟩,
 ⟨some 26, none, (.p (.bin .add .int (.t 25) (.c (.int .i64 1))))⟩,
 ⟨some 3, none, (.p (.move (.t 26)))⟩])))))) (.seq (.reg 
[⟨some 2, none, (.p (.move (.c (.bool true))))⟩]) .ret)))), [.t 2]⟩
/-- libevolution/libevolutionref02.release -/
def x122 : XF := ⟨(.seq (.reg 
[⟨some 2, none, (.p (.move (.c (.bool false))))⟩]) (.seq (.reg 
[⟨some 3, none, (.p (.move (.t 0)))⟩,
 ⟨some 4, none, (.p (.bin .geq .int (.t 3) (.c (.int .i64 1))))⟩,
 ⟨some 5, none, (.p (.move (.t 4)))⟩,
 ⟨some 6, some (5, true), (.p (.move (.t 0)))⟩,
 ⟨some 7, some (5, true), (.p (.bin .leq .int (.t 6) (.c (.int .i64 1000))))⟩,
 ⟨some 8, none, (.p (.pick (.t 5) (.t 7) (.c (.bool false))))⟩,
 ⟨some 2, none, (.p (.move (.t 8)))⟩]) .ret)), [.t 2]⟩
/-- libevolution/libevolutionref02.limits -/
def x123 : XF := ⟨(.seq (.reg 
[⟨some 1, none, (.e (.box 9 (.t 0)))⟩,
 ⟨some 2, none, (.p (.move (.c (.int .i64 0))))⟩]) (.seq (.block 0 (.seq (.reg 
[⟨some 4, none, (.l (.load 9 true (.t 1)))⟩,
 ⟨some 5, none, (.e (.call (.c (.fn 196 [] [])) [(.t 4)]))⟩,
 ⟨some 3, none, (.p (.move (.t 5)))⟩]) (.cond (.t 3) (.seq (.reg 
[⟨some 2, none, (.p (.move (.c (.int .i64 3))))⟩]) .ret) (.seq (.reg 
[⟨some 7, none, (.l (.load 9 true (.t 1)))⟩,
 ⟨some 8, none, (.e (.call (.c (.fn 197 [] [])) [(.t 7)]))⟩,
 ⟨some 9, none, (.p (.not (.t 8)))⟩,
 ⟨some 6, none, (.p (.move (.t 9)))⟩]) (.cond (.t 6) (.seq (.reg 
[⟨some 2, none, (.p (.move (.c (.int .i64 4))))⟩]) .ret) .skip))))) (.seq (.reg 
[⟨some 2, none, (.p (.move (.c (.int .i64 0))))⟩]) .ret))), [.t 2]⟩
/-- libevolution/libevolutionref02.since -/
def x124 : XF := ⟨(.seq (.reg 
[⟨some 2, none, (.p (.move (.c (.bool false))))⟩]) (.seq (.reg 
[⟨some 3, none, (.p (.move (.t 0)))⟩,
 ⟨some 4, none, (.p (.bin .geq .int (.t 3) (.c (.int .i64 0))))⟩,
 ⟨some 5, none, (.p (.move (.t 4)))⟩,
 ⟨some 6, some (5, true), (.p (.move (.t 0)))⟩,
 ⟨some 7, some (5, true), (.p (.bin .leq .int (.t 6) (.c (.int .i64 1000))))⟩,
 ⟨some 8, none, (.p (.pick (.t 5) (.t 7) (.c (.bool false))))⟩,
 ⟨some 2, none, (.p (.move (.t 8)))⟩]) .ret)), [.t 2]⟩
/-- libevolution/libevolutionref02.names -/
def x125 : XF := ⟨(.seq (.reg 
[⟨some 2, none, (.p (.move (.c (.bool false))))⟩]) (.seq (.seq (.reg 
[⟨some 5, none, (.p (.move (.t 0)))⟩,
 ⟨some 6, none, (.p (.lenl (.t 5)))⟩,
 ⟨some 7, none, (.p (.move (.c (.int .i64 0))))⟩]) (.block 0 (.loop (.seq (.reg 
[⟨some 8, none, (.p (.bin .lss .int (.t 7) (.t 6)))⟩]) (.seq (.cond (.t 8) .skip (.exit 0)) (.seq (.block 1 (.seq (.reg 
[⟨some 9, none, (.p (.iaddr 1 (.t 5) (.t 7)))⟩,
 ⟨some 10, none, (.l (.load 1 false (.t 9)))⟩,
 ⟨some 4, none, (.p (.move (.t 10)))⟩]) (.seq (.reg 
[⟨some 11, none, (.p (.move (.t 4)))⟩,
 ⟨some 12, none, (.e (.call (.c (.fn 121 [] [])) [(.t 11)]))⟩,
 ⟨some 13, none, (.p (.not (.t 12)))⟩]) (.cond (.t 13) (.seq (.reg 
[⟨some 2, none, (.p (.move (.c (.bool false))))⟩]) .ret) .skip)))) (.reg 
[⟨some 14, none, (.p (.bin .add .int (.t 7) (.c (.int .i64 1))))⟩,
 ⟨some 7, none, (.p (.move (.t 14)))⟩]))))))) (.seq (.reg 
[⟨some 2, none, (.p (.move (.c (.bool true))))⟩]) .ret))), [.t 2]⟩
/-- libevolution/libevolutionref02.formed -/
def x126 : XF := ⟨(.seq (.reg 
[⟨some 1, none, (.e (.box 2 (.t 0)))⟩,
 ⟨some 2, none, (.p (.move (.c (.bool false))))⟩]) (.seq (.seq (.reg 
[⟨some 3, none, (.p (.faddr 0 (.t 1)))⟩,
 ⟨some 4, none, (.l (.load 1 false (.t 3)))⟩]) (.block 0 (.seq (.seq (.reg 
[⟨some 10, none, (.p (.bin .eql .str (.t 4) (.c (.str [73, 110, 116]))))⟩,
 ⟨some 9, none, (.p (.move (.t 10)))⟩]) (.cond (.t 9) .skip (.seq (.reg 
[⟨some 11, none, (.p (.bin .eql .str (.t 4) (.c (.str [66, 121, 116, 101]))))⟩,
 ⟨some 9, none, (.p (.move (.t 11)))⟩]) (.cond (.t 9) .skip (.seq (.reg 
[⟨some 12, none, (.p (.bin .eql .str (.t 4) (.c (.str [66, 111, 111, 108]))))⟩,
 ⟨some 9, none, (.p (.move (.t 12)))⟩]) (.cond (.t 9) .skip (.seq (.reg 
[⟨some 13, none, (.p (.bin .eql .str (.t 4) (.c (.str [65, 114, 114, 97, 121]))))⟩,
 ⟨some 9, none, (.p (.move (.t 13)))⟩]) (.cond (.t 9) .skip (.reg 
[⟨some 14, none, (.p (.bin .eql .str (.t 4) (.c (.str [83, 101, 108, 102]))))⟩,
 ⟨some 9, none, (.p (.move (.t 14)))⟩]))))))))) (.cond (.t 9) .skip (.seq (.reg 
[⟨some 5, none, (.p (.faddr 0 (.t 1)))⟩,
 ⟨some 6, none, (.l (.load 1 false (.t 5)))⟩,
 ⟨some 7, none, (.e (.call (.c (.fn 198 [] [])) [(.t 6)]))⟩,
 ⟨some 8, none, (.p (.not (.t 7)))⟩]) (.cond (.t 8) (.seq (.reg 
[⟨some 2, none, (.p (.move (.c (.bool false))))⟩]) .ret) .skip)))))) (.seq (.reg 
[⟨some 15, none, (.p (.faddr 1 (.t 1)))⟩,
 ⟨some 16, none, (.l (.load 1 false (.t 15)))⟩,
 ⟨some 17, none, (.e (.call (.c (.fn 127 [] [])) [(.t 16)]))⟩,
 ⟨some 2, none, (.p (.move (.t 17)))⟩]) .ret))), [.t 2]⟩
/-- libevolution/libevolutionref02.formedAll -/
def x127 : XF := ⟨(.seq (.reg 
[⟨some 2, none, (.p (.move (.c (.bool false))))⟩]) (.seq (.seq (.reg 
[⟨some 5, none, (.p (.move (.t 0)))⟩,
 ⟨some 6, none, (.p (.lenl (.t 5)))⟩,
 ⟨some 7, none, (.p (.move (.c (.int .i64 0))))⟩]) (.block 0 (.loop (.seq (.reg 
[⟨some 8, none, (.p (.bin .lss .int (.t 7) (.t 6)))⟩]) (.seq (.cond (.t 8) .skip (.exit 0)) (.seq (.block 1 (.seq (.reg 
[⟨some 9, none, (.p (.iaddr 2 (.t 5) (.t 7)))⟩,
 ⟨some 10, none, (.l (.load 2 true (.t 9)))⟩,
 ⟨some 4, none, (.e (.alloc [(.str []), .nils]))⟩,
 ⟨none, none, (.e (.store 2 (.t 4) (.t 10)))⟩]) (.seq (.reg 
[⟨some 11, none, (.l (.load 2 true (.t 4)))⟩,
 ⟨some 12, none, (.e (.call (.c (.fn 126 [] [])) [(.t 11)]))⟩,
 ⟨some 13, none, (.p (.not (.t 12)))⟩]) (.cond (.t 13) (.seq (.reg 
[⟨some 2, none, (.p (.move (.c (.bool false))))⟩]) .ret) .skip)))) (.reg 
[⟨some 14, none, (.p (.bin .add .int (.t 7) (.c (.int .i64 1))))⟩,
 ⟨some 7, none, (.p (.move (.t 14)))⟩]))))))) (.seq (.reg 
[⟨some 2, none, (.p (.move (.c (.bool true))))⟩]) .ret))), [.t 2]⟩
/-- libevolution/libevolutionref02.validTraits -/
def x128 : XF := ⟨(.seq (.reg 
[⟨some 1, none, (.e (.box 9 (.t 0)))⟩,
 ⟨some 2, none, (.p (.move (.c (.bool false))))⟩]) (.seq (.seq (.reg 
[⟨some 7, none, (.p (.faddr 6 (.t 1)))⟩,
 ⟨some 8, none, (.l (.load 1 false (.t 7)))⟩,
 ⟨some 9, none, (.p (.lenl (.t 8)))⟩,
 ⟨some 10, none, (.p (.move (.c (.int .i64 0))))⟩]) (.block 0 (.loop (.seq (.reg 
[⟨some 11, none, (.p (.bin .lss .int (.t 10) (.t 9)))⟩]) (.seq (.cond (.t 11) .skip (.exit 0)) (.seq (.block 1 (.seq (.reg 
[⟨some 12, none, (.p (.iaddr 5 (.t 8) (.t 10)))⟩,
 ⟨some 13, none, (.l (.load 5 true (.t 12)))⟩,
 ⟨some 4, none, (.e (.alloc [(.int .i64 0), (.bool false), (.bool false), (.str []), .nils]))⟩,
 ⟨none, none, (.e (.store 5 (.t 4) (.t 13)))⟩]) (.seq (.seq (.reg 
[⟨some 14, none, (.p (.faddr 0 (.t 4)))⟩,
 ⟨some 15, none, (.l (.load 1 false (.t 14)))⟩,
 ⟨some 16, none, (.e (.call (.c (.fn 124 [] [])) [(.t 15)]))⟩,
 ⟨some 17, none, (.p (.not (.t 16)))⟩,
 ⟨some 18, none, (.p (.move (.t 17)))⟩,
 ⟨some 19, some (18, false), (.p (.faddr 3 (.t 4)))⟩,
 ⟨some 20, some (18, false), (.l (.load 1 false (.t 19)))⟩,
 ⟨some 21, some (18, false), (.e (.call (.c (.fn 121 [] [])) [(.t 20)]))⟩,
 ⟨some 22, some (18, false), (.p (.not (.t 21)))⟩,
 ⟨some 23, none, (.p (.pick (.t 18) (.c (.bool true)) (.t 22)))⟩]) (.cond (.t 23) (.seq (.reg 
[⟨some 2, none, (.p (.move (.c (.bool false))))⟩]) .ret) .skip)) (.seq (.reg 
[⟨some 24, none, (.p (.faddr 4 (.t 4)))⟩,
 ⟨some 25, none, (.l (.load 1 false (.t 24)))⟩,
 ⟨some 26, none, (.p (.lenl (.t 25)))⟩,
 ⟨some 27, none, (.p (.move (.c (.int .i64 0))))⟩]) (.block 2 (.loop (.seq (.reg 
[⟨some 28, none, (.p (.bin .lss .int (.t 27) (.t 26)))⟩]) (.seq (.cond (.t 28) .skip (.exit 2)) (.seq (.block 3 (.seq (.reg 
[⟨some 29, none, (.p (.iaddr 5 (.t 25) (.t 27)))⟩,
 ⟨some 30, none, (.l (.load 5 true (.t 29)))⟩,
 ⟨some 6, none, (.e (.alloc [(.str []), .nils, (.str []), .nils, (.str [])]))⟩,
 ⟨none, none, (.e (.store 5 (.t 6) (.t 30)))⟩]) (.seq (.reg 
[⟨some 31, none, (.p (.faddr 0 (.t 6)))⟩,
 ⟨some 32, none, (.l (.load 1 false (.t 31)))⟩,
 ⟨some 33, none, (.e (.call (.c (.fn 121 [] [])) [(.t 32)]))⟩,
 ⟨some 34, none, (.p (.not (.t 33)))⟩,
 ⟨some 35, none, (.p (.move (.t 34)))⟩,
 ⟨some 36, some (35, false), (.p (.faddr 1 (.t 6)))⟩,
 ⟨some 37, some (35, false), (.l (.load 1 false (.t 36)))⟩,
 ⟨some 38, some (35, false), (.e (.call (.c (.fn 127 [] [])) [(.t 37)]))⟩,
 ⟨some 39, some (35, false), (.p (.not (.t 38)))⟩,
 ⟨some 40, none, (.p (.pick (.t 35) (.c (.bool true)) (.t 39)))⟩,
 ⟨some 41, none, (.p (.move (.t 40)))⟩,
 ⟨some 42, some (41, false), (.p (.faddr 2 (.t 6)))⟩,
 ⟨some 43, some (41, false), (.l (.load 2 true (.t 42)))⟩,
 ⟨some 44, some (41, false), (.e (.call (.c (.fn 126 [] [])) [(.t 43)]))⟩,
 ⟨some 45, some (41, false), (.p (.not (.t 44)))⟩,
 ⟨some 46, none, (.p (.pick (.t 41) (.c (.bool true)) (.t 45)))⟩,
 ⟨some 47, none, (.p (.move (.t 46)))⟩,
 ⟨some 48, some (47, false), (.p (.faddr 4 (.t 6)))⟩,
 ⟨some 49, some (47, false), (.l (.load 1 false (.t 48)))⟩,
 ⟨some 50, some (47, false), (.p (.bin .neq .str (.t 49) (.c (.str []))))⟩,
 ⟨some 51, some (47, false), (.p (.move (.t 50)))⟩,
 ⟨some 52, some (51, true), (.p (.faddr 4 (.t 6)))⟩,
 ⟨some 53, some (51, true), (.l (.load 1 false (.t 52)))⟩,
 ⟨some 54, some (51, true), (.e (.call (.c (.fn 198 [] [])) [(.t 53)]))⟩,
 ⟨some 55, some (51, true), (.p (.not (.t 54)))⟩,
 ⟨some 56, some (47, false), (.p (.pick (.t 51) (.t 55) (.c (.bool false))))⟩,
 ⟨some 57, none, (.p (.pick (.t 47) (.c (.bool true)) (.t 56)))⟩]) (.cond (.t 57) (.seq (.reg 
[⟨some 2, none, (.p (.move (.c (.bool false))))⟩]) .ret) .skip)))) (.reg 
[⟨some 58, none, (.p (.bin .add .int (.t 27) (.c (.int .i64 1))))⟩,
 ⟨some 27, none, (.p (.move (.t 58)))⟩])))))))))) (.reg 
[⟨some 59, none, (.p (.bin .add .int (.t 10) (.c (.int .i64 1))))⟩,
 ⟨some 10, none, (.p (.move (.t 59)))⟩]))))))) (.seq (.reg 
[⟨some 2, none, (.p (.move (.c (.bool true))))⟩]) .ret))), [.t 2]⟩
/-- libevolution/libevolutionref02.validConforms -/
def x129 : XF := ⟨(.seq (.reg 
[⟨some 1, none, (.e (.box 9 (.t 0)))⟩,
 ⟨some 2, none, (.p (.move (.c (.bool false))))⟩]) (.seq (.seq (.reg 
[⟨some 7, none, (.p (.faddr 7 (.t 1)))⟩,
 ⟨some 8, none, (.l (.load 1 false (.t 7)))⟩,
 ⟨some 9, none, (.p (.lenl (.t 8)))⟩,
 ⟨some 10, none, (.p (.move (.c (.int .i64 0))))⟩]) (.block 0 (.loop (.seq (.reg 
[⟨some 11, none, (.p (.bin .lss .int (.t 10) (.t 9)))⟩]) (.seq (.cond (.t 11) .skip (.exit 0)) (.seq (.block 1 (.seq (.reg 
[⟨some 12, none, (.p (.iaddr 5 (.t 8) (.t 10)))⟩,
 ⟨some 13, none, (.l (.load 5 true (.t 12)))⟩,
 ⟨some 4, none, (.e (.alloc [(.str []), .nils, (.str []), .nils, .nils]))⟩,
 ⟨none, none, (.e (.store 5 (.t 4) (.t 13)))⟩]) (.seq (.seq (.reg 
[⟨some 14, none, (.p (.faddr 0 (.t 4)))⟩,
 ⟨some 15, none, (.l (.load 1 false (.t 14)))⟩,
 ⟨some 16, none, (.e (.call (.c (.fn 198 [] [])) [(.t 15)]))⟩,
 ⟨some 17, none, (.p (.not (.t 16)))⟩,
 ⟨some 18, none, (.p (.move (.t 17)))⟩,
 ⟨some 19, some (18, false), (.p (.faddr 1 (.t 4)))⟩,
 ⟨some 20, some (18, false), (.l (.load 1 false (.t 19)))⟩,
 ⟨some 21, some (18, false), (.e (.call (.c (.fn 199 [] [])) [(.t 20)]))⟩,
 ⟨some 22, some (18, false), (.p (.not (.t 21)))⟩,
 ⟨some 23, none, (.p (.pick (.t 18) (.c (.bool true)) (.t 22)))⟩,
 ⟨some 24, none, (.p (.move (.t 23)))⟩,
 ⟨some 25, some (24, false), (.p (.faddr 2 (.t 4)))⟩,
 ⟨some 26, some (24, false), (.l (.load 2 true (.t 25)))⟩,
 ⟨some 27, some (24, false), (.e (.call (.c (.fn 126 [] [])) [(.t 26)]))⟩,
 ⟨some 28, some (24, false), (.p (.not (.t 27)))⟩,
 ⟨some 29, none, (.p (.pick (.t 24) (.c (.bool true)) (.t 28)))⟩]) (.cond (.t 29) (.seq (.reg 
[⟨some 2, none, (.p (.move (.c (.bool false))))⟩]) .ret) .skip)) (.seq (.reg 
[⟨some 30, none, (.p (.faddr 4 (.t 4)))⟩,
 ⟨some 31, none, (.l (.load 1 false (.t 30)))⟩,
 ⟨some 32, none, (.p (.lenl (.t 31)))⟩,
 ⟨some 33, none, (.p (.move (.c (.int .i64 0))))⟩]) (.block 2 (.loop (.seq (.reg 
[⟨some 34, none, (.p (.bin .lss .int (.t 33) (.t 32)))⟩]) (.seq (.cond (.t 34) .skip (.exit 2)) (.seq (.block 3 (.seq (.reg 
[⟨some 35, none, (.p (.iaddr 2 (.t 31) (.t 33)))⟩,
 ⟨some 36, none, (.l (.load 2 true (.t 35)))⟩,
 ⟨some 6, none, (.e (.alloc [(.str []), (.str [])]))⟩,
 ⟨none, none, (.e (.store 2 (.t 6) (.t 36)))⟩]) (.seq (.reg 
[⟨some 37, none, (.p (.faddr 0 (.t 6)))⟩,
 ⟨some 38, none, (.l (.load 1 false (.t 37)))⟩,
 ⟨some 39, none, (.e (.call (.c (.fn 121 [] [])) [(.t 38)]))⟩,
 ⟨some 40, none, (.p (.not (.t 39)))⟩,
 ⟨some 41, none, (.p (.move (.t 40)))⟩,
 ⟨some 42, some (41, false), (.p (.faddr 1 (.t 6)))⟩,
 ⟨some 43, some (41, false), (.l (.load 1 false (.t 42)))⟩,
 ⟨some 44, some (41, false), (.e (.call (.c (.fn 198 [] [])) [(.t 43)]))⟩,
 ⟨some 45, some (41, false), (.p (.not (.t 44)))⟩,
 ⟨some 46, none, (.p (.pick (.t 41) (.c (.bool true)) (.t 45)))⟩]) (.cond (.t 46) (.seq (.reg 
[⟨some 2, none, (.p (.move (.c (.bool false))))⟩]) .ret) .skip)))) (.reg 
[⟨some 47, none, (.p (.bin .add .int (.t 33) (.c (.int .i64 1))))⟩,
 ⟨some 33, none, (.p (.move (.t 47)))⟩])))))))))) (.reg 
[⟨some 48, none, (.p (.bin .add .int (.t 10) (.c (.int .i64 1))))⟩,
 ⟨some 10, none, (.p (.move (.t 48)))⟩]))))))) (.seq (.reg 
[⟨some 2, none, (.p (.move (.c (.bool true))))⟩]) .ret))), [.t 2]⟩
/-- libevolution/libevolutionref02.validFuncs -/
def x130 : XF := ⟨(.seq (.reg 
[⟨some 1, none, (.e (.box 9 (.t 0)))⟩,
 ⟨some 2, none, (.p (.move (.c (.bool false))))⟩]) (.seq (.seq (.reg 
[⟨some 7, none, (.p (.faddr 8 (.t 1)))⟩,
 ⟨some 8, none, (.l (.load 1 false (.t 7)))⟩,
 ⟨some 9, none, (.p (.lenl (.t 8)))⟩,
 ⟨some 10, none, (.p (.move (.c (.int .i64 0))))⟩]) (.block 0 (.loop (.seq (.reg 
[⟨some 11, none, (.p (.bin .lss .int (.t 10) (.t 9)))⟩]) (.seq (.cond (.t 11) .skip (.exit 0)) (.seq (.block 1 (.seq (.reg 
[⟨some 12, none, (.p (.iaddr 20 (.t 8) (.t 10)))⟩,
 ⟨some 13, none, (.l (.load 20 true (.t 12)))⟩,
 ⟨some 4, none, (.e (.alloc [(.int .i64 0), (.bool false), (.bool false), (.str []), .nils, .nils, (.str []), .nils, (.bool false), (.int .i64 0), (.str []), (.str []), (.int .i64 0), .nils, .nils, .nils, .nils, (.str []), .nils, (.int .i64 0)]))⟩,
 ⟨none, none, (.e (.store 20 (.t 4) (.t 13)))⟩]) (.seq (.seq (.reg 
[⟨some 14, none, (.p (.faddr 0 (.t 4)))⟩,
 ⟨some 15, none, (.l (.load 1 false (.t 14)))⟩,
 ⟨some 16, none, (.e (.call (.c (.fn 124 [] [])) [(.t 15)]))⟩,
 ⟨some 17, none, (.p (.not (.t 16)))⟩,
 ⟨some 18, none, (.p (.move (.t 17)))⟩,
 ⟨some 19, some (18, false), (.p (.faddr 3 (.t 4)))⟩,
 ⟨some 20, some (18, false), (.l (.load 1 false (.t 19)))⟩,
 ⟨some 21, some (18, false), (.e (.call (.c (.fn 121 [] [])) [(.t 20)]))⟩,
 ⟨some 22, some (18, false), (.p (.not (.t 21)))⟩,
 ⟨some 23, none, (.p (.pick (.t 18) (.c (.bool true)) (.t 22)))⟩,
 ⟨some 24, none, (.p (.move (.t 23)))⟩,
 ⟨some 25, some (24, false), (.p (.faddr 4 (.t 4)))⟩,
 ⟨some 26, some (24, false), (.l (.load 1 false (.t 25)))⟩,
 ⟨some 27, some (24, false), (.e (.call (.c (.fn 199 [] [])) [(.t 26)]))⟩,
 ⟨some 28, some (24, false), (.p (.not (.t 27)))⟩,
 ⟨some 29, none, (.p (.pick (.t 24) (.c (.bool true)) (.t 28)))⟩,
 ⟨some 30, none, (.p (.move (.t 29)))⟩,
 ⟨some 31, some (30, false), (.p (.faddr 6 (.t 4)))⟩,
 ⟨some 32, some (30, false), (.l (.load 2 true (.t 31)))⟩,
 ⟨some 33, some (30, false), (.e (.call (.c (.fn 126 [] [])) [(.t 32)]))⟩,
 ⟨some 34, some (30, false), (.p (.not (.t 33)))⟩,
 ⟨some 35, none, (.p (.pick (.t 30) (.c (.bool true)) (.t 34)))⟩,
 ⟨some 36, none, (.p (.move (.t 35)))⟩,
 ⟨some 37, some (36, false), (.p (.faddr 8 (.t 4)))⟩,
 ⟨some 38, some (36, false), (.l (.load 1 false (.t 37)))⟩,
 ⟨some 39, some (36, false), (.p (.move (.t 38)))⟩,
 ⟨some 40, some (39, true), (.p (.faddr 9 (.t 4)))⟩,
 ⟨some 41, some (39, true), (.l (.load 11 true (.t 40)))⟩,
 ⟨some 42, some (39, true), (.e (.call (.c (.fn 200 [] [])) [(.t 41)]))⟩,
 ⟨some 43, some (39, true), (.p (.not (.t 42)))⟩,
 ⟨some 44, some (36, false), (.p (.pick (.t 39) (.t 43) (.c (.bool false))))⟩,
 ⟨some 45, none, (.p (.pick (.t 36) (.c (.bool true)) (.t 44)))⟩,
 ⟨some 46, none, (.p (.move (.t 45)))⟩,
 ⟨some 47, some (46, false), (.p (.faddr 8 (.t 4)))⟩,
 ⟨some 48, some (46, false), (.l (.load 1 false (.t 47)))⟩,
 ⟨some 49, some (46, false), (.p (.not (.t 48)))⟩,
 ⟨some 50, some (46, false), (.p (.move (.t 49)))⟩,
 ⟨some 51, some (50, true), (.p (.faddr 9 (.t 4)))⟩,
 ⟨some 52, some (50, true), (.l (.load 11 true (.t 51)))⟩,
 ⟨some 53, some (50, true), (.e (.call (.c (.fn 194 [] [])) [(.t 52)]))⟩,
 ⟨some 54, some (50, true), (.p (.not (.t 53)))⟩,
 ⟨some 55, some (46, false), (.p (.pick (.t 50) (.t 54) (.c (.bool false))))⟩,
 ⟨some 56, none, (.p (.pick (.t 46) (.c (.bool true)) (.t 55)))⟩]) (.cond (.t 56) (.seq (.reg 
[⟨some 2, none, (.p (.move (.c (.bool false))))⟩]) .ret) .skip)) (.seq (.reg 
[⟨some 57, none, (.p (.faddr 5 (.t 4)))⟩,
 ⟨some 58, none, (.l (.load 1 false (.t 57)))⟩,
 ⟨some 59, none, (.p (.lenl (.t 58)))⟩,
 ⟨some 60, none, (.p (.move (.c (.int .i64 0))))⟩]) (.block 2 (.loop (.seq (.reg 
[⟨some 61, none, (.p (.bin .lss .int (.t 60) (.t 59)))⟩]) (.seq (.cond (.t 61) .skip (.exit 2)) (.seq (.block 3 (.seq (.reg 
[⟨some 62, none, (.p (.iaddr 15 (.t 58) (.t 60)))⟩,
 ⟨some 63, none, (.l (.load 15 true (.t 62)))⟩,
 ⟨some 6, none, (.e (.alloc [(.str []), (.str []), .nils, (.bool false), (.int .i64 0), (.str []), (.str []), (.int .i64 0), .nils, .nils, .nils, .nils, (.str []), .nils, (.int .i64 0)]))⟩,
 ⟨none, none, (.e (.store 15 (.t 6) (.t 63)))⟩]) (.seq (.reg 
[⟨some 64, none, (.p (.faddr 0 (.t 6)))⟩,
 ⟨some 65, none, (.l (.load 1 false (.t 64)))⟩,
 ⟨some 66, none, (.e (.call (.c (.fn 121 [] [])) [(.t 65)]))⟩,
 ⟨some 67, none, (.p (.not (.t 66)))⟩,
 ⟨some 68, none, (.p (.move (.t 67)))⟩,
 ⟨some 69, some (68, false), (.p (.faddr 1 (.t 6)))⟩,
 ⟨some 70, some (68, false), (.l (.load 2 true (.t 69)))⟩,
 ⟨some 71, some (68, false), (.e (.call (.c (.fn 126 [] [])) [(.t 70)]))⟩,
 ⟨some 72, some (68, false), (.p (.not (.t 71)))⟩,
 ⟨some 73, none, (.p (.pick (.t 68) (.c (.bool true)) (.t 72)))⟩,
 ⟨some 74, none, (.p (.move (.t 73)))⟩,
 ⟨some 75, some (74, false), (.p (.faddr 4 (.t 6)))⟩,
 ⟨some 76, some (74, false), (.l (.load 11 true (.t 75)))⟩,
 ⟨some 77, some (74, false), (.e (.call (.c (.fn 194 [] [])) [(.t 76)]))⟩,
 ⟨some 78, some (74, false), (.p (.not (.t 77)))⟩,
 ⟨some 79, some (74, false), (.p (.move (.t 78)))⟩,
 ⟨some 80, some (79, true), (.p (.faddr 3 (.t 6)))⟩,
 ⟨some 81, some (79, true), (.l (.load 1 false (.t 80)))⟩,
 ⟨some 82, some (79, true), (.p (.not (.t 81)))⟩,
 ⟨some 83, some (79, true), (.p (.move (.t 82)))⟩,
 ⟨some 84, some (83, false), (.p (.faddr 4 (.t 6)))⟩,
 ⟨some 85, some (83, false), (.l (.load 11 true (.t 84)))⟩,
 ⟨some 86, some (83, false), (.e (.call (.c (.fn 200 [] [])) [(.t 85)]))⟩,
 ⟨some 87, some (83, false), (.p (.not (.t 86)))⟩,
 ⟨some 88, some (79, true), (.p (.pick (.t 83) (.c (.bool true)) (.t 87)))⟩,
 ⟨some 89, some (74, false), (.p (.pick (.t 79) (.t 88) (.c (.bool false))))⟩,
 ⟨some 90, none, (.p (.pick (.t 74) (.c (.bool true)) (.t 89)))⟩]) (.cond (.t 90) (.seq (.reg 
[⟨some 2, none, (.p (.move (.c (.bool false))))⟩]) .ret) .skip)))) (.reg 
[⟨some 91, none, (.p (.bin .add .int (.t 60) (.c (.int .i64 1))))⟩,
 ⟨some 60, none, (.p (.move (.t 91)))⟩])))))))))) (.reg 
[⟨some 92, none, (.p (.bin .add .int (.t 10) (.c (.int .i64 1))))⟩,
 ⟨some 10, none, (.p (.move (.t 92)))⟩]))))))) (.seq (.reg 
[⟨some 2, none, (.p (.move (.c (.bool true))))⟩]) .ret))), [.t 2]⟩
/-- libevolution/libevolutionref05.ready -/
def x131 : XF := ⟨(.seq (.reg 
[⟨some 4, none, (.e (.box 9 (.t 1)))⟩,
 ⟨some 6, none, (.p (.move (.c (.bool false))))⟩]) (.seq (.seq (.reg 
[⟨some 11, none, (.p (.faddr 3 (.t 4)))⟩,
 ⟨some 12, none, (.l (.load 1 false (.t 11)))⟩,
 ⟨some 13, none, (.p (.lenl (.t 12)))⟩,
 ⟨some 14, none, (.p (.move (.c (.int .i64 0))))⟩]) (.block 0 (.loop (.seq (.reg 
[⟨some 15, none, (.p (.bin .lss .int (.t 14) (.t 13)))⟩]) (.seq (.cond (.t 15) .skip (.exit 0)) (.seq (.block 1 (.seq (.reg 
[⟨some 16, none, (.p (.iaddr 2 (.t 12) (.t 14)))⟩,
 ⟨some 17, none, (.l (.load 2 true (.t 16)))⟩,
 ⟨some 8, none, (.e (.alloc [(.str []), (.int .i64 0)]))⟩,
 ⟨none, none, (.e (.store 2 (.t 8) (.t 17)))⟩]) (.seq (.reg 
[⟨some 19, none, (.p (.move (.t 0)))⟩,
 ⟨some 20, none, (.p (.faddr 0 (.t 8)))⟩,
 ⟨some 21, none, (.l (.load 1 false (.t 20)))⟩,
 ⟨some 22, none, (.e (.call (.c (.fn 25 [] [])) [(.t 19), (.t 21)]))⟩,
 ⟨some 18, none, (.p (.move (.t 22)))⟩,
 ⟨some 23, none, (.p (.ext (.t 18) 0))⟩,
 ⟨some 24, none, (.p (.ext (.t 18) 1))⟩,
 ⟨some 9, none, (.p (.move (.t 23)))⟩,
 ⟨some 10, none, (.p (.move (.t 24)))⟩]) (.seq (.reg 
[⟨some 25, none, (.p (.move (.t 2)))⟩,
 ⟨some 26, none, (.p (.move (.t 9)))⟩,
 ⟨some 27, none, (.p (.iaddr 1 (.t 25) (.t 26)))⟩,
 ⟨some 28, none, (.l (.load 1 false (.t 27)))⟩,
 ⟨some 29, none, (.p (.not (.t 28)))⟩]) (.cond (.t 29) (.seq (.reg 
[⟨some 6, none, (.p (.move (.c (.bool false))))⟩]) .ret) .skip))))) (.reg 
[⟨some 30, none, (.p (.bin .add .int (.t 14) (.c (.int .i64 1))))⟩,
 ⟨some 14, none, (.p (.move (.t 30)))⟩]))))))) (.seq (.reg 
[⟨some 6, none, (.p (.move (.c (.bool true))))⟩]) .ret))), [.t 6]⟩
/-- (*libevolution/libevolutionref05.resolver).once -/
def x132 : XF := ⟨(.seq (.reg 
[⟨some 6, none, (.p (.move (.t 1)))⟩,
 ⟨some 7, none, (.p (.move (.t 2)))⟩,
 ⟨some 8, none, (.e (.call (.c (.fn 201 [] [])) [(.t 6), (.t 7)]))⟩]) (.cond (.t 8) (.reg 
[⟨some 9, none, (.p (.move (.t 0)))⟩,
 ⟨some 10, none, (.e (.call (.c (.fn 202 [] [])) [(.t 9), (.c (.int .i64 5))]))⟩]) .skip)), []⟩
/-- (*libevolution/libevolutionref05.resolver).scope -/
def x133 : XF := ⟨(.seq (.seq (.reg 
[⟨some 10, none, (.p (.move (.t 1)))⟩,
 ⟨some 11, none, (.p (.lenl (.t 10)))⟩,
 ⟨some 12, none, (.p (.move (.c (.int .i64 0))))⟩]) (.block 0 (.loop (.seq (.reg 
[⟨some 13, none, (.p (.bin .lss .int (.t 12) (.t 11)))⟩]) (.seq (.cond (.t 13) .skip (.exit 0)) (.seq (.block 1 (.seq (.reg 
[⟨some 14, none, (.p (.move (.t 12)))⟩,
 ⟨some 15, none, (.p (.iaddr 1 (.t 10) (.t 12)))⟩,
 ⟨some 16, none, (.l (.load 1 false (.t 15)))⟩,
 ⟨some 4, none, (.p (.move (.t 14)))⟩,
 ⟨some 5, none, (.p (.move (.t 16)))⟩]) (.seq (.reg 
[⟨some 17, none, (.p (.move (.t 0)))⟩,
 ⟨some 18, none, (.p (.move (.t 1)))⟩,
 ⟨some 19, none, (.p (.move (.t 4)))⟩,
 ⟨some 20, none, (.p (.subl 1 (.t 18) none (some (.t 19))))⟩,
 ⟨some 21, none, (.p (.move (.t 5)))⟩,
 ⟨some 22, none, (.e (.call (.c (.fn 132 [] [])) [(.t 17), (.t 20), (.t 21)]))⟩]) (.seq (.seq (.regd [(6, [(.int .i64 0), (.bool false), (.bool false), (.str []), .nils, .nils])] 
[⟨some 24, none, (.p (.move (.t 0)))⟩,
 ⟨some 25, none, (.p (.nilc (.t 24)))⟩,
 ⟨some 26, none, (.p (.faddr 0 (.t 25)))⟩,
 ⟨some 27, none, (.l (.load 9 true (.t 26)))⟩,
 ⟨some 28, none, (.p (.bslice 9 [(.agg [(.int .i64 0), (.str []), (.int .i64 0), .nils, .nils, .nils, .nils, .nils, .nils])] [(0, (.t 27))]))⟩,
 ⟨some 29, none, (.p (.move (.t 0)))⟩,
 ⟨some 30, none, (.p (.nilc (.t 29)))⟩,
 ⟨some 31, none, (.p (.faddr 0 (.t 30)))⟩,
 ⟨some 32, none, (.p (.faddr 1 (.t 31)))⟩,
 ⟨some 33, none, (.l (.load 1 false (.t 32)))⟩,
 ⟨some 34, none, (.p (.bin .add .str (.t 33) (.c (.str [46]))))⟩,
 ⟨some 35, none, (.p (.move (.t 5)))⟩,
 ⟨some 36, none, (.p (.bin .add .str (.t 34) (.t 35)))⟩,
 ⟨some 37, none, (.e (.call (.c (.fn 50 [] [])) [(.t 28), (.t 36)]))⟩,
 ⟨some 23, none, (.p (.move (.t 37)))⟩,
 ⟨some 38, none, (.p (.ext (.t 23) 0))⟩,
 ⟨some 39, none, (.p (.ext (.t 23) 1))⟩,
 ⟨some 6, none, (.p (.move (.t 6)))⟩,
 ⟨none, none, (.e (.store 6 (.t 6) (.t 38)))⟩,
 ⟨some 7, none, (.p (.move (.t 39)))⟩] []) (.seq (.reg 
[⟨some 40, none, (.p (.move (.t 7)))⟩]) (.cond (.t 40) (.reg 
[⟨some 41, none, (.p (.move (.t 0)))⟩,
 ⟨some 42, none, (.e (.call (.c (.fn 202 [] [])) [(.t 41), (.c (.int .i64 5))]))⟩]) .skip))) (.seq (.regd [(8, [(.int .i64 0), (.bool false), (.bool false), (.str []), .nils, .nils])] 
[⟨some 44, none, (.p (.move (.t 0)))⟩,
 ⟨some 45, none, (.p (.nilc (.t 44)))⟩,
 ⟨some 46, none, (.p (.faddr 0 (.t 45)))⟩,
 ⟨some 47, none, (.l (.load 9 true (.t 46)))⟩,
 ⟨some 48, none, (.p (.bslice 9 [(.agg [(.int .i64 0), (.str []), (.int .i64 0), .nils, .nils, .nils, .nils, .nils, .nils])] [(0, (.t 47))]))⟩,
 ⟨some 49, none, (.p (.move (.t 0)))⟩,
 ⟨some 50, none, (.p (.nilc (.t 49)))⟩,
 ⟨some 51, none, (.p (.faddr 0 (.t 50)))⟩,
 ⟨some 52, none, (.p (.faddr 1 (.t 51)))⟩,
 ⟨some 53, none, (.l (.load 1 false (.t 52)))⟩,
 ⟨some 54, none, (.p (.bin .add .str (.t 53) (.c (.str [46]))))⟩,
 ⟨some 55, none, (.p (.move (.t 5)))⟩,
 ⟨some 56, none, (.p (.bin .add .str (.t 54) (.t 55)))⟩,
 ⟨some 57, none, (.e (.call (.c (.fn 51 [] [])) [(.t 48), (.t 56)]))⟩,
 ⟨some 43, none, (.p (.move (.t 57)))⟩,
 ⟨some 58, none, (.p (.ext (.t 43) 0))⟩,
 ⟨some 59, none, (.p (.ext (.t 43) 1))⟩,
 ⟨some 8, none, (.p (.move (.t 8)))⟩,
 ⟨none, none, (.e (.store 6 (.t 8) (.t 58)))⟩,
 ⟨some 9, none, (.p (.move (.t 59)))⟩] []) (.seq (.reg 
[⟨some 60, none, (.p (.move (.t 9)))⟩]) (.cond (.t 60) (.reg 
[⟨some 61, none, (.p (.move (.t 0)))⟩,
 ⟨some 62, none, (.e (.call (.c (.fn 202 [] [])) [(.t 61), (.c (.int .i64 5))]))⟩]) .skip))))))) (.reg 
[⟨some 63, none, (.p (.bin .add .int (.t 12) (.c (.int .i64 1))))⟩,
 ⟨some 12, none, (.p (.move (.t 63)))⟩]))))))) (.reg 
[⟨some 64, none, (.p (.move (.t 0)))⟩,
 ⟨some 65, none, (.p (.move (.t 1)))⟩,
 ⟨some 66, none, (.p (.nilc (.t 64)))⟩,
 ⟨some 67, none, (.p (.faddr 10 (.t 66)))⟩,
 ⟨none, none, (.e (.store 1 (.t 67) (.t 65)))⟩])), []⟩
/-- (*libevolution/libevolutionref05.resolver).typ -/
def x134 : XF := ⟨(.seq (.reg 
[⟨some 3, none, (.e (.box 2 (.t 1)))⟩,
 ⟨some 4, none, (.e (.alloc [(.str []), .nils]))⟩]) (.seq (.reg 
[⟨some 7, none, (.p (.faddr 0 (.t 3)))⟩,
 ⟨some 8, none, (.l (.load 1 false (.t 7)))⟩,
 ⟨some 9, none, (.p (.build [(.str []), .nils] [(0, 1, (.t 8))]))⟩,
 ⟨some 5, none, (.e (.alloc [(.str []), .nils]))⟩,
 ⟨none, none, (.e (.store 2 (.t 5) (.t 9)))⟩,
 ⟨some 6, none, (.p (.move (.c (.int .i64 0))))⟩]) (.seq (.block 0 (.seq (.reg 
[⟨some 23, none, (.p (.faddr 0 (.t 3)))⟩,
 ⟨some 24, none, (.l (.load 1 false (.t 23)))⟩,
 ⟨some 25, none, (.p (.bin .eql .str (.t 24) (.c (.str [65, 114, 114, 97, 121]))))⟩,
 ⟨some 22, none, (.p (.move (.t 25)))⟩]) (.cond (.t 22) (.reg 
[⟨some 6, none, (.p (.move (.c (.int .i64 1))))⟩]) (.seq (.seq (.reg 
[⟨some 27, none, (.p (.faddr 0 (.t 3)))⟩,
 ⟨some 28, none, (.l (.load 1 false (.t 27)))⟩,
 ⟨some 29, none, (.e (.call (.c (.fn 203 [] [])) [(.t 28)]))⟩,
 ⟨some 26, none, (.p (.move (.t 29)))⟩]) (.cond (.t 26) .skip (.regd [] 
[⟨some 30, none, (.p (.move (.t 0)))⟩,
 ⟨some 31, none, (.p (.nilc (.t 30)))⟩,
 ⟨some 32, none, (.p (.faddr 10 (.t 31)))⟩,
 ⟨some 33, none, (.l (.load 1 false (.t 32)))⟩,
 ⟨some 34, none, (.p (.faddr 0 (.t 3)))⟩,
 ⟨some 35, none, (.l (.load 1 false (.t 34)))⟩,
 ⟨some 36, none, (.e (.call (.c (.fn 201 [] [])) [(.t 33), (.t 35)]))⟩,
 ⟨some 26, none, (.p (.move (.t 36)))⟩] []))) (.cond (.t 26) .skip (.seq (.reg 
[⟨some 38, none, (.p (.faddr 0 (.t 3)))⟩,
 ⟨some 39, none, (.l (.load 1 false (.t 38)))⟩,
 ⟨some 40, none, (.p (.bin .eql .str (.t 39) (.c (.str [83, 101, 108, 102]))))⟩,
 ⟨some 37, none, (.p (.move (.t 40)))⟩]) (.cond (.t 37) (.seq (.reg 
[⟨some 41, none, (.p (.move (.t 0)))⟩,
 ⟨some 42, none, (.p (.nilc (.t 41)))⟩,
 ⟨some 43, none, (.p (.faddr 11 (.t 42)))⟩,
 ⟨some 44, none, (.l (.load 1 false (.t 43)))⟩,
 ⟨some 45, none, (.p (.not (.t 44)))⟩]) (.cond (.t 45) (.reg 
[⟨some 46, none, (.p (.move (.t 0)))⟩,
 ⟨some 47, none, (.e (.call (.c (.fn 202 [] [])) [(.t 46), (.c (.int .i64 6))]))⟩]) .skip)) (.seq (.reg 
[⟨some 10, none, (.p (.move (.t 0)))⟩,
 ⟨some 11, none, (.p (.faddr 0 (.t 3)))⟩,
 ⟨some 12, none, (.l (.load 1 false (.t 11)))⟩,
 ⟨some 13, none, (.e (.call (.c (.fn 137 [] [])) [(.t 10), (.t 12), (.c (.int .i64 1))]))⟩,
 ⟨some 14, none, (.p (.faddr 0 (.t 5)))⟩,
 ⟨none, none, (.e (.store 1 (.t 14) (.t 13)))⟩]) (.regd [] 
[⟨some 15, none, (.p (.move (.t 0)))⟩,
 ⟨some 16, none, (.p (.nilc (.t 15)))⟩,
 ⟨some 17, none, (.p (.faddr 9 (.t 16)))⟩,
 ⟨some 18, none, (.l (.load 1 false (.t 17)))⟩,
 ⟨some 19, none, (.p (.faddr 0 (.t 5)))⟩,
 ⟨some 20, none, (.l (.load 1 false (.t 19)))⟩,
 ⟨some 21, none, (.e (.call (.c (.fn 204 [] [])) [(.t 18), (.t 20)]))⟩,
 ⟨some 6, none, (.p (.move (.t 21)))⟩] []))))))))) (.seq (.seq (.reg 
[⟨some 48, none, (.p (.move (.t 0)))⟩,
 ⟨some 49, none, (.p (.nilc (.t 48)))⟩,
 ⟨some 50, none, (.p (.faddr 14 (.t 49)))⟩,
 ⟨some 51, none, (.l (.load 1 false (.t 50)))⟩,
 ⟨some 52, none, (.p (.bin .eql .int (.t 51) (.c (.int .i64 0))))⟩,
 ⟨some 53, none, (.p (.move (.t 52)))⟩,
 ⟨some 54, some (53, true), (.p (.faddr 1 (.t 3)))⟩,
 ⟨some 55, some (53, true), (.l (.load 1 false (.t 54)))⟩,
 ⟨some 56, some (53, true), (.p (.lenl (.t 55)))⟩,
 ⟨some 57, some (53, true), (.p (.move (.t 6)))⟩,
 ⟨some 58, some (53, true), (.p (.bin .neq .int (.t 56) (.t 57)))⟩,
 ⟨some 59, none, (.p (.pick (.t 53) (.t 58) (.c (.bool false))))⟩]) (.cond (.t 59) (.reg 
[⟨some 60, none, (.p (.move (.t 0)))⟩,
 ⟨some 61, none, (.e (.call (.c (.fn 202 [] [])) [(.t 60), (.c (.int .i64 9))]))⟩]) .skip)) (.seq (.reg 
[⟨some 62, none, (.p (.move (.t 0)))⟩,
 ⟨some 63, none, (.p (.faddr 1 (.t 3)))⟩,
 ⟨some 64, none, (.l (.load 1 false (.t 63)))⟩,
 ⟨some 65, none, (.e (.call (.c (.fn 135 [] [])) [(.t 62), (.t 64)]))⟩,
 ⟨some 66, none, (.p (.faddr 1 (.t 5)))⟩,
 ⟨none, none, (.e (.store 1 (.t 66) (.t 65)))⟩]) (.seq (.reg 
[⟨some 67, none, (.l (.load 2 true (.t 5)))⟩,
 ⟨none, none, (.e (.store 2 (.t 4) (.t 67)))⟩]) .ret)))))), [.cell 4 2 true]⟩
/-- (*libevolution/libevolutionref05.resolver).types -/
def x135 : XF := ⟨(.seq (.reg 
[⟨some 4, none, (.p (.move (.c .nils)))⟩]) (.seq (.reg 
[⟨some 5, none, (.p (.move (.c .nils)))⟩]) (.seq (.seq (.reg 
[⟨some 8, none, (.p (.move (.t 1)))⟩,
 ⟨some 9, none, (.p (.lenl (.t 8)))⟩,
 ⟨some 10, none, (.p (.move (.c (.int .i64 0))))⟩]) (.block 0 (.loop (.seq (.reg 
[⟨some 11, none, (.p (.bin .lss .int (.t 10) (.t 9)))⟩]) (.seq (.cond (.t 11) .skip (.exit 0)) (.seq (.block 1 (.seq (.reg 
[⟨some 12, none, (.p (.iaddr 2 (.t 8) (.t 10)))⟩,
 ⟨some 13, none, (.l (.load 2 true (.t 12)))⟩,
 ⟨some 7, none, (.e (.alloc [(.str []), .nils]))⟩,
 ⟨none, none, (.e (.store 2 (.t 7) (.t 13)))⟩]) (.reg 
[⟨some 14, none, (.p (.move (.t 5)))⟩,
 ⟨some 15, none, (.p (.move (.t 0)))⟩,
 ⟨some 16, none, (.l (.load 2 true (.t 7)))⟩,
 ⟨some 17, none, (.e (.call (.c (.fn 134 [] [])) [(.t 15), (.t 16)]))⟩,
 ⟨some 18, none, (.p (.bslice 2 [(.agg [(.str []), .nils])] [(0, (.t 17))]))⟩,
 ⟨some 19, none, (.e (.app 2 40 (.t 14) (.t 18)))⟩,
 ⟨some 5, none, (.p (.move (.t 19)))⟩]))) (.reg 
[⟨some 20, none, (.p (.bin .add .int (.t 10) (.c (.int .i64 1))))⟩,
 ⟨some 10, none, (.p (.move (.t 20)))⟩]))))))) (.seq (.reg 
[⟨some 21, none, (.p (.move (.t 5)))⟩,
 ⟨some 4, none, (.p (.move (.t 21)))⟩]) .ret)))), [.t 4]⟩
/-- (*libevolution/libevolutionref05.resolver).own -/
def x136 : XF := ⟨(.seq (.reg 
[⟨some 4, none, (.p (.move (.c (.str []))))⟩]) (.seq (.seq (.reg 
[⟨some 8, none, (.p (.move (.t 0)))⟩,
 ⟨some 9, none, (.p (.move (.t 1)))⟩,
 ⟨some 10, none, (.e (.call (.c (.fn 205 [] [])) [(.t 8), (.t 9)]))⟩,
 ⟨some 7, none, (.p (.move (.t 10)))⟩,
 ⟨some 11, none, (.p (.ext (.t 7) 0))⟩,
 ⟨some 12, none, (.p (.ext (.t 7) 1))⟩,
 ⟨some 5, none, (.p (.move (.t 11)))⟩,
 ⟨some 6, none, (.p (.move (.t 12)))⟩]) (.seq (.reg 
[⟨some 13, none, (.p (.move (.t 5)))⟩,
 ⟨some 14, none, (.p (.move (.t 0)))⟩,
 ⟨some 15, none, (.p (.nilc (.t 14)))⟩,
 ⟨some 16, none, (.p (.faddr 0 (.t 15)))⟩,
 ⟨some 17, none, (.p (.faddr 1 (.t 16)))⟩,
 ⟨some 18, none, (.l (.load 1 false (.t 17)))⟩,
 ⟨some 19, none, (.p (.bin .neq .str (.t 13) (.t 18)))⟩]) (.cond (.t 19) (.seq (.reg 
[⟨some 20, none, (.p (.move (.t 0)))⟩,
 ⟨some 21, none, (.e (.call (.c (.fn 202 [] [])) [(.t 20), (.c (.int .i64 8))]))⟩]) (.seq (.reg 
[⟨some 4, none, (.p (.move (.c (.str []))))⟩]) .ret)) .skip))) (.seq (.reg 
[⟨some 22, none, (.p (.move (.t 0)))⟩,
 ⟨some 23, none, (.p (.move (.t 1)))⟩,
 ⟨some 24, none, (.e (.call (.c (.fn 137 [] [])) [(.t 22), (.t 23), (.c (.int .i64 3))]))⟩,
 ⟨some 4, none, (.p (.move (.t 24)))⟩]) .ret))), [.t 4]⟩
/-- (*libevolution/libevolutionref05.resolver).find -/
def x137 : XF := ⟨(.seq (.reg 
[⟨some 6, none, (.p (.move (.c (.str []))))⟩]) (.seq (.seq (.reg 
[⟨some 22, none, (.p (.move (.t 0)))⟩,
 ⟨some 23, none, (.p (.nilc (.t 22)))⟩,
 ⟨some 24, none, (.p (.faddr 14 (.t 23)))⟩,
 ⟨some 25, none, (.l (.load 1 false (.t 24)))⟩,
 ⟨some 26, none, (.p (.bin .neq .int (.t 25) (.c (.int .i64 0))))⟩]) (.cond (.t 26) (.seq (.reg 
[⟨some 6, none, (.p (.move (.c (.str []))))⟩]) .ret) .skip)) (.seq (.reg 
[⟨some 28, none, (.p (.move (.t 0)))⟩,
 ⟨some 29, none, (.p (.move (.t 1)))⟩,
 ⟨some 30, none, (.e (.call (.c (.fn 205 [] [])) [(.t 28), (.t 29)]))⟩,
 ⟨some 27, none, (.p (.move (.t 30)))⟩,
 ⟨some 31, none, (.p (.ext (.t 27) 0))⟩,
 ⟨some 32, none, (.p (.ext (.t 27) 1))⟩,
 ⟨some 7, none, (.p (.move (.t 31)))⟩,
 ⟨some 8, none, (.p (.move (.t 32)))⟩]) (.seq (.reg 
[⟨some 33, none, (.p (.move (.t 7)))⟩,
 ⟨some 34, none, (.p (.bin .add .str (.t 33) (.c (.str [46]))))⟩,
 ⟨some 35, none, (.p (.move (.t 8)))⟩,
 ⟨some 36, none, (.p (.bin .add .str (.t 34) (.t 35)))⟩,
 ⟨some 9, none, (.p (.move (.t 36)))⟩]) (.seq (.seq (.reg 
[⟨some 37, none, (.p (.move (.t 0)))⟩,
 ⟨some 38, none, (.p (.move (.t 7)))⟩,
 ⟨some 39, none, (.e (.call (.c (.fn 206 [] [])) [(.t 37), (.t 38)]))⟩,
 ⟨some 40, none, (.p (.not (.t 39)))⟩]) (.cond (.t 40) (.seq (.reg 
[⟨some 41, none, (.p (.move (.t 0)))⟩,
 ⟨some 42, none, (.e (.call (.c (.fn 202 [] [])) [(.t 41), (.c (.int .i64 8))]))⟩]) (.seq (.reg 
[⟨some 6, none, (.p (.move (.c (.str []))))⟩]) .ret)) .skip)) (.seq (.reg 
[⟨some 10, none, (.p (.move (.c (.bool false))))⟩,
 ⟨some 11, none, (.p (.move (.c (.bool false))))⟩]) (.seq (.seq (.reg 
[⟨some 43, none, (.p (.move (.t 2)))⟩]) (.block 0 (.seq (.reg 
[⟨some 45, none, (.p (.bin .eql .int (.t 43) (.c (.int .i64 1))))⟩,
 ⟨some 44, none, (.p (.move (.t 45)))⟩]) (.cond (.t 44) (.seq (.reg 
[⟨some 47, none, (.p (.move (.t 0)))⟩,
 ⟨some 48, none, (.p (.nilc (.t 47)))⟩,
 ⟨some 49, none, (.p (.faddr 9 (.t 48)))⟩,
 ⟨some 50, none, (.l (.load 1 false (.t 49)))⟩,
 ⟨some 51, none, (.p (.move (.t 9)))⟩,
 ⟨some 52, none, (.e (.call (.c (.fn 50 [] [])) [(.t 50), (.t 51)]))⟩,
 ⟨some 46, none, (.p (.move (.t 52)))⟩,
 ⟨some 53, none, (.p (.ext (.t 46) 0))⟩,
 ⟨some 54, none, (.p (.ext (.t 46) 1))⟩,
 ⟨some 12, none, (.e (.alloc [(.int .i64 0), (.bool false), (.bool false), (.str []), .nils, .nils]))⟩,
 ⟨none, none, (.e (.store 6 (.t 12) (.t 53)))⟩,
 ⟨some 13, none, (.p (.move (.t 54)))⟩]) (.seq (.reg 
[⟨some 56, none, (.p (.move (.t 0)))⟩,
 ⟨some 57, none, (.p (.nilc (.t 56)))⟩,
 ⟨some 58, none, (.p (.faddr 9 (.t 57)))⟩,
 ⟨some 59, none, (.l (.load 1 false (.t 58)))⟩,
 ⟨some 60, none, (.p (.move (.t 9)))⟩,
 ⟨some 61, none, (.e (.call (.c (.fn 51 [] [])) [(.t 59), (.t 60)]))⟩,
 ⟨some 55, none, (.p (.move (.t 61)))⟩,
 ⟨some 62, none, (.p (.ext (.t 55) 0))⟩,
 ⟨some 63, none, (.p (.ext (.t 55) 1))⟩,
 ⟨some 14, none, (.e (.alloc [(.int .i64 0), (.bool false), (.bool false), (.str []), .nils, .nils]))⟩,
 ⟨none, none, (.e (.store 6 (.t 14) (.t 62)))⟩,
 ⟨some 15, none, (.p (.move (.t 63)))⟩]) (.regd [] 
[⟨some 64, none, (.p (.move (.t 13)))⟩,
 ⟨some 65, none, (.p (.move (.t 64)))⟩,
 ⟨some 66, some (65, false), (.p (.move (.t 15)))⟩,
 ⟨some 67, none, (.p (.pick (.t 65) (.c (.bool true)) (.t 66)))⟩,
 ⟨some 68, none, (.p (.move (.t 13)))⟩,
 ⟨some 69, none, (.p (.move (.t 68)))⟩,
 ⟨some 70, some (69, true), (.p (.faddr 1 (.t 12)))⟩,
 ⟨some 71, some (69, true), (.l (.load 1 false (.t 70)))⟩,
 ⟨some 72, none, (.p (.pick (.t 69) (.t 71) (.c (.bool false))))⟩,
 ⟨some 73, none, (.p (.move (.t 72)))⟩,
 ⟨some 74, some (73, false), (.p (.move (.t 13)))⟩,
 ⟨some 75, some (73, false), (.p (.not (.t 74)))⟩,
 ⟨some 76, some (73, false), (.p (.move (.t 75)))⟩,
 ⟨some 77, some (76, true), (.p (.move (.t 15)))⟩,
 ⟨some 78, some (73, false), (.p (.pick (.t 76) (.t 77) (.c (.bool false))))⟩,
 ⟨some 79, some (73, false), (.p (.move (.t 78)))⟩,
 ⟨some 80, some (79, true), (.p (.faddr 1 (.t 14)))⟩,
 ⟨some 81, some (79, true), (.l (.load 1 false (.t 80)))⟩,
 ⟨some 82, some (73, false), (.p (.pick (.t 79) (.t 81) (.c (.bool false))))⟩,
 ⟨some 83, none, (.p (.pick (.t 73) (.c (.bool true)) (.t 82)))⟩,
 ⟨some 10, none, (.p (.move (.t 67)))⟩,
 ⟨some 11, none, (.p (.move (.t 83)))⟩] []))) (.seq (.reg 
[⟨some 85, none, (.p (.bin .eql .int (.t 43) (.c (.int .i64 4))))⟩,
 ⟨some 84, none, (.p (.move (.t 85)))⟩]) (.cond (.t 84) (.seq (.reg 
[⟨some 87, none, (.p (.move (.t 0)))⟩,
 ⟨some 88, none, (.p (.nilc (.t 87)))⟩,
 ⟨some 89, none, (.p (.faddr 9 (.t 88)))⟩,
 ⟨some 90, none, (.l (.load 1 false (.t 89)))⟩,
 ⟨some 91, none, (.p (.move (.t 9)))⟩,
 ⟨some 92, none, (.e (.call (.c (.fn 50 [] [])) [(.t 90), (.t 91)]))⟩,
 ⟨some 86, none, (.p (.move (.t 92)))⟩,
 ⟨some 93, none, (.p (.ext (.t 86) 0))⟩,
 ⟨some 94, none, (.p (.ext (.t 86) 1))⟩,
 ⟨some 16, none, (.e (.alloc [(.int .i64 0), (.bool false), (.bool false), (.str []), .nils, .nils]))⟩,
 ⟨none, none, (.e (.store 6 (.t 16) (.t 93)))⟩,
 ⟨some 17, none, (.p (.move (.t 94)))⟩]) (.regd [] 
[⟨some 95, none, (.p (.move (.t 17)))⟩,
 ⟨some 96, none, (.p (.faddr 1 (.t 16)))⟩,
 ⟨some 97, none, (.l (.load 1 false (.t 96)))⟩,
 ⟨some 10, none, (.p (.move (.t 95)))⟩,
 ⟨some 11, none, (.p (.move (.t 97)))⟩] [])) (.seq (.reg 
[⟨some 99, none, (.p (.bin .eql .int (.t 43) (.c (.int .i64 2))))⟩,
 ⟨some 98, none, (.p (.move (.t 99)))⟩]) (.cond (.t 98) (.seq (.reg 
[⟨some 101, none, (.p (.move (.t 0)))⟩,
 ⟨some 102, none, (.p (.nilc (.t 101)))⟩,
 ⟨some 103, none, (.p (.faddr 9 (.t 102)))⟩,
 ⟨some 104, none, (.l (.load 1 false (.t 103)))⟩,
 ⟨some 105, none, (.p (.move (.t 9)))⟩,
 ⟨some 106, none, (.e (.call (.c (.fn 52 [] [])) [(.t 104), (.t 105)]))⟩,
 ⟨some 100, none, (.p (.move (.t 106)))⟩,
 ⟨some 107, none, (.p (.ext (.t 100) 0))⟩,
 ⟨some 108, none, (.p (.ext (.t 100) 1))⟩,
 ⟨some 18, none, (.e (.alloc [(.int .i64 0), (.bool false), (.bool false), (.str []), .nils]))⟩,
 ⟨none, none, (.e (.store 5 (.t 18) (.t 107)))⟩,
 ⟨some 19, none, (.p (.move (.t 108)))⟩]) (.regd [] 
[⟨some 109, none, (.p (.move (.t 19)))⟩,
 ⟨some 110, none, (.p (.faddr 1 (.t 18)))⟩,
 ⟨some 111, none, (.l (.load 1 false (.t 110)))⟩,
 ⟨some 10, none, (.p (.move (.t 109)))⟩,
 ⟨some 11, none, (.p (.move (.t 111)))⟩] [])) (.seq (.reg 
[⟨some 113, none, (.p (.bin .eql .int (.t 43) (.c (.int .i64 3))))⟩,
 ⟨some 112, none, (.p (.move (.t 113)))⟩]) (.cond (.t 112) (.seq (.reg 
[⟨some 115, none, (.p (.move (.t 0)))⟩,
 ⟨some 116, none, (.p (.nilc (.t 115)))⟩,
 ⟨some 117, none, (.p (.faddr 9 (.t 116)))⟩,
 ⟨some 118, none, (.l (.load 1 false (.t 117)))⟩,
 ⟨some 119, none, (.p (.move (.t 9)))⟩,
 ⟨some 120, none, (.e (.call (.c (.fn 53 [] [])) [(.t 118), (.t 119)]))⟩,
 ⟨some 114, none, (.p (.move (.t 120)))⟩,
 ⟨some 121, none, (.p (.ext (.t 114) 0))⟩,
 ⟨some 122, none, (.p (.ext (.t 114) 1))⟩,
 ⟨some 20, none, (.e (.alloc [(.int .i64 0), (.bool false), (.bool false), (.str []), .nils, .nils, (.str []), .nils, (.bool false), (.int .i64 0), (.str []), (.str []), (.int .i64 0), .nils, .nils, .nils, .nils, (.str []), .nils, (.int .i64 0)]))⟩,
 ⟨none, none, (.e (.store 20 (.t 20) (.t 121)))⟩,
 ⟨some 21, none, (.p (.move (.t 122)))⟩]) (.regd [] 
[⟨some 123, none, (.p (.move (.t 21)))⟩,
 ⟨some 124, none, (.p (.faddr 1 (.t 20)))⟩,
 ⟨some 125, none, (.l (.load 1 false (.t 124)))⟩,
 ⟨some 10, none, (.p (.move (.t 123)))⟩,
 ⟨some 11, none, (.p (.move (.t 125)))⟩] [])) .skip)))))))))) (.seq (.block 1 (.seq (.reg 
[⟨some 127, none, (.p (.move (.t 10)))⟩,
 ⟨some 128, none, (.p (.not (.t 127)))⟩,
 ⟨some 126, none, (.p (.move (.t 128)))⟩]) (.cond (.t 126) (.seq (.reg 
[⟨some 129, none, (.p (.move (.t 0)))⟩,
 ⟨some 130, none, (.e (.call (.c (.fn 202 [] [])) [(.t 129), (.c (.int .i64 6))]))⟩]) (.seq (.reg 
[⟨some 6, none, (.p (.move (.c (.str []))))⟩]) .ret)) (.seq (.reg 
[⟨some 132, none, (.p (.move (.t 7)))⟩,
 ⟨some 133, none, (.p (.move (.t 0)))⟩,
 ⟨some 134, none, (.p (.nilc (.t 133)))⟩,
 ⟨some 135, none, (.p (.faddr 0 (.t 134)))⟩,
 ⟨some 136, none, (.p (.faddr 1 (.t 135)))⟩,
 ⟨some 137, none, (.l (.load 1 false (.t 136)))⟩,
 ⟨some 138, none, (.p (.bin .neq .str (.t 132) (.t 137)))⟩,
 ⟨some 139, none, (.p (.move (.t 138)))⟩,
 ⟨some 140, some (139, true), (.p (.move (.t 11)))⟩,
 ⟨some 141, some (139, true), (.p (.not (.t 140)))⟩,
 ⟨some 142, none, (.p (.pick (.t 139) (.t 141) (.c (.bool false))))⟩,
 ⟨some 131, none, (.p (.move (.t 142)))⟩]) (.cond (.t 131) (.seq (.reg 
[⟨some 143, none, (.p (.move (.t 0)))⟩,
 ⟨some 144, none, (.e (.call (.c (.fn 202 [] [])) [(.t 143), (.c (.int .i64 7))]))⟩]) (.seq (.reg 
[⟨some 6, none, (.p (.move (.c (.str []))))⟩]) .ret)) .skip))))) (.seq (.reg 
[⟨some 145, none, (.p (.move (.t 9)))⟩,
 ⟨some 6, none, (.p (.move (.t 145)))⟩]) .ret))))))))), [.t 6]⟩
/-- (*libevolution/libevolutionref05.resolver).generics -/
def x138 : XF := ⟨(.seq (.reg 
[⟨some 4, none, (.p (.move (.c .nils)))⟩]) (.seq (.reg 
[⟨some 5, none, (.p (.move (.c .nils)))⟩]) (.seq (.reg 
[⟨some 6, none, (.p (.move (.c .nils)))⟩]) (.seq (.seq (.reg 
[⟨some 13, none, (.p (.move (.t 1)))⟩,
 ⟨some 14, none, (.p (.lenl (.t 13)))⟩,
 ⟨some 15, none, (.p (.move (.c (.int .i64 0))))⟩]) (.block 0 (.loop (.seq (.reg 
[⟨some 16, none, (.p (.bin .lss .int (.t 15) (.t 14)))⟩]) (.seq (.cond (.t 16) .skip (.exit 0)) (.seq (.block 1 (.seq (.reg 
[⟨some 17, none, (.p (.iaddr 2 (.t 13) (.t 15)))⟩,
 ⟨some 18, none, (.l (.load 2 true (.t 17)))⟩,
 ⟨some 8, none, (.e (.alloc [(.str []), .nils]))⟩,
 ⟨none, none, (.e (.store 2 (.t 8) (.t 18)))⟩]) (.seq (.reg 
[⟨some 19, none, (.p (.move (.t 5)))⟩,
 ⟨some 20, none, (.p (.faddr 0 (.t 8)))⟩,
 ⟨some 21, none, (.l (.load 1 false (.t 20)))⟩,
 ⟨some 22, none, (.p (.bslice 1 [(.str [])] [(0, (.t 21))]))⟩,
 ⟨some 23, none, (.e (.app 1 16 (.t 19) (.t 22)))⟩,
 ⟨some 5, none, (.p (.move (.t 23)))⟩]) (.seq (.reg 
[⟨some 24, none, (.p (.move (.t 0)))⟩,
 ⟨some 25, none, (.p (.move (.t 5)))⟩,
 ⟨some 26, none, (.e (.call (.c (.fn 133 [] [])) [(.t 24), (.t 25)]))⟩]) (.seq (.reg 
[⟨some 27, none, (.p (.faddr 0 (.t 8)))⟩,
 ⟨some 28, none, (.l (.load 1 false (.t 27)))⟩,
 ⟨some 29, none, (.p (.build [(.str []), .nils] [(0, 1, (.t 28))]))⟩,
 ⟨some 9, none, (.e (.alloc [(.str []), .nils]))⟩,
 ⟨none, none, (.e (.store 2 (.t 9) (.t 29)))⟩]) (.seq (.seq (.reg 
[⟨some 30, none, (.p (.faddr 1 (.t 8)))⟩,
 ⟨some 31, none, (.l (.load 1 false (.t 30)))⟩,
 ⟨some 32, none, (.p (.lenl (.t 31)))⟩,
 ⟨some 33, none, (.p (.move (.c (.int .i64 0))))⟩]) (.block 2 (.loop (.seq (.reg 
[⟨some 34, none, (.p (.bin .lss .int (.t 33) (.t 32)))⟩]) (.seq (.cond (.t 34) .skip (.exit 2)) (.seq (.block 3 (.seq (.reg 
[⟨some 35, none, (.p (.iaddr 1 (.t 31) (.t 33)))⟩,
 ⟨some 36, none, (.l (.load 1 false (.t 35)))⟩,
 ⟨some 11, none, (.p (.move (.t 36)))⟩]) (.seq (.reg 
[⟨some 37, none, (.p (.move (.t 0)))⟩,
 ⟨some 38, none, (.p (.move (.t 11)))⟩,
 ⟨some 39, none, (.e (.call (.c (.fn 137 [] [])) [(.t 37), (.t 38), (.c (.int .i64 2))]))⟩,
 ⟨some 12, none, (.p (.move (.t 39)))⟩]) (.seq (.reg 
[⟨some 40, none, (.p (.move (.t 0)))⟩,
 ⟨some 41, none, (.p (.faddr 1 (.t 9)))⟩,
 ⟨some 42, none, (.l (.load 1 false (.t 41)))⟩,
 ⟨some 43, none, (.p (.move (.t 12)))⟩,
 ⟨some 44, none, (.e (.call (.c (.fn 132 [] [])) [(.t 40), (.t 42), (.t 43)]))⟩]) (.reg 
[⟨some 45, none, (.p (.faddr 1 (.t 9)))⟩,
 ⟨some 46, none, (.l (.load 1 false (.t 45)))⟩,
 ⟨some 47, none, (.p (.move (.t 12)))⟩,
 ⟨some 48, none, (.p (.bslice 1 [(.str [])] [(0, (.t 47))]))⟩,
 ⟨some 49, none, (.e (.app 1 16 (.t 46) (.t 48)))⟩,
 ⟨some 50, none, (.p (.faddr 1 (.t 9)))⟩,
 ⟨none, none, (.e (.store 1 (.t 50) (.t 49)))⟩]))))) (.reg 
[⟨some 51, none, (.p (.bin .add .int (.t 33) (.c (.int .i64 1))))⟩,
 ⟨some 33, none, (.p (.move (.t 51)))⟩]))))))) (.reg 
[⟨some 52, none, (.p (.move (.t 6)))⟩,
 ⟨some 53, none, (.l (.load 2 true (.t 9)))⟩,
 ⟨some 54, none, (.p (.bslice 2 [(.agg [(.str []), .nils])] [(0, (.t 53))]))⟩,
 ⟨some 55, none, (.e (.app 2 40 (.t 52) (.t 54)))⟩,
 ⟨some 6, none, (.p (.move (.t 55)))⟩]))))))) (.reg 
[⟨some 56, none, (.p (.bin .add .int (.t 15) (.c (.int .i64 1))))⟩,
 ⟨some 15, none, (.p (.move (.t 56)))⟩]))))))) (.seq (.reg 
[⟨some 57, none, (.p (.move (.t 0)))⟩,
 ⟨some 58, none, (.p (.move (.t 5)))⟩,
 ⟨some 59, none, (.p (.nilc (.t 57)))⟩,
 ⟨some 60, none, (.p (.faddr 10 (.t 59)))⟩,
 ⟨none, none, (.e (.store 1 (.t 60) (.t 58)))⟩]) (.seq (.reg 
[⟨some 61, none, (.p (.move (.t 6)))⟩,
 ⟨some 4, none, (.p (.move (.t 61)))⟩]) .ret)))))), [.t 4]⟩
end Go.Proofs.YthlkmffimhnehaaGreat
