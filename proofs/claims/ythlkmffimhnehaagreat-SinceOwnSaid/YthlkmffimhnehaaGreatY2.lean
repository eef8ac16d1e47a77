/- Functions of the program in the evaluator's code, printed by Gen2; no condition. -/
import Derived.Test.YthlkmffimhnehaaGreatMa
namespace Go.Proofs.YthlkmffimhnehaaGreat
open Go Go.Ev
set_option maxRecDepth 10000
/-- (*libevolution/libevolutionref02.parser).primary -/
def x370 : XF := ⟨(.seq (.reg 
[⟨some 2, none, (.e (.alloc [(.int .i64 0), (.str []), (.str []), (.int .i64 0), .nils, .nils, .nils, .nils, (.str []), .nils, (.int .i64 0)]))⟩]) (.seq (.reg 
[⟨some 4, none, (.p (.move (.t 0)))⟩,
 ⟨some 5, none, (.e (.call (.c (.fn 245 [] [])) [(.t 4)]))⟩,
 ⟨some 6, none, (.p (.build [(.int .i64 0), (.str []), (.str []), (.int .i64 0), .nils, .nils, .nils, .nils, (.str []), .nils, (.int .i64 0)] [(10, 1, (.t 5))]))⟩,
 ⟨some 3, none, (.e (.alloc [(.int .i64 0), (.str []), (.str []), (.int .i64 0), .nils, .nils, .nils, .nils, (.str []), .nils, (.int .i64 0)]))⟩,
 ⟨none, none, (.e (.store 11 (.t 3) (.t 6)))⟩]) (.seq (.block 0 (.seq (.reg 
[⟨some 12, none, (.p (.move (.t 0)))⟩,
 ⟨some 13, none, (.p (.nilc (.t 12)))⟩,
 ⟨some 14, none, (.p (.faddr 4 (.t 13)))⟩,
 ⟨some 15, none, (.l (.load 1 false (.t 14)))⟩,
 ⟨some 16, none, (.p (.bin .neq .int (.t 15) (.c (.int .i64 0))))⟩,
 ⟨some 11, none, (.p (.move (.t 16)))⟩]) (.cond (.t 11) .skip (.seq (.reg 
[⟨some 18, none, (.p (.move (.t 0)))⟩,
 ⟨some 19, none, (.e (.call (.c (.fn 293 [] [])) [(.t 18), (.c (.str [45]))]))⟩,
 ⟨some 20, none, (.p (.move (.t 19)))⟩,
 ⟨some 21, some (20, false), (.p (.move (.t 0)))⟩,
 ⟨some 22, some (20, false), (.e (.call (.c (.fn 295 [] [])) [(.t 21), (.c (.int .i64 0))]))⟩,
 ⟨some 23, some (20, false), (.p (.bin .eql .int (.t 22) (.c (.int .i64 2))))⟩,
 ⟨some 24, none, (.p (.pick (.t 20) (.c (.bool true)) (.t 23)))⟩,
 ⟨some 17, none, (.p (.move (.t 24)))⟩]) (.cond (.t 17) (.seq (.reg 
[⟨some 25, none, (.p (.move (.t 0)))⟩,
 ⟨some 26, none, (.l (.load 11 true (.t 3)))⟩,
 ⟨some 27, none, (.e (.call (.c (.fn 372 [] [])) [(.t 25), (.t 26)]))⟩,
 ⟨none, none, (.e (.store 11 (.t 2) (.t 27)))⟩]) .ret) (.seq (.reg 
[⟨some 29, none, (.p (.move (.t 0)))⟩,
 ⟨some 30, none, (.e (.call (.c (.fn 243 [] [])) [(.t 29), (.c (.str [116, 114, 117, 101]))]))⟩,
 ⟨some 28, none, (.p (.move (.t 30)))⟩]) (.cond (.t 28) (.reg 
[⟨some 31, none, (.p (.faddr 0 (.t 3)))⟩,
 ⟨none, none, (.e (.store 1 (.t 31) (.c (.int .i64 2))))⟩,
 ⟨some 32, none, (.p (.faddr 3 (.t 3)))⟩,
 ⟨none, none, (.e (.store 1 (.t 32) (.c (.int .i64 1))))⟩]) (.seq (.reg 
[⟨some 34, none, (.p (.move (.t 0)))⟩,
 ⟨some 35, none, (.e (.call (.c (.fn 243 [] [])) [(.t 34), (.c (.str [102, 97, 108, 115, 101]))]))⟩,
 ⟨some 33, none, (.p (.move (.t 35)))⟩]) (.cond (.t 33) (.reg 
[⟨some 36, none, (.p (.faddr 0 (.t 3)))⟩,
 ⟨none, none, (.e (.store 1 (.t 36) (.c (.int .i64 2))))⟩]) (.seq (.reg 
[⟨some 38, none, (.p (.move (.t 0)))⟩,
 ⟨some 39, none, (.e (.call (.c (.fn 243 [] [])) [(.t 38), (.c (.str [40]))]))⟩,
 ⟨some 37, none, (.p (.move (.t 39)))⟩]) (.cond (.t 37) (.seq (.reg 
[⟨some 40, none, (.p (.move (.t 0)))⟩,
 ⟨some 41, none, (.e (.call (.c (.fn 344 [] [])) [(.t 40)]))⟩,
 ⟨none, none, (.e (.store 11 (.t 3) (.t 41)))⟩]) (.reg 
[⟨some 42, none, (.p (.move (.t 0)))⟩,
 ⟨some 43, none, (.e (.call (.c (.fn 247 [] [])) [(.t 42), (.c (.str [41]))]))⟩])) (.seq (.reg 
[⟨some 45, none, (.p (.move (.t 0)))⟩,
 ⟨some 46, none, (.e (.call (.c (.fn 294 [] [])) [(.t 45), (.c (.int .i64 0))]))⟩,
 ⟨some 44, none, (.p (.move (.t 46)))⟩]) (.cond (.t 44) (.seq (.reg 
[⟨some 47, none, (.p (.move (.t 0)))⟩,
 ⟨some 48, none, (.l (.load 11 true (.t 3)))⟩,
 ⟨some 49, none, (.e (.call (.c (.fn 373 [] [])) [(.t 47), (.t 48)]))⟩,
 ⟨none, none, (.e (.store 11 (.t 2) (.t 49)))⟩]) .ret) (.seq (.reg 
[⟨some 51, none, (.p (.move (.t 0)))⟩,
 ⟨some 52, none, (.e (.call (.c (.fn 243 [] [])) [(.t 51), (.c (.str [99, 97, 115, 101]))]))⟩,
 ⟨some 50, none, (.p (.move (.t 52)))⟩]) (.cond (.t 50) (.seq (.reg 
[⟨some 53, none, (.p (.move (.t 0)))⟩,
 ⟨some 54, none, (.e (.call (.c (.fn 246 [] [])) [(.t 53)]))⟩,
 ⟨some 55, none, (.p (.faddr 0 (.t 3)))⟩,
 ⟨none, none, (.e (.store 1 (.t 55) (.c (.int .i64 14))))⟩,
 ⟨some 56, none, (.p (.faddr 2 (.t 3)))⟩,
 ⟨none, none, (.e (.store 1 (.t 56) (.t 54)))⟩]) (.seq (.seq (.reg 
[⟨some 57, none, (.p (.move (.t 0)))⟩,
 ⟨some 58, none, (.e (.call (.c (.fn 243 [] [])) [(.t 57), (.c (.str [40]))]))⟩]) (.cond (.t 58) (.seq (.regd [] 
[⟨some 59, none, (.p (.faddr 7 (.t 3)))⟩,
 ⟨some 60, none, (.l (.load 1 false (.t 59)))⟩,
 ⟨some 61, none, (.p (.move (.t 0)))⟩,
 ⟨some 62, none, (.e (.call (.c (.fn 344 [] [])) [(.t 61)]))⟩,
 ⟨some 63, none, (.p (.lenl (.t 60)))⟩,
 ⟨some 64, none, (.p (.bslice 11 [(.agg [(.int .i64 0), (.str []), (.str []), (.int .i64 0), .nils, .nils, .nils, .nils, (.str []), .nils, (.int .i64 0)])] [(0, (.c (.agg [(.int .i64 0), (.str []), (.str []), (.int .i64 0), .nils, .nils, .nils, .nils, (.str []), .nils, (.int .i64 0)])))]))⟩,
 ⟨some 65, none, (.e (.app1 11 192 (.t 60) (.t 62) (.t 63) (.t 64)))⟩,
 ⟨some 66, none, (.p (.move (.c .any)))⟩,
 ⟨none, none, (.p (.move (.c (.tup []))))⟩,
 ⟨some 67, none, (.p (.faddr 7 (.t 3)))⟩,
 ⟨none, none, (.e (.store 1 (.t 67) (.t 65)))⟩] [(1, 3)]) (.seq (.block 1 (.loop (.seq (.seq (.reg 
[⟨some 68, none, (.p (.move (.t 0)))⟩,
 ⟨some 69, none, (.e (.call (.c (.fn 243 [] [])) [(.t 68), (.c (.str [44]))]))⟩]) (.cond (.t 69) .skip (.exit 1))) (.block 2 (.regd [] 
[⟨some 70, none, (.p (.faddr 7 (.t 3)))⟩,
 ⟨some 71, none, (.l (.load 1 false (.t 70)))⟩,
 ⟨some 72, none, (.p (.move (.t 0)))⟩,
 ⟨some 73, none, (.e (.call (.c (.fn 344 [] [])) [(.t 72)]))⟩,
 ⟨some 74, none, (.p (.lenl (.t 71)))⟩,
 ⟨some 75, none, (.p (.bslice 11 [(.agg [(.int .i64 0), (.str []), (.str []), (.int .i64 0), .nils, .nils, .nils, .nils, (.str []), .nils, (.int .i64 0)])] [(0, (.c (.agg [(.int .i64 0), (.str []), (.str []), (.int .i64 0), .nils, .nils, .nils, .nils, (.str []), .nils, (.int .i64 0)])))]))⟩,
 ⟨some 76, none, (.e (.app1 11 192 (.t 71) (.t 73) (.t 74) (.t 75)))⟩,
 ⟨some 77, none, (.p (.move (.c .any)))⟩,
 ⟨none, none, (.p (.move (.c (.tup []))))⟩,
 ⟨some 78, none, (.p (.faddr 7 (.t 3)))⟩,
 ⟨none, none, (.e (.store 1 (.t 78) (.t 76)))⟩] [(1, 3)]))))) (.reg 
[⟨some 79, none, (.p (.move (.t 0)))⟩,
 ⟨some 80, none, (.e (.call (.c (.fn 247 [] [])) [(.t 79), (.c (.str [41]))]))⟩]))) .skip)) (.seq (.reg 
[⟨some 81, none, (.p (.move (.t 0)))⟩,
 ⟨some 82, none, (.e (.call (.c (.fn 247 [] [])) [(.t 81), (.c (.str [111, 102]))]))⟩]) (.reg 
[⟨some 83, none, (.p (.move (.t 0)))⟩,
 ⟨some 84, none, (.e (.call (.c (.fn 340 [] [])) [(.t 83)]))⟩,
 ⟨some 85, none, (.p (.bslice 2 [(.agg [(.str []), .nils])] [(0, (.t 84))]))⟩,
 ⟨some 86, none, (.p (.faddr 4 (.t 3)))⟩,
 ⟨none, none, (.e (.store 1 (.t 86) (.t 85)))⟩])))) (.seq (.reg 
[⟨some 88, none, (.p (.move (.t 0)))⟩,
 ⟨some 89, none, (.e (.call (.c (.fn 243 [] [])) [(.t 88), (.c (.str [99, 97, 108, 108]))]))⟩,
 ⟨some 87, none, (.p (.move (.t 89)))⟩]) (.cond (.t 87) (.seq (.reg 
[⟨some 90, none, (.p (.move (.t 0)))⟩,
 ⟨some 91, none, (.e (.call (.c (.fn 246 [] [])) [(.t 90)]))⟩,
 ⟨some 92, none, (.p (.faddr 0 (.t 3)))⟩,
 ⟨none, none, (.e (.store 1 (.t 92) (.c (.int .i64 10))))⟩,
 ⟨some 93, none, (.p (.faddr 2 (.t 3)))⟩,
 ⟨none, none, (.e (.store 1 (.t 93) (.t 91)))⟩]) (.seq (.reg 
[⟨some 94, none, (.p (.move (.t 0)))⟩,
 ⟨some 95, none, (.e (.call (.c (.fn 247 [] [])) [(.t 94), (.c (.str [111, 102]))]))⟩]) (.seq (.reg 
[⟨some 96, none, (.p (.move (.t 0)))⟩,
 ⟨some 97, none, (.e (.call (.c (.fn 338 [] [])) [(.t 96)]))⟩,
 ⟨some 98, none, (.p (.faddr 1 (.t 3)))⟩,
 ⟨none, none, (.e (.store 1 (.t 98) (.t 97)))⟩]) (.seq (.reg 
[⟨some 99, none, (.p (.move (.t 0)))⟩,
 ⟨some 100, none, (.e (.call (.c (.fn 247 [] [])) [(.t 99), (.c (.str [102, 111, 114]))]))⟩]) (.seq (.reg 
[⟨some 101, none, (.p (.move (.t 0)))⟩,
 ⟨some 102, none, (.e (.call (.c (.fn 340 [] [])) [(.t 101)]))⟩,
 ⟨some 103, none, (.p (.bslice 2 [(.agg [(.str []), .nils])] [(0, (.t 102))]))⟩,
 ⟨some 104, none, (.p (.faddr 4 (.t 3)))⟩,
 ⟨none, none, (.e (.store 1 (.t 104) (.t 103)))⟩]) (.reg 
[⟨some 105, none, (.p (.move (.t 0)))⟩,
 ⟨some 106, none, (.e (.call (.c (.fn 374 [] [])) [(.t 105)]))⟩,
 ⟨some 107, none, (.p (.faddr 7 (.t 3)))⟩,
 ⟨none, none, (.e (.store 1 (.t 107) (.t 106)))⟩])))))) (.seq (.reg 
[⟨some 109, none, (.p (.move (.t 0)))⟩,
 ⟨some 110, none, (.e (.call (.c (.fn 243 [] [])) [(.t 109), (.c (.str [109, 97, 116, 99, 104]))]))⟩,
 ⟨some 108, none, (.p (.move (.t 110)))⟩]) (.cond (.t 108) (.seq (.reg 
[⟨some 111, none, (.p (.move (.t 0)))⟩,
 ⟨some 112, none, (.e (.call (.c (.fn 375 [] [])) [(.t 111), (.c (.int .i64 1))]))⟩,
 ⟨some 113, none, (.p (.faddr 0 (.t 3)))⟩,
 ⟨none, none, (.e (.store 1 (.t 113) (.c (.int .i64 15))))⟩,
 ⟨some 114, none, (.p (.faddr 7 (.t 3)))⟩,
 ⟨none, none, (.e (.store 1 (.t 114) (.t 112)))⟩]) (.reg 
[⟨some 115, none, (.p (.move (.t 0)))⟩,
 ⟨some 116, none, (.e (.call (.c (.fn 376 [] [])) [(.t 115), (.t 3)]))⟩])) (.seq (.reg 
[⟨some 118, none, (.p (.move (.t 0)))⟩,
 ⟨some 119, none, (.e (.call (.c (.fn 243 [] [])) [(.t 118), (.c (.str [97, 114, 114, 97, 121]))]))⟩,
 ⟨some 117, none, (.p (.move (.t 119)))⟩]) (.cond (.t 117) (.seq (.reg 
[⟨some 120, none, (.p (.faddr 0 (.t 3)))⟩,
 ⟨none, none, (.e (.store 1 (.t 120) (.c (.int .i64 16))))⟩]) (.seq (.reg 
[⟨some 121, none, (.p (.move (.t 0)))⟩,
 ⟨some 122, none, (.e (.call (.c (.fn 247 [] [])) [(.t 121), (.c (.str [91]))]))⟩]) (.seq (.reg 
[⟨some 123, none, (.p (.move (.t 0)))⟩,
 ⟨some 124, none, (.e (.call (.c (.fn 340 [] [])) [(.t 123)]))⟩,
 ⟨some 125, none, (.p (.bslice 2 [(.agg [(.str []), .nils])] [(0, (.t 124))]))⟩,
 ⟨some 126, none, (.p (.faddr 4 (.t 3)))⟩,
 ⟨none, none, (.e (.store 1 (.t 126) (.t 125)))⟩]) (.seq (.reg 
[⟨some 127, none, (.p (.move (.t 0)))⟩,
 ⟨some 128, none, (.e (.call (.c (.fn 247 [] [])) [(.t 127), (.c (.str [93]))]))⟩]) (.reg 
[⟨some 129, none, (.p (.move (.t 0)))⟩,
 ⟨some 130, none, (.e (.call (.c (.fn 374 [] [])) [(.t 129)]))⟩,
 ⟨some 131, none, (.p (.faddr 7 (.t 3)))⟩,
 ⟨none, none, (.e (.store 1 (.t 131) (.t 130)))⟩]))))) (.seq (.reg 
[⟨some 133, none, (.p (.move (.t 0)))⟩,
 ⟨some 134, none, (.e (.call (.c (.fn 243 [] [])) [(.t 133), (.c (.str [99, 111, 117, 110, 116]))]))⟩,
 ⟨some 132, none, (.p (.move (.t 134)))⟩]) (.cond (.t 132) (.reg 
[⟨some 135, none, (.p (.move (.t 0)))⟩,
 ⟨some 136, none, (.e (.call (.c (.fn 375 [] [])) [(.t 135), (.c (.int .i64 1))]))⟩,
 ⟨some 137, none, (.p (.faddr 0 (.t 3)))⟩,
 ⟨none, none, (.e (.store 1 (.t 137) (.c (.int .i64 17))))⟩,
 ⟨some 138, none, (.p (.faddr 7 (.t 3)))⟩,
 ⟨none, none, (.e (.store 1 (.t 138) (.t 136)))⟩]) (.seq (.reg 
[⟨some 140, none, (.p (.move (.t 0)))⟩,
 ⟨some 141, none, (.e (.call (.c (.fn 243 [] [])) [(.t 140), (.c (.str [97, 116]))]))⟩,
 ⟨some 139, none, (.p (.move (.t 141)))⟩]) (.cond (.t 139) (.reg 
[⟨some 142, none, (.p (.move (.t 0)))⟩,
 ⟨some 143, none, (.e (.call (.c (.fn 375 [] [])) [(.t 142), (.c (.int .i64 2))]))⟩,
 ⟨some 144, none, (.p (.faddr 0 (.t 3)))⟩,
 ⟨none, none, (.e (.store 1 (.t 144) (.c (.int .i64 18))))⟩,
 ⟨some 145, none, (.p (.faddr 7 (.t 3)))⟩,
 ⟨none, none, (.e (.store 1 (.t 145) (.t 143)))⟩]) (.seq (.reg 
[⟨some 147, none, (.p (.move (.t 0)))⟩,
 ⟨some 148, none, (.e (.call (.c (.fn 243 [] [])) [(.t 147), (.c (.str [97, 112, 112, 101, 110, 100]))]))⟩,
 ⟨some 146, none, (.p (.move (.t 148)))⟩]) (.cond (.t 146) (.reg 
[⟨some 149, none, (.p (.move (.t 0)))⟩,
 ⟨some 150, none, (.e (.call (.c (.fn 375 [] [])) [(.t 149), (.c (.int .i64 2))]))⟩,
 ⟨some 151, none, (.p (.faddr 0 (.t 3)))⟩,
 ⟨none, none, (.e (.store 1 (.t 151) (.c (.int .i64 19))))⟩,
 ⟨some 152, none, (.p (.faddr 7 (.t 3)))⟩,
 ⟨none, none, (.e (.store 1 (.t 152) (.t 150)))⟩]) (.seq (.reg 
[⟨some 154, none, (.p (.move (.t 0)))⟩,
 ⟨some 155, none, (.e (.call (.c (.fn 243 [] [])) [(.t 154), (.c (.str [97, 118, 97, 105, 108, 97, 98, 108, 101]))]))⟩,
 ⟨some 153, none, (.p (.move (.t 155)))⟩]) (.cond (.t 153) (.seq (.reg 
[⟨some 156, none, (.p (.faddr 0 (.t 3)))⟩,
 ⟨none, none, (.e (.store 1 (.t 156) (.c (.int .i64 20))))⟩]) (.seq (.reg 
[⟨some 157, none, (.p (.move (.t 0)))⟩,
 ⟨some 158, none, (.e (.call (.c (.fn 247 [] [])) [(.t 157), (.c (.str [40]))]))⟩]) (.seq (.reg 
[⟨some 159, none, (.p (.move (.t 0)))⟩,
 ⟨some 160, none, (.e (.call (.c (.fn 246 [] [])) [(.t 159)]))⟩,
 ⟨some 161, none, (.p (.faddr 1 (.t 3)))⟩,
 ⟨none, none, (.e (.store 1 (.t 161) (.t 160)))⟩]) (.seq (.reg 
[⟨some 162, none, (.p (.move (.t 0)))⟩,
 ⟨some 163, none, (.e (.call (.c (.fn 247 [] [])) [(.t 162), (.c (.str [44]))]))⟩]) (.seq (.reg 
[⟨some 164, none, (.p (.move (.t 0)))⟩,
 ⟨some 165, none, (.e (.call (.c (.fn 248 [] [])) [(.t 164)]))⟩,
 ⟨some 166, none, (.p (.faddr 3 (.t 3)))⟩,
 ⟨none, none, (.e (.store 1 (.t 166) (.t 165)))⟩]) (.reg 
[⟨some 167, none, (.p (.move (.t 0)))⟩,
 ⟨some 168, none, (.e (.call (.c (.fn 247 [] [])) [(.t 167), (.c (.str [41]))]))⟩])))))) (.seq (.reg 
[⟨some 170, none, (.p (.move (.t 0)))⟩,
 ⟨some 171, none, (.e (.call (.c (.fn 243 [] [])) [(.t 170), (.c (.str [102, 97, 105, 108]))]))⟩,
 ⟨some 169, none, (.p (.move (.t 171)))⟩]) (.cond (.t 169) (.seq (.reg 
[⟨some 172, none, (.p (.faddr 0 (.t 3)))⟩,
 ⟨none, none, (.e (.store 1 (.t 172) (.c (.int .i64 7))))⟩]) (.seq (.reg 
[⟨some 173, none, (.p (.move (.t 0)))⟩,
 ⟨some 174, none, (.e (.call (.c (.fn 247 [] [])) [(.t 173), (.c (.str [91]))]))⟩]) (.seq (.reg 
[⟨some 175, none, (.p (.move (.t 0)))⟩,
 ⟨some 176, none, (.e (.call (.c (.fn 340 [] [])) [(.t 175)]))⟩,
 ⟨some 177, none, (.p (.bslice 2 [(.agg [(.str []), .nils])] [(0, (.t 176))]))⟩,
 ⟨some 178, none, (.p (.faddr 4 (.t 3)))⟩,
 ⟨none, none, (.e (.store 1 (.t 178) (.t 177)))⟩]) (.seq (.reg 
[⟨some 179, none, (.p (.move (.t 0)))⟩,
 ⟨some 180, none, (.e (.call (.c (.fn 247 [] [])) [(.t 179), (.c (.str [93]))]))⟩]) (.reg 
[⟨some 181, none, (.p (.move (.t 0)))⟩,
 ⟨some 182, none, (.e (.call (.c (.fn 375 [] [])) [(.t 181), (.c (.int .i64 1))]))⟩,
 ⟨some 183, none, (.p (.faddr 7 (.t 3)))⟩,
 ⟨none, none, (.e (.store 1 (.t 183) (.t 182)))⟩]))))) (.seq (.reg 
[⟨some 185, none, (.p (.move (.t 0)))⟩,
 ⟨some 186, none, (.e (.call (.c (.fn 243 [] [])) [(.t 185), (.c (.str [98, 121, 116, 101]))]))⟩,
 ⟨some 184, none, (.p (.move (.t 186)))⟩]) (.cond (.t 184) (.reg 
[⟨some 187, none, (.p (.move (.t 0)))⟩,
 ⟨some 188, none, (.e (.call (.c (.fn 375 [] [])) [(.t 187), (.c (.int .i64 1))]))⟩,
 ⟨some 189, none, (.p (.faddr 0 (.t 3)))⟩,
 ⟨none, none, (.e (.store 1 (.t 189) (.c (.int .i64 23))))⟩,
 ⟨some 190, none, (.p (.faddr 7 (.t 3)))⟩,
 ⟨none, none, (.e (.store 1 (.t 190) (.t 188)))⟩]) (.seq (.reg 
[⟨some 192, none, (.p (.move (.t 0)))⟩,
 ⟨some 193, none, (.e (.call (.c (.fn 243 [] [])) [(.t 192), (.c (.str [111, 114, 100]))]))⟩,
 ⟨some 191, none, (.p (.move (.t 193)))⟩]) (.cond (.t 191) (.reg 
[⟨some 194, none, (.p (.move (.t 0)))⟩,
 ⟨some 195, none, (.e (.call (.c (.fn 375 [] [])) [(.t 194), (.c (.int .i64 1))]))⟩,
 ⟨some 196, none, (.p (.faddr 0 (.t 3)))⟩,
 ⟨none, none, (.e (.store 1 (.t 196) (.c (.int .i64 24))))⟩,
 ⟨some 197, none, (.p (.faddr 7 (.t 3)))⟩,
 ⟨none, none, (.e (.store 1 (.t 197) (.t 195)))⟩]) (.reg 
[⟨some 7, none, (.p (.move (.t 0)))⟩,
 ⟨some 8, none, (.p (.move (.t 0)))⟩,
 ⟨some 9, none, (.e (.call (.c (.fn 245 [] [])) [(.t 8)]))⟩,
 ⟨some 10, none, (.e (.call (.c (.fn 244 [] [])) [(.t 7), (.t 9), (.c (.int .i64 2))]))⟩])))))))))))))))))))))))))))))))))))) (.seq (.reg 
[⟨some 198, none, (.l (.load 11 true (.t 3)))⟩,
 ⟨none, none, (.e (.store 11 (.t 2) (.t 198)))⟩]) .ret)))), [.cell 2 11 true]⟩
/-- (*libevolution/libevolutionref02.parser).members -/
def x371 : XF := ⟨(.block 0 (.loop (.block 1 (.seq (.regd [] 
[⟨some 4, none, (.p (.move (.t 1)))⟩,
 ⟨some 5, none, (.p (.move (.t 1)))⟩,
 ⟨some 6, none, (.p (.nilc (.t 5)))⟩,
 ⟨some 7, none, (.p (.faddr 5 (.t 6)))⟩,
 ⟨some 8, none, (.l (.load 1 false (.t 7)))⟩,
 ⟨some 9, none, (.p (.move (.t 0)))⟩,
 ⟨some 10, none, (.e (.call (.c (.fn 246 [] [])) [(.t 9)]))⟩,
 ⟨some 11, none, (.p (.bslice 1 [(.str [])] [(0, (.t 10))]))⟩,
 ⟨some 12, none, (.e (.app 1 16 (.t 8) (.t 11)))⟩,
 ⟨some 13, none, (.p (.nilc (.t 4)))⟩,
 ⟨some 14, none, (.p (.faddr 5 (.t 13)))⟩,
 ⟨none, none, (.e (.store 1 (.t 14) (.t 12)))⟩] [(4, 6)]) (.seq (.reg 
[⟨some 15, none, (.p (.move (.t 0)))⟩,
 ⟨some 16, none, (.e (.call (.c (.fn 247 [] [])) [(.t 15), (.c (.str [61]))]))⟩]) (.seq (.regd [] 
[⟨some 17, none, (.p (.move (.t 1)))⟩,
 ⟨some 18, none, (.p (.nilc (.t 17)))⟩,
 ⟨some 19, none, (.p (.faddr 7 (.t 18)))⟩,
 ⟨some 20, none, (.l (.load 1 false (.t 19)))⟩,
 ⟨some 21, none, (.p (.move (.t 0)))⟩,
 ⟨some 22, none, (.e (.call (.c (.fn 344 [] [])) [(.t 21)]))⟩,
 ⟨some 23, none, (.p (.lenl (.t 20)))⟩,
 ⟨some 24, none, (.p (.bslice 11 [(.agg [(.int .i64 0), (.str []), (.str []), (.int .i64 0), .nils, .nils, .nils, .nils, (.str []), .nils, (.int .i64 0)])] [(0, (.c (.agg [(.int .i64 0), (.str []), (.str []), (.int .i64 0), .nils, .nils, .nils, .nils, (.str []), .nils, (.int .i64 0)])))]))⟩,
 ⟨some 25, none, (.e (.app1 11 192 (.t 20) (.t 22) (.t 23) (.t 24)))⟩,
 ⟨some 26, none, (.p (.move (.c .any)))⟩,
 ⟨none, none, (.p (.move (.c (.tup []))))⟩,
 ⟨some 27, none, (.p (.nilc (.t 17)))⟩,
 ⟨some 28, none, (.p (.faddr 7 (.t 27)))⟩,
 ⟨none, none, (.e (.store 1 (.t 28) (.t 25)))⟩] [(3, 5)]) (.seq (.reg 
[⟨some 29, none, (.p (.move (.t 0)))⟩,
 ⟨some 30, none, (.e (.call (.c (.fn 243 [] [])) [(.t 29), (.c (.str [44]))]))⟩,
 ⟨some 31, none, (.p (.not (.t 30)))⟩]) (.cond (.t 31) .ret .skip)))))))), []⟩
/-- (*libevolution/libevolutionref02.parser).number -/
def x372 : XF := ⟨(.seq (.reg 
[⟨some 3, none, (.e (.box 11 (.t 1)))⟩,
 ⟨some 4, none, (.e (.alloc [(.int .i64 0), (.str []), (.str []), (.int .i64 0), .nils, .nils, .nils, .nils, (.str []), .nils, (.int .i64 0)]))⟩]) (.seq (.reg 
[⟨some 7, none, (.p (.faddr 0 (.t 3)))⟩,
 ⟨none, none, (.e (.store 1 (.t 7) (.c (.int .i64 1))))⟩]) (.seq (.reg 
[⟨some 8, none, (.p (.move (.t 0)))⟩,
 ⟨some 9, none, (.e (.call (.c (.fn 243 [] [])) [(.t 8), (.c (.str [45]))]))⟩,
 ⟨some 5, none, (.p (.move (.t 9)))⟩]) (.seq (.seq (.reg 
[⟨some 10, none, (.p (.move (.t 0)))⟩,
 ⟨some 11, none, (.p (.nilc (.t 10)))⟩,
 ⟨some 12, none, (.p (.faddr 4 (.t 11)))⟩,
 ⟨some 13, none, (.l (.load 1 false (.t 12)))⟩,
 ⟨some 14, none, (.p (.bin .eql .int (.t 13) (.c (.int .i64 0))))⟩,
 ⟨some 15, none, (.p (.move (.t 14)))⟩,
 ⟨some 16, some (15, true), (.p (.move (.t 0)))⟩,
 ⟨some 17, some (15, true), (.e (.call (.c (.fn 295 [] [])) [(.t 16), (.c (.int .i64 0))]))⟩,
 ⟨some 18, some (15, true), (.p (.bin .neq .int (.t 17) (.c (.int .i64 2))))⟩,
 ⟨some 19, none, (.p (.pick (.t 15) (.t 18) (.c (.bool false))))⟩]) (.cond (.t 19) (.reg 
[⟨some 20, none, (.p (.move (.t 0)))⟩,
 ⟨some 21, none, (.p (.move (.t 0)))⟩,
 ⟨some 22, none, (.e (.call (.c (.fn 245 [] [])) [(.t 21)]))⟩,
 ⟨some 23, none, (.e (.call (.c (.fn 244 [] [])) [(.t 20), (.t 22), (.c (.int .i64 2))]))⟩]) .skip)) (.seq (.seq (.reg 
[⟨some 24, none, (.p (.move (.t 0)))⟩,
 ⟨some 25, none, (.p (.nilc (.t 24)))⟩,
 ⟨some 26, none, (.p (.faddr 4 (.t 25)))⟩,
 ⟨some 27, none, (.l (.load 1 false (.t 26)))⟩,
 ⟨some 28, none, (.p (.bin .neq .int (.t 27) (.c (.int .i64 0))))⟩]) (.cond (.t 28) (.seq (.reg 
[⟨some 29, none, (.l (.load 11 true (.t 3)))⟩,
 ⟨none, none, (.e (.store 11 (.t 4) (.t 29)))⟩]) .ret) .skip)) (.seq (.reg 
[⟨some 30, none, (.p (.move (.t 0)))⟩,
 ⟨some 31, none, (.e (.call (.c (.fn 296 [] [])) [(.t 30), (.c (.int .i64 0))]))⟩,
 ⟨some 32, none, (.e (.call (.c (.fn 297 [] [])) [(.t 31)]))⟩,
 ⟨some 6, none, (.p (.move (.t 32)))⟩]) (.seq (.seq (.reg 
[⟨some 33, none, (.p (.move (.t 6)))⟩,
 ⟨some 34, none, (.p (.bin .lss .int (.t 33) (.c (.int .i64 0))))⟩,
 ⟨some 35, none, (.p (.move (.t 34)))⟩,
 ⟨some 36, some (35, true), (.p (.move (.t 5)))⟩,
 ⟨some 37, some (35, true), (.p (.not (.t 36)))⟩,
 ⟨some 38, none, (.p (.pick (.t 35) (.t 37) (.c (.bool false))))⟩]) (.cond (.t 38) (.seq (.reg 
[⟨some 39, none, (.p (.move (.t 0)))⟩,
 ⟨some 40, none, (.p (.move (.t 0)))⟩,
 ⟨some 41, none, (.e (.call (.c (.fn 245 [] [])) [(.t 40)]))⟩,
 ⟨some 42, none, (.e (.call (.c (.fn 244 [] [])) [(.t 39), (.t 41), (.c (.int .i64 4))]))⟩]) (.seq (.reg 
[⟨some 43, none, (.l (.load 11 true (.t 3)))⟩,
 ⟨none, none, (.e (.store 11 (.t 4) (.t 43)))⟩]) .ret)) .skip)) (.seq (.reg 
[⟨some 44, none, (.p (.move (.t 0)))⟩,
 ⟨some 45, none, (.p (.nilc (.t 44)))⟩,
 ⟨some 46, none, (.p (.faddr 2 (.t 45)))⟩,
 ⟨some 47, none, (.l (.load 1 false (.t 46)))⟩,
 ⟨some 48, none, (.p (.bin .add .int (.t 47) (.c (.int .i64 1))))⟩,
 ⟨some 49, none, (.p (.nilc (.t 44)))⟩,
 ⟨some 50, none, (.p (.faddr 2 (.t 49)))⟩,
 ⟨none, none, (.e (.store 1 (.t 50) (.t 48)))⟩]) (.seq (.seq (.reg 
[⟨some 51, none, (.p (.move (.t 5)))⟩]) (.cond (.t 51) (.reg 
[⟨some 52, none, (.p (.move (.t 6)))⟩,
 ⟨some 53, none, (.p (.neg (.t 52)))⟩,
 ⟨some 6, none, (.p (.move (.t 53)))⟩]) .skip)) (.seq (.reg 
[⟨some 54, none, (.p (.move (.t 6)))⟩,
 ⟨some 55, none, (.p (.faddr 3 (.t 3)))⟩,
 ⟨none, none, (.e (.store 1 (.t 55) (.t 54)))⟩]) (.seq (.reg 
[⟨some 56, none, (.l (.load 11 true (.t 3)))⟩,
 ⟨none, none, (.e (.store 11 (.t 4) (.t 56)))⟩]) .ret))))))))))), [.cell 4 11 true]⟩
/-- (*libevolution/libevolutionref02.parser).named -/
def x373 : XF := ⟨(.seq (.reg 
[⟨some 3, none, (.e (.box 11 (.t 1)))⟩,
 ⟨some 4, none, (.e (.alloc [(.int .i64 0), (.str []), (.str []), (.int .i64 0), .nils, .nils, .nils, .nils, (.str []), .nils, (.int .i64 0)]))⟩]) (.seq (.reg 
[⟨some 6, none, (.p (.move (.t 0)))⟩,
 ⟨some 7, none, (.e (.call (.c (.fn 296 [] [])) [(.t 6), (.c (.int .i64 1))]))⟩,
 ⟨some 8, none, (.p (.bin .eql .str (.t 7) (.c (.str [46]))))⟩,
 ⟨some 9, none, (.p (.move (.t 8)))⟩,
 ⟨some 10, some (9, true), (.p (.move (.t 0)))⟩,
 ⟨some 11, some (9, true), (.e (.call (.c (.fn 294 [] [])) [(.t 10), (.c (.int .i64 2))]))⟩,
 ⟨some 12, none, (.p (.pick (.t 9) (.t 11) (.c (.bool false))))⟩,
 ⟨some 13, none, (.p (.move (.t 12)))⟩,
 ⟨some 14, some (13, true), (.p (.move (.t 0)))⟩,
 ⟨some 15, some (13, true), (.e (.call (.c (.fn 377 [] [])) [(.t 14), (.c (.int .i64 3))]))⟩,
 ⟨some 16, none, (.p (.pick (.t 13) (.t 15) (.c (.bool false))))⟩,
 ⟨some 5, none, (.p (.move (.t 16)))⟩]) (.seq (.seq (.reg 
[⟨some 17, none, (.p (.move (.t 5)))⟩,
 ⟨some 18, none, (.p (.not (.t 17)))⟩,
 ⟨some 19, none, (.p (.move (.t 18)))⟩,
 ⟨some 20, some (19, true), (.p (.move (.t 0)))⟩,
 ⟨some 21, some (19, true), (.e (.call (.c (.fn 377 [] [])) [(.t 20), (.c (.int .i64 1))]))⟩,
 ⟨some 22, some (19, true), (.p (.not (.t 21)))⟩,
 ⟨some 23, none, (.p (.pick (.t 19) (.t 22) (.c (.bool false))))⟩]) (.cond (.t 23) (.seq (.reg 
[⟨some 24, none, (.p (.move (.t 0)))⟩,
 ⟨some 25, none, (.e (.call (.c (.fn 246 [] [])) [(.t 24)]))⟩,
 ⟨some 26, none, (.p (.faddr 0 (.t 3)))⟩,
 ⟨none, none, (.e (.store 1 (.t 26) (.c (.int .i64 3))))⟩,
 ⟨some 27, none, (.p (.faddr 1 (.t 3)))⟩,
 ⟨none, none, (.e (.store 1 (.t 27) (.t 25)))⟩]) (.seq (.reg 
[⟨some 28, none, (.l (.load 11 true (.t 3)))⟩,
 ⟨none, none, (.e (.store 11 (.t 4) (.t 28)))⟩]) .ret)) .skip)) (.seq (.reg 
[⟨some 29, none, (.p (.move (.t 0)))⟩,
 ⟨some 30, none, (.e (.call (.c (.fn 338 [] [])) [(.t 29)]))⟩,
 ⟨some 31, none, (.p (.faddr 1 (.t 3)))⟩,
 ⟨none, none, (.e (.store 1 (.t 31) (.t 30)))⟩]) (.seq (.seq (.reg 
[⟨some 32, none, (.p (.move (.t 0)))⟩,
 ⟨some 33, none, (.e (.call (.c (.fn 293 [] [])) [(.t 32), (.c (.str [91]))]))⟩]) (.cond (.t 33) (.reg 
[⟨some 34, none, (.p (.move (.t 0)))⟩,
 ⟨some 35, none, (.e (.call (.c (.fn 362 [] [])) [(.t 34)]))⟩,
 ⟨some 36, none, (.p (.faddr 4 (.t 3)))⟩,
 ⟨none, none, (.e (.store 1 (.t 36) (.t 35)))⟩]) .skip)) (.seq (.seq (.reg 
[⟨some 37, none, (.p (.move (.t 0)))⟩,
 ⟨some 38, none, (.e (.call (.c (.fn 293 [] [])) [(.t 37), (.c (.str [123]))]))⟩]) (.cond (.t 38) (.seq (.reg 
[⟨some 39, none, (.p (.move (.t 0)))⟩,
 ⟨some 40, none, (.p (.nilc (.t 39)))⟩,
 ⟨some 41, none, (.p (.faddr 2 (.t 40)))⟩,
 ⟨some 42, none, (.l (.load 1 false (.t 41)))⟩,
 ⟨some 43, none, (.p (.bin .add .int (.t 42) (.c (.int .i64 1))))⟩,
 ⟨some 44, none, (.p (.nilc (.t 39)))⟩,
 ⟨some 45, none, (.p (.faddr 2 (.t 44)))⟩,
 ⟨none, none, (.e (.store 1 (.t 45) (.t 43)))⟩]) (.seq (.reg 
[⟨some 46, none, (.p (.faddr 0 (.t 3)))⟩,
 ⟨none, none, (.e (.store 1 (.t 46) (.c (.int .i64 11))))⟩]) (.seq (.seq (.reg 
[⟨some 47, none, (.p (.move (.t 0)))⟩,
 ⟨some 48, none, (.e (.call (.c (.fn 293 [] [])) [(.t 47), (.c (.str [125]))]))⟩,
 ⟨some 49, none, (.p (.not (.t 48)))⟩]) (.cond (.t 49) (.reg 
[⟨some 50, none, (.p (.move (.t 0)))⟩,
 ⟨some 51, none, (.e (.call (.c (.fn 371 [] [])) [(.t 50), (.t 3)]))⟩]) .skip)) (.seq (.reg 
[⟨some 52, none, (.p (.move (.t 0)))⟩,
 ⟨some 53, none, (.e (.call (.c (.fn 247 [] [])) [(.t 52), (.c (.str [125]))]))⟩]) (.seq (.reg 
[⟨some 54, none, (.l (.load 11 true (.t 3)))⟩,
 ⟨none, none, (.e (.store 11 (.t 4) (.t 54)))⟩]) .ret))))) .skip)) (.seq (.reg 
[⟨some 55, none, (.p (.faddr 0 (.t 3)))⟩,
 ⟨none, none, (.e (.store 1 (.t 55) (.c (.int .i64 9))))⟩]) (.seq (.reg 
[⟨some 56, none, (.p (.move (.t 0)))⟩,
 ⟨some 57, none, (.e (.call (.c (.fn 374 [] [])) [(.t 56)]))⟩,
 ⟨some 58, none, (.p (.faddr 7 (.t 3)))⟩,
 ⟨none, none, (.e (.store 1 (.t 58) (.t 57)))⟩]) (.seq (.reg 
[⟨some 59, none, (.l (.load 11 true (.t 3)))⟩,
 ⟨none, none, (.e (.store 11 (.t 4) (.t 59)))⟩]) .ret))))))))), [.cell 4 11 true]⟩
/-- (*libevolution/libevolutionref02.parser).list -/
def x374 : XF := ⟨(.seq (.reg 
[⟨some 2, none, (.p (.move (.c .nils)))⟩]) (.seq (.reg 
[⟨some 3, none, (.p (.move (.c .nils)))⟩]) (.seq (.reg 
[⟨some 4, none, (.p (.move (.t 0)))⟩,
 ⟨some 5, none, (.e (.call (.c (.fn 247 [] [])) [(.t 4), (.c (.str [40]))]))⟩]) (.seq (.seq (.reg 
[⟨some 6, none, (.p (.move (.t 0)))⟩,
 ⟨some 7, none, (.e (.call (.c (.fn 293 [] [])) [(.t 6), (.c (.str [41]))]))⟩,
 ⟨some 8, none, (.p (.not (.t 7)))⟩]) (.cond (.t 8) (.seq (.reg 
[⟨some 9, none, (.p (.move (.t 3)))⟩,
 ⟨some 10, none, (.p (.move (.t 0)))⟩,
 ⟨some 11, none, (.e (.call (.c (.fn 344 [] [])) [(.t 10)]))⟩,
 ⟨some 12, none, (.p (.bslice 11 [(.agg [(.int .i64 0), (.str []), (.str []), (.int .i64 0), .nils, .nils, .nils, .nils, (.str []), .nils, (.int .i64 0)])] [(0, (.t 11))]))⟩,
 ⟨some 13, none, (.e (.app 11 192 (.t 9) (.t 12)))⟩,
 ⟨some 3, none, (.p (.move (.t 13)))⟩]) (.block 0 (.loop (.seq (.seq (.reg 
[⟨some 14, none, (.p (.move (.t 0)))⟩,
 ⟨some 15, none, (.e (.call (.c (.fn 243 [] [])) [(.t 14), (.c (.str [44]))]))⟩]) (.cond (.t 15) .skip (.exit 0))) (.block 1 (.reg 
[⟨some 16, none, (.p (.move (.t 3)))⟩,
 ⟨some 17, none, (.p (.move (.t 0)))⟩,
 ⟨some 18, none, (.e (.call (.c (.fn 344 [] [])) [(.t 17)]))⟩,
 ⟨some 19, none, (.p (.bslice 11 [(.agg [(.int .i64 0), (.str []), (.str []), (.int .i64 0), .nils, .nils, .nils, .nils, (.str []), .nils, (.int .i64 0)])] [(0, (.t 18))]))⟩,
 ⟨some 20, none, (.e (.app 11 192 (.t 16) (.t 19)))⟩,
 ⟨some 3, none, (.p (.move (.t 20)))⟩])))))) .skip)) (.seq (.reg 
[⟨some 21, none, (.p (.move (.t 0)))⟩,
 ⟨some 22, none, (.e (.call (.c (.fn 247 [] [])) [(.t 21), (.c (.str [41]))]))⟩]) (.seq (.reg 
[⟨some 23, none, (.p (.move (.t 3)))⟩,
 ⟨some 2, none, (.p (.move (.t 23)))⟩]) .ret)))))), [.t 2]⟩
/-- (*libevolution/libevolutionref02.parser).one -/
def x375 : XF := ⟨(.seq (.reg 
[⟨some 4, none, (.p (.move (.c .nils)))⟩]) (.seq (.reg 
[⟨some 7, none, (.p (.move (.t 0)))⟩,
 ⟨some 8, none, (.e (.call (.c (.fn 247 [] [])) [(.t 7), (.c (.str [40]))]))⟩]) (.seq (.reg 
[⟨some 9, none, (.p (.move (.t 0)))⟩,
 ⟨some 10, none, (.e (.call (.c (.fn 344 [] [])) [(.t 9)]))⟩,
 ⟨some 11, none, (.p (.bslice 11 [(.agg [(.int .i64 0), (.str []), (.str []), (.int .i64 0), .nils, .nils, .nils, .nils, (.str []), .nils, (.int .i64 0)])] [(0, (.t 10))]))⟩,
 ⟨some 5, none, (.p (.move (.t 11)))⟩]) (.seq (.seq (.reg 
[⟨some 6, none, (.p (.move (.c (.int .i64 1))))⟩]) (.block 0 (.loop (.seq (.seq (.reg 
[⟨some 12, none, (.p (.move (.t 6)))⟩,
 ⟨some 13, none, (.p (.move (.t 1)))⟩,
 ⟨some 14, none, (.p (.bin .lss .int (.t 12) (.t 13)))⟩]) (.cond (.t 14) .skip (.exit 0))) (.seq (.block 1 (.seq (.reg 
[⟨some 17, none, (.p (.move (.t 0)))⟩,
 ⟨some 18, none, (.e (.call (.c (.fn 247 [] [])) [(.t 17), (.c (.str [44]))]))⟩]) (.reg 
[⟨some 19, none, (.p (.move (.t 5)))⟩,
 ⟨some 20, none, (.p (.move (.t 0)))⟩,
 ⟨some 21, none, (.e (.call (.c (.fn 344 [] [])) [(.t 20)]))⟩,
 ⟨some 22, none, (.p (.bslice 11 [(.agg [(.int .i64 0), (.str []), (.str []), (.int .i64 0), .nils, .nils, .nils, .nils, (.str []), .nils, (.int .i64 0)])] [(0, (.t 21))]))⟩,
 ⟨some 23, none, (.e (.app 11 192 (.t 19) (.t 22)))⟩,
 ⟨some 5, none, (.p (.move (.t 23)))⟩]))) (.reg 
[⟨some 15, none, (.p (.move (.t 6)))⟩,
 ⟨some 16, none, (.p (.bin .add .int (.t 15) (.c (.int .i64 1))))⟩,
 ⟨some 6, none, (.p (.move (.t 16)))⟩])))))) (.seq (.reg 
[⟨some 24, none, (.p (.move (.t 0)))⟩,
 ⟨some 25, none, (.e (.call (.c (.fn 247 [] [])) [(.t 24), (.c (.str [41]))]))⟩]) (.seq (.reg 
[⟨some 26, none, (.p (.move (.t 5)))⟩,
 ⟨some 4, none, (.p (.move (.t 26)))⟩]) .ret)))))), [.t 4]⟩
/-- (*libevolution/libevolutionref02.parser).arms -/
def x376 : XF := ⟨(.seq (.reg 
[⟨some 5, none, (.p (.move (.t 0)))⟩,
 ⟨some 6, none, (.e (.call (.c (.fn 247 [] [])) [(.t 5), (.c (.str [123]))]))⟩]) (.block 0 (.loop (.seq (.seq (.reg 
[⟨some 7, none, (.p (.move (.t 0)))⟩,
 ⟨some 8, none, (.p (.nilc (.t 7)))⟩,
 ⟨some 9, none, (.p (.faddr 4 (.t 8)))⟩,
 ⟨some 10, none, (.l (.load 1 false (.t 9)))⟩,
 ⟨some 11, none, (.p (.bin .eql .int (.t 10) (.c (.int .i64 0))))⟩,
 ⟨some 12, none, (.p (.move (.t 11)))⟩,
 ⟨some 13, some (12, true), (.p (.move (.t 0)))⟩,
 ⟨some 14, some (12, true), (.e (.call (.c (.fn 243 [] [])) [(.t 13), (.c (.str [125]))]))⟩,
 ⟨some 15, some (12, true), (.p (.not (.t 14)))⟩,
 ⟨some 16, none, (.p (.pick (.t 12) (.t 15) (.c (.bool false))))⟩]) (.cond (.t 16) .skip (.exit 0))) (.block 1 (.seq (.reg 
[⟨some 4, none, (.e (.alloc [(.bool false), (.str []), .nils]))⟩]) (.seq (.seq (.reg 
[⟨some 17, none, (.p (.move (.t 0)))⟩,
 ⟨some 18, none, (.e (.call (.c (.fn 243 [] [])) [(.t 17), (.c (.str [101, 108, 115, 101]))]))⟩]) (.cond (.t 18) (.reg 
[⟨some 19, none, (.p (.faddr 0 (.t 4)))⟩,
 ⟨none, none, (.e (.store 1 (.t 19) (.c (.bool true))))⟩]) (.seq (.reg 
[⟨some 20, none, (.p (.move (.t 0)))⟩,
 ⟨some 21, none, (.e (.call (.c (.fn 246 [] [])) [(.t 20)]))⟩,
 ⟨some 22, none, (.p (.faddr 1 (.t 4)))⟩,
 ⟨none, none, (.e (.store 1 (.t 22) (.t 21)))⟩]) (.seq (.reg 
[⟨some 23, none, (.p (.move (.t 0)))⟩,
 ⟨some 24, none, (.e (.call (.c (.fn 243 [] [])) [(.t 23), (.c (.str [40]))]))⟩]) (.cond (.t 24) (.seq (.regd [] 
[⟨some 25, none, (.p (.faddr 2 (.t 4)))⟩,
 ⟨some 26, none, (.l (.load 1 false (.t 25)))⟩,
 ⟨some 27, none, (.p (.move (.t 0)))⟩,
 ⟨some 28, none, (.e (.call (.c (.fn 246 [] [])) [(.t 27)]))⟩,
 ⟨some 29, none, (.p (.bslice 1 [(.str [])] [(0, (.t 28))]))⟩,
 ⟨some 30, none, (.e (.app 1 16 (.t 26) (.t 29)))⟩,
 ⟨some 31, none, (.p (.faddr 2 (.t 4)))⟩,
 ⟨none, none, (.e (.store 1 (.t 31) (.t 30)))⟩] [(1, 3)]) (.seq (.block 2 (.loop (.seq (.seq (.reg 
[⟨some 32, none, (.p (.move (.t 0)))⟩,
 ⟨some 33, none, (.e (.call (.c (.fn 243 [] [])) [(.t 32), (.c (.str [44]))]))⟩]) (.cond (.t 33) .skip (.exit 2))) (.block 3 (.regd [] 
[⟨some 34, none, (.p (.faddr 2 (.t 4)))⟩,
 ⟨some 35, none, (.l (.load 1 false (.t 34)))⟩,
 ⟨some 36, none, (.p (.move (.t 0)))⟩,
 ⟨some 37, none, (.e (.call (.c (.fn 246 [] [])) [(.t 36)]))⟩,
 ⟨some 38, none, (.p (.bslice 1 [(.str [])] [(0, (.t 37))]))⟩,
 ⟨some 39, none, (.e (.app 1 16 (.t 35) (.t 38)))⟩,
 ⟨some 40, none, (.p (.faddr 2 (.t 4)))⟩,
 ⟨none, none, (.e (.store 1 (.t 40) (.t 39)))⟩] [(1, 3)]))))) (.reg 
[⟨some 41, none, (.p (.move (.t 0)))⟩,
 ⟨some 42, none, (.e (.call (.c (.fn 247 [] [])) [(.t 41), (.c (.str [41]))]))⟩]))) .skip))))) (.seq (.reg 
[⟨some 43, none, (.p (.move (.t 0)))⟩,
 ⟨some 44, none, (.e (.call (.c (.fn 247 [] [])) [(.t 43), (.c (.str [45, 62]))]))⟩]) (.seq (.regd [] 
[⟨some 45, none, (.p (.move (.t 1)))⟩,
 ⟨some 46, none, (.p (.move (.t 1)))⟩,
 ⟨some 47, none, (.p (.nilc (.t 46)))⟩,
 ⟨some 48, none, (.p (.faddr 6 (.t 47)))⟩,
 ⟨some 49, none, (.l (.load 1 false (.t 48)))⟩,
 ⟨some 50, none, (.l (.load 3 true (.t 4)))⟩,
 ⟨some 51, none, (.p (.bslice 3 [(.agg [(.bool false), (.str []), .nils])] [(0, (.t 50))]))⟩,
 ⟨some 52, none, (.e (.app 3 48 (.t 49) (.t 51)))⟩,
 ⟨some 53, none, (.p (.nilc (.t 45)))⟩,
 ⟨some 54, none, (.p (.faddr 6 (.t 53)))⟩,
 ⟨none, none, (.e (.store 1 (.t 54) (.t 52)))⟩] []) (.seq (.regd [] 
[⟨some 55, none, (.p (.move (.t 1)))⟩,
 ⟨some 56, none, (.p (.nilc (.t 55)))⟩,
 ⟨some 57, none, (.p (.faddr 7 (.t 56)))⟩,
 ⟨some 58, none, (.l (.load 1 false (.t 57)))⟩,
 ⟨some 59, none, (.p (.move (.t 0)))⟩,
 ⟨some 60, none, (.e (.call (.c (.fn 344 [] [])) [(.t 59)]))⟩,
 ⟨some 61, none, (.p (.lenl (.t 58)))⟩,
 ⟨some 62, none, (.p (.bslice 11 [(.agg [(.int .i64 0), (.str []), (.str []), (.int .i64 0), .nils, .nils, .nils, .nils, (.str []), .nils, (.int .i64 0)])] [(0, (.c (.agg [(.int .i64 0), (.str []), (.str []), (.int .i64 0), .nils, .nils, .nils, .nils, (.str []), .nils, (.int .i64 0)])))]))⟩,
 ⟨some 63, none, (.e (.app1 11 192 (.t 58) (.t 60) (.t 61) (.t 62)))⟩,
 ⟨some 64, none, (.p (.move (.c .any)))⟩,
 ⟨none, none, (.p (.move (.c (.tup []))))⟩,
 ⟨some 65, none, (.p (.nilc (.t 55)))⟩,
 ⟨some 66, none, (.p (.faddr 7 (.t 65)))⟩,
 ⟨none, none, (.e (.store 1 (.t 66) (.t 63)))⟩] [(3, 5)]) (.seq (.reg 
[⟨some 67, none, (.p (.move (.t 0)))⟩,
 ⟨some 68, none, (.e (.call (.c (.fn 247 [] [])) [(.t 67), (.c (.str [59]))]))⟩]) (.seq (.reg 
[⟨some 69, none, (.p (.faddr 0 (.t 4)))⟩,
 ⟨some 70, none, (.l (.load 1 false (.t 69)))⟩]) (.cond (.t 70) (.seq (.reg 
[⟨some 71, none, (.p (.move (.t 0)))⟩,
 ⟨some 72, none, (.e (.call (.c (.fn 247 [] [])) [(.t 71), (.c (.str [125]))]))⟩]) .ret) .skip))))))))))))), []⟩
/-- (*libevolution/libevolutionref02.parser).opens -/
def x377 : XF := ⟨(.seq (.reg 
[⟨some 4, none, (.p (.move (.c (.bool false))))⟩]) (.seq (.reg 
[⟨some 6, none, (.p (.move (.t 0)))⟩,
 ⟨some 7, none, (.p (.move (.t 1)))⟩,
 ⟨some 8, none, (.e (.call (.c (.fn 296 [] [])) [(.t 6), (.t 7)]))⟩,
 ⟨some 5, none, (.p (.move (.t 8)))⟩]) (.seq (.reg 
[⟨some 9, none, (.p (.move (.t 5)))⟩,
 ⟨some 10, none, (.p (.bin .eql .str (.t 9) (.c (.str [40]))))⟩,
 ⟨some 11, none, (.p (.move (.t 10)))⟩,
 ⟨some 12, some (11, false), (.p (.move (.t 5)))⟩,
 ⟨some 13, some (11, false), (.p (.bin .eql .str (.t 12) (.c (.str [123]))))⟩,
 ⟨some 14, none, (.p (.pick (.t 11) (.c (.bool true)) (.t 13)))⟩,
 ⟨some 15, none, (.p (.move (.t 14)))⟩,
 ⟨some 16, some (15, false), (.p (.move (.t 5)))⟩,
 ⟨some 17, some (15, false), (.p (.bin .eql .str (.t 16) (.c (.str [91]))))⟩,
 ⟨some 18, none, (.p (.pick (.t 15) (.c (.bool true)) (.t 17)))⟩,
 ⟨some 4, none, (.p (.move (.t 18)))⟩]) .ret))), [.t 4]⟩
end Go.Proofs.YthlkmffimhnehaaGreat
