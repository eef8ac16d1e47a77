/- The table of types is right; no condition. -/
import Derived.Test.YthlkmffimhnehaaGreatProg
import Derived.Test.YthlkmffimhnehaaGreatMa
import Derived.Test.YthlkmffimhnehaaGreatMf
import Derived.Test.YthlkmffimhnehaaGreatRows
import Derived.WalkKit
import Derived.Laws.StructEq
namespace Go.Proofs.YthlkmffimhnehaaGreat
open Go.Ev
set_option maxRecDepth 10000
def ti1 : TI := ⟨.func, 1, 8, .nilf, false⟩
def ti2 : TI := ⟨(.int .i64), 1, 8, (.int .i64 0), false⟩
def ti3 : TI := ⟨(.int .i64), 1, 8, (.int .i64 0), false⟩
def ti4 : TI := ⟨.bool, 1, 1, (.bool false), false⟩
def ti5 : TI := ⟨(.int .u8), 1, 1, (.int .u8 0), false⟩
def ti6 : TI := ⟨(.int .u8), 1, 1, (.int .u8 0), false⟩
def ti7 : TI := ⟨(.struct [(0, 2), (1, 3), (2, 4), (3, 6)]), 4, 24, (.agg [(.int .i64 0), (.int .i64 0), (.bool false), (.int .u8 0)]), false⟩
def ti8 : TI := ⟨(.struct [(0, 2), (1, 3), (2, 4), (3, 6)]), 4, 24, (.agg [(.int .i64 0), (.int .i64 0), (.bool false), (.int .u8 0)]), false⟩
def ti9 : TI := ⟨.str, 1, 16, (.str []), false⟩
def ti10 : TI := ⟨.str, 1, 16, (.str []), false⟩
def ti11 : TI := ⟨.str, 1, 16, (.str []), false⟩
def ti12 : TI := ⟨(.int .u64), 1, 8, (.int .u64 0), false⟩
def ti13 : TI := ⟨(.struct [(0, 9), (1, 12)]), 2, 24, (.agg [(.str []), (.int .u64 0)]), false⟩
def ti14 : TI := ⟨(.struct [(0, 9), (1, 12)]), 2, 24, (.agg [(.str []), (.int .u64 0)]), false⟩
def ti15 : TI := ⟨.ptr, 1, 8, .nilp, false⟩
def ti16 : TI := ⟨.ptr, 1, 8, .nilp, false⟩
def ti17 : TI := ⟨.ptr, 1, 8, .nilp, false⟩
def ti18 : TI := ⟨(.struct [(0, 17)]), 1, 8, (.agg [.nilp]), false⟩
def ti19 : TI := ⟨(.struct [(0, 17)]), 1, 8, (.agg [.nilp]), false⟩
def ti21 : TI := ⟨(.int .i32), 1, 4, (.int .i32 0), false⟩
def ti22 : TI := ⟨(.slice 3), 1, 24, .nils, false⟩
def ti23 : TI := ⟨.func, 1, 8, .nilf, false⟩
def ti24 : TI := ⟨.func, 1, 8, .nilf, false⟩
def ti25 : TI := ⟨.ptr, 1, 8, .nilp, false⟩
def ti26 : TI := ⟨.func, 1, 8, .nilf, false⟩
def ti27 : TI := ⟨(.slice 9), 1, 24, .nils, false⟩
def ti28 : TI := ⟨(.slice 51), 1, 24, .nils, false⟩
def ti30 : TI := ⟨.func, 1, 8, .nilf, false⟩
def ti31 : TI := ⟨.func, 1, 8, .nilf, false⟩
def ti32 : TI := ⟨.func, 1, 8, .nilf, false⟩
def ti33 : TI := ⟨.func, 1, 8, .nilf, false⟩
def ti34 : TI := ⟨(.slice 80), 1, 24, .nils, false⟩
def ti35 : TI := ⟨(.int .i64), 1, 8, (.int .i64 0), false⟩
def ti37 : TI := ⟨.func, 1, 8, .nilf, false⟩
def ti38 : TI := ⟨.func, 1, 8, .nilf, false⟩
def ti39 : TI := ⟨.func, 1, 8, .nilf, false⟩
def ti40 : TI := ⟨.func, 1, 8, .nilf, false⟩
def ti41 : TI := ⟨.func, 1, 8, .nilf, false⟩
def ti43 : TI := ⟨.func, 1, 8, .nilf, false⟩
def ti44 : TI := ⟨(.slice 54), 1, 24, .nils, false⟩
def ti45 : TI := ⟨(.slice 106), 1, 24, .nils, false⟩
def ti46 : TI := ⟨(.slice 111), 1, 24, .nils, false⟩
def ti47 : TI := ⟨(.slice 116), 1, 24, .nils, false⟩
def ti48 : TI := ⟨(.slice 174), 1, 24, .nils, false⟩
def ti49 : TI := ⟨(.slice 67), 1, 24, .nils, false⟩
def ti50 : TI := ⟨(.struct [(0, 3), (1, 9), (2, 3), (3, 44), (4, 45), (5, 46), (6, 47), (7, 48), (8, 49)]), 9, 176, (.agg [(.int .i64 0), (.str []), (.int .i64 0), .nils, .nils, .nils, .nils, .nils, .nils]), false⟩
def ti51 : TI := ⟨(.struct [(0, 3), (1, 9), (2, 3), (3, 44), (4, 45), (5, 46), (6, 47), (7, 48), (8, 49)]), 9, 176, (.agg [(.int .i64 0), (.str []), (.int .i64 0), .nils, .nils, .nils, .nils, .nils, .nils]), false⟩
def ti52 : TI := ⟨.func, 1, 8, .nilf, false⟩
def ti53 : TI := ⟨(.struct [(0, 9), (1, 3)]), 2, 24, (.agg [(.str []), (.int .i64 0)]), false⟩
def ti54 : TI := ⟨(.struct [(0, 9), (1, 3)]), 2, 24, (.agg [(.str []), (.int .i64 0)]), true⟩
def ti56 : TI := ⟨.func, 1, 8, .nilf, false⟩
def ti57 : TI := ⟨(.slice 215), 1, 24, .nils, false⟩
def ti58 : TI := ⟨(.slice 195), 1, 24, .nils, false⟩
def ti59 : TI := ⟨(.slice 61), 1, 24, .nils, false⟩
def ti60 : TI := ⟨(.struct [(0, 9), (1, 59)]), 2, 40, (.agg [(.str []), .nils]), false⟩
def ti61 : TI := ⟨(.struct [(0, 9), (1, 59)]), 2, 40, (.agg [(.str []), .nils]), false⟩
def ti62 : TI := ⟨(.slice 266), 1, 24, .nils, false⟩
def ti63 : TI := ⟨(.slice 65), 1, 24, .nils, false⟩
def ti64 : TI := ⟨(.struct [(0, 3), (1, 9), (2, 9), (3, 2), (4, 59), (5, 27), (6, 62), (7, 63), (8, 61), (10, 3)]), 11, 192, (.agg [(.int .i64 0), (.str []), (.str []), (.int .i64 0), .nils, .nils, .nils, .nils, (.str []), .nils, (.int .i64 0)]), false⟩
def ti65 : TI := ⟨(.struct [(0, 3), (1, 9), (2, 9), (3, 2), (4, 59), (5, 27), (6, 62), (7, 63), (8, 61), (10, 3)]), 11, 192, (.agg [(.int .i64 0), (.str []), (.str []), (.int .i64 0), .nils, .nils, .nils, .nils, (.str []), .nils, (.int .i64 0)]), false⟩
def ti66 : TI := ⟨(.struct [(0, 3), (1, 4), (2, 4), (3, 9), (4, 57), (5, 58), (6, 61), (8, 4), (9, 65)]), 20, 320, (.agg [(.int .i64 0), (.bool false), (.bool false), (.str []), .nils, .nils, (.str []), .nils, (.bool false), (.int .i64 0), (.str []), (.str []), (.int .i64 0), .nils, .nils, .nils, .nils, (.str []), .nils, (.int .i64 0)]), false⟩
def ti67 : TI := ⟨(.struct [(0, 3), (1, 4), (2, 4), (3, 9), (4, 57), (5, 58), (6, 61), (8, 4), (9, 65)]), 20, 320, (.agg [(.int .i64 0), (.bool false), (.bool false), (.str []), .nils, .nils, (.str []), .nils, (.bool false), (.int .i64 0), (.str []), (.str []), (.int .i64 0), .nils, .nils, .nils, .nils, (.str []), .nils, (.int .i64 0)]), false⟩
def ti68 : TI := ⟨.func, 1, 8, .nilf, false⟩
def ti69 : TI := ⟨.func, 1, 8, .nilf, false⟩
def ti70 : TI := ⟨(.slice 5), 1, 24, .nils, false⟩
def ti71 : TI := ⟨.func, 1, 8, .nilf, false⟩
def ti73 : TI := ⟨.func, 1, 8, .nilf, false⟩
def ti75 : TI := ⟨.func, 1, 8, .nilf, false⟩
def ti77 : TI := ⟨.func, 1, 8, .nilf, false⟩
def ti78 : TI := ⟨.func, 1, 8, .nilf, false⟩
def ti79 : TI := ⟨(.struct [(0, 3), (1, 9), (2, 3)]), 3, 32, (.agg [(.int .i64 0), (.str []), (.int .i64 0)]), false⟩
def ti80 : TI := ⟨(.struct [(0, 3), (1, 9), (2, 3)]), 3, 32, (.agg [(.int .i64 0), (.str []), (.int .i64 0)]), true⟩
def ti81 : TI := ⟨(.struct [(0, 22), (1, 3)]), 2, 32, (.agg [.nils, (.int .i64 0)]), false⟩
def ti82 : TI := ⟨(.struct [(0, 22), (1, 3)]), 2, 32, (.agg [.nils, (.int .i64 0)]), false⟩
def ti84 : TI := ⟨.func, 1, 8, .nilf, false⟩
def ti85 : TI := ⟨.func, 1, 8, .nilf, false⟩
def ti87 : TI := ⟨.func, 1, 8, .nilf, false⟩
def ti88 : TI := ⟨.func, 1, 8, .nilf, false⟩
def ti89 : TI := ⟨.func, 1, 8, .nilf, false⟩
def ti91 : TI := ⟨.func, 1, 8, .nilf, false⟩
def ti92 : TI := ⟨.ptr, 1, 8, .nilp, false⟩
def ti93 : TI := ⟨.func, 1, 8, .nilf, false⟩
def ti94 : TI := ⟨(.struct [(0, 51), (9, 93)]), 10, 184, (.agg [(.int .i64 0), (.str []), (.int .i64 0), .nils, .nils, .nils, .nils, .nils, .nils, .nilf]), false⟩
def ti95 : TI := ⟨(.struct [(0, 51), (9, 93)]), 10, 184, (.agg [(.int .i64 0), (.str []), (.int .i64 0), .nils, .nils, .nils, .nils, .nils, .nils, .nilf]), false⟩
def ti96 : TI := ⟨.ptr, 1, 8, .nilp, false⟩
def ti97 : TI := ⟨(.struct [(0, 3), (1, 3), (2, 96)]), 3, 24, (.agg [(.int .i64 0), (.int .i64 0), .nilp]), false⟩
def ti98 : TI := ⟨(.struct [(0, 3), (1, 3), (2, 96)]), 3, 24, (.agg [(.int .i64 0), (.int .i64 0), .nilp]), false⟩
def ti100 : TI := ⟨.func, 1, 8, .nilf, false⟩
def ti101 : TI := ⟨.func, 1, 8, .nilf, false⟩
def ti102 : TI := ⟨.func, 1, 8, .nilf, false⟩
def ti103 : TI := ⟨.func, 1, 8, .nilf, false⟩
def ti104 : TI := ⟨(.slice 164), 1, 24, .nils, false⟩
def ti105 : TI := ⟨(.struct [(0, 3), (1, 4), (2, 4), (3, 9), (4, 27), (5, 104)]), 6, 80, (.agg [(.int .i64 0), (.bool false), (.bool false), (.str []), .nils, .nils]), false⟩
def ti106 : TI := ⟨(.struct [(0, 3), (1, 4), (2, 4), (3, 9), (4, 27), (5, 104)]), 6, 80, (.agg [(.int .i64 0), (.bool false), (.bool false), (.str []), .nils, .nils]), false⟩
def ti108 : TI := ⟨.func, 1, 8, .nilf, false⟩
def ti109 : TI := ⟨(.slice 168), 1, 24, .nils, false⟩
def ti110 : TI := ⟨(.struct [(0, 3), (1, 4), (2, 4), (3, 9), (4, 27), (5, 109)]), 6, 80, (.agg [(.int .i64 0), (.bool false), (.bool false), (.str []), .nils, .nils]), false⟩
def ti111 : TI := ⟨(.struct [(0, 3), (1, 4), (2, 4), (3, 9), (4, 27), (5, 109)]), 6, 80, (.agg [(.int .i64 0), (.bool false), (.bool false), (.str []), .nils, .nils]), false⟩
def ti113 : TI := ⟨.func, 1, 8, .nilf, false⟩
def ti114 : TI := ⟨(.slice 171), 1, 24, .nils, false⟩
def ti115 : TI := ⟨(.struct [(0, 3), (1, 4), (2, 4), (3, 9), (4, 114)]), 5, 56, (.agg [(.int .i64 0), (.bool false), (.bool false), (.str []), .nils]), false⟩
def ti116 : TI := ⟨(.struct [(0, 3), (1, 4), (2, 4), (3, 9), (4, 114)]), 5, 56, (.agg [(.int .i64 0), (.bool false), (.bool false), (.str []), .nils]), false⟩
def ti118 : TI := ⟨.func, 1, 8, .nilf, false⟩
def ti120 : TI := ⟨.func, 1, 8, .nilf, false⟩
def ti121 : TI := ⟨.func, 1, 8, .nilf, false⟩
def ti122 : TI := ⟨.func, 1, 8, .nilf, false⟩
def ti123 : TI := ⟨.func, 1, 8, .nilf, false⟩
def ti124 : TI := ⟨(.slice 127), 1, 24, .nils, false⟩
def ti125 : TI := ⟨.func, 1, 8, .nilf, false⟩
def ti126 : TI := ⟨(.struct [(0, 9), (1, 3), (2, 3), (3, 3)]), 4, 40, (.agg [(.str []), (.int .i64 0), (.int .i64 0), (.int .i64 0)]), false⟩
def ti127 : TI := ⟨(.struct [(0, 9), (1, 3), (2, 3), (3, 3)]), 4, 40, (.agg [(.str []), (.int .i64 0), (.int .i64 0), (.int .i64 0)]), false⟩
def ti128 : TI := ⟨.func, 1, 8, .nilf, false⟩
def ti129 : TI := ⟨.func, 1, 8, .nilf, false⟩
def ti130 : TI := ⟨.func, 1, 8, .nilf, false⟩
def ti132 : TI := ⟨.func, 1, 8, .nilf, false⟩
def ti133 : TI := ⟨(.struct [(0, 51), (9, 28), (10, 27), (11, 4), (12, 3), (13, 3), (14, 35)]), 15, 256, (.agg [(.int .i64 0), (.str []), (.int .i64 0), .nils, .nils, .nils, .nils, .nils, .nils, .nils, .nils, (.bool false), (.int .i64 0), (.int .i64 0), (.int .i64 0)]), false⟩
def ti134 : TI := ⟨(.struct [(0, 51), (9, 28), (10, 27), (11, 4), (12, 3), (13, 3), (14, 35)]), 15, 256, (.agg [(.int .i64 0), (.str []), (.int .i64 0), .nils, .nils, .nils, .nils, .nils, .nils, .nils, .nils, (.bool false), (.int .i64 0), (.int .i64 0), (.int .i64 0)]), false⟩
def ti135 : TI := ⟨.func, 1, 8, .nilf, false⟩
def ti136 : TI := ⟨.ptr, 1, 8, .nilp, false⟩
def ti137 : TI := ⟨.ptr, 1, 8, .nilp, false⟩
def ti138 : TI := ⟨(.struct [(0, 25), (1, 28), (2, 27), (3, 51)]), 12, 232, (.agg [.nilp, .nils, .nils, (.int .i64 0), (.str []), (.int .i64 0), .nils, .nils, .nils, .nils, .nils, .nils]), false⟩
def ti139 : TI := ⟨(.struct [(0, 25), (1, 28), (2, 27), (3, 51)]), 12, 232, (.agg [.nilp, .nils, .nils, (.int .i64 0), (.str []), (.int .i64 0), .nils, .nils, .nils, .nils, .nils, .nils]), false⟩
def ti140 : TI := ⟨.func, 1, 8, .nilf, false⟩
def ti141 : TI := ⟨.func, 1, 8, .nilf, false⟩
def ti142 : TI := ⟨.func, 1, 8, .nilf, false⟩
def ti143 : TI := ⟨.func, 1, 8, .nilf, false⟩
def ti144 : TI := ⟨.func, 1, 8, .nilf, false⟩
def ti145 : TI := ⟨.func, 1, 8, .nilf, false⟩
def ti146 : TI := ⟨.func, 1, 8, .nilf, false⟩
def ti147 : TI := ⟨.func, 1, 8, .nilf, false⟩
def ti149 : TI := ⟨.func, 1, 8, .nilf, false⟩
def ti150 : TI := ⟨.func, 1, 8, .nilf, false⟩
def ti151 : TI := ⟨.func, 1, 8, .nilf, false⟩
def ti152 : TI := ⟨.func, 1, 8, .nilf, false⟩
def ti153 : TI := ⟨.func, 1, 8, .nilf, false⟩
def ti154 : TI := ⟨.func, 1, 8, .nilf, false⟩
def ti155 : TI := ⟨.func, 1, 8, .nilf, false⟩
def ti156 : TI := ⟨.func, 1, 8, .nilf, false⟩
def ti157 : TI := ⟨.func, 1, 8, .nilf, false⟩
def ti158 : TI := ⟨.func, 1, 8, .nilf, false⟩
def ti159 : TI := ⟨.func, 1, 8, .nilf, false⟩
def ti160 : TI := ⟨.func, 1, 8, .nilf, false⟩
def ti161 : TI := ⟨(.struct [(0, 9), (1, 3), (2, 96)]), 3, 32, (.agg [(.str []), (.int .i64 0), .nilp]), false⟩
def ti162 : TI := ⟨(.struct [(0, 9), (1, 3), (2, 96)]), 3, 32, (.agg [(.str []), (.int .i64 0), .nilp]), false⟩
def ti163 : TI := ⟨(.struct [(0, 4), (1, 9), (2, 61)]), 4, 64, (.agg [(.bool false), (.str []), (.str []), .nils]), false⟩
def ti164 : TI := ⟨(.struct [(0, 4), (1, 9), (2, 61)]), 4, 64, (.agg [(.bool false), (.str []), (.str []), .nils]), false⟩
def ti165 : TI := ⟨.func, 1, 8, .nilf, false⟩
def ti166 : TI := ⟨.func, 1, 8, .nilf, false⟩
def ti167 : TI := ⟨(.struct [(0, 4), (1, 9), (2, 59)]), 3, 48, (.agg [(.bool false), (.str []), .nils]), false⟩
def ti168 : TI := ⟨(.struct [(0, 4), (1, 9), (2, 59)]), 3, 48, (.agg [(.bool false), (.str []), .nils]), false⟩
def ti169 : TI := ⟨.func, 1, 8, .nilf, false⟩
def ti170 : TI := ⟨(.struct [(0, 9), (1, 59), (2, 61), (4, 9)]), 5, 96, (.agg [(.str []), .nils, (.str []), .nils, (.str [])]), false⟩
def ti171 : TI := ⟨(.struct [(0, 9), (1, 59), (2, 61), (4, 9)]), 5, 96, (.agg [(.str []), .nils, (.str []), .nils, (.str [])]), false⟩
def ti172 : TI := ⟨(.slice 177), 1, 24, .nils, false⟩
def ti173 : TI := ⟨(.struct [(0, 9), (1, 57), (2, 61), (4, 172)]), 5, 104, (.agg [(.str []), .nils, (.str []), .nils, .nils]), false⟩
def ti174 : TI := ⟨(.struct [(0, 9), (1, 57), (2, 61), (4, 172)]), 5, 104, (.agg [(.str []), .nils, (.str []), .nils, .nils]), false⟩
def ti175 : TI := ⟨.func, 1, 8, .nilf, false⟩
def ti176 : TI := ⟨(.struct [(0, 9), (1, 9)]), 2, 32, (.agg [(.str []), (.str [])]), false⟩
def ti177 : TI := ⟨(.struct [(0, 9), (1, 9)]), 2, 32, (.agg [(.str []), (.str [])]), false⟩
def ti178 : TI := ⟨.func, 1, 8, .nilf, false⟩
def ti179 : TI := ⟨(.map 4 9), 1, 8, .nilm, false⟩
def ti180 : TI := ⟨.func, 1, 8, .nilf, false⟩
def ti181 : TI := ⟨.func, 1, 8, .nilf, false⟩
def ti182 : TI := ⟨.func, 1, 8, .nilf, false⟩
def ti183 : TI := ⟨.func, 1, 8, .nilf, false⟩
def ti184 : TI := ⟨.func, 1, 8, .nilf, false⟩
def ti185 : TI := ⟨.func, 1, 8, .nilf, false⟩
def ti186 : TI := ⟨.func, 1, 8, .nilf, false⟩
def ti187 : TI := ⟨(.struct [(0, 51), (9, 3), (10, 3), (11, 124)]), 12, 216, (.agg [(.int .i64 0), (.str []), (.int .i64 0), .nils, .nils, .nils, .nils, .nils, .nils, (.int .i64 0), (.int .i64 0), .nils]), false⟩
def ti188 : TI := ⟨(.struct [(0, 51), (9, 3), (10, 3), (11, 124)]), 12, 216, (.agg [(.int .i64 0), (.str []), (.int .i64 0), .nils, .nils, .nils, .nils, .nils, .nils, (.int .i64 0), (.int .i64 0), .nils]), false⟩
def ti189 : TI := ⟨.func, 1, 8, .nilf, false⟩
def ti190 : TI := ⟨.func, 1, 8, .nilf, false⟩
def ti191 : TI := ⟨.func, 1, 8, .nilf, false⟩
def ti192 : TI := ⟨.func, 1, 8, .nilf, false⟩
def ti193 : TI := ⟨.func, 1, 8, .nilf, false⟩
def ti194 : TI := ⟨(.struct [(0, 9), (1, 61), (3, 4), (4, 65)]), 15, 256, (.agg [(.str []), (.str []), .nils, (.bool false), (.int .i64 0), (.str []), (.str []), (.int .i64 0), .nils, .nils, .nils, .nils, (.str []), .nils, (.int .i64 0)]), false⟩
def ti195 : TI := ⟨(.struct [(0, 9), (1, 61), (3, 4), (4, 65)]), 15, 256, (.agg [(.str []), (.str []), .nils, (.bool false), (.int .i64 0), (.str []), (.str []), (.int .i64 0), .nils, .nils, .nils, .nils, (.str []), .nils, (.int .i64 0)]), false⟩
def ti196 : TI := ⟨.func, 1, 8, .nilf, false⟩
def ti197 : TI := ⟨.func, 1, 8, .nilf, false⟩
def ti198 : TI := ⟨.func, 1, 8, .nilf, false⟩
def ti199 : TI := ⟨.func, 1, 8, .nilf, false⟩
def ti200 : TI := ⟨.func, 1, 8, .nilf, false⟩
def ti201 : TI := ⟨(.slice 4), 1, 24, .nils, false⟩
def ti202 : TI := ⟨.func, 1, 8, .nilf, false⟩
def ti203 : TI := ⟨.ptr, 1, 8, .nilp, false⟩
def ti204 : TI := ⟨.func, 1, 8, .nilf, false⟩
def ti205 : TI := ⟨.func, 1, 8, .nilf, false⟩
def ti206 : TI := ⟨.func, 1, 8, .nilf, false⟩
def ti207 : TI := ⟨.func, 1, 8, .nilf, false⟩
def ti208 : TI := ⟨.func, 1, 8, .nilf, false⟩
def ti209 : TI := ⟨.func, 1, 8, .nilf, false⟩
def ti211 : TI := ⟨.func, 1, 8, .nilf, false⟩
def ti212 : TI := ⟨.func, 1, 8, .nilf, false⟩
def ti213 : TI := ⟨.func, 1, 8, .nilf, false⟩
def ti214 : TI := ⟨(.struct [(0, 9), (1, 27)]), 2, 40, (.agg [(.str []), .nils]), false⟩
def ti215 : TI := ⟨(.struct [(0, 9), (1, 27)]), 2, 40, (.agg [(.str []), .nils]), false⟩
def ti216 : TI := ⟨.func, 1, 8, .nilf, false⟩
def ti217 : TI := ⟨.func, 1, 8, .nilf, false⟩
def ti218 : TI := ⟨.func, 1, 8, .nilf, false⟩
def ti219 : TI := ⟨.func, 1, 8, .nilf, false⟩
def ti220 : TI := ⟨.ptr, 1, 8, .nilp, false⟩
def ti221 : TI := ⟨(.struct [(0, 25), (1, 28), (2, 9), (3, 27), (4, 57), (5, 3), (6, 3)]), 7, 112, (.agg [.nilp, .nils, (.str []), .nils, .nils, (.int .i64 0), (.int .i64 0)]), false⟩
def ti222 : TI := ⟨(.struct [(0, 25), (1, 28), (2, 9), (3, 27), (4, 57), (5, 3), (6, 3)]), 7, 112, (.agg [.nilp, .nils, (.str []), .nils, .nils, (.int .i64 0), (.int .i64 0)]), false⟩
def ti223 : TI := ⟨.ptr, 1, 8, .nilp, false⟩
def ti224 : TI := ⟨.func, 1, 8, .nilf, false⟩
def ti225 : TI := ⟨.func, 1, 8, .nilf, false⟩
def ti226 : TI := ⟨.func, 1, 8, .nilf, false⟩
def ti227 : TI := ⟨.func, 1, 8, .nilf, false⟩
def ti228 : TI := ⟨.func, 1, 8, .nilf, false⟩
def ti229 : TI := ⟨.func, 1, 8, .nilf, false⟩
def ti230 : TI := ⟨.func, 1, 8, .nilf, false⟩
def ti231 : TI := ⟨.func, 1, 8, .nilf, false⟩
def ti232 : TI := ⟨.func, 1, 8, .nilf, false⟩
def ti234 : TI := ⟨.func, 1, 8, .nilf, false⟩
def ti236 : TI := ⟨.func, 1, 8, .nilf, false⟩
def ti237 : TI := ⟨.ptr, 1, 8, .nilp, false⟩
def ti239 : TI := ⟨.func, 1, 8, .nilf, false⟩
def ti240 : TI := ⟨.func, 1, 8, .nilf, false⟩
def ti241 : TI := ⟨.func, 1, 8, .nilf, false⟩
def ti242 : TI := ⟨(.map 9 4), 1, 8, .nilm, false⟩
def ti243 : TI := ⟨.func, 1, 8, .nilf, false⟩
def ti244 : TI := ⟨.func, 1, 8, .nilf, false⟩
def ti245 : TI := ⟨.func, 1, 8, .nilf, false⟩
def ti246 : TI := ⟨.func, 1, 8, .nilf, false⟩
def ti247 : TI := ⟨.func, 1, 8, .nilf, false⟩
def ti248 : TI := ⟨.func, 1, 8, .nilf, false⟩
def ti249 : TI := ⟨.func, 1, 8, .nilf, false⟩
def ti250 : TI := ⟨.func, 1, 8, .nilf, false⟩
def ti251 : TI := ⟨.func, 1, 8, .nilf, false⟩
def ti252 : TI := ⟨.func, 1, 8, .nilf, false⟩
def ti253 : TI := ⟨.ptr, 1, 8, .nilp, false⟩
def ti254 : TI := ⟨(.slice 258), 1, 24, .nils, false⟩
def ti255 : TI := ⟨.func, 1, 8, .nilf, false⟩
def ti256 : TI := ⟨.func, 1, 8, .nilf, false⟩
def ti257 : TI := ⟨(.struct [(0, 9), (1, 3)]), 2, 24, (.agg [(.str []), (.int .i64 0)]), false⟩
def ti258 : TI := ⟨(.struct [(0, 9), (1, 3)]), 2, 24, (.agg [(.str []), (.int .i64 0)]), false⟩
def ti259 : TI := ⟨.func, 1, 8, .nilf, false⟩
def ti260 : TI := ⟨.func, 1, 8, .nilf, false⟩
def ti261 : TI := ⟨.func, 1, 8, .nilf, false⟩
def ti263 : TI := ⟨.func, 1, 8, .nilf, false⟩
def ti264 : TI := ⟨.func, 1, 8, .nilf, false⟩
def ti265 : TI := ⟨(.struct [(0, 4), (1, 9), (2, 27)]), 3, 48, (.agg [(.bool false), (.str []), .nils]), false⟩
def ti266 : TI := ⟨(.struct [(0, 4), (1, 9), (2, 27)]), 3, 48, (.agg [(.bool false), (.str []), .nils]), false⟩
def ti267 : TI := ⟨.func, 1, 8, .nilf, false⟩
def ti268 : TI := ⟨.func, 1, 8, .nilf, false⟩
def ti269 : TI := ⟨.ptr, 1, 8, .nilp, false⟩
def ti271 : TI := ⟨.func, 1, 8, .nilf, false⟩
def ti272 : TI := ⟨.func, 1, 8, .nilf, false⟩
def ti273 : TI := ⟨.func, 1, 8, .nilf, false⟩
def ti274 : TI := ⟨.func, 1, 8, .nilf, false⟩
def ti275 : TI := ⟨.func, 1, 8, .nilf, false⟩
def ti276 : TI := ⟨.func, 1, 8, .nilf, false⟩
def ti277 : TI := ⟨.func, 1, 8, .nilf, false⟩
def ti278 : TI := ⟨.func, 1, 8, .nilf, false⟩
def ti279 : TI := ⟨(.int .u64), 1, 8, (.int .u64 0), false⟩
def ti280 : TI := ⟨.func, 1, 8, .nilf, false⟩
def ti281 : TI := ⟨.func, 1, 8, .nilf, false⟩
def ti282 : TI := ⟨.func, 1, 8, .nilf, false⟩
def ti283 : TI := ⟨.func, 1, 8, .nilf, false⟩
def ti284 : TI := ⟨.func, 1, 8, .nilf, false⟩
def ti285 : TI := ⟨.func, 1, 8, .nilf, false⟩
def ti286 : TI := ⟨.func, 1, 8, .nilf, false⟩
def ti287 : TI := ⟨.func, 1, 8, .nilf, false⟩
def ti289 : TI := ⟨.func, 1, 8, .nilf, false⟩
def ti290 : TI := ⟨.func, 1, 8, .nilf, false⟩
def ti291 : TI := ⟨.func, 1, 8, .nilf, false⟩
def ti292 : TI := ⟨.func, 1, 8, .nilf, false⟩
def ti293 : TI := ⟨.func, 1, 8, .nilf, false⟩
def ti294 : TI := ⟨(.struct [(0, 34), (1, 3), (2, 3), (3, 3), (4, 35)]), 5, 56, (.agg [.nils, (.int .i64 0), (.int .i64 0), (.int .i64 0), (.int .i64 0)]), false⟩
def ti295 : TI := ⟨(.struct [(0, 34), (1, 3), (2, 3), (3, 3), (4, 35)]), 5, 56, (.agg [.nils, (.int .i64 0), (.int .i64 0), (.int .i64 0), (.int .i64 0)]), false⟩
def ti296 : TI := ⟨.func, 1, 8, .nilf, false⟩
def ti297 : TI := ⟨.func, 1, 8, .nilf, false⟩
def ti298 : TI := ⟨.func, 1, 8, .nilf, false⟩
def ti299 : TI := ⟨.func, 1, 8, .nilf, false⟩
def ti300 : TI := ⟨.func, 1, 8, .nilf, false⟩
def ti301 : TI := ⟨.func, 1, 8, .nilf, false⟩
def ti302 : TI := ⟨.func, 1, 8, .nilf, false⟩
def ti303 : TI := ⟨(.slice 2), 1, 24, .nils, false⟩
def ti305 : TI := ⟨.func, 1, 8, .nilf, false⟩
def ti306 : TI := ⟨.func, 1, 8, .nilf, false⟩
def ti307 : TI := ⟨.func, 1, 8, .nilf, false⟩
def ti308 : TI := ⟨.func, 1, 8, .nilf, false⟩
def ti309 : TI := ⟨.func, 1, 8, .nilf, false⟩
def ti310 : TI := ⟨.func, 1, 8, .nilf, false⟩
def ti311 : TI := ⟨.func, 1, 8, .nilf, false⟩
def ti312 : TI := ⟨.func, 1, 8, .nilf, false⟩
def ti313 : TI := ⟨.func, 1, 8, .nilf, false⟩
def ti314 : TI := ⟨.func, 1, 8, .nilf, false⟩
def ti315 : TI := ⟨.func, 1, 8, .nilf, false⟩
def ti317 : TI := ⟨.func, 1, 8, .nilf, false⟩
def ti318 : TI := ⟨.func, 1, 8, .nilf, false⟩
def ti319 : TI := ⟨.func, 1, 8, .nilf, false⟩
def ti321 : TI := ⟨.func, 1, 8, .nilf, false⟩
def ti323 : TI := ⟨.func, 1, 8, .nilf, false⟩
def ti324 : TI := ⟨.func, 1, 8, .nilf, false⟩
def ti325 : TI := ⟨.func, 1, 8, .nilf, false⟩
def ti326 : TI := ⟨(.struct [(0, 28), (1, 9), (2, 57), (3, 3), (4, 35)]), 5, 80, (.agg [.nils, (.str []), .nils, (.int .i64 0), (.int .i64 0)]), false⟩
def ti327 : TI := ⟨(.struct [(0, 28), (1, 9), (2, 57), (3, 3), (4, 35)]), 5, 80, (.agg [.nils, (.str []), .nils, (.int .i64 0), (.int .i64 0)]), false⟩
def ti328 : TI := ⟨.func, 1, 8, .nilf, false⟩
def ti329 : TI := ⟨.func, 1, 8, .nilf, false⟩
def ti330 : TI := ⟨.func, 1, 8, .nilf, false⟩
def ti331 : TI := ⟨.func, 1, 8, .nilf, false⟩
def ti332 : TI := ⟨.func, 1, 8, .nilf, false⟩
def ti333 : TI := ⟨.func, 1, 8, .nilf, false⟩
def ti334 : TI := ⟨.func, 1, 8, .nilf, false⟩
def ti335 : TI := ⟨.func, 1, 8, .nilf, false⟩
def ti336 : TI := ⟨(.int .u64), 1, 8, (.int .u64 0), false⟩
def ti337 : TI := ⟨(.struct [(0, 3), (1, 3), (2, 4), (3, 4), (4, 4), (5, 4), (6, 4)]), 7, 24, (.agg [(.int .i64 0), (.int .i64 0), (.bool false), (.bool false), (.bool false), (.bool false), (.bool false)]), false⟩
def ti338 : TI := ⟨(.struct [(0, 3), (1, 3), (2, 4), (3, 4), (4, 4), (5, 4), (6, 4)]), 7, 24, (.agg [(.int .i64 0), (.int .i64 0), (.bool false), (.bool false), (.bool false), (.bool false), (.bool false)]), false⟩
def ti340 : TI := ⟨.func, 1, 8, .nilf, false⟩
def ti341 : TI := ⟨.func, 1, 8, .nilf, false⟩
def ti342 : TI := ⟨.func, 1, 8, .nilf, false⟩
def ti343 : TI := ⟨(.struct [(0, 3), (1, 3), (2, 3), (3, 59)]), 4, 48, (.agg [(.int .i64 0), (.int .i64 0), (.int .i64 0), .nils]), false⟩
def ti344 : TI := ⟨(.struct [(0, 3), (1, 3), (2, 3), (3, 59)]), 4, 48, (.agg [(.int .i64 0), (.int .i64 0), (.int .i64 0), .nils]), false⟩
def ti346 : TI := ⟨.func, 1, 8, .nilf, false⟩
def ti347 : TI := ⟨.func, 1, 8, .nilf, false⟩
def ti348 : TI := ⟨.func, 1, 8, .nilf, false⟩
def ti349 : TI := ⟨.ptr, 1, 8, .nilp, false⟩
def ti350 : TI := ⟨.func, 1, 8, .nilf, false⟩
def ti351 : TI := ⟨.func, 1, 8, .nilf, false⟩
def ti352 : TI := ⟨.ptr, 1, 8, .nilp, false⟩
def ti353 : TI := ⟨.func, 1, 8, .nilf, false⟩
def ti354 : TI := ⟨.func, 1, 8, .nilf, false⟩
def ti355 : TI := ⟨.func, 1, 8, .nilf, false⟩
def ti356 : TI := ⟨.func, 1, 8, .nilf, false⟩
def ti357 : TI := ⟨.func, 1, 8, .nilf, false⟩
def ti358 : TI := ⟨.func, 1, 8, .nilf, false⟩
def ti359 : TI := ⟨(.int .u32), 1, 4, (.int .u32 0), false⟩
def ti361 : TI := ⟨.func, 1, 8, .nilf, false⟩
def ti362 : TI := ⟨.func, 1, 8, .nilf, false⟩
def ti363 : TI := ⟨.func, 1, 8, .nilf, false⟩
def ti364 : TI := ⟨.func, 1, 8, .nilf, false⟩
def ti365 : TI := ⟨.func, 1, 8, .nilf, false⟩
def ti366 : TI := ⟨.func, 1, 8, .nilf, false⟩
def ti367 : TI := ⟨.func, 1, 8, .nilf, false⟩
def ti368 : TI := ⟨.func, 1, 8, .nilf, false⟩
def ti370 : TI := ⟨.func, 1, 8, .nilf, false⟩
def ti371 : TI := ⟨.func, 1, 8, .nilf, false⟩
def ti372 : TI := ⟨.func, 1, 8, .nilf, false⟩
def ti373 : TI := ⟨.func, 1, 8, .nilf, false⟩
def ti374 : TI := ⟨.func, 1, 8, .nilf, false⟩
def ti375 : TI := ⟨.func, 1, 8, .nilf, false⟩
def ti376 : TI := ⟨.func, 1, 8, .nilf, false⟩
def ti377 : TI := ⟨.func, 1, 8, .nilf, false⟩
def ti378 : TI := ⟨.func, 1, 8, .nilf, false⟩
def ti379 : TI := ⟨.func, 1, 8, .nilf, false⟩
def ti380 : TI := ⟨(.struct [(0, 17), (1, 17), (2, 17), (3, 9)]), 4, 40, (.agg [.nilp, .nilp, .nilp, (.str [])]), false⟩
def ti381 : TI := ⟨(.struct [(0, 17), (1, 17), (2, 17), (3, 9)]), 4, 40, (.agg [.nilp, .nilp, .nilp, (.str [])]), false⟩
def ti385 : TI := ⟨(.int .u8), 1, 1, (.int .u8 0), false⟩
def ti386 : TI := ⟨(.int .u8), 1, 1, (.int .u8 0), false⟩
def ti387 : TI := ⟨.func, 1, 8, .nilf, false⟩
def ti388 : TI := ⟨.ptr, 1, 8, .nilp, false⟩
def ti389 : TI := ⟨(.int .i32), 1, 4, (.int .i32 0), false⟩
def ti390 : TI := ⟨(.int .i32), 1, 4, (.int .i32 0), false⟩
def ti391 : TI := ⟨(.struct [(0, 12), (1, 12), (2, 359), (3, 385), (4, 5), (5, 5), (6, 386), (7, 387), (8, 388), (9, 389), (10, 390)]), 11, 48, (.agg [(.int .u64 0), (.int .u64 0), (.int .u32 0), (.int .u8 0), (.int .u8 0), (.int .u8 0), (.int .u8 0), .nilf, .nilp, (.int .i32 0), (.int .i32 0)]), false⟩
def ti392 : TI := ⟨(.struct [(0, 12), (1, 12), (2, 359), (3, 385), (4, 5), (5, 5), (6, 386), (7, 387), (8, 388), (9, 389), (10, 390)]), 11, 48, (.agg [(.int .u64 0), (.int .u64 0), (.int .u32 0), (.int .u8 0), (.int .u8 0), (.int .u8 0), (.int .u8 0), .nilf, .nilp, (.int .i32 0), (.int .i32 0)]), false⟩
def tyT : Tr TI := (.node none (.node (some ti1) (.node (some ti3) (.node (some ti7) (.node (some ti15) (.node (some ti31) (.node (some ti63) (.node (some ti127) (.node (some ti255) .nil .nil) (.node none .nil .nil)) (.node (some ti191) (.node (some ti319) .nil .nil) .nil)) (.node (some ti95) (.node (some ti159) (.node (some ti287) .nil .nil) .nil) (.node (some ti223) (.node (some ti351) .nil .nil) .nil))) (.node (some ti47) (.node (some ti79) (.node (some ti143) (.node (some ti271) .nil .nil) .nil) (.node (some ti207) (.node (some ti335) .nil .nil) .nil)) (.node (some ti111) (.node (some ti175) (.node (some ti303) .nil .nil) .nil) (.node (some ti239) (.node (some ti367) .nil .nil) .nil)))) (.node (some ti23) (.node (some ti39) (.node (some ti71) (.node (some ti135) (.node (some ti263) .nil .nil) (.node (some ti391) .nil .nil)) (.node (some ti199) (.node (some ti327) .nil .nil) .nil)) (.node (some ti103) (.node (some ti167) (.node (some ti295) .nil .nil) .nil) (.node (some ti231) (.node (some ti359) .nil .nil) .nil))) (.node none (.node (some ti87) (.node (some ti151) (.node (some ti279) .nil .nil) .nil) (.node (some ti215) (.node (some ti343) .nil .nil) .nil)) (.node none (.node (some ti183) (.node (some ti311) .nil .nil) .nil) (.node (some ti247) (.node (some ti375) .nil .nil) .nil))))) (.node (some ti11) (.node (some ti19) (.node (some ti35) (.node (some ti67) (.node none (.node (some ti259) .nil .nil) (.node (some ti387) .nil .nil)) (.node (some ti195) (.node (some ti323) .nil .nil) .nil)) (.node none (.node (some ti163) (.node (some ti291) .nil .nil) .nil) (.node (some ti227) (.node (some ti355) .nil .nil) .nil))) (.node (some ti51) (.node none (.node (some ti147) (.node (some ti275) .nil .nil) .nil) (.node (some ti211) (.node none .nil .nil) .nil)) (.node (some ti115) (.node (some ti179) (.node (some ti307) .nil .nil) .nil) (.node (some ti243) (.node (some ti371) .nil .nil) .nil)))) (.node (some ti27) (.node (some ti43) (.node (some ti75) (.node (some ti139) (.node (some ti267) .nil .nil) .nil) (.node (some ti203) (.node (some ti331) .nil .nil) .nil)) (.node none (.node (some ti171) (.node (some ti299) .nil .nil) .nil) (.node none (.node (some ti363) .nil .nil) .nil))) (.node (some ti59) (.node (some ti91) (.node (some ti155) (.node (some ti283) .nil .nil) .nil) (.node (some ti219) (.node (some ti347) .nil .nil) .nil)) (.node (some ti123) (.node (some ti187) (.node (some ti315) .nil .nil) .nil) (.node (some ti251) (.node (some ti379) .nil .nil) .nil)))))) (.node (some ti5) (.node (some ti9) (.node (some ti17) (.node (some ti33) (.node (some ti65) (.node (some ti129) (.node (some ti257) .nil .nil) (.node (some ti385) .nil .nil)) (.node (some ti193) (.node (some ti321) .nil .nil) .nil)) (.node (some ti97) (.node (some ti161) (.node (some ti289) .nil .nil) .nil) (.node (some ti225) (.node (some ti353) .nil .nil) .nil))) (.node (some ti49) (.node (some ti81) (.node (some ti145) (.node (some ti273) .nil .nil) .nil) (.node (some ti209) (.node (some ti337) .nil .nil) .nil)) (.node (some ti113) (.node (some ti177) (.node (some ti305) .nil .nil) .nil) (.node (some ti241) (.node none .nil .nil) .nil)))) (.node (some ti25) (.node (some ti41) (.node (some ti73) (.node (some ti137) (.node (some ti265) .nil .nil) (.node none .nil .nil)) (.node (some ti201) (.node (some ti329) .nil .nil) .nil)) (.node (some ti105) (.node (some ti169) (.node (some ti297) .nil .nil) .nil) (.node none (.node (some ti361) .nil .nil) .nil))) (.node (some ti57) (.node (some ti89) (.node (some ti153) (.node (some ti281) .nil .nil) .nil) (.node (some ti217) (.node none .nil .nil) .nil)) (.node (some ti121) (.node (some ti185) (.node (some ti313) .nil .nil) .nil) (.node (some ti249) (.node (some ti377) .nil .nil) .nil))))) (.node (some ti13) (.node (some ti21) (.node (some ti37) (.node (some ti69) (.node (some ti133) (.node (some ti261) .nil .nil) (.node (some ti389) .nil .nil)) (.node (some ti197) (.node (some ti325) .nil .nil) .nil)) (.node (some ti101) (.node (some ti165) (.node (some ti293) .nil .nil) .nil) (.node (some ti229) (.node (some ti357) .nil .nil) .nil))) (.node (some ti53) (.node (some ti85) (.node (some ti149) (.node (some ti277) .nil .nil) .nil) (.node (some ti213) (.node (some ti341) .nil .nil) .nil)) (.node none (.node (some ti181) (.node (some ti309) .nil .nil) .nil) (.node (some ti245) (.node (some ti373) .nil .nil) .nil)))) (.node none (.node (some ti45) (.node (some ti77) (.node (some ti141) (.node (some ti269) .nil .nil) .nil) (.node (some ti205) (.node (some ti333) .nil .nil) .nil)) (.node (some ti109) (.node (some ti173) (.node (some ti301) .nil .nil) .nil) (.node (some ti237) (.node (some ti365) .nil .nil) .nil))) (.node (some ti61) (.node (some ti93) (.node (some ti157) (.node (some ti285) .nil .nil) .nil) (.node (some ti221) (.node (some ti349) .nil .nil) .nil)) (.node (some ti125) (.node (some ti189) (.node (some ti317) .nil .nil) .nil) (.node (some ti253) (.node (some ti381) .nil .nil) .nil))))))) (.node (some ti2) (.node (some ti4) (.node (some ti8) (.node (some ti16) (.node (some ti32) (.node (some ti64) (.node (some ti128) (.node (some ti256) .nil .nil) (.node none .nil .nil)) (.node (some ti192) (.node none .nil .nil) .nil)) (.node (some ti96) (.node (some ti160) (.node none .nil .nil) .nil) (.node (some ti224) (.node (some ti352) .nil .nil) .nil))) (.node (some ti48) (.node (some ti80) (.node (some ti144) (.node (some ti272) .nil .nil) .nil) (.node (some ti208) (.node (some ti336) .nil .nil) .nil)) (.node none (.node (some ti176) (.node none .nil .nil) .nil) (.node (some ti240) (.node (some ti368) .nil .nil) .nil)))) (.node (some ti24) (.node (some ti40) (.node none (.node (some ti136) (.node (some ti264) .nil .nil) (.node (some ti392) .nil .nil)) (.node (some ti200) (.node (some ti328) .nil .nil) .nil)) (.node (some ti104) (.node (some ti168) (.node (some ti296) .nil .nil) .nil) (.node (some ti232) (.node none .nil .nil) .nil))) (.node (some ti56) (.node (some ti88) (.node (some ti152) (.node (some ti280) .nil .nil) .nil) (.node (some ti216) (.node (some ti344) .nil .nil) .nil)) (.node (some ti120) (.node (some ti184) (.node (some ti312) .nil .nil) .nil) (.node (some ti248) (.node (some ti376) .nil .nil) .nil))))) (.node (some ti12) (.node none (.node none (.node (some ti68) (.node (some ti132) (.node (some ti260) .nil .nil) (.node (some ti388) .nil .nil)) (.node (some ti196) (.node (some ti324) .nil .nil) .nil)) (.node (some ti100) (.node (some ti164) (.node (some ti292) .nil .nil) .nil) (.node (some ti228) (.node (some ti356) .nil .nil) .nil))) (.node (some ti52) (.node (some ti84) (.node none (.node (some ti276) .nil .nil) .nil) (.node (some ti212) (.node (some ti340) .nil .nil) .nil)) (.node (some ti116) (.node (some ti180) (.node (some ti308) .nil .nil) .nil) (.node (some ti244) (.node (some ti372) .nil .nil) .nil)))) (.node (some ti28) (.node (some ti44) (.node none (.node (some ti140) (.node (some ti268) .nil .nil) .nil) (.node (some ti204) (.node (some ti332) .nil .nil) .nil)) (.node (some ti108) (.node (some ti172) (.node (some ti300) .nil .nil) .nil) (.node (some ti236) (.node (some ti364) .nil .nil) .nil))) (.node (some ti60) (.node (some ti92) (.node (some ti156) (.node (some ti284) .nil .nil) .nil) (.node (some ti220) (.node (some ti348) .nil .nil) .nil)) (.node (some ti124) (.node (some ti188) (.node none .nil .nil) .nil) (.node (some ti252) (.node (some ti380) .nil .nil) .nil)))))) (.node (some ti6) (.node (some ti10) (.node (some ti18) (.node (some ti34) (.node (some ti66) (.node (some ti130) (.node (some ti258) .nil .nil) (.node (some ti386) .nil .nil)) (.node (some ti194) (.node none .nil .nil) .nil)) (.node (some ti98) (.node (some ti162) (.node (some ti290) .nil .nil) .nil) (.node (some ti226) (.node (some ti354) .nil .nil) .nil))) (.node (some ti50) (.node (some ti82) (.node (some ti146) (.node (some ti274) .nil .nil) .nil) (.node none (.node (some ti338) .nil .nil) .nil)) (.node (some ti114) (.node (some ti178) (.node (some ti306) .nil .nil) .nil) (.node (some ti242) (.node (some ti370) .nil .nil) .nil)))) (.node (some ti26) (.node none (.node none (.node (some ti138) (.node (some ti266) .nil .nil) .nil) (.node (some ti202) (.node (some ti330) .nil .nil) .nil)) (.node (some ti106) (.node (some ti170) (.node (some ti298) .nil .nil) .nil) (.node (some ti234) (.node (some ti362) .nil .nil) .nil))) (.node (some ti58) (.node none (.node (some ti154) (.node (some ti282) .nil .nil) .nil) (.node (some ti218) (.node (some ti346) .nil .nil) .nil)) (.node (some ti122) (.node (some ti186) (.node (some ti314) .nil .nil) .nil) (.node (some ti250) (.node (some ti378) .nil .nil) .nil))))) (.node (some ti14) (.node (some ti22) (.node (some ti38) (.node (some ti70) (.node (some ti134) (.node none .nil .nil) (.node (some ti390) .nil .nil)) (.node (some ti198) (.node (some ti326) .nil .nil) .nil)) (.node (some ti102) (.node (some ti166) (.node (some ti294) .nil .nil) .nil) (.node (some ti230) (.node (some ti358) .nil .nil) .nil))) (.node (some ti54) (.node none (.node (some ti150) (.node (some ti278) .nil .nil) .nil) (.node (some ti214) (.node (some ti342) .nil .nil) .nil)) (.node (some ti118) (.node (some ti182) (.node (some ti310) .nil .nil) .nil) (.node (some ti246) (.node (some ti374) .nil .nil) .nil)))) (.node (some ti30) (.node (some ti46) (.node (some ti78) (.node (some ti142) (.node none .nil .nil) .nil) (.node (some ti206) (.node (some ti334) .nil .nil) .nil)) (.node (some ti110) (.node (some ti174) (.node (some ti302) .nil .nil) .nil) (.node none (.node (some ti366) .nil .nil) .nil))) (.node (some ti62) (.node (some ti94) (.node (some ti158) (.node (some ti286) .nil .nil) .nil) (.node (some ti222) (.node (some ti350) .nil .nil) .nil)) (.node (some ti126) (.node (some ti190) (.node (some ti318) .nil .nil) .nil) (.node (some ti254) (.node none .nil .nil) .nil))))))))
end Go.Proofs.YthlkmffimhnehaaGreat
namespace Go.Proofs.YthlkmffimhnehaaGreat
open Go Go.Ev
set_option maxRecDepth 10000
theorem mixed : (Tryz.prog).follows .mixedOrders = true := by kernel_rfl
theorem tok1 : mkTI Tryz.prog 1 false = some ti1 := by kernel_rfl
theorem tok3 : mkTI Tryz.prog 3 false = some ti3 := by kernel_rfl
theorem tok7 : mkTI Tryz.prog 7 false = some ti7 := by kernel_rfl
theorem tok15 : mkTI Tryz.prog 15 false = some ti15 := by kernel_rfl
theorem tok31 : mkTI Tryz.prog 31 false = some ti31 := by kernel_rfl
theorem tok63 : mkTI Tryz.prog 63 false = some ti63 := by kernel_rfl
theorem tok127 : mkTI Tryz.prog 127 false = some ti127 := by kernel_rfl
theorem tok255 : mkTI Tryz.prog 255 false = some ti255 := by kernel_rfl
theorem tok191 : mkTI Tryz.prog 191 false = some ti191 := by kernel_rfl
theorem tok319 : mkTI Tryz.prog 319 false = some ti319 := by kernel_rfl
theorem tok95 : mkTI Tryz.prog 95 false = some ti95 := by kernel_rfl
theorem tok159 : mkTI Tryz.prog 159 false = some ti159 := by kernel_rfl
theorem tok287 : mkTI Tryz.prog 287 false = some ti287 := by kernel_rfl
theorem tok223 : mkTI Tryz.prog 223 false = some ti223 := by kernel_rfl
theorem tok351 : mkTI Tryz.prog 351 false = some ti351 := by kernel_rfl
theorem tok47 : mkTI Tryz.prog 47 false = some ti47 := by kernel_rfl
theorem tok79 : mkTI Tryz.prog 79 false = some ti79 := by kernel_rfl
theorem tok143 : mkTI Tryz.prog 143 false = some ti143 := by kernel_rfl
theorem tok271 : mkTI Tryz.prog 271 false = some ti271 := by kernel_rfl
theorem tok207 : mkTI Tryz.prog 207 false = some ti207 := by kernel_rfl
theorem tok335 : mkTI Tryz.prog 335 false = some ti335 := by kernel_rfl
theorem tok111 : mkTI Tryz.prog 111 false = some ti111 := by kernel_rfl
theorem tok175 : mkTI Tryz.prog 175 false = some ti175 := by kernel_rfl
theorem tok303 : mkTI Tryz.prog 303 false = some ti303 := by kernel_rfl
theorem tok239 : mkTI Tryz.prog 239 false = some ti239 := by kernel_rfl
theorem tok367 : mkTI Tryz.prog 367 false = some ti367 := by kernel_rfl
theorem tok23 : mkTI Tryz.prog 23 false = some ti23 := by kernel_rfl
theorem tok39 : mkTI Tryz.prog 39 false = some ti39 := by kernel_rfl
theorem tok71 : mkTI Tryz.prog 71 false = some ti71 := by kernel_rfl
theorem tok135 : mkTI Tryz.prog 135 false = some ti135 := by kernel_rfl
theorem tok263 : mkTI Tryz.prog 263 false = some ti263 := by kernel_rfl
theorem tok391 : mkTI Tryz.prog 391 false = some ti391 := by kernel_rfl
theorem tok199 : mkTI Tryz.prog 199 false = some ti199 := by kernel_rfl
theorem tok327 : mkTI Tryz.prog 327 false = some ti327 := by kernel_rfl
theorem tok103 : mkTI Tryz.prog 103 false = some ti103 := by kernel_rfl
theorem tok167 : mkTI Tryz.prog 167 false = some ti167 := by kernel_rfl
theorem tok295 : mkTI Tryz.prog 295 false = some ti295 := by kernel_rfl
theorem tok231 : mkTI Tryz.prog 231 false = some ti231 := by kernel_rfl
theorem tok359 : mkTI Tryz.prog 359 false = some ti359 := by kernel_rfl
theorem tok87 : mkTI Tryz.prog 87 false = some ti87 := by kernel_rfl
theorem tok151 : mkTI Tryz.prog 151 false = some ti151 := by kernel_rfl
theorem tok279 : mkTI Tryz.prog 279 false = some ti279 := by kernel_rfl
theorem tok215 : mkTI Tryz.prog 215 false = some ti215 := by kernel_rfl
theorem tok343 : mkTI Tryz.prog 343 false = some ti343 := by kernel_rfl
theorem tok183 : mkTI Tryz.prog 183 false = some ti183 := by kernel_rfl
theorem tok311 : mkTI Tryz.prog 311 false = some ti311 := by kernel_rfl
theorem tok247 : mkTI Tryz.prog 247 false = some ti247 := by kernel_rfl
theorem tok375 : mkTI Tryz.prog 375 false = some ti375 := by kernel_rfl
theorem tok11 : mkTI Tryz.prog 11 false = some ti11 := by kernel_rfl
theorem tok19 : mkTI Tryz.prog 19 false = some ti19 := by kernel_rfl
theorem tok35 : mkTI Tryz.prog 35 false = some ti35 := by kernel_rfl
theorem tok67 : mkTI Tryz.prog 67 false = some ti67 := by kernel_rfl
theorem tok259 : mkTI Tryz.prog 259 false = some ti259 := by kernel_rfl
theorem tok387 : mkTI Tryz.prog 387 false = some ti387 := by kernel_rfl
theorem tok195 : mkTI Tryz.prog 195 false = some ti195 := by kernel_rfl
theorem tok323 : mkTI Tryz.prog 323 false = some ti323 := by kernel_rfl
theorem tok163 : mkTI Tryz.prog 163 false = some ti163 := by kernel_rfl
theorem tok291 : mkTI Tryz.prog 291 false = some ti291 := by kernel_rfl
theorem tok227 : mkTI Tryz.prog 227 false = some ti227 := by kernel_rfl
theorem tok355 : mkTI Tryz.prog 355 false = some ti355 := by kernel_rfl
theorem tok51 : mkTI Tryz.prog 51 false = some ti51 := by kernel_rfl
theorem tok147 : mkTI Tryz.prog 147 false = some ti147 := by kernel_rfl
theorem tok275 : mkTI Tryz.prog 275 false = some ti275 := by kernel_rfl
theorem tok211 : mkTI Tryz.prog 211 false = some ti211 := by kernel_rfl
theorem tok115 : mkTI Tryz.prog 115 false = some ti115 := by kernel_rfl
theorem tok179 : mkTI Tryz.prog 179 false = some ti179 := by kernel_rfl
theorem tok307 : mkTI Tryz.prog 307 false = some ti307 := by kernel_rfl
theorem tok243 : mkTI Tryz.prog 243 false = some ti243 := by kernel_rfl
theorem tok371 : mkTI Tryz.prog 371 false = some ti371 := by kernel_rfl
theorem tok27 : mkTI Tryz.prog 27 false = some ti27 := by kernel_rfl
theorem tok43 : mkTI Tryz.prog 43 false = some ti43 := by kernel_rfl
theorem tok75 : mkTI Tryz.prog 75 false = some ti75 := by kernel_rfl
theorem tok139 : mkTI Tryz.prog 139 false = some ti139 := by kernel_rfl
theorem tok267 : mkTI Tryz.prog 267 false = some ti267 := by kernel_rfl
theorem tok203 : mkTI Tryz.prog 203 false = some ti203 := by kernel_rfl
theorem tok331 : mkTI Tryz.prog 331 false = some ti331 := by kernel_rfl
theorem tok171 : mkTI Tryz.prog 171 false = some ti171 := by kernel_rfl
theorem tok299 : mkTI Tryz.prog 299 false = some ti299 := by kernel_rfl
theorem tok363 : mkTI Tryz.prog 363 false = some ti363 := by kernel_rfl
theorem tok59 : mkTI Tryz.prog 59 false = some ti59 := by kernel_rfl
theorem tok91 : mkTI Tryz.prog 91 false = some ti91 := by kernel_rfl
theorem tok155 : mkTI Tryz.prog 155 false = some ti155 := by kernel_rfl
theorem tok283 : mkTI Tryz.prog 283 false = some ti283 := by kernel_rfl
theorem tok219 : mkTI Tryz.prog 219 false = some ti219 := by kernel_rfl
theorem tok347 : mkTI Tryz.prog 347 false = some ti347 := by kernel_rfl
theorem tok123 : mkTI Tryz.prog 123 false = some ti123 := by kernel_rfl
theorem tok187 : mkTI Tryz.prog 187 false = some ti187 := by kernel_rfl
theorem tok315 : mkTI Tryz.prog 315 false = some ti315 := by kernel_rfl
theorem tok251 : mkTI Tryz.prog 251 false = some ti251 := by kernel_rfl
theorem tok379 : mkTI Tryz.prog 379 false = some ti379 := by kernel_rfl
theorem tok5 : mkTI Tryz.prog 5 false = some ti5 := by kernel_rfl
theorem tok9 : mkTI Tryz.prog 9 false = some ti9 := by kernel_rfl
theorem tok17 : mkTI Tryz.prog 17 false = some ti17 := by kernel_rfl
theorem tok33 : mkTI Tryz.prog 33 false = some ti33 := by kernel_rfl
theorem tok65 : mkTI Tryz.prog 65 false = some ti65 := by kernel_rfl
theorem tok129 : mkTI Tryz.prog 129 false = some ti129 := by kernel_rfl
theorem tok257 : mkTI Tryz.prog 257 false = some ti257 := by kernel_rfl
theorem tok385 : mkTI Tryz.prog 385 false = some ti385 := by kernel_rfl
theorem tok193 : mkTI Tryz.prog 193 false = some ti193 := by kernel_rfl
theorem tok321 : mkTI Tryz.prog 321 false = some ti321 := by kernel_rfl
theorem tok97 : mkTI Tryz.prog 97 false = some ti97 := by kernel_rfl
theorem tok161 : mkTI Tryz.prog 161 false = some ti161 := by kernel_rfl
theorem tok289 : mkTI Tryz.prog 289 false = some ti289 := by kernel_rfl
theorem tok225 : mkTI Tryz.prog 225 false = some ti225 := by kernel_rfl
theorem tok353 : mkTI Tryz.prog 353 false = some ti353 := by kernel_rfl
theorem tok49 : mkTI Tryz.prog 49 false = some ti49 := by kernel_rfl
theorem tok81 : mkTI Tryz.prog 81 false = some ti81 := by kernel_rfl
theorem tok145 : mkTI Tryz.prog 145 false = some ti145 := by kernel_rfl
theorem tok273 : mkTI Tryz.prog 273 false = some ti273 := by kernel_rfl
theorem tok209 : mkTI Tryz.prog 209 false = some ti209 := by kernel_rfl
theorem tok337 : mkTI Tryz.prog 337 false = some ti337 := by kernel_rfl
theorem tok113 : mkTI Tryz.prog 113 false = some ti113 := by kernel_rfl
theorem tok177 : mkTI Tryz.prog 177 false = some ti177 := by kernel_rfl
theorem tok305 : mkTI Tryz.prog 305 false = some ti305 := by kernel_rfl
theorem tok241 : mkTI Tryz.prog 241 false = some ti241 := by kernel_rfl
theorem tok25 : mkTI Tryz.prog 25 false = some ti25 := by kernel_rfl
theorem tok41 : mkTI Tryz.prog 41 false = some ti41 := by kernel_rfl
theorem tok73 : mkTI Tryz.prog 73 false = some ti73 := by kernel_rfl
theorem tok137 : mkTI Tryz.prog 137 false = some ti137 := by kernel_rfl
theorem tok265 : mkTI Tryz.prog 265 false = some ti265 := by kernel_rfl
theorem tok201 : mkTI Tryz.prog 201 false = some ti201 := by kernel_rfl
theorem tok329 : mkTI Tryz.prog 329 false = some ti329 := by kernel_rfl
theorem tok105 : mkTI Tryz.prog 105 false = some ti105 := by kernel_rfl
theorem tok169 : mkTI Tryz.prog 169 false = some ti169 := by kernel_rfl
theorem tok297 : mkTI Tryz.prog 297 false = some ti297 := by kernel_rfl
theorem tok361 : mkTI Tryz.prog 361 false = some ti361 := by kernel_rfl
theorem tok57 : mkTI Tryz.prog 57 false = some ti57 := by kernel_rfl
theorem tok89 : mkTI Tryz.prog 89 false = some ti89 := by kernel_rfl
theorem tok153 : mkTI Tryz.prog 153 false = some ti153 := by kernel_rfl
theorem tok281 : mkTI Tryz.prog 281 false = some ti281 := by kernel_rfl
theorem tok217 : mkTI Tryz.prog 217 false = some ti217 := by kernel_rfl
theorem tok121 : mkTI Tryz.prog 121 false = some ti121 := by kernel_rfl
theorem tok185 : mkTI Tryz.prog 185 false = some ti185 := by kernel_rfl
theorem tok313 : mkTI Tryz.prog 313 false = some ti313 := by kernel_rfl
theorem tok249 : mkTI Tryz.prog 249 false = some ti249 := by kernel_rfl
theorem tok377 : mkTI Tryz.prog 377 false = some ti377 := by kernel_rfl
theorem tok13 : mkTI Tryz.prog 13 false = some ti13 := by kernel_rfl
theorem tok21 : mkTI Tryz.prog 21 false = some ti21 := by kernel_rfl
theorem tok37 : mkTI Tryz.prog 37 false = some ti37 := by kernel_rfl
theorem tok69 : mkTI Tryz.prog 69 false = some ti69 := by kernel_rfl
theorem tok133 : mkTI Tryz.prog 133 false = some ti133 := by kernel_rfl
theorem tok261 : mkTI Tryz.prog 261 false = some ti261 := by kernel_rfl
theorem tok389 : mkTI Tryz.prog 389 false = some ti389 := by kernel_rfl
theorem tok197 : mkTI Tryz.prog 197 false = some ti197 := by kernel_rfl
theorem tok325 : mkTI Tryz.prog 325 false = some ti325 := by kernel_rfl
theorem tok101 : mkTI Tryz.prog 101 false = some ti101 := by kernel_rfl
theorem tok165 : mkTI Tryz.prog 165 false = some ti165 := by kernel_rfl
theorem tok293 : mkTI Tryz.prog 293 false = some ti293 := by kernel_rfl
theorem tok229 : mkTI Tryz.prog 229 false = some ti229 := by kernel_rfl
theorem tok357 : mkTI Tryz.prog 357 false = some ti357 := by kernel_rfl
theorem tok53 : mkTI Tryz.prog 53 false = some ti53 := by kernel_rfl
theorem tok85 : mkTI Tryz.prog 85 false = some ti85 := by kernel_rfl
theorem tok149 : mkTI Tryz.prog 149 false = some ti149 := by kernel_rfl
theorem tok277 : mkTI Tryz.prog 277 false = some ti277 := by kernel_rfl
theorem tok213 : mkTI Tryz.prog 213 false = some ti213 := by kernel_rfl
theorem tok341 : mkTI Tryz.prog 341 false = some ti341 := by kernel_rfl
theorem tok181 : mkTI Tryz.prog 181 false = some ti181 := by kernel_rfl
theorem tok309 : mkTI Tryz.prog 309 false = some ti309 := by kernel_rfl
theorem tok245 : mkTI Tryz.prog 245 false = some ti245 := by kernel_rfl
theorem tok373 : mkTI Tryz.prog 373 false = some ti373 := by kernel_rfl
theorem tok45 : mkTI Tryz.prog 45 false = some ti45 := by kernel_rfl
theorem tok77 : mkTI Tryz.prog 77 false = some ti77 := by kernel_rfl
theorem tok141 : mkTI Tryz.prog 141 false = some ti141 := by kernel_rfl
theorem tok269 : mkTI Tryz.prog 269 false = some ti269 := by kernel_rfl
theorem tok205 : mkTI Tryz.prog 205 false = some ti205 := by kernel_rfl
theorem tok333 : mkTI Tryz.prog 333 false = some ti333 := by kernel_rfl
theorem tok109 : mkTI Tryz.prog 109 false = some ti109 := by kernel_rfl
theorem tok173 : mkTI Tryz.prog 173 false = some ti173 := by kernel_rfl
theorem tok301 : mkTI Tryz.prog 301 false = some ti301 := by kernel_rfl
theorem tok237 : mkTI Tryz.prog 237 false = some ti237 := by kernel_rfl
theorem tok365 : mkTI Tryz.prog 365 false = some ti365 := by kernel_rfl
theorem tok61 : mkTI Tryz.prog 61 false = some ti61 := by kernel_rfl
theorem tok93 : mkTI Tryz.prog 93 false = some ti93 := by kernel_rfl
theorem tok157 : mkTI Tryz.prog 157 false = some ti157 := by kernel_rfl
theorem tok285 : mkTI Tryz.prog 285 false = some ti285 := by kernel_rfl
theorem tok221 : mkTI Tryz.prog 221 false = some ti221 := by kernel_rfl
theorem tok349 : mkTI Tryz.prog 349 false = some ti349 := by kernel_rfl
theorem tok125 : mkTI Tryz.prog 125 false = some ti125 := by kernel_rfl
theorem tok189 : mkTI Tryz.prog 189 false = some ti189 := by kernel_rfl
theorem tok317 : mkTI Tryz.prog 317 false = some ti317 := by kernel_rfl
theorem tok253 : mkTI Tryz.prog 253 false = some ti253 := by kernel_rfl
theorem tok381 : mkTI Tryz.prog 381 false = some ti381 := by kernel_rfl
theorem tok2 : mkTI Tryz.prog 2 false = some ti2 := by kernel_rfl
theorem tok4 : mkTI Tryz.prog 4 false = some ti4 := by kernel_rfl
theorem tok8 : mkTI Tryz.prog 8 false = some ti8 := by kernel_rfl
theorem tok16 : mkTI Tryz.prog 16 false = some ti16 := by kernel_rfl
theorem tok32 : mkTI Tryz.prog 32 false = some ti32 := by kernel_rfl
theorem tok64 : mkTI Tryz.prog 64 false = some ti64 := by kernel_rfl
theorem tok128 : mkTI Tryz.prog 128 false = some ti128 := by kernel_rfl
theorem tok256 : mkTI Tryz.prog 256 false = some ti256 := by kernel_rfl
theorem tok192 : mkTI Tryz.prog 192 false = some ti192 := by kernel_rfl
theorem tok96 : mkTI Tryz.prog 96 false = some ti96 := by kernel_rfl
theorem tok160 : mkTI Tryz.prog 160 false = some ti160 := by kernel_rfl
theorem tok224 : mkTI Tryz.prog 224 false = some ti224 := by kernel_rfl
theorem tok352 : mkTI Tryz.prog 352 false = some ti352 := by kernel_rfl
theorem tok48 : mkTI Tryz.prog 48 false = some ti48 := by kernel_rfl
theorem tok80 : mkTI Tryz.prog 80 true = some ti80 := by kernel_rfl
theorem tok144 : mkTI Tryz.prog 144 false = some ti144 := by kernel_rfl
theorem tok272 : mkTI Tryz.prog 272 false = some ti272 := by kernel_rfl
theorem tok208 : mkTI Tryz.prog 208 false = some ti208 := by kernel_rfl
theorem tok336 : mkTI Tryz.prog 336 false = some ti336 := by kernel_rfl
theorem tok176 : mkTI Tryz.prog 176 false = some ti176 := by kernel_rfl
theorem tok240 : mkTI Tryz.prog 240 false = some ti240 := by kernel_rfl
theorem tok368 : mkTI Tryz.prog 368 false = some ti368 := by kernel_rfl
theorem tok24 : mkTI Tryz.prog 24 false = some ti24 := by kernel_rfl
theorem tok40 : mkTI Tryz.prog 40 false = some ti40 := by kernel_rfl
theorem tok136 : mkTI Tryz.prog 136 false = some ti136 := by kernel_rfl
theorem tok264 : mkTI Tryz.prog 264 false = some ti264 := by kernel_rfl
theorem tok392 : mkTI Tryz.prog 392 false = some ti392 := by kernel_rfl
theorem tok200 : mkTI Tryz.prog 200 false = some ti200 := by kernel_rfl
theorem tok328 : mkTI Tryz.prog 328 false = some ti328 := by kernel_rfl
theorem tok104 : mkTI Tryz.prog 104 false = some ti104 := by kernel_rfl
theorem tok168 : mkTI Tryz.prog 168 false = some ti168 := by kernel_rfl
theorem tok296 : mkTI Tryz.prog 296 false = some ti296 := by kernel_rfl
theorem tok232 : mkTI Tryz.prog 232 false = some ti232 := by kernel_rfl
theorem tok56 : mkTI Tryz.prog 56 false = some ti56 := by kernel_rfl
theorem tok88 : mkTI Tryz.prog 88 false = some ti88 := by kernel_rfl
theorem tok152 : mkTI Tryz.prog 152 false = some ti152 := by kernel_rfl
theorem tok280 : mkTI Tryz.prog 280 false = some ti280 := by kernel_rfl
theorem tok216 : mkTI Tryz.prog 216 false = some ti216 := by kernel_rfl
theorem tok344 : mkTI Tryz.prog 344 false = some ti344 := by kernel_rfl
theorem tok120 : mkTI Tryz.prog 120 false = some ti120 := by kernel_rfl
theorem tok184 : mkTI Tryz.prog 184 false = some ti184 := by kernel_rfl
theorem tok312 : mkTI Tryz.prog 312 false = some ti312 := by kernel_rfl
theorem tok248 : mkTI Tryz.prog 248 false = some ti248 := by kernel_rfl
theorem tok376 : mkTI Tryz.prog 376 false = some ti376 := by kernel_rfl
theorem tok12 : mkTI Tryz.prog 12 false = some ti12 := by kernel_rfl
theorem tok68 : mkTI Tryz.prog 68 false = some ti68 := by kernel_rfl
theorem tok132 : mkTI Tryz.prog 132 false = some ti132 := by kernel_rfl
theorem tok260 : mkTI Tryz.prog 260 false = some ti260 := by kernel_rfl
theorem tok388 : mkTI Tryz.prog 388 false = some ti388 := by kernel_rfl
theorem tok196 : mkTI Tryz.prog 196 false = some ti196 := by kernel_rfl
theorem tok324 : mkTI Tryz.prog 324 false = some ti324 := by kernel_rfl
theorem tok100 : mkTI Tryz.prog 100 false = some ti100 := by kernel_rfl
theorem tok164 : mkTI Tryz.prog 164 false = some ti164 := by kernel_rfl
theorem tok292 : mkTI Tryz.prog 292 false = some ti292 := by kernel_rfl
theorem tok228 : mkTI Tryz.prog 228 false = some ti228 := by kernel_rfl
theorem tok356 : mkTI Tryz.prog 356 false = some ti356 := by kernel_rfl
theorem tok52 : mkTI Tryz.prog 52 false = some ti52 := by kernel_rfl
theorem tok84 : mkTI Tryz.prog 84 false = some ti84 := by kernel_rfl
theorem tok276 : mkTI Tryz.prog 276 false = some ti276 := by kernel_rfl
theorem tok212 : mkTI Tryz.prog 212 false = some ti212 := by kernel_rfl
theorem tok340 : mkTI Tryz.prog 340 false = some ti340 := by kernel_rfl
theorem tok116 : mkTI Tryz.prog 116 false = some ti116 := by kernel_rfl
theorem tok180 : mkTI Tryz.prog 180 false = some ti180 := by kernel_rfl
theorem tok308 : mkTI Tryz.prog 308 false = some ti308 := by kernel_rfl
theorem tok244 : mkTI Tryz.prog 244 false = some ti244 := by kernel_rfl
theorem tok372 : mkTI Tryz.prog 372 false = some ti372 := by kernel_rfl
theorem tok28 : mkTI Tryz.prog 28 false = some ti28 := by kernel_rfl
theorem tok44 : mkTI Tryz.prog 44 false = some ti44 := by kernel_rfl
theorem tok140 : mkTI Tryz.prog 140 false = some ti140 := by kernel_rfl
theorem tok268 : mkTI Tryz.prog 268 false = some ti268 := by kernel_rfl
theorem tok204 : mkTI Tryz.prog 204 false = some ti204 := by kernel_rfl
theorem tok332 : mkTI Tryz.prog 332 false = some ti332 := by kernel_rfl
theorem tok108 : mkTI Tryz.prog 108 false = some ti108 := by kernel_rfl
theorem tok172 : mkTI Tryz.prog 172 false = some ti172 := by kernel_rfl
theorem tok300 : mkTI Tryz.prog 300 false = some ti300 := by kernel_rfl
theorem tok236 : mkTI Tryz.prog 236 false = some ti236 := by kernel_rfl
theorem tok364 : mkTI Tryz.prog 364 false = some ti364 := by kernel_rfl
theorem tok60 : mkTI Tryz.prog 60 false = some ti60 := by kernel_rfl
theorem tok92 : mkTI Tryz.prog 92 false = some ti92 := by kernel_rfl
theorem tok156 : mkTI Tryz.prog 156 false = some ti156 := by kernel_rfl
theorem tok284 : mkTI Tryz.prog 284 false = some ti284 := by kernel_rfl
theorem tok220 : mkTI Tryz.prog 220 false = some ti220 := by kernel_rfl
theorem tok348 : mkTI Tryz.prog 348 false = some ti348 := by kernel_rfl
theorem tok124 : mkTI Tryz.prog 124 false = some ti124 := by kernel_rfl
theorem tok188 : mkTI Tryz.prog 188 false = some ti188 := by kernel_rfl
theorem tok252 : mkTI Tryz.prog 252 false = some ti252 := by kernel_rfl
theorem tok380 : mkTI Tryz.prog 380 false = some ti380 := by kernel_rfl
theorem tok6 : mkTI Tryz.prog 6 false = some ti6 := by kernel_rfl
theorem tok10 : mkTI Tryz.prog 10 false = some ti10 := by kernel_rfl
theorem tok18 : mkTI Tryz.prog 18 false = some ti18 := by kernel_rfl
theorem tok34 : mkTI Tryz.prog 34 false = some ti34 := by kernel_rfl
theorem tok66 : mkTI Tryz.prog 66 false = some ti66 := by kernel_rfl
theorem tok130 : mkTI Tryz.prog 130 false = some ti130 := by kernel_rfl
theorem tok258 : mkTI Tryz.prog 258 false = some ti258 := by kernel_rfl
theorem tok386 : mkTI Tryz.prog 386 false = some ti386 := by kernel_rfl
theorem tok194 : mkTI Tryz.prog 194 false = some ti194 := by kernel_rfl
theorem tok98 : mkTI Tryz.prog 98 false = some ti98 := by kernel_rfl
theorem tok162 : mkTI Tryz.prog 162 false = some ti162 := by kernel_rfl
theorem tok290 : mkTI Tryz.prog 290 false = some ti290 := by kernel_rfl
theorem tok226 : mkTI Tryz.prog 226 false = some ti226 := by kernel_rfl
theorem tok354 : mkTI Tryz.prog 354 false = some ti354 := by kernel_rfl
theorem tok50 : mkTI Tryz.prog 50 false = some ti50 := by kernel_rfl
theorem tok82 : mkTI Tryz.prog 82 false = some ti82 := by kernel_rfl
theorem tok146 : mkTI Tryz.prog 146 false = some ti146 := by kernel_rfl
theorem tok274 : mkTI Tryz.prog 274 false = some ti274 := by kernel_rfl
theorem tok338 : mkTI Tryz.prog 338 false = some ti338 := by kernel_rfl
theorem tok114 : mkTI Tryz.prog 114 false = some ti114 := by kernel_rfl
theorem tok178 : mkTI Tryz.prog 178 false = some ti178 := by kernel_rfl
theorem tok306 : mkTI Tryz.prog 306 false = some ti306 := by kernel_rfl
theorem tok242 : mkTI Tryz.prog 242 false = some ti242 := by kernel_rfl
theorem tok370 : mkTI Tryz.prog 370 false = some ti370 := by kernel_rfl
theorem tok26 : mkTI Tryz.prog 26 false = some ti26 := by kernel_rfl
theorem tok138 : mkTI Tryz.prog 138 false = some ti138 := by kernel_rfl
theorem tok266 : mkTI Tryz.prog 266 false = some ti266 := by kernel_rfl
theorem tok202 : mkTI Tryz.prog 202 false = some ti202 := by kernel_rfl
theorem tok330 : mkTI Tryz.prog 330 false = some ti330 := by kernel_rfl
theorem tok106 : mkTI Tryz.prog 106 false = some ti106 := by kernel_rfl
theorem tok170 : mkTI Tryz.prog 170 false = some ti170 := by kernel_rfl
theorem tok298 : mkTI Tryz.prog 298 false = some ti298 := by kernel_rfl
theorem tok234 : mkTI Tryz.prog 234 false = some ti234 := by kernel_rfl
theorem tok362 : mkTI Tryz.prog 362 false = some ti362 := by kernel_rfl
theorem tok58 : mkTI Tryz.prog 58 false = some ti58 := by kernel_rfl
theorem tok154 : mkTI Tryz.prog 154 false = some ti154 := by kernel_rfl
theorem tok282 : mkTI Tryz.prog 282 false = some ti282 := by kernel_rfl
theorem tok218 : mkTI Tryz.prog 218 false = some ti218 := by kernel_rfl
theorem tok346 : mkTI Tryz.prog 346 false = some ti346 := by kernel_rfl
theorem tok122 : mkTI Tryz.prog 122 false = some ti122 := by kernel_rfl
theorem tok186 : mkTI Tryz.prog 186 false = some ti186 := by kernel_rfl
theorem tok314 : mkTI Tryz.prog 314 false = some ti314 := by kernel_rfl
theorem tok250 : mkTI Tryz.prog 250 false = some ti250 := by kernel_rfl
theorem tok378 : mkTI Tryz.prog 378 false = some ti378 := by kernel_rfl
theorem tok14 : mkTI Tryz.prog 14 false = some ti14 := by kernel_rfl
theorem tok22 : mkTI Tryz.prog 22 false = some ti22 := by kernel_rfl
theorem tok38 : mkTI Tryz.prog 38 false = some ti38 := by kernel_rfl
theorem tok70 : mkTI Tryz.prog 70 false = some ti70 := by kernel_rfl
theorem tok134 : mkTI Tryz.prog 134 false = some ti134 := by kernel_rfl
theorem tok390 : mkTI Tryz.prog 390 false = some ti390 := by kernel_rfl
theorem tok198 : mkTI Tryz.prog 198 false = some ti198 := by kernel_rfl
theorem tok326 : mkTI Tryz.prog 326 false = some ti326 := by kernel_rfl
theorem tok102 : mkTI Tryz.prog 102 false = some ti102 := by kernel_rfl
theorem tok166 : mkTI Tryz.prog 166 false = some ti166 := by kernel_rfl
theorem tok294 : mkTI Tryz.prog 294 false = some ti294 := by kernel_rfl
theorem tok230 : mkTI Tryz.prog 230 false = some ti230 := by kernel_rfl
theorem tok358 : mkTI Tryz.prog 358 false = some ti358 := by kernel_rfl
theorem tok54 : mkTI Tryz.prog 54 true = some ti54 := by kernel_rfl
theorem tok150 : mkTI Tryz.prog 150 false = some ti150 := by kernel_rfl
theorem tok278 : mkTI Tryz.prog 278 false = some ti278 := by kernel_rfl
theorem tok214 : mkTI Tryz.prog 214 false = some ti214 := by kernel_rfl
theorem tok342 : mkTI Tryz.prog 342 false = some ti342 := by kernel_rfl
theorem tok118 : mkTI Tryz.prog 118 false = some ti118 := by kernel_rfl
theorem tok182 : mkTI Tryz.prog 182 false = some ti182 := by kernel_rfl
theorem tok310 : mkTI Tryz.prog 310 false = some ti310 := by kernel_rfl
theorem tok246 : mkTI Tryz.prog 246 false = some ti246 := by kernel_rfl
theorem tok374 : mkTI Tryz.prog 374 false = some ti374 := by kernel_rfl
theorem tok30 : mkTI Tryz.prog 30 false = some ti30 := by kernel_rfl
theorem tok46 : mkTI Tryz.prog 46 false = some ti46 := by kernel_rfl
theorem tok78 : mkTI Tryz.prog 78 false = some ti78 := by kernel_rfl
theorem tok142 : mkTI Tryz.prog 142 false = some ti142 := by kernel_rfl
theorem tok206 : mkTI Tryz.prog 206 false = some ti206 := by kernel_rfl
theorem tok334 : mkTI Tryz.prog 334 false = some ti334 := by kernel_rfl
theorem tok110 : mkTI Tryz.prog 110 false = some ti110 := by kernel_rfl
theorem tok174 : mkTI Tryz.prog 174 false = some ti174 := by kernel_rfl
theorem tok302 : mkTI Tryz.prog 302 false = some ti302 := by kernel_rfl
theorem tok366 : mkTI Tryz.prog 366 false = some ti366 := by kernel_rfl
theorem tok62 : mkTI Tryz.prog 62 false = some ti62 := by kernel_rfl
theorem tok94 : mkTI Tryz.prog 94 false = some ti94 := by kernel_rfl
theorem tok158 : mkTI Tryz.prog 158 false = some ti158 := by kernel_rfl
theorem tok286 : mkTI Tryz.prog 286 false = some ti286 := by kernel_rfl
theorem tok222 : mkTI Tryz.prog 222 false = some ti222 := by kernel_rfl
theorem tok350 : mkTI Tryz.prog 350 false = some ti350 := by kernel_rfl
theorem tok126 : mkTI Tryz.prog 126 false = some ti126 := by kernel_rfl
theorem tok190 : mkTI Tryz.prog 190 false = some ti190 := by kernel_rfl
theorem tok318 : mkTI Tryz.prog 318 false = some ti318 := by kernel_rfl
theorem tok254 : mkTI Tryz.prog 254 false = some ti254 := by kernel_rfl
def tyL : List (Nat × TI) := [(1, ti1), (3, ti3), (7, ti7), (15, ti15), (31, ti31), (63, ti63), (127, ti127), (255, ti255), (191, ti191), (319, ti319), (95, ti95), (159, ti159), (287, ti287), (223, ti223), (351, ti351), (47, ti47), (79, ti79), (143, ti143), (271, ti271), (207, ti207), (335, ti335), (111, ti111), (175, ti175), (303, ti303), (239, ti239), (367, ti367), (23, ti23), (39, ti39), (71, ti71), (135, ti135), (263, ti263), (391, ti391), (199, ti199), (327, ti327), (103, ti103), (167, ti167), (295, ti295), (231, ti231), (359, ti359), (87, ti87), (151, ti151), (279, ti279), (215, ti215), (343, ti343), (183, ti183), (311, ti311), (247, ti247), (375, ti375), (11, ti11), (19, ti19), (35, ti35), (67, ti67), (259, ti259), (387, ti387), (195, ti195), (323, ti323), (163, ti163), (291, ti291), (227, ti227), (355, ti355), (51, ti51), (147, ti147), (275, ti275), (211, ti211), (115, ti115), (179, ti179), (307, ti307), (243, ti243), (371, ti371), (27, ti27), (43, ti43), (75, ti75), (139, ti139), (267, ti267), (203, ti203), (331, ti331), (171, ti171), (299, ti299), (363, ti363), (59, ti59), (91, ti91), (155, ti155), (283, ti283), (219, ti219), (347, ti347), (123, ti123), (187, ti187), (315, ti315), (251, ti251), (379, ti379), (5, ti5), (9, ti9), (17, ti17), (33, ti33), (65, ti65), (129, ti129), (257, ti257), (385, ti385), (193, ti193), (321, ti321), (97, ti97), (161, ti161), (289, ti289), (225, ti225), (353, ti353), (49, ti49), (81, ti81), (145, ti145), (273, ti273), (209, ti209), (337, ti337), (113, ti113), (177, ti177), (305, ti305), (241, ti241), (25, ti25), (41, ti41), (73, ti73), (137, ti137), (265, ti265), (201, ti201), (329, ti329), (105, ti105), (169, ti169), (297, ti297), (361, ti361), (57, ti57), (89, ti89), (153, ti153), (281, ti281), (217, ti217), (121, ti121), (185, ti185), (313, ti313), (249, ti249), (377, ti377), (13, ti13), (21, ti21), (37, ti37), (69, ti69), (133, ti133), (261, ti261), (389, ti389), (197, ti197), (325, ti325), (101, ti101), (165, ti165), (293, ti293), (229, ti229), (357, ti357), (53, ti53), (85, ti85), (149, ti149), (277, ti277), (213, ti213), (341, ti341), (181, ti181), (309, ti309), (245, ti245), (373, ti373), (45, ti45), (77, ti77), (141, ti141), (269, ti269), (205, ti205), (333, ti333), (109, ti109), (173, ti173), (301, ti301), (237, ti237), (365, ti365), (61, ti61), (93, ti93), (157, ti157), (285, ti285), (221, ti221), (349, ti349), (125, ti125), (189, ti189), (317, ti317), (253, ti253), (381, ti381), (2, ti2), (4, ti4), (8, ti8), (16, ti16), (32, ti32), (64, ti64), (128, ti128), (256, ti256), (192, ti192), (96, ti96), (160, ti160), (224, ti224), (352, ti352), (48, ti48), (80, ti80), (144, ti144), (272, ti272), (208, ti208), (336, ti336), (176, ti176), (240, ti240), (368, ti368), (24, ti24), (40, ti40), (136, ti136), (264, ti264), (392, ti392), (200, ti200), (328, ti328), (104, ti104), (168, ti168), (296, ti296), (232, ti232), (56, ti56), (88, ti88), (152, ti152), (280, ti280), (216, ti216), (344, ti344), (120, ti120), (184, ti184), (312, ti312), (248, ti248), (376, ti376), (12, ti12), (68, ti68), (132, ti132), (260, ti260), (388, ti388), (196, ti196), (324, ti324), (100, ti100), (164, ti164), (292, ti292), (228, ti228), (356, ti356), (52, ti52), (84, ti84), (276, ti276), (212, ti212), (340, ti340), (116, ti116), (180, ti180), (308, ti308), (244, ti244), (372, ti372), (28, ti28), (44, ti44), (140, ti140), (268, ti268), (204, ti204), (332, ti332), (108, ti108), (172, ti172), (300, ti300), (236, ti236), (364, ti364), (60, ti60), (92, ti92), (156, ti156), (284, ti284), (220, ti220), (348, ti348), (124, ti124), (188, ti188), (252, ti252), (380, ti380), (6, ti6), (10, ti10), (18, ti18), (34, ti34), (66, ti66), (130, ti130), (258, ti258), (386, ti386), (194, ti194), (98, ti98), (162, ti162), (290, ti290), (226, ti226), (354, ti354), (50, ti50), (82, ti82), (146, ti146), (274, ti274), (338, ti338), (114, ti114), (178, ti178), (306, ti306), (242, ti242), (370, ti370), (26, ti26), (138, ti138), (266, ti266), (202, ti202), (330, ti330), (106, ti106), (170, ti170), (298, ti298), (234, ti234), (362, ti362), (58, ti58), (154, ti154), (282, ti282), (218, ti218), (346, ti346), (122, ti122), (186, ti186), (314, ti314), (250, ti250), (378, ti378), (14, ti14), (22, ti22), (38, ti38), (70, ti70), (134, ti134), (390, ti390), (198, ti198), (326, ti326), (102, ti102), (166, ti166), (294, ti294), (230, ti230), (358, ti358), (54, ti54), (150, ti150), (278, ti278), (214, ti214), (342, ti342), (118, ti118), (182, ti182), (310, ti310), (246, ti246), (374, ti374), (30, ti30), (46, ti46), (78, ti78), (142, ti142), (206, ti206), (334, ti334), (110, ti110), (174, ti174), (302, ti302), (366, ti366), (62, ti62), (94, ti94), (158, ti158), (286, ti286), (222, ti222), (350, ti350), (126, ti126), (190, ti190), (318, ti318), (254, ti254)]
theorem tyL_eq : Tr.toL tyT 1 0 = tyL := by kernel_rfl
theorem tyL_ok : ∀ p ∈ tyL, mkTI Tryz.prog p.1 p.2.eqok = some p.2 :=
  List.forall_mem_cons.2 ⟨tok1,
  List.forall_mem_cons.2 ⟨tok3,
  List.forall_mem_cons.2 ⟨tok7,
  List.forall_mem_cons.2 ⟨tok15,
  List.forall_mem_cons.2 ⟨tok31,
  List.forall_mem_cons.2 ⟨tok63,
  List.forall_mem_cons.2 ⟨tok127,
  List.forall_mem_cons.2 ⟨tok255,
  List.forall_mem_cons.2 ⟨tok191,
  List.forall_mem_cons.2 ⟨tok319,
  List.forall_mem_cons.2 ⟨tok95,
  List.forall_mem_cons.2 ⟨tok159,
  List.forall_mem_cons.2 ⟨tok287,
  List.forall_mem_cons.2 ⟨tok223,
  List.forall_mem_cons.2 ⟨tok351,
  List.forall_mem_cons.2 ⟨tok47,
  List.forall_mem_cons.2 ⟨tok79,
  List.forall_mem_cons.2 ⟨tok143,
  List.forall_mem_cons.2 ⟨tok271,
  List.forall_mem_cons.2 ⟨tok207,
  List.forall_mem_cons.2 ⟨tok335,
  List.forall_mem_cons.2 ⟨tok111,
  List.forall_mem_cons.2 ⟨tok175,
  List.forall_mem_cons.2 ⟨tok303,
  List.forall_mem_cons.2 ⟨tok239,
  List.forall_mem_cons.2 ⟨tok367,
  List.forall_mem_cons.2 ⟨tok23,
  List.forall_mem_cons.2 ⟨tok39,
  List.forall_mem_cons.2 ⟨tok71,
  List.forall_mem_cons.2 ⟨tok135,
  List.forall_mem_cons.2 ⟨tok263,
  List.forall_mem_cons.2 ⟨tok391,
  List.forall_mem_cons.2 ⟨tok199,
  List.forall_mem_cons.2 ⟨tok327,
  List.forall_mem_cons.2 ⟨tok103,
  List.forall_mem_cons.2 ⟨tok167,
  List.forall_mem_cons.2 ⟨tok295,
  List.forall_mem_cons.2 ⟨tok231,
  List.forall_mem_cons.2 ⟨tok359,
  List.forall_mem_cons.2 ⟨tok87,
  List.forall_mem_cons.2 ⟨tok151,
  List.forall_mem_cons.2 ⟨tok279,
  List.forall_mem_cons.2 ⟨tok215,
  List.forall_mem_cons.2 ⟨tok343,
  List.forall_mem_cons.2 ⟨tok183,
  List.forall_mem_cons.2 ⟨tok311,
  List.forall_mem_cons.2 ⟨tok247,
  List.forall_mem_cons.2 ⟨tok375,
  List.forall_mem_cons.2 ⟨tok11,
  List.forall_mem_cons.2 ⟨tok19,
  List.forall_mem_cons.2 ⟨tok35,
  List.forall_mem_cons.2 ⟨tok67,
  List.forall_mem_cons.2 ⟨tok259,
  List.forall_mem_cons.2 ⟨tok387,
  List.forall_mem_cons.2 ⟨tok195,
  List.forall_mem_cons.2 ⟨tok323,
  List.forall_mem_cons.2 ⟨tok163,
  List.forall_mem_cons.2 ⟨tok291,
  List.forall_mem_cons.2 ⟨tok227,
  List.forall_mem_cons.2 ⟨tok355,
  List.forall_mem_cons.2 ⟨tok51,
  List.forall_mem_cons.2 ⟨tok147,
  List.forall_mem_cons.2 ⟨tok275,
  List.forall_mem_cons.2 ⟨tok211,
  List.forall_mem_cons.2 ⟨tok115,
  List.forall_mem_cons.2 ⟨tok179,
  List.forall_mem_cons.2 ⟨tok307,
  List.forall_mem_cons.2 ⟨tok243,
  List.forall_mem_cons.2 ⟨tok371,
  List.forall_mem_cons.2 ⟨tok27,
  List.forall_mem_cons.2 ⟨tok43,
  List.forall_mem_cons.2 ⟨tok75,
  List.forall_mem_cons.2 ⟨tok139,
  List.forall_mem_cons.2 ⟨tok267,
  List.forall_mem_cons.2 ⟨tok203,
  List.forall_mem_cons.2 ⟨tok331,
  List.forall_mem_cons.2 ⟨tok171,
  List.forall_mem_cons.2 ⟨tok299,
  List.forall_mem_cons.2 ⟨tok363,
  List.forall_mem_cons.2 ⟨tok59,
  List.forall_mem_cons.2 ⟨tok91,
  List.forall_mem_cons.2 ⟨tok155,
  List.forall_mem_cons.2 ⟨tok283,
  List.forall_mem_cons.2 ⟨tok219,
  List.forall_mem_cons.2 ⟨tok347,
  List.forall_mem_cons.2 ⟨tok123,
  List.forall_mem_cons.2 ⟨tok187,
  List.forall_mem_cons.2 ⟨tok315,
  List.forall_mem_cons.2 ⟨tok251,
  List.forall_mem_cons.2 ⟨tok379,
  List.forall_mem_cons.2 ⟨tok5,
  List.forall_mem_cons.2 ⟨tok9,
  List.forall_mem_cons.2 ⟨tok17,
  List.forall_mem_cons.2 ⟨tok33,
  List.forall_mem_cons.2 ⟨tok65,
  List.forall_mem_cons.2 ⟨tok129,
  List.forall_mem_cons.2 ⟨tok257,
  List.forall_mem_cons.2 ⟨tok385,
  List.forall_mem_cons.2 ⟨tok193,
  List.forall_mem_cons.2 ⟨tok321,
  List.forall_mem_cons.2 ⟨tok97,
  List.forall_mem_cons.2 ⟨tok161,
  List.forall_mem_cons.2 ⟨tok289,
  List.forall_mem_cons.2 ⟨tok225,
  List.forall_mem_cons.2 ⟨tok353,
  List.forall_mem_cons.2 ⟨tok49,
  List.forall_mem_cons.2 ⟨tok81,
  List.forall_mem_cons.2 ⟨tok145,
  List.forall_mem_cons.2 ⟨tok273,
  List.forall_mem_cons.2 ⟨tok209,
  List.forall_mem_cons.2 ⟨tok337,
  List.forall_mem_cons.2 ⟨tok113,
  List.forall_mem_cons.2 ⟨tok177,
  List.forall_mem_cons.2 ⟨tok305,
  List.forall_mem_cons.2 ⟨tok241,
  List.forall_mem_cons.2 ⟨tok25,
  List.forall_mem_cons.2 ⟨tok41,
  List.forall_mem_cons.2 ⟨tok73,
  List.forall_mem_cons.2 ⟨tok137,
  List.forall_mem_cons.2 ⟨tok265,
  List.forall_mem_cons.2 ⟨tok201,
  List.forall_mem_cons.2 ⟨tok329,
  List.forall_mem_cons.2 ⟨tok105,
  List.forall_mem_cons.2 ⟨tok169,
  List.forall_mem_cons.2 ⟨tok297,
  List.forall_mem_cons.2 ⟨tok361,
  List.forall_mem_cons.2 ⟨tok57,
  List.forall_mem_cons.2 ⟨tok89,
  List.forall_mem_cons.2 ⟨tok153,
  List.forall_mem_cons.2 ⟨tok281,
  List.forall_mem_cons.2 ⟨tok217,
  List.forall_mem_cons.2 ⟨tok121,
  List.forall_mem_cons.2 ⟨tok185,
  List.forall_mem_cons.2 ⟨tok313,
  List.forall_mem_cons.2 ⟨tok249,
  List.forall_mem_cons.2 ⟨tok377,
  List.forall_mem_cons.2 ⟨tok13,
  List.forall_mem_cons.2 ⟨tok21,
  List.forall_mem_cons.2 ⟨tok37,
  List.forall_mem_cons.2 ⟨tok69,
  List.forall_mem_cons.2 ⟨tok133,
  List.forall_mem_cons.2 ⟨tok261,
  List.forall_mem_cons.2 ⟨tok389,
  List.forall_mem_cons.2 ⟨tok197,
  List.forall_mem_cons.2 ⟨tok325,
  List.forall_mem_cons.2 ⟨tok101,
  List.forall_mem_cons.2 ⟨tok165,
  List.forall_mem_cons.2 ⟨tok293,
  List.forall_mem_cons.2 ⟨tok229,
  List.forall_mem_cons.2 ⟨tok357,
  List.forall_mem_cons.2 ⟨tok53,
  List.forall_mem_cons.2 ⟨tok85,
  List.forall_mem_cons.2 ⟨tok149,
  List.forall_mem_cons.2 ⟨tok277,
  List.forall_mem_cons.2 ⟨tok213,
  List.forall_mem_cons.2 ⟨tok341,
  List.forall_mem_cons.2 ⟨tok181,
  List.forall_mem_cons.2 ⟨tok309,
  List.forall_mem_cons.2 ⟨tok245,
  List.forall_mem_cons.2 ⟨tok373,
  List.forall_mem_cons.2 ⟨tok45,
  List.forall_mem_cons.2 ⟨tok77,
  List.forall_mem_cons.2 ⟨tok141,
  List.forall_mem_cons.2 ⟨tok269,
  List.forall_mem_cons.2 ⟨tok205,
  List.forall_mem_cons.2 ⟨tok333,
  List.forall_mem_cons.2 ⟨tok109,
  List.forall_mem_cons.2 ⟨tok173,
  List.forall_mem_cons.2 ⟨tok301,
  List.forall_mem_cons.2 ⟨tok237,
  List.forall_mem_cons.2 ⟨tok365,
  List.forall_mem_cons.2 ⟨tok61,
  List.forall_mem_cons.2 ⟨tok93,
  List.forall_mem_cons.2 ⟨tok157,
  List.forall_mem_cons.2 ⟨tok285,
  List.forall_mem_cons.2 ⟨tok221,
  List.forall_mem_cons.2 ⟨tok349,
  List.forall_mem_cons.2 ⟨tok125,
  List.forall_mem_cons.2 ⟨tok189,
  List.forall_mem_cons.2 ⟨tok317,
  List.forall_mem_cons.2 ⟨tok253,
  List.forall_mem_cons.2 ⟨tok381,
  List.forall_mem_cons.2 ⟨tok2,
  List.forall_mem_cons.2 ⟨tok4,
  List.forall_mem_cons.2 ⟨tok8,
  List.forall_mem_cons.2 ⟨tok16,
  List.forall_mem_cons.2 ⟨tok32,
  List.forall_mem_cons.2 ⟨tok64,
  List.forall_mem_cons.2 ⟨tok128,
  List.forall_mem_cons.2 ⟨tok256,
  List.forall_mem_cons.2 ⟨tok192,
  List.forall_mem_cons.2 ⟨tok96,
  List.forall_mem_cons.2 ⟨tok160,
  List.forall_mem_cons.2 ⟨tok224,
  List.forall_mem_cons.2 ⟨tok352,
  List.forall_mem_cons.2 ⟨tok48,
  List.forall_mem_cons.2 ⟨tok80,
  List.forall_mem_cons.2 ⟨tok144,
  List.forall_mem_cons.2 ⟨tok272,
  List.forall_mem_cons.2 ⟨tok208,
  List.forall_mem_cons.2 ⟨tok336,
  List.forall_mem_cons.2 ⟨tok176,
  List.forall_mem_cons.2 ⟨tok240,
  List.forall_mem_cons.2 ⟨tok368,
  List.forall_mem_cons.2 ⟨tok24,
  List.forall_mem_cons.2 ⟨tok40,
  List.forall_mem_cons.2 ⟨tok136,
  List.forall_mem_cons.2 ⟨tok264,
  List.forall_mem_cons.2 ⟨tok392,
  List.forall_mem_cons.2 ⟨tok200,
  List.forall_mem_cons.2 ⟨tok328,
  List.forall_mem_cons.2 ⟨tok104,
  List.forall_mem_cons.2 ⟨tok168,
  List.forall_mem_cons.2 ⟨tok296,
  List.forall_mem_cons.2 ⟨tok232,
  List.forall_mem_cons.2 ⟨tok56,
  List.forall_mem_cons.2 ⟨tok88,
  List.forall_mem_cons.2 ⟨tok152,
  List.forall_mem_cons.2 ⟨tok280,
  List.forall_mem_cons.2 ⟨tok216,
  List.forall_mem_cons.2 ⟨tok344,
  List.forall_mem_cons.2 ⟨tok120,
  List.forall_mem_cons.2 ⟨tok184,
  List.forall_mem_cons.2 ⟨tok312,
  List.forall_mem_cons.2 ⟨tok248,
  List.forall_mem_cons.2 ⟨tok376,
  List.forall_mem_cons.2 ⟨tok12,
  List.forall_mem_cons.2 ⟨tok68,
  List.forall_mem_cons.2 ⟨tok132,
  List.forall_mem_cons.2 ⟨tok260,
  List.forall_mem_cons.2 ⟨tok388,
  List.forall_mem_cons.2 ⟨tok196,
  List.forall_mem_cons.2 ⟨tok324,
  List.forall_mem_cons.2 ⟨tok100,
  List.forall_mem_cons.2 ⟨tok164,
  List.forall_mem_cons.2 ⟨tok292,
  List.forall_mem_cons.2 ⟨tok228,
  List.forall_mem_cons.2 ⟨tok356,
  List.forall_mem_cons.2 ⟨tok52,
  List.forall_mem_cons.2 ⟨tok84,
  List.forall_mem_cons.2 ⟨tok276,
  List.forall_mem_cons.2 ⟨tok212,
  List.forall_mem_cons.2 ⟨tok340,
  List.forall_mem_cons.2 ⟨tok116,
  List.forall_mem_cons.2 ⟨tok180,
  List.forall_mem_cons.2 ⟨tok308,
  List.forall_mem_cons.2 ⟨tok244,
  List.forall_mem_cons.2 ⟨tok372,
  List.forall_mem_cons.2 ⟨tok28,
  List.forall_mem_cons.2 ⟨tok44,
  List.forall_mem_cons.2 ⟨tok140,
  List.forall_mem_cons.2 ⟨tok268,
  List.forall_mem_cons.2 ⟨tok204,
  List.forall_mem_cons.2 ⟨tok332,
  List.forall_mem_cons.2 ⟨tok108,
  List.forall_mem_cons.2 ⟨tok172,
  List.forall_mem_cons.2 ⟨tok300,
  List.forall_mem_cons.2 ⟨tok236,
  List.forall_mem_cons.2 ⟨tok364,
  List.forall_mem_cons.2 ⟨tok60,
  List.forall_mem_cons.2 ⟨tok92,
  List.forall_mem_cons.2 ⟨tok156,
  List.forall_mem_cons.2 ⟨tok284,
  List.forall_mem_cons.2 ⟨tok220,
  List.forall_mem_cons.2 ⟨tok348,
  List.forall_mem_cons.2 ⟨tok124,
  List.forall_mem_cons.2 ⟨tok188,
  List.forall_mem_cons.2 ⟨tok252,
  List.forall_mem_cons.2 ⟨tok380,
  List.forall_mem_cons.2 ⟨tok6,
  List.forall_mem_cons.2 ⟨tok10,
  List.forall_mem_cons.2 ⟨tok18,
  List.forall_mem_cons.2 ⟨tok34,
  List.forall_mem_cons.2 ⟨tok66,
  List.forall_mem_cons.2 ⟨tok130,
  List.forall_mem_cons.2 ⟨tok258,
  List.forall_mem_cons.2 ⟨tok386,
  List.forall_mem_cons.2 ⟨tok194,
  List.forall_mem_cons.2 ⟨tok98,
  List.forall_mem_cons.2 ⟨tok162,
  List.forall_mem_cons.2 ⟨tok290,
  List.forall_mem_cons.2 ⟨tok226,
  List.forall_mem_cons.2 ⟨tok354,
  List.forall_mem_cons.2 ⟨tok50,
  List.forall_mem_cons.2 ⟨tok82,
  List.forall_mem_cons.2 ⟨tok146,
  List.forall_mem_cons.2 ⟨tok274,
  List.forall_mem_cons.2 ⟨tok338,
  List.forall_mem_cons.2 ⟨tok114,
  List.forall_mem_cons.2 ⟨tok178,
  List.forall_mem_cons.2 ⟨tok306,
  List.forall_mem_cons.2 ⟨tok242,
  List.forall_mem_cons.2 ⟨tok370,
  List.forall_mem_cons.2 ⟨tok26,
  List.forall_mem_cons.2 ⟨tok138,
  List.forall_mem_cons.2 ⟨tok266,
  List.forall_mem_cons.2 ⟨tok202,
  List.forall_mem_cons.2 ⟨tok330,
  List.forall_mem_cons.2 ⟨tok106,
  List.forall_mem_cons.2 ⟨tok170,
  List.forall_mem_cons.2 ⟨tok298,
  List.forall_mem_cons.2 ⟨tok234,
  List.forall_mem_cons.2 ⟨tok362,
  List.forall_mem_cons.2 ⟨tok58,
  List.forall_mem_cons.2 ⟨tok154,
  List.forall_mem_cons.2 ⟨tok282,
  List.forall_mem_cons.2 ⟨tok218,
  List.forall_mem_cons.2 ⟨tok346,
  List.forall_mem_cons.2 ⟨tok122,
  List.forall_mem_cons.2 ⟨tok186,
  List.forall_mem_cons.2 ⟨tok314,
  List.forall_mem_cons.2 ⟨tok250,
  List.forall_mem_cons.2 ⟨tok378,
  List.forall_mem_cons.2 ⟨tok14,
  List.forall_mem_cons.2 ⟨tok22,
  List.forall_mem_cons.2 ⟨tok38,
  List.forall_mem_cons.2 ⟨tok70,
  List.forall_mem_cons.2 ⟨tok134,
  List.forall_mem_cons.2 ⟨tok390,
  List.forall_mem_cons.2 ⟨tok198,
  List.forall_mem_cons.2 ⟨tok326,
  List.forall_mem_cons.2 ⟨tok102,
  List.forall_mem_cons.2 ⟨tok166,
  List.forall_mem_cons.2 ⟨tok294,
  List.forall_mem_cons.2 ⟨tok230,
  List.forall_mem_cons.2 ⟨tok358,
  List.forall_mem_cons.2 ⟨tok54,
  List.forall_mem_cons.2 ⟨tok150,
  List.forall_mem_cons.2 ⟨tok278,
  List.forall_mem_cons.2 ⟨tok214,
  List.forall_mem_cons.2 ⟨tok342,
  List.forall_mem_cons.2 ⟨tok118,
  List.forall_mem_cons.2 ⟨tok182,
  List.forall_mem_cons.2 ⟨tok310,
  List.forall_mem_cons.2 ⟨tok246,
  List.forall_mem_cons.2 ⟨tok374,
  List.forall_mem_cons.2 ⟨tok30,
  List.forall_mem_cons.2 ⟨tok46,
  List.forall_mem_cons.2 ⟨tok78,
  List.forall_mem_cons.2 ⟨tok142,
  List.forall_mem_cons.2 ⟨tok206,
  List.forall_mem_cons.2 ⟨tok334,
  List.forall_mem_cons.2 ⟨tok110,
  List.forall_mem_cons.2 ⟨tok174,
  List.forall_mem_cons.2 ⟨tok302,
  List.forall_mem_cons.2 ⟨tok366,
  List.forall_mem_cons.2 ⟨tok62,
  List.forall_mem_cons.2 ⟨tok94,
  List.forall_mem_cons.2 ⟨tok158,
  List.forall_mem_cons.2 ⟨tok286,
  List.forall_mem_cons.2 ⟨tok222,
  List.forall_mem_cons.2 ⟨tok350,
  List.forall_mem_cons.2 ⟨tok126,
  List.forall_mem_cons.2 ⟨tok190,
  List.forall_mem_cons.2 ⟨tok318,
  List.forall_mem_cons.2 ⟨tok254,
  (fun _ h => nomatch h)⟩⟩⟩⟩⟩⟩⟩⟩⟩⟩⟩⟩⟩⟩⟩⟩⟩⟩⟩⟩⟩⟩⟩⟩⟩⟩⟩⟩⟩⟩⟩⟩⟩⟩⟩⟩⟩⟩⟩⟩⟩⟩⟩⟩⟩⟩⟩⟩⟩⟩⟩⟩⟩⟩⟩⟩⟩⟩⟩⟩⟩⟩⟩⟩⟩⟩⟩⟩⟩⟩⟩⟩⟩⟩⟩⟩⟩⟩⟩⟩⟩⟩⟩⟩⟩⟩⟩⟩⟩⟩⟩⟩⟩⟩⟩⟩⟩⟩⟩⟩⟩⟩⟩⟩⟩⟩⟩⟩⟩⟩⟩⟩⟩⟩⟩⟩⟩⟩⟩⟩⟩⟩⟩⟩⟩⟩⟩⟩⟩⟩⟩⟩⟩⟩⟩⟩⟩⟩⟩⟩⟩⟩⟩⟩⟩⟩⟩⟩⟩⟩⟩⟩⟩⟩⟩⟩⟩⟩⟩⟩⟩⟩⟩⟩⟩⟩⟩⟩⟩⟩⟩⟩⟩⟩⟩⟩⟩⟩⟩⟩⟩⟩⟩⟩⟩⟩⟩⟩⟩⟩⟩⟩⟩⟩⟩⟩⟩⟩⟩⟩⟩⟩⟩⟩⟩⟩⟩⟩⟩⟩⟩⟩⟩⟩⟩⟩⟩⟩⟩⟩⟩⟩⟩⟩⟩⟩⟩⟩⟩⟩⟩⟩⟩⟩⟩⟩⟩⟩⟩⟩⟩⟩⟩⟩⟩⟩⟩⟩⟩⟩⟩⟩⟩⟩⟩⟩⟩⟩⟩⟩⟩⟩⟩⟩⟩⟩⟩⟩⟩⟩⟩⟩⟩⟩⟩⟩⟩⟩⟩⟩⟩⟩⟩⟩⟩⟩⟩⟩⟩⟩⟩⟩⟩⟩⟩⟩⟩⟩⟩⟩⟩⟩⟩⟩⟩⟩⟩⟩⟩⟩⟩⟩⟩⟩⟩⟩⟩⟩⟩⟩⟩⟩⟩⟩⟩⟩⟩⟩⟩⟩⟩⟩⟩⟩⟩⟩⟩⟩⟩⟩⟩⟩⟩⟩⟩⟩⟩⟩⟩⟩⟩⟩⟩⟩⟩⟩
end Go.Proofs.YthlkmffimhnehaaGreat
namespace Go.Proofs.YthlkmffimhnehaaGreat
open Go Go.Ev
theorem sameS {a : AV} {s : List UInt8} (h : sameAt (.str s) a = true) : ∃ t, a = .str t := by
  cases a <;> first | exact ⟨_, rfl⟩ | cases h
theorem sameI {a : AV} {k : IntKind} {n : Int} (h : sameAt (.int k n) a = true) : ∃ m, a = .int k m := by
  cases a <;> first | (cases h; done) | skip
  rename_i j m
  have h : decide (k = j) = true := h
  have := of_decide_eq_true h
  subst this; exact ⟨m, rfl⟩
theorem sameC {z : AV} {zs cs : List AV} (h : sameL (z :: zs) cs = true) : ∃ a l, cs = a :: l ∧ sameAt z a = true ∧ sameL zs l = true := by
  cases cs with
  | nil => cases h
  | cons a l =>
    have h : (sameAt z a && sameL zs l) = true := h
    rw [Bool.and_eq_true] at h
    exact ⟨a, l, rfl, h.1, h.2⟩
theorem sameN {cs : List AV} (h : sameL [] cs = true) : cs = [] := by
  cases cs with
  | nil => rfl
  | cons a l => cases h
theorem rl_cons {w : World} {g : G} {a : AV} {cs : List AV} {us : List Value} (h : RL w g (a :: cs) us) : ∃ v vs, us = v :: vs ∧ Rep w g a v ∧ RL w g cs vs := by
  cases h with
  | cons _ v _ vs h1 h2 => exact ⟨v, vs, rfl, h1, h2⟩
theorem rl_nil {w : World} {g : G} {us : List Value} (h : RL w g [] us) : us = [] := by
  cases h; rfl
def eqF (d : Nat) (xs ys : Array Value) : List (Bool × TypeId × Nat) → Sem Bool
  | [] => pure true
  | (u, t, o) :: fs =>
    if u = false then do
      let a ← part t xs o
      let b ← part t ys o
      let r ← Op.equalIn d t a b
      if (!r) = true then pure false else eqF d xs ys fs
    else eqF d xs ys fs
theorem eqFields_map (d : Nat) (xs ys : Array Value) : ∀ fs : List Field, Op.eqFields d xs ys fs = eqF d xs ys (fs.map fun f => (f.name == "_", f.type, f.offset)) := by
  intro fs
  induction fs with
  | nil => rfl
  | cons f fs ih =>
    simp only [Op.eqFields, List.map_cons, eqF, ih]
    by_cases h : f.name = "_" <;> simp [h]
section
variable {P : Program}
theorem eqF_cons {d : Nat} {xs ys : Array Value} {t o : Nat} {fs : List (Bool × TypeId × Nat)} {x y : Value} {r : Bool} {w : World} (hg : (isAgg t).run P w = .ok false w) (hx : xs[o]? = some x) (hy : ys[o]? = some y) (he : (Op.equalIn d t x y).run P w = .ok r w) {q : Bool}
    (hq : (eqF d xs ys fs).run P w = .ok q w) : (eqF d xs ys ((false, t, o) :: fs)).run P w = .ok (r && q) w := by
  have h1 : (part t xs o).run P w = .ok x w := by unfold part; simp [Sem.run_bind, hg, hx]
  have h2 : (part t ys o).run P w = .ok y w := by unfold part; simp [Sem.run_bind, hg, hy]
  unfold eqF
  rw [if_pos rfl]
  simp only [Sem.run_bind, h1, h2, he, Result.andThen_ok]
  cases r with
  | true => simpa using hq
  | false => simp
theorem struct_eq {t : TypeId} {xs ys : Array Value} {l : List (Bool × TypeId × Nat)} (ht : P.underlying t = some (.struct (P.fieldsOf t))) (hp : P.stoodInHeld t = false) (hl : ((P.fieldsOf t).toList.map fun f => (f.name == "_", f.type, f.offset)) = l) {r : Bool} {w : World}
    (h : (eqF 9999 xs ys l).run P w = .ok r w) : (Op.equal t (.agg xs) (.agg ys)).run P w = .ok r w := by
  rw [eqd, run_equalIn_struct w 9999 t xs ys ht hp, eqFields_map, hl, h]
end
theorem agg3 (w : World) : (isAgg 3).run Tryz.prog w = .ok false w := by
  have h : Tryz.prog.underlying 3 = some (.int .i64) := by kernel_rfl
  unfold isAgg
  simp [Sem.run_bind, run_underlying h]
theorem agg9 (w : World) : (isAgg 9).run Tryz.prog w = .ok false w := by
  have h : Tryz.prog.underlying 9 = some .string := by kernel_rfl
  unfold isAgg
  simp [Sem.run_bind, run_underlying h]
theorem eqI (m n : Int) (w : World) : (Op.equalIn 9999 3 (.int .i64 m) (.int .i64 n)).run Tryz.prog w = .ok (beqInt m n) w := by
  have h : Tryz.prog.underlying 3 = some (.int .i64) := by kernel_rfl
  rw [run_equalIn_int w 9998 3 .i64 .i64 m n h, beqInt_eq]
  congr 1
theorem eqS (s t : List UInt8) (w : World) : (Op.equalIn 9999 9 (.string ⟨s.toArray⟩) (.string ⟨t.toArray⟩)).run Tryz.prog w = .ok (eqL s t) w := by
  have h : Tryz.prog.underlying 9 = some .string := by kernel_rfl
  rw [run_equalIn_string w 9998 9 _ _ h, eqL_eq, ByteArray.toList_eq, ByteArray.toList_eq]
  have : (s == t) = decide (s = t) := by rw [Bool.eq_iff_iff]; simp
  simp [this]
theorem u54 : Tryz.prog.underlying 54 = some (.struct (Tryz.prog.fieldsOf 54)) := by kernel_rfl
theorem p54 : Tryz.prog.stoodInHeld 54 = false := by kernel_rfl
theorem f54 : ((Tryz.prog.fieldsOf 54).toList.map fun f => (f.name == "_", f.type, f.offset)) = [(false, 9, 0), (false, 3, 1)] := by kernel_rfl
theorem u80 : Tryz.prog.underlying 80 = some (.struct (Tryz.prog.fieldsOf 80)) := by kernel_rfl
theorem p80 : Tryz.prog.stoodInHeld 80 = false := by kernel_rfl
theorem f80 : ((Tryz.prog.fieldsOf 80).toList.map fun f => (f.name == "_", f.type, f.offset)) = [(false, 3, 0), (false, 9, 1), (false, 3, 2)] := by kernel_rfl
theorem eq54 : EqFact Tryz.prog 54 ti54.zero.cells := by
  refine ⟨by kernel_rfl, ?_⟩
  intro w w' g cs bs us vs r ha hb hsa hsb he
  have hsa : sameL [.str [], .int .i64 0] cs = true := hsa
  have hsb : sameL [.str [], .int .i64 0] bs = true := hsb
  obtain ⟨a1, l1, rfl, h1, h2⟩ := sameC hsa
  obtain ⟨s, rfl⟩ := sameS h1
  obtain ⟨a2, l2, rfl, h3, h4⟩ := sameC h2
  obtain ⟨m, rfl⟩ := sameI h3
  obtain rfl := sameN h4
  obtain ⟨b1, l1, rfl, h1, h2⟩ := sameC hsb
  obtain ⟨s', rfl⟩ := sameS h1
  obtain ⟨b2, l2, rfl, h3, h4⟩ := sameC h2
  obtain ⟨m', rfl⟩ := sameI h3
  obtain rfl := sameN h4
  obtain ⟨v1, us, rfl, q1, ha⟩ := rl_cons ha
  obtain ⟨v2, us, rfl, q2, ha⟩ := rl_cons ha
  obtain rfl := rl_nil ha
  obtain ⟨u1, vs, rfl, q3, hb⟩ := rl_cons hb
  obtain ⟨u2, vs, rfl, q4, hb⟩ := rl_cons hb
  obtain rfl := rl_nil hb
  rw [rep_str q1, rep_int q2, rep_str q3, rep_int q4]
  have he : some (eqL s s' && (beqInt m m' && true)) = some r := he
  replace he := Option.some.inj he
  subst he
  have e1 := eqF_cons (xs := #[Value.string ⟨s.toArray⟩, .int .i64 m]) (ys := #[Value.string ⟨s'.toArray⟩, .int .i64 m']) (fs := []) (agg3 w') (o := 1) rfl rfl (eqI m m' w') (q := true) (by simp [eqF])
  have e2 := eqF_cons (agg9 w') (o := 0) rfl rfl (eqS s s' w') e1
  have e3 := struct_eq u54 p54 f54 e2
  exact e3
theorem eq80 : EqFact Tryz.prog 80 ti80.zero.cells := by
  refine ⟨by kernel_rfl, ?_⟩
  intro w w' g cs bs us vs r ha hb hsa hsb he
  have hsa : sameL [.int .i64 0, .str [], .int .i64 0] cs = true := hsa
  have hsb : sameL [.int .i64 0, .str [], .int .i64 0] bs = true := hsb
  obtain ⟨a0, l0, rfl, h0, hsa2⟩ := sameC hsa
  obtain ⟨n, rfl⟩ := sameI h0
  obtain ⟨a1, l1, rfl, h1, h2⟩ := sameC hsa2
  obtain ⟨s, rfl⟩ := sameS h1
  obtain ⟨a2, l2, rfl, h3, h4⟩ := sameC h2
  obtain ⟨m, rfl⟩ := sameI h3
  obtain rfl := sameN h4
  obtain ⟨b0, l0, rfl, h0, hsb2⟩ := sameC hsb
  obtain ⟨n', rfl⟩ := sameI h0
  obtain ⟨b1, l1, rfl, h1, h2⟩ := sameC hsb2
  obtain ⟨s', rfl⟩ := sameS h1
  obtain ⟨b2, l2, rfl, h3, h4⟩ := sameC h2
  obtain ⟨m', rfl⟩ := sameI h3
  obtain rfl := sameN h4
  obtain ⟨v0, us, rfl, q0, ha⟩ := rl_cons ha
  obtain ⟨v1, us, rfl, q1, ha⟩ := rl_cons ha
  obtain ⟨v2, us, rfl, q2, ha⟩ := rl_cons ha
  obtain rfl := rl_nil ha
  obtain ⟨u0, vs, rfl, q5, hb⟩ := rl_cons hb
  obtain ⟨u1, vs, rfl, q3, hb⟩ := rl_cons hb
  obtain ⟨u2, vs, rfl, q4, hb⟩ := rl_cons hb
  obtain rfl := rl_nil hb
  rw [rep_int q0, rep_str q1, rep_int q2, rep_int q5, rep_str q3, rep_int q4]
  have he : some (beqInt n n' && (eqL s s' && (beqInt m m' && true))) = some r := he
  replace he := Option.some.inj he
  subst he
  have e1 := eqF_cons (xs := #[Value.int .i64 n, .string ⟨s.toArray⟩, .int .i64 m]) (ys := #[Value.int .i64 n', .string ⟨s'.toArray⟩, .int .i64 m']) (fs := []) (agg3 w') (o := 2) rfl rfl (eqI m m' w') (q := true) (by simp [eqF])
  have e2 := eqF_cons (agg9 w') (o := 1) rfl rfl (eqS s s' w') e1
  have e3 := eqF_cons (agg3 w') (o := 0) rfl rfl (eqI n n' w') e2
  have e4 := struct_eq u80 p80 f80 e3
  exact e4
theorem eq_few : (tyL.all fun p => !p.2.eqok || Nat.beq p.1 54 || Nat.beq p.1 80) = true := by kernel_rfl
theorem eqs_ok : ∀ p ∈ tyL, p.2.eqok = true → EqFact Tryz.prog p.1 p.2.zero.cells := by
  intro p hp he
  have h1 := tyL_ok p hp
  have h2 := List.all_eq_true.1 eq_few p hp
  obtain ⟨t, i⟩ := p
  have he : i.eqok = true := he
  have h1 : mkTI Tryz.prog t i.eqok = some i := h1
  simp only [he, natBeq, Bool.not_true, Bool.false_or, Bool.or_eq_true, decide_eq_true_eq] at h2
  rw [he] at h1
  rcases h2 with rfl | rfl
  · rw [tok54] at h1; injection h1 with h1; subst h1; exact eq54
  · rw [tok80] at h1; injection h1 with h1; subst h1; exact eq80
theorem tab : TabOk Tryz.prog tyT.get := tab_of (by
  rw [tyL_eq]
  exact fun p hp => ⟨tyL_ok p hp, eqs_ok p hp⟩)
end Go.Proofs.YthlkmffimhnehaaGreat
