/- Parts of the proof; no condition. -/
import Derived.Test.YthlkmffimhnehaaGreatZal
namespace Go.Proofs.YthlkmffimhnehaaGreat
open Go Go.Ev Go.Ab Go.Pk
set_option maxRecDepth 20000
theorem c11:K Tryz.f143 143 11 3 n11=some ():=by kernel_rfl
theorem c248:K Tryz.f247 247 248 3 n248=some ():=by kernel_rfl
theorem c70:K Tryz.f283 283 70 3 n70=some ():=by kernel_rfl
theorem c71:K Tryz.f283 283 71 3 n71=some ():=by kernel_rfl
theorem c323:K Tryz.f357 357 323 14 n323=some ():=by kernel_rfl
theorem c26:K Tryz.f106 106 26 14 n26=some ():=by kernel_rfl
theorem c293:K Tryz.f171 171 293 6 n293=some ():=by kernel_rfl
theorem c296:K Tryz.f40 40 296 6 n296=some ():=by kernel_rfl
theorem c295:K Tryz.f85 85 295 9 n295=some ():=by kernel_rfl
theorem c304:K Tryz.f230 230 304 50 n304=some ():=by kernel_rfl
theorem c286:K Tryz.f363 363 286 43 n286=some ():=by kernel_rfl
theorem c259:K Tryz.f362 362 259 75 n259=some ():=by kernel_rfl
theorem c194:K Tryz.f61 61 194 138 n194=some ():=by kernel_rfl
theorem c19:K Tryz.f68 68 19 215 n19=some ():=by kernel_rfl
theorem c107:K Tryz.f270 270 107 5 n107=some ():=by kernel_rfl
theorem c113:K Tryz.f223 223 113 47 n113=some ():=by kernel_rfl
end Go.Proofs.YthlkmffimhnehaaGreat
