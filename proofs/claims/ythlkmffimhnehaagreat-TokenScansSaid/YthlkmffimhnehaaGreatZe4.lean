/- Parts of the proof; no condition. -/
import Derived.Test.YthlkmffimhnehaaGreatZal
namespace Go.Proofs.YthlkmffimhnehaaGreat
open Go Go.Ev Go.Ab Go.Pk
set_option maxRecDepth 20000
theorem c240:K Tryz.f244 244 240 3 n240=some ():=by kernel_rfl
theorem c207:K Tryz.f137 137 207 3 n207=some ():=by kernel_rfl
theorem c74:K Tryz.f347 347 74 6 n74=some ():=by kernel_rfl
theorem c10:K Tryz.f146 146 10 5 n10=some ():=by kernel_rfl
theorem c233:K Tryz.f169 169 233 5 n233=some ():=by kernel_rfl
theorem c299:K Tryz.f281 281 299 5 n299=some ():=by kernel_rfl
theorem c247:K Tryz.f246 246 247 6 n247=some ():=by kernel_rfl
theorem c155:K Tryz.f117 117 155 30 n155=some ():=by kernel_rfl
theorem c216:K Tryz.f135 135 216 32 n216=some ():=by kernel_rfl
theorem c211:K Tryz.f134 134 211 9 n211=some ():=by kernel_rfl
theorem c367:K Tryz.f14 14 367 63 n367=some ():=by kernel_rfl
theorem c342:K Tryz.f328 328 342 5 n342=some ():=by kernel_rfl
theorem c283:K Tryz.f369 369 283 60 n283=some ():=by kernel_rfl
theorem c219:K Tryz.f64 64 219 426 n219=some ():=by kernel_rfl
theorem c142:K Tryz.f73 73 142 513 n142=some ():=by kernel_rfl
end Go.Proofs.YthlkmffimhnehaaGreat
