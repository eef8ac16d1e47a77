/- Parts of the proof; no condition. -/
import Derived.Test.YthlkmffimhnehaaGreatZal
namespace Go.Proofs.YthlkmffimhnehaaGreat
open Go Go.Ev Go.Ab Go.Pk
set_option maxRecDepth 20000
theorem c272:K Tryz.f376 376 272 26 n272=some ():=by kernel_rfl
theorem c8:K Tryz.f56 56 8 11 n8=some ():=by kernel_rfl
theorem c250:K Tryz.f297 297 250 5 n250=some ():=by kernel_rfl
theorem c181:K Tryz.f125 125 181 7 n181=some ():=by kernel_rfl
theorem c354:K Tryz.f289 289 354 22 n354=some ():=by kernel_rfl
theorem c134:K Tryz.f272 272 134 3 n134=some ():=by kernel_rfl
theorem c254:K Tryz.f338 338 254 5 n254=some ():=by kernel_rfl
theorem c307:K Tryz.f231 231 307 31 n307=some ():=by kernel_rfl
theorem c14:K Tryz.f208 208 14 40 n14=some ():=by kernel_rfl
theorem c357:K Tryz.f236 236 357 38 n357=some ():=by kernel_rfl
theorem c149:K Tryz.f62 62 149 96 n149=some ():=by kernel_rfl
theorem c203:K Tryz.f133 133 203 58 n203=some ():=by kernel_rfl
theorem c261:K Tryz.f298 298 261 182 n261=some ():=by kernel_rfl
theorem c83:K Tryz.f270 270 83 5 n83=some ():=by kernel_rfl
theorem c287:K Tryz.f344 344 287 103 n287=some ():=by kernel_rfl
theorem c95:K Tryz.f218 218 95 94 n95=some ():=by kernel_rfl
end Go.Proofs.YthlkmffimhnehaaGreat
