/- Parts of the proof; no condition. -/
import Derived.Test.YthlkmffimhnehaaGreatZal
namespace Go.Proofs.YthlkmffimhnehaaGreat
open Go Go.Ev Go.Ab Go.Pk
set_option maxRecDepth 20000
theorem c200:K Tryz.f132 132 200 6 n200=some ():=by kernel_rfl
theorem c170:K Tryz.f256 256 170 6 n170=some ():=by kernel_rfl
theorem c49:K Tryz.f346 346 49 3 n49=some ():=by kernel_rfl
theorem c249:K Tryz.f247 247 249 6 n249=some ():=by kernel_rfl
theorem c63:K Tryz.f212 212 63 5 n63=some ():=by kernel_rfl
theorem c209:K Tryz.f204 204 209 5 n209=some ():=by kernel_rfl
theorem c258:K Tryz.f340 340 258 19 n258=some ():=by kernel_rfl
theorem c144:K Tryz.f52 52 144 15 n144=some ():=by kernel_rfl
theorem c190:K Tryz.f313 313 190 36 n190=some ():=by kernel_rfl
theorem c265:K Tryz.f342 342 265 54 n265=some ():=by kernel_rfl
theorem c208:K Tryz.f137 137 208 22 n208=some ():=by kernel_rfl
theorem c345:K Tryz.f237 237 345 6 n345=some ():=by kernel_rfl
theorem c23:K Tryz.f70 70 23 435 n23=some ():=by kernel_rfl
theorem c88:K Tryz.f217 217 88 57 n88=some ():=by kernel_rfl
theorem c282:K Tryz.f370 370 282 264 n282=some ():=by kernel_rfl
theorem c24:K Tryz.f71 71 24 862 n24=some ():=by kernel_rfl
end Go.Proofs.YthlkmffimhnehaaGreat
