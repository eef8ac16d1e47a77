/- Parts of the proof; no condition. -/
import Derived.Test.YthlkmffimhnehaaGreatZal
namespace Go.Proofs.YthlkmffimhnehaaGreat
open Go Go.Ev Go.Ab Go.Pk
set_option maxRecDepth 20000
theorem c198:K Tryz.f202 202 198 3 n198=some ():=by kernel_rfl
theorem c331:K Tryz.f291 291 331 19 n331=some ():=by kernel_rfl
theorem c239:K Tryz.f243 243 239 5 n239=some ():=by kernel_rfl
theorem c205:K Tryz.f205 205 205 3 n205=some ():=by kernel_rfl
theorem c125:K Tryz.f224 224 125 22 n125=some ():=by kernel_rfl
theorem c39:K Tryz.f264 264 39 35 n39=some ():=by kernel_rfl
theorem c40:K Tryz.f211 211 40 5 n40=some ():=by kernel_rfl
theorem c135:K Tryz.f276 276 135 27 n135=some ():=by kernel_rfl
theorem c302:K Tryz.f228 228 302 35 n302=some ():=by kernel_rfl
theorem c365:K Tryz.f74 74 365 12 n365=some ():=by kernel_rfl
theorem c213:K Tryz.f134 134 213 9 n213=some ():=by kernel_rfl
theorem c278:K Tryz.f375 375 278 121 n278=some ():=by kernel_rfl
theorem c85:K Tryz.f219 219 85 24 n85=some ():=by kernel_rfl
theorem c344:K Tryz.f291 291 344 219 n344=some ():=by kernel_rfl
end Go.Proofs.YthlkmffimhnehaaGreat
