/- Parts of the proof; no condition. -/
import Derived.Test.YthlkmffimhnehaaGreatZal
namespace Go.Proofs.YthlkmffimhnehaaGreat
open Go Go.Ev Go.Ab Go.Pk
set_option maxRecDepth 20000
theorem c197:K Tryz.f202 202 197 3 n197=some ():=by kernel_rfl
theorem c162:K Tryz.f165 165 162 3 n162=some ():=by kernel_rfl
theorem c167:K Tryz.f255 255 167 8 n167=some ():=by kernel_rfl
theorem c204:K Tryz.f205 205 204 3 n204=some ():=by kernel_rfl
theorem c298:K Tryz.f279 279 298 22 n298=some ():=by kernel_rfl
theorem c297:K Tryz.f278 278 297 22 n297=some ():=by kernel_rfl
theorem c275:K Tryz.f371 371 275 19 n275=some ():=by kernel_rfl
theorem c42:K Tryz.f216 216 42 5 n42=some ():=by kernel_rfl
theorem c32:K Tryz.f51 51 32 8 n32=some ():=by kernel_rfl
theorem c76:K Tryz.f317 317 76 63 n76=some ():=by kernel_rfl
theorem c68:K Tryz.f315 315 68 84 n68=some ():=by kernel_rfl
theorem c228:K Tryz.f139 139 228 261 n228=some ():=by kernel_rfl
theorem c86:K Tryz.f220 220 86 143 n86=some ():=by kernel_rfl
theorem c141:K Tryz.f155 155 141 52 n141=some ():=by kernel_rfl
theorem c60:K Tryz.f210 210 60 355 n60=some ():=by kernel_rfl
end Go.Proofs.YthlkmffimhnehaaGreat
