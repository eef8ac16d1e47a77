/- Parts of the proof; no condition. -/
import Derived.Test.YthlkmffimhnehaaGreatZal
namespace Go.Proofs.YthlkmffimhnehaaGreat
open Go Go.Ev Go.Ab Go.Pk
set_option maxRecDepth 20000
theorem c236:K Tryz.f293 293 236 3 n236=some ():=by kernel_rfl
theorem c1:K Tryz.f35 35 1 3 n1=some ():=by kernel_rfl
theorem c46:K Tryz.f318 318 46 5 n46=some ():=by kernel_rfl
theorem c221:K Tryz.f136 136 221 7 n221=some ():=by kernel_rfl
theorem c7:K Tryz.f141 141 7 8 n7=some ():=by kernel_rfl
theorem c214:K Tryz.f135 135 214 11 n214=some ():=by kernel_rfl
theorem c326:K Tryz.f358 358 326 5 n326=some ():=by kernel_rfl
theorem c252:K Tryz.f248 248 252 7 n252=some ():=by kernel_rfl
theorem c22:K Tryz.f145 145 22 74 n22=some ():=by kernel_rfl
theorem c202:K Tryz.f133 133 202 24 n202=some ():=by kernel_rfl
theorem c361:K Tryz.f240 240 361 83 n361=some ():=by kernel_rfl
theorem c139:K Tryz.f273 273 139 7 n139=some ():=by kernel_rfl
theorem c117:K Tryz.f219 219 117 5 n117=some ():=by kernel_rfl
theorem c340:K Tryz.f330 330 340 287 n340=some ():=by kernel_rfl
theorem c90:K Tryz.f148 148 90 17 n90=some ():=by kernel_rfl
end Go.Proofs.YthlkmffimhnehaaGreat
