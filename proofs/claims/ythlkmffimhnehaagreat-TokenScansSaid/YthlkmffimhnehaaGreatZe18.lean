/- Parts of the proof; no condition. -/
import Derived.Test.YthlkmffimhnehaaGreatZal
namespace Go.Proofs.YthlkmffimhnehaaGreat
open Go Go.Ev Go.Ab Go.Pk
set_option maxRecDepth 20000
theorem c313:K Tryz.f350 350 313 3 n313=some ():=by kernel_rfl
theorem c315:K Tryz.f327 327 315 9 n315=some ():=by kernel_rfl
theorem c168:K Tryz.f307 307 168 8 n168=some ():=by kernel_rfl
theorem c35:K Tryz.f321 321 35 5 n35=some ():=by kernel_rfl
theorem c319:K Tryz.f353 353 319 5 n319=some ():=by kernel_rfl
theorem c235:K Tryz.f296 296 235 3 n235=some ():=by kernel_rfl
theorem c325:K Tryz.f356 356 325 5 n325=some ():=by kernel_rfl
theorem c78:K Tryz.f268 268 78 29 n78=some ():=by kernel_rfl
theorem c15:K Tryz.f208 208 15 36 n15=some ():=by kernel_rfl
theorem c133:K Tryz.f194 194 133 3 n133=some ():=by kernel_rfl
theorem c82:K Tryz.f148 148 82 7 n82=some ():=by kernel_rfl
theorem c280:K Tryz.f371 371 280 51 n280=some ():=by kernel_rfl
theorem c101:K Tryz.f219 219 101 5 n101=some ():=by kernel_rfl
theorem c104:K Tryz.f217 217 104 33 n104=some ():=by kernel_rfl
theorem c225:K Tryz.f65 65 225 628 n225=some ():=by kernel_rfl
theorem c290:K Tryz.f302 302 290 595 n290=some ():=by kernel_rfl
end Go.Proofs.YthlkmffimhnehaaGreat
