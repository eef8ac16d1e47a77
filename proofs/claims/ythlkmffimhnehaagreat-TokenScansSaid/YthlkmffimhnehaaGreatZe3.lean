/- Parts of the proof; no condition. -/
import Derived.Test.YthlkmffimhnehaaGreatZal
namespace Go.Proofs.YthlkmffimhnehaaGreat
open Go Go.Ev Go.Ab Go.Pk
set_option maxRecDepth 20000
theorem c238:K Tryz.f243 243 238 5 n238=some ():=by kernel_rfl
theorem c45:K Tryz.f314 314 45 3 n45=some ():=by kernel_rfl
theorem c16:K Tryz.f147 147 16 3 n16=some ():=by kernel_rfl
theorem c300:K Tryz.f282 282 300 17 n300=some ():=by kernel_rfl
theorem c58:K Tryz.f263 263 58 5 n58=some ():=by kernel_rfl
theorem c161:K Tryz.f163 163 161 18 n161=some ():=by kernel_rfl
theorem c57:K Tryz.f280 280 369 33 n57=some ():=by kernel_rfl
theorem c189:K Tryz.f312 312 189 24 n189=some ():=by kernel_rfl
theorem c360:K Tryz.f239 239 360 102 n360=some ():=by kernel_rfl
theorem c260:K Tryz.f340 340 260 62 n260=some ():=by kernel_rfl
theorem c17:K Tryz.f209 209 17 122 n17=some ():=by kernel_rfl
theorem c349:K Tryz.f288 288 349 9 n349=some ():=by kernel_rfl
theorem c347:K Tryz.f157 157 347 316 n347=some ():=by kernel_rfl
theorem c105:K Tryz.f223 223 105 48 n105=some ():=by kernel_rfl
end Go.Proofs.YthlkmffimhnehaaGreat
