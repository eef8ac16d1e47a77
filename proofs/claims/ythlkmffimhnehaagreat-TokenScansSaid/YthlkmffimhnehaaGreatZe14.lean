/- Parts of the proof; no condition. -/
import Derived.Test.YthlkmffimhnehaaGreatZal
namespace Go.Proofs.YthlkmffimhnehaaGreat
open Go Go.Ev Go.Ab Go.Pk
set_option maxRecDepth 20000
theorem c180:K Tryz.f124 124 180 3 n180=some ():=by kernel_rfl
theorem c165:K Tryz.f122 122 165 3 n165=some ():=by kernel_rfl
theorem c0:K Tryz.f21 21 0 3 n0=some ():=by kernel_rfl
theorem c183:K Tryz.f127 127 183 7 n183=some ():=by kernel_rfl
theorem c330:K Tryz.f326 326 330 7 n330=some ():=by kernel_rfl
theorem c271:K Tryz.f377 377 271 5 n271=some ():=by kernel_rfl
theorem c157:K Tryz.f119 119 157 49 n157=some ():=by kernel_rfl
theorem c145:K Tryz.f27 27 145 5 n145=some ():=by kernel_rfl
theorem c67:K Tryz.f53 53 67 15 n67=some ():=by kernel_rfl
theorem c132:K Tryz.f154 154 132 27 n132=some ():=by kernel_rfl
theorem c362:K Tryz.f159 159 362 345 n362=some ():=by kernel_rfl
theorem c108:K Tryz.f269 269 108 9 n108=some ():=by kernel_rfl
theorem c266:K Tryz.f299 299 266 280 n266=some ():=by kernel_rfl
theorem c281:K Tryz.f373 373 281 48 n281=some ():=by kernel_rfl
theorem c121:K Tryz.f223 223 121 48 n121=some ():=by kernel_rfl
end Go.Proofs.YthlkmffimhnehaaGreat
