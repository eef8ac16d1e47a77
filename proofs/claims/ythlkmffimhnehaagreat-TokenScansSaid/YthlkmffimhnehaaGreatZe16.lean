/- Parts of the proof; no condition. -/
import Derived.Test.YthlkmffimhnehaaGreatZal
namespace Go.Proofs.YthlkmffimhnehaaGreat
open Go Go.Ev Go.Ab Go.Pk
set_option maxRecDepth 20000
theorem c199:K Tryz.f132 132 199 6 n199=some ():=by kernel_rfl
theorem c44:K Tryz.f314 314 44 3 n44=some ():=by kernel_rfl
theorem c177:K Tryz.f260 260 177 5 n177=some ():=by kernel_rfl
theorem c174:K Tryz.f259 259 174 9 n174=some ():=by kernel_rfl
theorem c25:K Tryz.f106 106 25 14 n25=some ():=by kernel_rfl
theorem c244:K Tryz.f295 295 244 3 n244=some ():=by kernel_rfl
theorem c69:F6 eD 266 69 (mu Ef.get UM Tryz.f266) 40 n69=some ():=by kernel_rfl
theorem c187:K Tryz.f129 129 187 29 n187=some ():=by kernel_rfl
theorem c368:K Tryz.f15 15 368 7 n368=some ():=by kernel_rfl
theorem c231:K Tryz.f32 32 231 17 n231=some ():=by kernel_rfl
theorem c138:K Tryz.f274 274 138 24 n138=some ():=by kernel_rfl
theorem c118:K Tryz.f220 220 118 14 n118=some ():=by kernel_rfl
theorem c20:K Tryz.f69 69 20 536 n20=some ():=by kernel_rfl
theorem c341:K Tryz.f329 329 341 8 n341=some ():=by kernel_rfl
theorem c191:K Tryz.f261 261 191 10 n191=some ():=by kernel_rfl
end Go.Proofs.YthlkmffimhnehaaGreat
