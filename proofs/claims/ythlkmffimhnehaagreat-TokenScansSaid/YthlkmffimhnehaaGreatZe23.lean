/- Parts of the proof; no condition. -/
import Derived.Test.YthlkmffimhnehaaGreatZal
namespace Go.Proofs.YthlkmffimhnehaaGreat
open Go Go.Ev Go.Ab Go.Pk
set_option maxRecDepth 20000
theorem c6:K Tryz.f140 140 6 5 n6=some ():=by kernel_rfl
theorem c62:K Tryz.f265 265 62 5 n62=some ():=by kernel_rfl
theorem c288:K Tryz.f343 343 288 7 n288=some ():=by kernel_rfl
theorem c276:K Tryz.f344 344 276 31 n276=some ():=by kernel_rfl
theorem c64:K Tryz.f213 213 64 5 n64=some ():=by kernel_rfl
theorem c245:K Tryz.f294 294 245 20 n245=some ():=by kernel_rfl
theorem c2:K Tryz.f16 16 2 4 n2=some ():=by kernel_rfl
theorem c154:K Tryz.f118 118 154 37 n154=some ():=by kernel_rfl
theorem c66:K Tryz.f53 53 66 15 n66=some ():=by kernel_rfl
theorem c317:K Tryz.f351 351 317 77 n317=some ():=by kernel_rfl
theorem c279:K Tryz.f374 374 279 110 n279=some ():=by kernel_rfl
theorem c337:K Tryz.f355 355 337 184 n337=some ():=by kernel_rfl
theorem c285:K Tryz.f366 366 285 46 n285=some ():=by kernel_rfl
theorem c59:K Tryz.f210 210 59 23 n59=some ():=by kernel_rfl
theorem c119:K Tryz.f218 218 119 32 n119=some ():=by kernel_rfl
theorem c111:K Tryz.f218 218 111 31 n111=some ():=by kernel_rfl
end Go.Proofs.YthlkmffimhnehaaGreat
