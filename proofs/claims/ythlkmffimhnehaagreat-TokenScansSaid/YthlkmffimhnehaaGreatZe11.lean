/- Parts of the proof; no condition. -/
import Derived.Test.YthlkmffimhnehaaGreatZal
namespace Go.Proofs.YthlkmffimhnehaaGreat
open Go Go.Ev Go.Ab Go.Pk
set_option maxRecDepth 20000
theorem c227:K Tryz.f139 139 227 15 n227=some ():=by kernel_rfl
theorem c9:K Tryz.f56 56 9 11 n9=some ():=by kernel_rfl
theorem c179:K Tryz.f123 123 179 6 n179=some ():=by kernel_rfl
theorem c172:K Tryz.f258 258 172 7 n172=some ():=by kernel_rfl
theorem c41:K Tryz.f215 215 41 11 n41=some ():=by kernel_rfl
theorem c314:K Tryz.f325 325 314 20 n314=some ():=by kernel_rfl
theorem c305:K Tryz.f284 284 305 27 n305=some ():=by kernel_rfl
theorem c348:K Tryz.f292 292 348 5 n348=some ():=by kernel_rfl
theorem c30:K Tryz.f50 50 30 8 n30=some ():=by kernel_rfl
theorem c201:K Tryz.f63 63 201 148 n201=some ():=by kernel_rfl
theorem c328:K Tryz.f360 360 328 154 n328=some ():=by kernel_rfl
theorem c137:K Tryz.f275 275 137 29 n137=some ():=by kernel_rfl
theorem c230:K Tryz.f66 66 230 257 n230=some ():=by kernel_rfl
theorem c96:K Tryz.f217 217 96 35 n96=some ():=by kernel_rfl
theorem c89:K Tryz.f223 223 89 734 n89=some ():=by kernel_rfl
end Go.Proofs.YthlkmffimhnehaaGreat
