/- Parts of the proof; no condition. -/
import Derived.Test.YthlkmffimhnehaaGreatZal
namespace Go.Proofs.YthlkmffimhnehaaGreat
open Go Go.Ev Go.Ab Go.Pk
set_option maxRecDepth 20000
theorem c312:K Tryz.f350 350 312 3 n312=some ():=by kernel_rfl
theorem c246:K Tryz.f246 246 246 3 n246=some ():=by kernel_rfl
theorem c324:K Tryz.f365 365 324 3 n324=some ():=by kernel_rfl
theorem c156:K Tryz.f116 116 156 6 n156=some ():=by kernel_rfl
theorem c3:K Tryz.f25 25 3 4 n3=some ():=by kernel_rfl
theorem c126:K Tryz.f224 224 126 22 n126=some ():=by kernel_rfl
theorem c5:K Tryz.f67 67 5 4 n5=some ():=by kernel_rfl
theorem c359:K Tryz.f238 238 359 8 n359=some ():=by kernel_rfl
theorem c164:K Tryz.f121 121 164 26 n164=some ():=by kernel_rfl
theorem c13:K Tryz.f208 208 13 43 n13=some ():=by kernel_rfl
theorem c356:K Tryz.f235 235 356 70 n356=some ():=by kernel_rfl
theorem c309:K Tryz.f232 232 309 87 n309=some ():=by kernel_rfl
theorem c292:K Tryz.f170 170 292 296 n292=some ():=by kernel_rfl
theorem c93:K Tryz.f219 219 93 5 n93=some ():=by kernel_rfl
theorem c106:K Tryz.f148 148 106 12 n106=some ():=by kernel_rfl
end Go.Proofs.YthlkmffimhnehaaGreat
