/- Parts of the proof; no condition. -/
import Derived.Test.YthlkmffimhnehaaGreatZal
namespace Go.Proofs.YthlkmffimhnehaaGreat
open Go Go.Ev Go.Ab Go.Pk
set_option maxRecDepth 20000
theorem c316:K Tryz.f286 286 316 3 n316=some ():=by kernel_rfl
theorem c130:K Tryz.f225 225 130 5 n130=some ():=by kernel_rfl
theorem c327:K Tryz.f359 359 327 7 n327=some ():=by kernel_rfl
theorem c169:K Tryz.f308 308 169 11 n169=some ():=by kernel_rfl
theorem c243:K Tryz.f245 245 243 3 n243=some ():=by kernel_rfl
theorem c234:K Tryz.f296 296 234 3 n234=some ():=by kernel_rfl
theorem c56:K Tryz.f280 280 56 33 n56=some ():=by kernel_rfl
theorem c29:K Tryz.f50 50 29 8 n29=some ():=by kernel_rfl
theorem c215:K Tryz.f134 134 215 9 n215=some ():=by kernel_rfl
theorem c270:K Tryz.f372 372 270 8 n270=some ():=by kernel_rfl
theorem c224:K Tryz.f65 65 224 139 n224=some ():=by kernel_rfl
theorem c310:K Tryz.f290 290 310 33 n310=some ():=by kernel_rfl
theorem c339:K Tryz.f331 331 339 150 n339=some ():=by kernel_rfl
theorem c277:K Tryz.f376 376 277 247 n277=some ():=by kernel_rfl
theorem c192:K Tryz.f200 200 192 30 n192=some ():=by kernel_rfl
end Go.Proofs.YthlkmffimhnehaaGreat
