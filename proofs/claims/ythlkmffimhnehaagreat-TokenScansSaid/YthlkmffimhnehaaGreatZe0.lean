/- Parts of the proof; no condition. -/
import Derived.Test.YthlkmffimhnehaaGreatZal
namespace Go.Proofs.YthlkmffimhnehaaGreat
open Go Go.Ev Go.Ab Go.Pk
set_option maxRecDepth 20000
theorem c12:K Tryz.f221 221 12 3 n12=some ():=by kernel_rfl
theorem c251:K Tryz.f248 248 251 3 n251=some ():=by kernel_rfl
theorem c75:K Tryz.f347 347 75 6 n75=some ():=by kernel_rfl
theorem c173:K Tryz.f257 257 173 5 n173=some ():=by kernel_rfl
theorem c322:K Tryz.f354 354 322 3 n322=some ():=by kernel_rfl
theorem c73:K Tryz.f203 203 73 10 n73=some ():=by kernel_rfl
theorem c124:K Tryz.f150 150 124 5 n124=some ():=by kernel_rfl
theorem c273:K Tryz.f375 375 273 37 n273=some ():=by kernel_rfl
theorem c79:K Tryz.f268 268 79 29 n79=some ():=by kernel_rfl
theorem c229:K Tryz.f66 66 229 65 n229=some ():=by kernel_rfl
theorem c351:K Tryz.f349 349 351 49 n351=some ():=by kernel_rfl
theorem c335:K Tryz.f334 334 335 8 n335=some ():=by kernel_rfl
theorem c140:K Tryz.f226 226 140 15 n140=some ():=by kernel_rfl
end Go.Proofs.YthlkmffimhnehaaGreat
