/- Parts of the proof; no condition. -/
import Derived.Test.YthlkmffimhnehaaGreatZal
namespace Go.Proofs.YthlkmffimhnehaaGreat
open Go Go.Ev Go.Ab Go.Pk
set_option maxRecDepth 20000
theorem c253:K Tryz.f338 338 253 5 n253=some ():=by kernel_rfl
theorem c264:K Tryz.f342 342 264 19 n264=some ():=by kernel_rfl
theorem c175:K Tryz.f309 309 175 8 n175=some ():=by kernel_rfl
theorem c153:K Tryz.f193 193 153 14 n153=some ():=by kernel_rfl
theorem c320:K Tryz.f353 353 320 4 n320=some ():=by kernel_rfl
theorem c34:K Tryz.f348 348 34 7 n34=some ():=by kernel_rfl
theorem c52:K Tryz.f323 323 52 34 n52=some ():=by kernel_rfl
theorem c31:K Tryz.f51 51 31 8 n31=some ():=by kernel_rfl
theorem c308:K Tryz.f156 156 308 47 n308=some ():=by kernel_rfl
theorem c77:K Tryz.f317 317 77 64 n77=some ():=by kernel_rfl
theorem c303:K Tryz.f229 229 303 6 n303=some ():=by kernel_rfl
theorem c284:K Tryz.f368 368 284 63 n284=some ():=by kernel_rfl
theorem c109:K Tryz.f219 219 109 5 n109=some ():=by kernel_rfl
theorem c120:K Tryz.f217 217 120 31 n120=some ():=by kernel_rfl
theorem c114:K Tryz.f148 148 114 13 n114=some ():=by kernel_rfl
end Go.Proofs.YthlkmffimhnehaaGreat
