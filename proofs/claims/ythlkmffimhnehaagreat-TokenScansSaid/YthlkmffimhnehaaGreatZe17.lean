/- Parts of the proof; no condition. -/
import Derived.Test.YthlkmffimhnehaaGreatZal
namespace Go.Proofs.YthlkmffimhnehaaGreat
open Go Go.Ev Go.Ab Go.Pk
set_option maxRecDepth 20000
theorem c36:K Tryz.f316 316 36 3 n36=some ():=by kernel_rfl
theorem c127:K Tryz.f151 151 127 5 n127=some ():=by kernel_rfl
theorem c80:K Tryz.f222 222 80 5 n80=some ():=by kernel_rfl
theorem c43:K Tryz.f262 262 43 4 n43=some ():=by kernel_rfl
theorem c274:K Tryz.f374 374 274 27 n274=some ():=by kernel_rfl
theorem c147:K Tryz.f131 131 147 14 n147=some ():=by kernel_rfl
theorem c226:K Tryz.f207 207 226 8 n226=some ():=by kernel_rfl
theorem c54:K Tryz.f320 320 54 52 n54=some ():=by kernel_rfl
theorem c171:K Tryz.f196 196 171 59 n171=some ():=by kernel_rfl
theorem c255:K Tryz.f361 361 255 148 n255=some ():=by kernel_rfl
theorem c338:K Tryz.f332 332 338 112 n338=some ():=by kernel_rfl
theorem c94:K Tryz.f220 220 94 35 n94=some ():=by kernel_rfl
theorem c333:K Tryz.f336 336 333 134 n333=some ():=by kernel_rfl
theorem c193:K Tryz.f130 130 193 51 n193=some ():=by kernel_rfl
theorem c268:K Tryz.f301 301 268 163 n268=some ():=by kernel_rfl
end Go.Proofs.YthlkmffimhnehaaGreat
