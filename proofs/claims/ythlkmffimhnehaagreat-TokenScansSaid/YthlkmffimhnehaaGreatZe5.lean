/- Parts of the proof; no condition. -/
import Derived.Test.YthlkmffimhnehaaGreatZal
namespace Go.Proofs.YthlkmffimhnehaaGreat
open Go Go.Ev Go.Ab Go.Pk
set_option maxRecDepth 20000
theorem c38:K Tryz.f267 267 38 5 n38=some ():=by kernel_rfl
theorem c269:K Tryz.f367 367 269 6 n269=some ():=by kernel_rfl
theorem c306:K Tryz.f285 285 306 7 n306=some ():=by kernel_rfl
theorem c206:K Tryz.f206 206 206 12 n206=some ():=by kernel_rfl
theorem c65:K Tryz.f214 214 65 13 n65=some ():=by kernel_rfl
theorem c353:K Tryz.f287 287 353 25 n353=some ():=by kernel_rfl
theorem c51:K Tryz.f319 319 51 19 n51=some ():=by kernel_rfl
theorem c129:K Tryz.f153 153 129 19 n129=some ():=by kernel_rfl
theorem c257:K Tryz.f339 339 257 69 n257=some ():=by kernel_rfl
theorem c148:K Tryz.f62 62 148 95 n148=some ():=by kernel_rfl
theorem c178:K Tryz.f197 197 178 113 n178=some ():=by kernel_rfl
theorem c110:K Tryz.f220 220 110 14 n110=some ():=by kernel_rfl
theorem c158:K Tryz.f120 120 158 112 n158=some ():=by kernel_rfl
theorem c61:K Tryz.f210 210 61 308 n61=some ():=by kernel_rfl
end Go.Proofs.YthlkmffimhnehaaGreat
