/- Parts of the proof; no condition. -/
import Derived.Test.YthlkmffimhnehaaGreatZal
namespace Go.Proofs.YthlkmffimhnehaaGreat
open Go Go.Ev Go.Ab Go.Pk
set_option maxRecDepth 20000
theorem c352:K Tryz.f322 322 352 5 n352=some ():=by kernel_rfl
theorem c220:K Tryz.f136 136 220 7 n220=some ():=by kernel_rfl
theorem c47:K Tryz.f318 318 47 5 n47=some ():=by kernel_rfl
theorem c321:K Tryz.f354 354 321 3 n321=some ():=by kernel_rfl
theorem c72:K Tryz.f203 203 72 10 n72=some ():=by kernel_rfl
theorem c186:K Tryz.f199 199 186 32 n186=some ():=by kernel_rfl
theorem c182:K Tryz.f198 198 182 9 n182=some ():=by kernel_rfl
theorem c346:K Tryz.f233 233 346 6 n346=some ():=by kernel_rfl
theorem c176:K Tryz.f310 310 176 40 n176=some ():=by kernel_rfl
theorem c160:K Tryz.f29 29 160 27 n160=some ():=by kernel_rfl
theorem c336:K Tryz.f333 333 336 9 n336=some ():=by kernel_rfl
theorem c92:K Tryz.f269 269 92 9 n92=some ():=by kernel_rfl
theorem c100:K Tryz.f269 269 100 9 n100=some ():=by kernel_rfl
theorem c112:K Tryz.f217 217 112 31 n112=some ():=by kernel_rfl
theorem c122:K Tryz.f148 148 122 13 n122=some ():=by kernel_rfl
end Go.Proofs.YthlkmffimhnehaaGreat
