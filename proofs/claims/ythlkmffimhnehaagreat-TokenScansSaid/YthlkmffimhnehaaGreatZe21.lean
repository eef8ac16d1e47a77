/- Parts of the proof; no condition. -/
import Derived.Test.YthlkmffimhnehaaGreatZal
namespace Go.Proofs.YthlkmffimhnehaaGreat
open Go Go.Ev Go.Ab Go.Pk
set_option maxRecDepth 20000
theorem c33:K Tryz.f192 192 33 3 n33=some ():=by kernel_rfl
theorem c256:K Tryz.f339 339 256 12 n256=some ():=by kernel_rfl
theorem c196:K Tryz.f201 201 196 3 n196=some ():=by kernel_rfl
theorem c195:K Tryz.f201 201 195 3 n195=some ():=by kernel_rfl
theorem c237:K Tryz.f293 293 237 5 n237=some ():=by kernel_rfl
theorem c151:K Tryz.f55 55 151 7 n151=some ():=by kernel_rfl
theorem c210:K Tryz.f135 135 210 14 n210=some ():=by kernel_rfl
theorem c50:K Tryz.f319 319 50 19 n50=some ():=by kernel_rfl
theorem c350:K Tryz.f364 364 350 57 n350=some ():=by kernel_rfl
theorem c263:K Tryz.f341 341 263 65 n263=some ():=by kernel_rfl
theorem c301:K Tryz.f227 227 301 84 n301=some ():=by kernel_rfl
theorem c355:K Tryz.f234 234 355 105 n355=some ():=by kernel_rfl
theorem c84:K Tryz.f269 269 84 39 n84=some ():=by kernel_rfl
theorem c334:K Tryz.f335 335 334 98 n334=some ():=by kernel_rfl
theorem c91:K Tryz.f270 270 91 5 n91=some ():=by kernel_rfl
theorem c291:K Tryz.f249 249 291 45 n291=some ():=by kernel_rfl
theorem c103:K Tryz.f218 218 103 32 n103=some ():=by kernel_rfl
end Go.Proofs.YthlkmffimhnehaaGreat
