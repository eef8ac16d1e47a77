/- Parts of the proof; no condition. -/
import Derived.Test.YthlkmffimhnehaaGreatZal
namespace Go.Proofs.YthlkmffimhnehaaGreat
open Go Go.Ev Go.Ab Go.Pk
set_option maxRecDepth 20000
theorem c241:K Tryz.f244 244 241 3 n241=some ():=by kernel_rfl
theorem c131:K Tryz.f152 152 131 5 n131=some ():=by kernel_rfl
theorem c152:K Tryz.f115 115 152 3 n152=some ():=by kernel_rfl
theorem c81:K Tryz.f271 271 81 5 n81=some ():=by kernel_rfl
theorem c18:K Tryz.f142 142 18 6 n18=some ():=by kernel_rfl
theorem c363:K Tryz.f241 241 363 7 n363=some ():=by kernel_rfl
theorem c184:K Tryz.f126 126 184 5 n184=some ():=by kernel_rfl
theorem c212:K Tryz.f135 135 212 33 n212=some ():=by kernel_rfl
theorem c188:K Tryz.f311 311 188 3 n188=some ():=by kernel_rfl
theorem c358:K Tryz.f158 158 358 82 n358=some ():=by kernel_rfl
theorem c289:K Tryz.f343 343 289 125 n289=some ():=by kernel_rfl
theorem c223:K Tryz.f138 138 223 142 n223=some ():=by kernel_rfl
theorem c102:K Tryz.f220 220 102 14 n102=some ():=by kernel_rfl
theorem c136:K Tryz.f277 277 136 29 n136=some ():=by kernel_rfl
theorem c98:K Tryz.f148 148 98 13 n98=some ():=by kernel_rfl
end Go.Proofs.YthlkmffimhnehaaGreat
