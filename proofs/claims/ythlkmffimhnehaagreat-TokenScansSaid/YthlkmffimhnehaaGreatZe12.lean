/- Parts of the proof; no condition. -/
import Derived.Test.YthlkmffimhnehaaGreatZal
namespace Go.Proofs.YthlkmffimhnehaaGreat
open Go Go.Ev Go.Ab Go.Pk
set_option maxRecDepth 20000
theorem c311:K Tryz.f324 324 311 3 n311=some ():=by kernel_rfl
theorem c262:K Tryz.f341 341 262 11 n262=some ():=by kernel_rfl
theorem c366:K Tryz.f75 75 366 5 n366=some ():=by kernel_rfl
theorem c48:K Tryz.f346 346 48 3 n48=some ():=by kernel_rfl
theorem c318:K Tryz.f352 352 318 14 n318=some ():=by kernel_rfl
theorem c242:K Tryz.f245 245 242 3 n242=some ():=by kernel_rfl
theorem c146:K Tryz.f131 131 146 14 n146=some ():=by kernel_rfl
theorem c150:K Tryz.f114 114 150 22 n150=some ():=by kernel_rfl
theorem c222:K Tryz.f138 138 222 49 n222=some ():=by kernel_rfl
theorem c55:K Tryz.f320 320 55 55 n55=some ():=by kernel_rfl
theorem c329:K Tryz.f328 328 329 5 n329=some ():=by kernel_rfl
theorem c343:K Tryz.f326 326 343 7 n343=some ():=by kernel_rfl
theorem c116:K Tryz.f269 269 116 9 n116=some ():=by kernel_rfl
theorem c332:K Tryz.f337 337 332 7 n332=some ():=by kernel_rfl
theorem c115:K Tryz.f270 270 115 5 n115=some ():=by kernel_rfl
theorem c97:K Tryz.f223 223 97 95 n97=some ():=by kernel_rfl
end Go.Proofs.YthlkmffimhnehaaGreat
