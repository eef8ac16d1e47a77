/- Parts of the proof; no condition. -/
import Derived.Test.YthlkmffimhnehaaGreatZal
namespace Go.Proofs.YthlkmffimhnehaaGreat
open Go Go.Ev Go.Ab Go.Pk
set_option maxRecDepth 20000
theorem c37:K Tryz.f316 316 37 3 n37=some ():=by kernel_rfl
theorem c128:K Tryz.f151 151 128 5 n128=some ():=by kernel_rfl
theorem c166:K Tryz.f254 254 166 5 n166=some ():=by kernel_rfl
theorem c4:K Tryz.f25 25 4 4 n4=some ():=by kernel_rfl
theorem c364:K Tryz.f160 160 364 6 n364=some ():=by kernel_rfl
theorem c294:K Tryz.f171 171 294 5 n294=some ():=by kernel_rfl
theorem c53:K Tryz.f323 323 53 37 n53=some ():=by kernel_rfl
theorem c143:K Tryz.f52 52 143 15 n143=some ():=by kernel_rfl
theorem c185:K Tryz.f128 128 185 29 n185=some ():=by kernel_rfl
theorem c218:K Tryz.f64 64 218 100 n218=some ():=by kernel_rfl
theorem c217:K Tryz.f134 134 217 10 n217=some ():=by kernel_rfl
theorem c21:K Tryz.f144 144 21 23 n21=some ():=by kernel_rfl
theorem c267:K Tryz.f300 300 267 89 n267=some ():=by kernel_rfl
theorem c159:K Tryz.f57 57 159 261 n159=some ():=by kernel_rfl
theorem c99:K Tryz.f270 270 99 5 n99=some ():=by kernel_rfl
theorem c87:K Tryz.f218 218 87 475 n87=some ():=by kernel_rfl
end Go.Proofs.YthlkmffimhnehaaGreat
