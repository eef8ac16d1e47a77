/- Texts of clients and the modules that they are; no condition. -/
import Derived.Test.YthlkmffimhnehaaGreatGl
namespace Go.Proofs.YthlkmffimhnehaaGreat
open Go Go.Ev
set_option maxRecDepth 100000
theorem r3_4_4 (b : Int) : Entry callE 40 (clE3 52 52 4 4 b) := entry_of (by kernel_rfl)
theorem r4_1_1 (b : Int) : Entry callE 40 (clE4 49 49 1 1 b) := entry_of (by kernel_rfl)
theorem r4_2_1 (b : Int) : Entry callE 40 (clE4 50 49 2 1 b) := entry_of (by kernel_rfl)
theorem r4_3_1 (b : Int) : Entry callE 40 (clE4 51 49 3 1 b) := entry_of (by kernel_rfl)
theorem r4_4_1 (b : Int) : Entry callE 40 (clE4 52 49 4 1 b) := entry_of (by kernel_rfl)
end Go.Proofs.YthlkmffimhnehaaGreat
