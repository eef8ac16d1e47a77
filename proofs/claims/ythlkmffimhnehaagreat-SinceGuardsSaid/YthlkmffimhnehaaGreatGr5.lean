/- Texts of clients and the modules that they are; no condition. -/
import Derived.Test.YthlkmffimhnehaaGreatGl
namespace Go.Proofs.YthlkmffimhnehaaGreat
open Go Go.Ev
set_option maxRecDepth 100000
theorem r2_4_2 (b : Int) : Entry callE 40 (clE2 52 50 4 2 b) := entry_of (by kernel_rfl)
theorem r2_4_3 (b : Int) : Entry callE 40 (clE2 52 51 4 3 b) := entry_of (by kernel_rfl)
theorem r2_4_4 (b : Int) : Entry callE 40 (clE2 52 52 4 4 b) := entry_of (by kernel_rfl)
theorem r3_1_1 (b : Int) : Entry callE 40 (clE3 49 49 1 1 b) := entry_of (by kernel_rfl)
theorem r3_1_2 (b : Int) : Entry callE 40 (clE3 49 50 1 2 b) := entry_of (by kernel_rfl)
theorem r3_1_3 (b : Int) : Entry callE 40 (clE3 49 51 1 3 b) := entry_of (by kernel_rfl)
theorem r3_1_4 (b : Int) : Entry callE 40 (clE3 49 52 1 4 b) := entry_of (by kernel_rfl)
theorem r3_2_1 (b : Int) : Entry callE 40 (clE3 50 49 2 1 b) := entry_of (by kernel_rfl)
theorem r3_2_2 (b : Int) : Entry callE 40 (clE3 50 50 2 2 b) := entry_of (by kernel_rfl)
end Go.Proofs.YthlkmffimhnehaaGreat
