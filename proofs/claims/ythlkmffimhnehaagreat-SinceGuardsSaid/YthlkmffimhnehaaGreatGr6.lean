/- Texts of clients and the modules that they are; no condition. -/
import Derived.Test.YthlkmffimhnehaaGreatGl
namespace Go.Proofs.YthlkmffimhnehaaGreat
open Go Go.Ev
set_option maxRecDepth 100000
theorem r3_2_3 (b : Int) : Entry callE 40 (clE3 50 51 2 3 b) := entry_of (by kernel_rfl)
theorem r3_2_4 (b : Int) : Entry callE 40 (clE3 50 52 2 4 b) := entry_of (by kernel_rfl)
theorem r3_3_1 (b : Int) : Entry callE 40 (clE3 51 49 3 1 b) := entry_of (by kernel_rfl)
theorem r3_3_2 (b : Int) : Entry callE 40 (clE3 51 50 3 2 b) := entry_of (by kernel_rfl)
theorem r3_3_3 (b : Int) : Entry callE 40 (clE3 51 51 3 3 b) := entry_of (by kernel_rfl)
theorem r3_3_4 (b : Int) : Entry callE 40 (clE3 51 52 3 4 b) := entry_of (by kernel_rfl)
theorem r3_4_1 (b : Int) : Entry callE 40 (clE3 52 49 4 1 b) := entry_of (by kernel_rfl)
theorem r3_4_2 (b : Int) : Entry callE 40 (clE3 52 50 4 2 b) := entry_of (by kernel_rfl)
theorem r3_4_3 (b : Int) : Entry callE 40 (clE3 52 51 4 3 b) := entry_of (by kernel_rfl)
end Go.Proofs.YthlkmffimhnehaaGreat
