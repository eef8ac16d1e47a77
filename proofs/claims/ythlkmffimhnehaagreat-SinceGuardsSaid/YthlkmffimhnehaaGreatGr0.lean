/- Texts of clients and the modules that they are; no condition. -/
import Derived.Test.YthlkmffimhnehaaGreatGl
namespace Go.Proofs.YthlkmffimhnehaaGreat
open Go Go.Ev
set_option maxRecDepth 100000
theorem r0_1_1 (b : Int) : Entry callE 40 (clE0 49 49 1 1 b) := entry_of (by kernel_rfl)
theorem r0_1_2 (b : Int) : Entry callE 40 (clE0 49 50 1 2 b) := entry_of (by kernel_rfl)
theorem r0_1_3 (b : Int) : Entry callE 40 (clE0 49 51 1 3 b) := entry_of (by kernel_rfl)
theorem r0_1_4 (b : Int) : Entry callE 40 (clE0 49 52 1 4 b) := entry_of (by kernel_rfl)
theorem r0_2_1 (b : Int) : Entry callE 40 (clE0 50 49 2 1 b) := entry_of (by kernel_rfl)
theorem r0_2_2 (b : Int) : Entry callE 40 (clE0 50 50 2 2 b) := entry_of (by kernel_rfl)
theorem r0_2_3 (b : Int) : Entry callE 40 (clE0 50 51 2 3 b) := entry_of (by kernel_rfl)
theorem r0_2_4 (b : Int) : Entry callE 40 (clE0 50 52 2 4 b) := entry_of (by kernel_rfl)
theorem r0_3_1 (b : Int) : Entry callE 40 (clE0 51 49 3 1 b) := entry_of (by kernel_rfl)
end Go.Proofs.YthlkmffimhnehaaGreat
