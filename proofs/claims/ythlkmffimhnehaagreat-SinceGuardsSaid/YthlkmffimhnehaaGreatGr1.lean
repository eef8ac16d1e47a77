/- Texts of clients and the modules that they are; no condition. -/
import Derived.Test.YthlkmffimhnehaaGreatGl
namespace Go.Proofs.YthlkmffimhnehaaGreat
open Go Go.Ev
set_option maxRecDepth 100000
theorem r0_3_2 (b : Int) : Entry callE 40 (clE0 51 50 3 2 b) := entry_of (by kernel_rfl)
theorem r0_3_3 (b : Int) : Entry callE 40 (clE0 51 51 3 3 b) := entry_of (by kernel_rfl)
theorem r0_3_4 (b : Int) : Entry callE 40 (clE0 51 52 3 4 b) := entry_of (by kernel_rfl)
theorem r0_4_1 (b : Int) : Entry callE 40 (clE0 52 49 4 1 b) := entry_of (by kernel_rfl)
theorem r0_4_2 (b : Int) : Entry callE 40 (clE0 52 50 4 2 b) := entry_of (by kernel_rfl)
theorem r0_4_3 (b : Int) : Entry callE 40 (clE0 52 51 4 3 b) := entry_of (by kernel_rfl)
theorem r0_4_4 (b : Int) : Entry callE 40 (clE0 52 52 4 4 b) := entry_of (by kernel_rfl)
theorem r1_1_1 (b : Int) : Entry callE 40 (clE1 49 49 1 1 b) := entry_of (by kernel_rfl)
theorem r1_1_2 (b : Int) : Entry callE 40 (clE1 49 50 1 2 b) := entry_of (by kernel_rfl)
end Go.Proofs.YthlkmffimhnehaaGreat
