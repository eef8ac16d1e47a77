/- Texts of clients and the modules that they are; no condition. -/
import Derived.Test.YthlkmffimhnehaaGreatGl
namespace Go.Proofs.YthlkmffimhnehaaGreat
open Go Go.Ev
set_option maxRecDepth 100000
theorem r1_1_3 (b : Int) : Entry callE 40 (clE1 49 51 1 3 b) := entry_of (by kernel_rfl)
theorem r1_1_4 (b : Int) : Entry callE 40 (clE1 49 52 1 4 b) := entry_of (by kernel_rfl)
theorem r1_2_1 (b : Int) : Entry callE 40 (clE1 50 49 2 1 b) := entry_of (by kernel_rfl)
theorem r1_2_2 (b : Int) : Entry callE 40 (clE1 50 50 2 2 b) := entry_of (by kernel_rfl)
theorem r1_2_3 (b : Int) : Entry callE 40 (clE1 50 51 2 3 b) := entry_of (by kernel_rfl)
theorem r1_2_4 (b : Int) : Entry callE 40 (clE1 50 52 2 4 b) := entry_of (by kernel_rfl)
theorem r1_3_1 (b : Int) : Entry callE 40 (clE1 51 49 3 1 b) := entry_of (by kernel_rfl)
theorem r1_3_2 (b : Int) : Entry callE 40 (clE1 51 50 3 2 b) := entry_of (by kernel_rfl)
theorem r1_3_3 (b : Int) : Entry callE 40 (clE1 51 51 3 3 b) := entry_of (by kernel_rfl)
end Go.Proofs.YthlkmffimhnehaaGreat
