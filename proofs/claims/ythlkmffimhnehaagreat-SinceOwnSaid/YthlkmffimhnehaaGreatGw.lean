/- The sanity check of chapter 8 answers true; no condition. -/
import Derived.Test.YthlkmffimhnehaaGreatMi
namespace Go.Proofs.YthlkmffimhnehaaGreat
open Go Go.Ev
set_option maxRecDepth 100000
theorem awake_in : Entry (callN envX 100000 200) 24 ([], .bool true) := entry_of (by kernel_rfl)
end Go.Proofs.YthlkmffimhnehaaGreat
