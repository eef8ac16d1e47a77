/- The rest of the run at reduced numbers; no condition. -/
import Derived.Test.YthlkmffimhnehaaGreatHz
namespace Go.Proofs.YthlkmffimhnehaaGreat
open Go Go.Ev
set_option maxRecDepth 100000
theorem o3_0_0 : Fin6 [] [([], .bool true)] 0 0 3 := by intro h n p; kernel_rfl
theorem o3_0_1 : Fin6 [] [([], .bool true)] 0 1 3 := by intro h n p; kernel_rfl
theorem o3_0_2 : Fin6 [] [([], .bool true)] 0 2 3 := by intro h n p; kernel_rfl
theorem o3_0_3 : Fin6 [] [([], .bool true)] 0 3 3 := by intro h n p; kernel_rfl
theorem o3_1_0 : Fin6 [] [([], .bool true)] 1 0 3 := by intro h n p; kernel_rfl
theorem o3_1_1 : Fin6 [] [([], .bool true)] 1 1 3 := by intro h n p; kernel_rfl
theorem o3_1_2 : Fin6 [] [([], .bool true)] 1 2 3 := by intro h n p; kernel_rfl
theorem o3_1_3 : Fin6 [] [([], .bool true)] 1 3 3 := by intro h n p; kernel_rfl
end Go.Proofs.YthlkmffimhnehaaGreat
