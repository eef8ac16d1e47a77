/- The rest of the run at reduced numbers; no condition. -/
import Derived.Test.YthlkmffimhnehaaGreatHz
namespace Go.Proofs.YthlkmffimhnehaaGreat
open Go Go.Ev
set_option maxRecDepth 100000
theorem o6_0_0 : Fin6 [] [([], .bool true)] 0 0 6 := by intro h n p; kernel_rfl
theorem o6_0_1 : Fin6 [] [([], .bool true)] 0 1 6 := by intro h n p; kernel_rfl
theorem o6_0_2 : Fin6 [] [([], .bool true)] 0 2 6 := by intro h n p; kernel_rfl
theorem o6_0_3 : Fin6 [] [([], .bool true)] 0 3 6 := by intro h n p; kernel_rfl
theorem o6_1_0 : Fin6 [] [([], .bool true)] 1 0 6 := by intro h n p; kernel_rfl
theorem o6_1_1 : Fin6 [] [([], .bool true)] 1 1 6 := by intro h n p; kernel_rfl
theorem o6_1_2 : Fin6 [] [([], .bool true)] 1 2 6 := by intro h n p; kernel_rfl
theorem o6_1_3 : Fin6 [] [([], .bool true)] 1 3 6 := by intro h n p; kernel_rfl
end Go.Proofs.YthlkmffimhnehaaGreat
