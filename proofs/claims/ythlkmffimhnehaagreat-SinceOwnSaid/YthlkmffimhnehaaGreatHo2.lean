/- The rest of the run at reduced numbers; no condition. -/
import Derived.Test.YthlkmffimhnehaaGreatHz
namespace Go.Proofs.YthlkmffimhnehaaGreat
open Go Go.Ev
set_option maxRecDepth 100000
theorem o1_0_0 : Fin6 [] [([], .bool true)] 0 0 1 := by intro h n p; kernel_rfl
theorem o1_0_1 : Fin6 [] [([], .bool true)] 0 1 1 := by intro h n p; kernel_rfl
theorem o1_0_2 : Fin6 [] [([], .bool true)] 0 2 1 := by intro h n p; kernel_rfl
theorem o1_0_3 : Fin6 [] [([], .bool true)] 0 3 1 := by intro h n p; kernel_rfl
theorem o1_1_0 : Fin6 [] [([], .bool true)] 1 0 1 := by intro h n p; kernel_rfl
theorem o1_1_1 : Fin6 [] [([], .bool true)] 1 1 1 := by intro h n p; kernel_rfl
theorem o1_1_2 : Fin6 [] [([], .bool true)] 1 2 1 := by intro h n p; kernel_rfl
theorem o1_1_3 : Fin6 [] [([], .bool true)] 1 3 1 := by intro h n p; kernel_rfl
end Go.Proofs.YthlkmffimhnehaaGreat
