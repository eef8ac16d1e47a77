/- The rest of the run at reduced numbers; no condition. -/
import Derived.Test.YthlkmffimhnehaaGreatHz
namespace Go.Proofs.YthlkmffimhnehaaGreat
open Go Go.Ev
set_option maxRecDepth 100000
theorem o0_2_0 : Fin6 [] [([], .bool true)] 2 0 0 := by intro h n p; kernel_rfl
theorem o0_2_1 : Fin6 [] [([], .bool true)] 2 1 0 := by intro h n p; kernel_rfl
theorem o0_2_2 : Fin6 [] [([], .bool true)] 2 2 0 := by intro h n p; kernel_rfl
theorem o0_2_3 : Fin6 [] [([], .bool true)] 2 3 0 := by intro h n p; kernel_rfl
theorem o0_3_0 : Fin6 [] [([], .bool true)] 3 0 0 := by intro h n p; kernel_rfl
theorem o0_3_1 : Fin6 [] [([], .bool true)] 3 1 0 := by intro h n p; kernel_rfl
theorem o0_3_2 : Fin6 [] [([], .bool true)] 3 2 0 := by intro h n p; kernel_rfl
theorem o0_3_3 : Fin6 [] [([], .bool true)] 3 3 0 := by intro h n p; kernel_rfl
end Go.Proofs.YthlkmffimhnehaaGreat
