/- The rest of the run at reduced numbers; no condition. -/
import Derived.Test.YthlkmffimhnehaaGreatHz
namespace Go.Proofs.YthlkmffimhnehaaGreat
open Go Go.Ev
set_option maxRecDepth 100000
theorem o4_2_0 : Fin6 [] [([], .bool true)] 2 0 4 := by intro h n p; kernel_rfl
theorem o4_2_1 : Fin6 [] [([], .bool true)] 2 1 4 := by intro h n p; kernel_rfl
theorem o4_2_2 : Fin6 [] [([], .bool true)] 2 2 4 := by intro h n p; kernel_rfl
theorem o4_2_3 : Fin6 [] [([], .bool true)] 2 3 4 := by intro h n p; kernel_rfl
theorem o4_3_0 : Fin6 [] [([], .bool true)] 3 0 4 := by intro h n p; kernel_rfl
theorem o4_3_1 : Fin6 [] [([], .bool true)] 3 1 4 := by intro h n p; kernel_rfl
theorem o4_3_2 : Fin6 [] [([], .bool true)] 3 2 4 := by intro h n p; kernel_rfl
theorem o4_3_3 : Fin6 [] [([], .bool true)] 3 3 4 := by intro h n p; kernel_rfl
end Go.Proofs.YthlkmffimhnehaaGreat
