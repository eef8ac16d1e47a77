/- The rest of the run at reduced numbers; no condition. -/
import Derived.Test.YthlkmffimhnehaaGreatGl
namespace Go.Proofs.YthlkmffimhnehaaGreat
open Go Go.Ev
set_option maxRecDepth 100000
theorem g3_4_1_1 : Fin4 [libE 49 1, clE3 52 49 4 1 1] awE 3 0 0 3 := by intro h n g p; kernel_rfl
theorem g3_4_1_2 : Fin4 [libE 49 1, clE3 52 50 4 2 1] awE 3 0 1 3 := by intro h n g p; kernel_rfl
theorem g3_4_1_3 : Fin4 [libE 49 1, clE3 52 51 4 3 1] awE 3 0 2 3 := by intro h n g p; kernel_rfl
theorem g3_4_1_4 : Fin4 [libE 49 1, clE3 52 52 4 4 1] awE 3 0 3 3 := by intro h n g p; kernel_rfl
theorem g3_4_2_1 : Fin4 [libE 50 2, clE3 52 49 4 1 2] awE 3 1 0 3 := by intro h n g p; kernel_rfl
theorem g3_4_2_2 : Fin4 [libE 50 2, clE3 52 50 4 2 2] awE 3 1 1 3 := by intro h n g p; kernel_rfl
theorem g3_4_2_3 : Fin4 [libE 50 2, clE3 52 51 4 3 2] awE 3 1 2 3 := by intro h n g p; kernel_rfl
theorem g3_4_2_4 : Fin4 [libE 50 2, clE3 52 52 4 4 2] awE 3 1 3 3 := by intro h n g p; kernel_rfl
theorem g3_4_3_1 : Fin4 [libE 51 3, clE3 52 49 4 1 3] awE 3 2 0 3 := by intro h n g p; kernel_rfl
theorem g3_4_3_2 : Fin4 [libE 51 3, clE3 52 50 4 2 3] awE 3 2 1 3 := by intro h n g p; kernel_rfl
theorem g3_4_3_3 : Fin4 [libE 51 3, clE3 52 51 4 3 3] awE 3 2 2 3 := by intro h n g p; kernel_rfl
theorem g3_4_3_4 : Fin4 [libE 51 3, clE3 52 52 4 4 3] awE 3 2 3 3 := by intro h n g p; kernel_rfl
theorem g3_4_4_1 : Fin4 [libE 52 4, clE3 52 49 4 1 4] awE 3 3 0 3 := by intro h n g p; kernel_rfl
theorem g3_4_4_2 : Fin4 [libE 52 4, clE3 52 50 4 2 4] awE 3 3 1 3 := by intro h n g p; kernel_rfl
theorem g3_4_4_3 : Fin4 [libE 52 4, clE3 52 51 4 3 4] awE 3 3 2 3 := by intro h n g p; kernel_rfl
theorem g3_4_4_4 : Fin4 [libE 52 4, clE3 52 52 4 4 4] awE 3 3 3 3 := by intro h n g p; kernel_rfl
theorem g4_1_1_1 : Fin4 [libE 49 1, clE4 49 49 1 1 1] awE 0 0 0 4 := by intro h n g p; kernel_rfl
theorem g4_1_1_2 : Fin4 [libE 49 1, clE4 49 49 1 1 1] awE 0 0 1 4 := by intro h n g p; kernel_rfl
theorem g4_1_1_3 : Fin4 [libE 49 1, clE4 49 49 1 1 1] awE 0 0 2 4 := by intro h n g p; kernel_rfl
theorem g4_1_1_4 : Fin4 [libE 49 1, clE4 49 49 1 1 1] awE 0 0 3 4 := by intro h n g p; kernel_rfl
theorem g4_1_2_1 : Fin4 [libE 50 2, clE4 49 49 1 1 2] awE 0 1 0 4 := by intro h n g p; kernel_rfl
theorem g4_1_2_2 : Fin4 [libE 50 2, clE4 49 49 1 1 2] awE 0 1 1 4 := by intro h n g p; kernel_rfl
theorem g4_1_2_3 : Fin4 [libE 50 2, clE4 49 49 1 1 2] awE 0 1 2 4 := by intro h n g p; kernel_rfl
theorem g4_1_2_4 : Fin4 [libE 50 2, clE4 49 49 1 1 2] awE 0 1 3 4 := by intro h n g p; kernel_rfl
theorem g4_1_3_1 : Fin4 [libE 51 3, clE4 49 49 1 1 3] awE 0 2 0 4 := by intro h n g p; kernel_rfl
theorem g4_1_3_2 : Fin4 [libE 51 3, clE4 49 49 1 1 3] awE 0 2 1 4 := by intro h n g p; kernel_rfl
theorem g4_1_3_3 : Fin4 [libE 51 3, clE4 49 49 1 1 3] awE 0 2 2 4 := by intro h n g p; kernel_rfl
theorem g4_1_3_4 : Fin4 [libE 51 3, clE4 49 49 1 1 3] awE 0 2 3 4 := by intro h n g p; kernel_rfl
theorem g4_1_4_1 : Fin4 [libE 52 4, clE4 49 49 1 1 4] awE 0 3 0 4 := by intro h n g p; kernel_rfl
theorem g4_1_4_2 : Fin4 [libE 52 4, clE4 49 49 1 1 4] awE 0 3 1 4 := by intro h n g p; kernel_rfl
theorem g4_1_4_3 : Fin4 [libE 52 4, clE4 49 49 1 1 4] awE 0 3 2 4 := by intro h n g p; kernel_rfl
theorem g4_1_4_4 : Fin4 [libE 52 4, clE4 49 49 1 1 4] awE 0 3 3 4 := by intro h n g p; kernel_rfl
theorem g4_2_1_1 : Fin4 [libE 49 1, clE4 50 49 2 1 1] awE 1 0 0 4 := by intro h n g p; kernel_rfl
theorem g4_2_1_2 : Fin4 [libE 49 1, clE4 50 49 2 1 1] awE 1 0 1 4 := by intro h n g p; kernel_rfl
theorem g4_2_1_3 : Fin4 [libE 49 1, clE4 50 49 2 1 1] awE 1 0 2 4 := by intro h n g p; kernel_rfl
theorem g4_2_1_4 : Fin4 [libE 49 1, clE4 50 49 2 1 1] awE 1 0 3 4 := by intro h n g p; kernel_rfl
theorem g4_2_2_1 : Fin4 [libE 50 2, clE4 50 49 2 1 2] awE 1 1 0 4 := by intro h n g p; kernel_rfl
theorem g4_2_2_2 : Fin4 [libE 50 2, clE4 50 49 2 1 2] awE 1 1 1 4 := by intro h n g p; kernel_rfl
theorem g4_2_2_3 : Fin4 [libE 50 2, clE4 50 49 2 1 2] awE 1 1 2 4 := by intro h n g p; kernel_rfl
theorem g4_2_2_4 : Fin4 [libE 50 2, clE4 50 49 2 1 2] awE 1 1 3 4 := by intro h n g p; kernel_rfl
end Go.Proofs.YthlkmffimhnehaaGreat
