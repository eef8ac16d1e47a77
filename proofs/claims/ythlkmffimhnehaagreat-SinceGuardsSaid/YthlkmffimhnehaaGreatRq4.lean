/- What the row asks of the function and those that it reaches; no condition. -/
import Derived.Test.YthlkmffimhnehaaGreatRp
namespace Go.Proofs.YthlkmffimhnehaaGreat
open Go
set_option maxRecDepth 10000
theorem clo4 : Tryz.prog.closure 4 = [4, 20, 21, 22, 40, 85, 169, 18, 39, 83, 84, 163, 164, 165, 166, 167, 168, 170, 243, 293, 296, 245, 244, 246, 294, 295, 195, 253, 247, 248, 297, 249, 298, 338, 339, 361, 340, 362, 299, 341, 342, 300, 301, 302, 343, 344, 363, 366, 368, 369, 370, 372, 373, 377, 371, 374, 375, 376, 367, 171, 123, 196, 254, 255, 256, 307, 308, 197, 257, 258, 259, 260, 309, 310, 32, 61, 121, 122, 124, 125, 126, 198, 127, 128, 129, 199, 130, 200, 261, 311, 312, 313, 194, 56, 62, 25, 131, 63, 132, 201, 202, 64, 133, 50, 49, 106, 51, 134, 203, 137, 205, 206, 52, 53, 204, 135, 65, 136, 138, 66, 139, 207, 23, 41, 86, 87, 172, 250, 303, 173, 251, 175, 59, 174, 176, 88, 177, 179, 178, 91, 181, 180, 94, 183, 182, 96, 185, 184, 98, 42, 43, 89, 186, 252, 161, 242, 304, 305, 306, 345, 90, 187, 44, 92, 93, 95, 97, 99, 45, 100, 46, 47, 102, 101, 103, 104, 105, 188, 24, 48] := by kernel_rfl
theorem inp4 : Tryz.prog.inPlace 4 = Rows.sinceGuardsRow.inPlace := by
  unfold Program.inPlace
  rw [clo4]
  kernel_rfl
theorem unf4 : Tryz.prog.unfollowed 4 = true := by
  unfold Program.unfollowed
  rw [clo4]
  kernel_rfl
theorem rec4 : Tryz.prog.recurses 4 = true := by
  unfold Program.recurses
  rw [unf4]
  rfl
theorem nam4 : Tryz.prog.varsNamed 4 = Rows.sinceGuardsRow.named := by
  unfold Program.varsNamed
  rw [clo4]
  kernel_rfl
theorem joined4 : joinedFacts Tryz.prog 4 Tryz.f4 Rows.sinceGuardsSpec Rows.sinceGuardsRow = true := by
  unfold joinedFacts
  rw [inp4, unf4, rec4, nam4, pw_laid, pw_maps, pw_keys, pw_heard, pw_enter, pw_lifts]
  exact (and2 (and2 (and2 (and2 (and2 (and2 (and2 (and2 (and2 (and2 (and2 (and2 (and2 (and2 (and2 (and2 (and2 (and2 (and2 (and2 (and2 (and2 (and2 (and2 (and2 (and2 (and2 (and2 (and2 (and2 (and2 (by kernel_rfl) (by kernel_rfl)) (by kernel_rfl)) (by kernel_rfl)) (by kernel_rfl)) (by kernel_rfl)) (by kernel_rfl)) (by kernel_rfl)) (by kernel_rfl)) (beq_self_eq_true _)) (by kernel_rfl)) (by kernel_rfl)) (beq_self_eq_true _)) (by kernel_rfl)) (by kernel_rfl)) (by kernel_rfl)) (by kernel_rfl)) (by kernel_rfl)) (by kernel_rfl)) (by kernel_rfl)) (by kernel_rfl)) (by kernel_rfl)) (by kernel_rfl)) (by kernel_rfl)) (by kernel_rfl)) (by kernel_rfl)) (by kernel_rfl)) (pw_make)) (by kernel_rfl)) (by kernel_rfl)) (by kernel_rfl)) (by kernel_rfl))
end Go.Proofs.YthlkmffimhnehaaGreat
