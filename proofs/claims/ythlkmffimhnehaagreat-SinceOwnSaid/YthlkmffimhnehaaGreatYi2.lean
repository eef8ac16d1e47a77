/- Each function is what the evaluator runs; no condition. -/
import Derived.Test.YthlkmffimhnehaaGreatMg
import Derived.Test.YthlkmffimhnehaaGreatY2
namespace Go.Proofs.YthlkmffimhnehaaGreat
open Go Go.Ev
set_option maxRecDepth 10000
theorem fc370 : ∃ fn kd, Tryz.prog.funcs[370]? = some fn ∧ compF tyT.get kd fn = some x370 := ⟨Tryz.f370, fun _ => false, Tryz.func370, by kernel_rfl⟩
theorem fc371 : ∃ fn kd, Tryz.prog.funcs[371]? = some fn ∧ compF tyT.get kd fn = some x371 := ⟨Tryz.f371, fun _ => false, Tryz.func371, by kernel_rfl⟩
theorem fc372 : ∃ fn kd, Tryz.prog.funcs[372]? = some fn ∧ compF tyT.get kd fn = some x372 := ⟨Tryz.f372, fun _ => false, Tryz.func372, by kernel_rfl⟩
theorem fc373 : ∃ fn kd, Tryz.prog.funcs[373]? = some fn ∧ compF tyT.get kd fn = some x373 := ⟨Tryz.f373, fun _ => false, Tryz.func373, by kernel_rfl⟩
theorem fc374 : ∃ fn kd, Tryz.prog.funcs[374]? = some fn ∧ compF tyT.get kd fn = some x374 := ⟨Tryz.f374, fun _ => false, Tryz.func374, by kernel_rfl⟩
theorem fc375 : ∃ fn kd, Tryz.prog.funcs[375]? = some fn ∧ compF tyT.get kd fn = some x375 := ⟨Tryz.f375, fun _ => false, Tryz.func375, by kernel_rfl⟩
theorem fc376 : ∃ fn kd, Tryz.prog.funcs[376]? = some fn ∧ compF tyT.get kd fn = some x376 := ⟨Tryz.f376, fun _ => false, Tryz.func376, by kernel_rfl⟩
theorem fc377 : ∃ fn kd, Tryz.prog.funcs[377]? = some fn ∧ compF tyT.get kd fn = some x377 := ⟨Tryz.f377, fun _ => false, Tryz.func377, by kernel_rfl⟩
end Go.Proofs.YthlkmffimhnehaaGreat
