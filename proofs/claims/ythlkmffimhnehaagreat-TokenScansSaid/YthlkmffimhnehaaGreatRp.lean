/- What the rows ask of the whole program; no condition. -/
import Derived.Test.YthlkmffimhnehaaGreatRows
import Derived.JoinedOf
import Derived.KernelRfl
set_option linter.unusedSimpArgs false
set_option linter.unusedVariables false
namespace Go.Proofs.YthlkmffimhnehaaGreat
open Go
theorem and2 {a b:Bool} (h:a=true) (k:b=true):(a&&b)=true:=by rw[h,k]; rfl
theorem pw_laid:laidOutB Tryz.prog=true:=by kernel_rfl
theorem pw_maps:mapsRowed Tryz.prog=true:=by kernel_rfl
theorem pw_keys:Tryz.prog.plainKeys=true:=by kernel_rfl
theorem pw_heard:Tryz.prog.stopsHeard=true:=by kernel_rfl
theorem pw_enter:Tryz.prog.mayEnter=true:=by kernel_rfl
theorem pw_lifts:Tryz.prog.liftsFinal=false:=by kernel_rfl
theorem pw_make:(Tryz.prog.make==some Rows.sinceGuardsRow.make)=true:=by kernel_rfl
end Go.Proofs.YthlkmffimhnehaaGreat
