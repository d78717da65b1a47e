/- a part of the proof of TopLines. -/
import Derived.Test.YtmladikgbmcmcaaGreatDoorRows
import Derived.JoinedCond
import Derived.Stop.Joined
set_option linter.all false
namespace Go.Proofs.YtmladikgbmcmcaaGreatDoor.topLines
open Go
theorem q_e:Rows.topLinesRow.wf (OpenSpec.ofChange (OpenSpec.ofChange Rows.topLinesSpec).bare)=true:=by kernel_rfl
theorem q_f:laidOutB Tryz.pinned.checked.prog=true:=by kernel_rfl
theorem q_g:mapsRowed Tryz.pinned.checked.prog=true:=by kernel_rfl
theorem q_h:(Tryz.pinned.checked.prog.stops==[])=true:=by kernel_rfl
theorem q_i:(Tryz.pinned.checked.prog.stopKnobs==[])=true:=by kernel_rfl
theorem q_j:(Rows.topLinesRow.plainKeys==Tryz.pinned.checked.prog.plainKeys)=true:=by kernel_rfl
theorem q_k:Tryz.pinned.checked.prog.stopsHeard=true:=by kernel_rfl
theorem q_l:Tryz.pinned.checked.prog.mayEnter=true:=by kernel_rfl
theorem q_m:(Rows.topLinesRow.lifted==Tryz.pinned.checked.prog.liftsFinal)=true:=by kernel_rfl
theorem q_n:(Tryz.pinned.checked.prog.make==some Rows.topLinesRow.make)=true:=by kernel_rfl
theorem q_o:namedTie Tryz.pinned.checked.prog Rows.topLinesRow.named (OpenSpec.ofChange Rows.topLinesSpec).bare.vars=true:=by kernel_rfl
end Go.Proofs.YtmladikgbmcmcaaGreatDoor.topLines
