/- a part of the proof of TopLines. -/
import Derived.Test.YtmladikgbmcmcaaGreatDoorK85
set_option linter.all false
namespace Go.Proofs.YtmladikgbmcmcaaGreatDoor
open Go Go.ChangeShapes Go.WideShapes Go.ChangeAt Go.RowKit
theorem w_2(os:Os):(DataW.laidRun Tryz.prog (wF os wArgs).memory 8 ((lW.filter fun x=>x.2.handleName?.isNone).map (·.1))).map (fun x=>runsB x.2 999999 0 [])=some true:=by kernel_rfl
theorem w_hv(os:Os):(wF os wArgs).variablesRefB Tryz.checked.prog=true:=by kernel_rfl
end Go.Proofs.YtmladikgbmcmcaaGreatDoor
