/- a part of the proof of TopLines. -/
import Derived.Test.YtmladikgbmcmcaaGreatDoorK85
set_option linter.all false
namespace Go.Proofs.YtmladikgbmcmcaaGreatDoor
open Go Go.ChangeShapes Go.WideShapes Go.ChangeAt Go.RowKit
theorem w_hr(os:Os):((wF os wArgs).heap.toList.drop Tryz.checked.prog.globals.size).take ((begin Tryz.checked.prog (fun _ _=>0) default).world.heap.size - Tryz.checked.prog.globals.size)=(begin Tryz.checked.prog (fun _ _=>0) default).world.heap.toList.drop Tryz.checked.prog.globals.size:=by kernel_rfl
theorem w_2r(os:Os):(DataW.laidRun Tryz.prog (wF os wArgs).memory 8 ((lW.filter fun x=>x.2.handleName?.isNone).map (·.1))).map (fun x=>laidRowsB Tryz.prog (wF os wArgs).memory x.2)=some true:=by kernel_rfl
end Go.Proofs.YtmladikgbmcmcaaGreatDoor
