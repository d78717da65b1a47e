/- a part of the proof of TopLines. -/
import Derived.Test.YtmladikgbmcmcaaGreatDoorK81
import Derived.LaidByTextLater
import Derived.SevenTiedAt
set_option linter.all false
namespace Go.Proofs.YtmladikgbmcmcaaGreatDoor
open Go
theorem t_h2:∀ os tape,(DataW.laidRun Tryz.prog (varsWorld Tryz.prog 400 (varsId Tryz.prog) os tape).memory 8 ((laidL.filter fun x=>x.2.handleName?.isNone).map (·.1))).map (fun x=>decide x.2.Nodup&&laidRowsB Tryz.prog (varsWorld Tryz.prog 400 (varsId Tryz.prog) os tape).memory x.2)=some true:=fun _ _=>by kernel_rfl
theorem t_h3:∀ os tape,(laidL.filter fun x=>x.2.handleName?.isSome).all (handleAtB Tryz.prog (varsWorld Tryz.prog 400 (varsId Tryz.prog) os tape).memory)=true:=fun _ _=>by kernel_rfl
end Go.Proofs.YtmladikgbmcmcaaGreatDoor
