/- a part of the proof of TopLines. -/
import Derived.Test.YtmladikgbmcmcaaGreatDoorK81
import Derived.LaidByTextLater
import Derived.SevenTiedAt
set_option linter.all false
namespace Go.Proofs.YtmladikgbmcmcaaGreatDoor
open Go
theorem t_hd:∀ os tape,varsDone Tryz.prog 400 (varsId Tryz.prog) os tape=true:=fun _ _=>by kernel_rfl
theorem t_h1:∀ os tape,(DataW.laidRun Tryz.prog (varsWorld Tryz.prog 400 (varsId Tryz.prog) os tape).memory 8 ((laidL.filter fun x=>x.2.handleName?.isNone).map (·.1))).map (·.1)=some (laidL.filter fun x=>x.2.handleName?.isNone):=fun _ _=>by kernel_rfl
end Go.Proofs.YtmladikgbmcmcaaGreatDoor
