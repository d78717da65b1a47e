/- a part of the proof of TopLines. -/
import Derived.Test.YtmladikgbmcmcaaGreatDoorRows
import Derived.JoinedCond
import Derived.Stop.Joined
set_option linter.all false
namespace Go.Proofs.YtmladikgbmcmcaaGreatDoor.topLines
open Go
theorem q_c:(Rows.topLinesRow.recurses==Tryz.pinned.checked.prog.recurses 3)=true:=by kernel_rfl
theorem q_d:(Rows.topLinesRow.named==Tryz.pinned.checked.prog.varsNamed 3)=true:=by kernel_rfl
end Go.Proofs.YtmladikgbmcmcaaGreatDoor.topLines
