/- a part of the proof of TopErrors. -/
import Derived.Test.YtmladikgbmcmcaaGreatDoorRows
import Derived.JoinedCond
import Derived.Stop.Joined
set_option linter.all false
namespace Go.Proofs.YtmladikgbmcmcaaGreatDoor.topErrors
open Go
theorem q_c:(Rows.topErrorsRow.recurses == Tryz.pinned.checked.prog.recurses 4)=true:=by kernel_rfl
theorem q_d:(Rows.topErrorsRow.named == Tryz.pinned.checked.prog.varsNamed 4)=true:=by kernel_rfl
end Go.Proofs.YtmladikgbmcmcaaGreatDoor.topErrors
