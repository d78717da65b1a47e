/- a part of the proof of TopErrors. -/
import Derived.Test.YtmladikgbmcmcaaGreatDoorRows
import Derived.JoinedCond
import Derived.Stop.Joined
set_option linter.all false
namespace Go.Proofs.YtmladikgbmcmcaaGreatDoor.topErrors
open Go
theorem q_a:(Rows.topErrorsRow.inPlace == Tryz.pinned.checked.prog.inPlace 4)=true:=by kernel_rfl
theorem q_b:(Rows.topErrorsRow.unfollowed == Tryz.pinned.checked.prog.unfollowed 4)=true:=by kernel_rfl
end Go.Proofs.YtmladikgbmcmcaaGreatDoor.topErrors
