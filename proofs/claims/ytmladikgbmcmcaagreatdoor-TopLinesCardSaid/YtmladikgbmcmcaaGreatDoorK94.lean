/- a part of the proof of TopLines. -/
import Derived.Test.YtmladikgbmcmcaaGreatDoorK91
import Derived.Test.YtmladikgbmcmcaaGreatDoorK92
import Derived.Test.YtmladikgbmcmcaaGreatDoorK93
set_option linter.all false
namespace Go.Proofs.YtmladikgbmcmcaaGreatDoor.topLines
open Go
theorem q_named:Tryz.pinned.checked.prog.funcNamed Rows.topLinesRow.func=some 3:=by kernel_rfl
theorem q_inst:Tryz.f3.isInstance Tryz.pinned.checked.prog Rows.topLinesRow.origin Rows.topLinesRow.targs:=of_decide_eq_true (by kernel_rfl)
theorem q_wrap:Tryz.f3.isWrapper Tryz.pinned.checked.prog Rows.topLinesRow.wrapper Rows.topLinesRow.mainSum:=by unfold Func.isWrapper;first|(rw[if_pos (by decide +kernel)];kernel_rfl)|(rw[if_neg (by decide +kernel)];exact⟨rfl,rfl⟩)
theorem q_closed:joinedFacts Tryz.pinned.checked.prog 3 Tryz.f3 (OpenSpec.ofChange Rows.topLinesSpec).bare Rows.topLinesRow=true:=by
 unfold joinedFacts
 rw[q_a,q_b,q_c,q_d,q_e,q_f,q_g,q_h,q_i,q_j,q_k,q_l,q_m,q_n,q_o]
 kernel_rfl
end Go.Proofs.YtmladikgbmcmcaaGreatDoor.topLines
