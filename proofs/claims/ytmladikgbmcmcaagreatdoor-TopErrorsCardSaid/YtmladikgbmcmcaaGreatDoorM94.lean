/- a part of the proof of TopErrors. -/
import Derived.Test.YtmladikgbmcmcaaGreatDoorM91
import Derived.Test.YtmladikgbmcmcaaGreatDoorM92
import Derived.Test.YtmladikgbmcmcaaGreatDoorM93
set_option linter.all false
namespace Go.Proofs.YtmladikgbmcmcaaGreatDoor.topErrors
open Go
theorem q_named:Tryz.pinned.checked.prog.funcNamed Rows.topErrorsRow.func=some 4:=by kernel_rfl
theorem q_inst:Tryz.f4.isInstance Tryz.pinned.checked.prog Rows.topErrorsRow.origin Rows.topErrorsRow.targs:=of_decide_eq_true (by kernel_rfl)
theorem q_wrap:Tryz.f4.isWrapper Tryz.pinned.checked.prog Rows.topErrorsRow.wrapper Rows.topErrorsRow.mainSum:=by unfold Func.isWrapper;first | (rw [if_pos (by decide +kernel)];kernel_rfl) | (rw [if_neg (by decide +kernel)];exact ⟨rfl,rfl⟩)
theorem q_closed:joinedFacts Tryz.pinned.checked.prog 4 Tryz.f4 (OpenSpec.ofChange Rows.topErrorsSpec).bare Rows.topErrorsRow=true:=by
 unfold joinedFacts
 rw [q_a,q_b,q_c,q_d,q_e,q_f,q_g,q_h,q_i,q_j,q_k,q_l,q_m,q_n,q_o]
 kernel_rfl
end Go.Proofs.YtmladikgbmcmcaaGreatDoor.topErrors
