/- a part of the proof of TopLines. -/
import Derived.Test.YtmladikgbmcmcaaGreatDoorK85
set_option linter.all false
namespace Go.Proofs.YtmladikgbmcmcaaGreatDoor
open Go Go.ChangeShapes Go.WideShapes Go.ChangeAt Go.RowKit
theorem w_okL(os:Os):Input.okWideB Tryz.checked.prog (wF os wArgs) 3 ⟨#[],wArgs,[]⟩=true:=by kernel_rfl
theorem w_rdL(os:Os){H:Type}(enc:TypeId×Value->H):∃ places,DataW.whole enc Tryz.prog (wF os wArgs).memory Tryz.f3.params.toList Rows.topLinesSpec.vars false wArgs.toList 8=some ([.lit (.string [])],[],places):=⟨[],by kernel_rfl⟩
end Go.Proofs.YtmladikgbmcmcaaGreatDoor
