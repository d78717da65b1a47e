/- a part of the proof of TopLines. -/
import Derived.Test.YtmladikgbmcmcaaGreatDoorRows
import Derived.SevenTiedAt
set_option linter.all false
namespace Go.Proofs.YtmladikgbmcmcaaGreatDoor.topLines
open Go
theorem r_w:Rows.topLinesRow.wfByText (OpenSpec.ofChange Rows.topLinesSpec)=true:=by kernel_rfl
theorem r_m : Tryz.pinned.checked.prog.mainIs = some (true, "fb7a1bee8962e2c515686a089f913c148afc45919f517f90259d0b15b7c0a9e8".toList) := by kernel_rfl
theorem r_go:Tryz.prog.funcs.any Func.goes=false:=by kernel_rfl
theorem goes_none{P:Program}(h:P.funcs.any Func.goes=false)(f:FuncId):P.goes f=false:=by
 unfold Program.goes
 rw[h,Bool.and_false,Bool.or_false,List.any_eq_false]
 intro g _
 cases e:P.funcs[g]? with
 |none=>simp
 |some fn=>
  obtain⟨hlt,rfl⟩:=Array.getElem?_eq_some_iff.1 e
  have:=Array.any_eq_false.1 h g hlt
  simpa using this
theorem any_goes{P:Program}(h:P.funcs.any Func.goes=false)(o:Option FuncId):o.any P.goes=false:=by
 cases o with
 |none=>rfl
 |some f=>rw[Option.any_some];exact goes_none h f
theorem goesBy_none{P:Program}{c:OpenClaim}(h:P.funcs.any Func.goes=false)(hs:c.start=.entering):false=c.goesBy P:=by
 unfold OpenClaim.goesBy Program.goesAt Program.goesFrom
 rw[hs,any_goes h];rfl
theorem r_g:false=Rows.topLinesRow.goesBy Tryz.pinned.checked.prog:=goesBy_none r_go rfl
theorem r_l:true=Tryz.pinned.checked.prog.looks []:=by kernel_rfl
theorem r_9:Tryz.prog.wantsStandIn 9=false:=by kernel_rfl
theorem r_n : Tryz.prog.funcNamed "diaeresis/diaeresistop.TopLines" = some 3 := by kernel_rfl
end Go.Proofs.YtmladikgbmcmcaaGreatDoor.topLines
