/- a part of the proof of TopLines. -/
import Derived.Test.YtmladikgbmcmcaaGreatDoorK62
set_option maxRecDepth 1000000
set_option linter.all false
namespace Go.Proofs.YtmladikgbmcmcaaGreatDoor
open Go.RowKit Go.Shelf Go.Dia Go.Maps
noncomputable section
open Abs (AV H Hd HOK VR VRs Sim Pl Step CallR natsEq eq3)
def glU:List Abs.Blk:=[.dead,.dead,.cells [.err 578] .fixed,.dead,.cells [.ifc 348 (.agg [.ptr p18 124])] .fixed,.cells [.err 578] .fixed,.cells [.err 578] .fixed,.dead,.cells [.uni] .fixed,.cells firstL .fixed,.cells accL .fixed,.dead,.dead,.dead,.dead,.dead,.dead,.dead,.dead]
def fL:List Nat:=[97,226,134,144,226,141,179,51,32,226,139,132,32,43,47,97]
theorem format_run:mkH glU emp (fun h=>Abs.funcOf Z2 19 (Abs.exec Z2 100000) [.str tUL] h fun v _=>isStr fL v)=true:=by decide +kernel
theorem unparen_run:mkH glU emp (fun h=>Abs.funcOf Z2 20 (Abs.exec Z2 100000) [.str t0L] h fun v _=>isStr tUL v)=true:=by decide +kernel
theorem format_any{W:World}(hG:GOK glU W):Calls Tryz.prog 19 #[.string uB] W fun e w'=>e=.returned (.string fB)/\Below W.heap.size W w':=by
 refine(piece_flat Z2_ok format_run (ys:=[.string uB]) (fun β=>VRs.cons'.2 ⟨str_VR' (by kernel_rfl),VRs.nil.2 rfl⟩) hG).mono ?_
 rintro e w' ⟨x,a,h',β',rfl,q1,q2,q3⟩
 exact⟨congrArg _ (isStr_VR (by kernel_rfl) q1 q2),q3⟩
theorem unparen_any{W:World}(hG:GOK glU W):Calls Tryz.prog 20 #[.string text0] W fun e w'=>e=.returned (.string uB)/\Below W.heap.size W w':=by
 refine(piece_flat Z2_ok unparen_run (ys:=[.string text0]) (fun β=>VRs.cons'.2 ⟨str_VR' (by kernel_rfl),VRs.nil.2 rfl⟩) hG).mono ?_
 rintro e w' ⟨x,a,h',β',rfl,q1,q2,q3⟩
 exact⟨congrArg _ (isStr_VR (by kernel_rfl) q1 q2),q3⟩
end
end Go.Proofs.YtmladikgbmcmcaaGreatDoor
