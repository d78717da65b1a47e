/- a part of the proof of TopLines. -/
import Derived.Test.YtmladikgbmcmcaaGreatDoorK61
set_option maxRecDepth 1000000
set_option linter.all false
namespace Go.Proofs.YtmladikgbmcmcaaGreatDoor
open Go.RowKit Go.Shelf Go.Dia Go.Maps
noncomputable section
open Abs (AV H VR VRs Sim Pl Step Blk)
def meansL:List Nat:=[40,56,58,48,32,40,54,58,32,57,58,37,101,50,37,56,100,37,98,51,32,49,58,51,41,41,10,40,54,58,32,40,49,48,58,47,32,57,58,43,41,32,51,58,48,41,10]
theorem show0_run:mkH (dead19++blk0) emp (fun h=>Abs.funcOf Z1 53 (Abs.exec Z1 100000) [arg0] h fun v _=>isStr meansL v)=true:=by decide +kernel
theorem show0_any{N:Nat}{W:World}{v:Value}(h19:19<=N)(hN:N<=W.heap.size)(hv:Rz N W (stmsD dS0) v) :
  Calls Tryz.prog 53 #[v] W fun e w'=>e=.returned (.string ⟨#[40,56,58,48,32,40,54,58,32,57,58,37,101,50,37,56,100,37,98,51,32,49,58,51,41,41,10,40,54,58,32,40,49,48,58,47,32,57,58,43,41,32,51,58,48,41,10]⟩)/\Below N W w':=by
 refine(piece_stms Z1_ok absB_0 lits_0.1 lits_0.2 (by decide) show0_run (ys:=[]) (fun β=>VRs.nil.2 rfl) (dead19_ok (by omega)) hN hv).mono ?_
 rintro e w' ⟨x,a,h',β',m,rfl,q1,q2,q3,q4,q5,_⟩
 exact⟨congrArg _ (isStr_VR rfl q1 q3),q5⟩
theorem showU_run:mkH (dead19++blkU) emp (fun h=>Abs.funcOf Z1 53 (Abs.exec Z1 100000) [argU] h fun v _=>isStr meansL v)=true:=by decide +kernel
theorem showU_any{N:Nat}{W:World}{v:Value}(h19:19<=N)(hN:N<=W.heap.size)(hv:Rz N W (stmsD dSU) v) :
  Calls Tryz.prog 53 #[v] W fun e w'=>e=.returned (.string ⟨#[40,56,58,48,32,40,54,58,32,57,58,37,101,50,37,56,100,37,98,51,32,49,58,51,41,41,10,40,54,58,32,40,49,48,58,47,32,57,58,43,41,32,51,58,48,41,10]⟩)/\Below N W w':=by
 refine(piece_stms Z1_ok absB_U lits_U.1 lits_U.2 (by decide) showU_run (ys:=[]) (fun β=>VRs.nil.2 rfl) (dead19_ok (by omega)) hN hv).mono ?_
 rintro e w' ⟨x,a,h',β',m,rfl,q1,q2,q3,q4,q5,_⟩
 exact⟨congrArg _ (isStr_VR rfl q1 q3),q5⟩
end
end Go.Proofs.YtmladikgbmcmcaaGreatDoor
