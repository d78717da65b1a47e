/- a part of the proof of TopLines. -/
import Derived.Test.YtmladikgbmcmcaaGreatDoorK61
set_option maxRecDepth 1000000
set_option linter.all false
namespace Go.Proofs.YtmladikgbmcmcaaGreatDoor
open Go.RowKit Go.Shelf Go.Dia Go.Maps
noncomputable section
open Abs (AV H VR VRs Sim Pl Step Blk)
def glR:List Abs.Blk:=[.dead,.dead,.dead,.dead,.dead,.dead,.dead,.cells [.ife] .fixed,.dead,.dead,.dead,.dead,.dead,.dead,.cells [.ife] .fixed,.cells [.ife] .fixed,.dead,.dead,.dead]
def outL:List Nat:=[49,32,50,32,51,10,54,10]
def printK(lv:AV)(h:H):Bool:=Abs.funcOf Z1 21 (Abs.exec Z1 100000) [lv] h fun v _=>isStr outL v
def runK(v:AV)(h:H):Bool:=match v with
 |.tup [lv,.int .i64 (.ofNat n)]=>match Nat.beq n 5 with|true=>printK lv h|false=>false
 |_=>false
theorem run_run:mkH (glR++blkU) emp (fun h=>Abs.funcOf Z1 40 (Abs.exec Z1 100000) [argU,.int .i64 (.ofNat 9)] h runK)=true:=by decide +kernel
theorem print_any{β:Pl}{lv:AV}{h:H}(e:printK lv h=true){W:World}(hs:Sim β h W){x:Value}(hv:VR β lv x)(hg:Abs.Gl β){N:Nat}(hN:N<=W.heap.size)(hi:∀ y r κ,β y=some (r,κ)->r<Abs.nGlobals\/N<=r):Calls Tryz.prog 21 #[x] W fun e w'=>e=.returned (.string ⟨#[49,32,50,32,51,10,54,10]⟩)/\Below N W w':=by
 have h2:=Abs.funcOf_ok Z1_ok (Abs.exec_ok Z1_ok 100000) e hs (args:=[x]) (VRs.cons'.2 ⟨hv,VRs.nil.2 rfl⟩) hg
 refine(callsIn_wide.1 h2.2).mono ?_
 rintro e w' ⟨y,rfl,a,h',β',g1,g2,g3,g4,g5⟩
 exact⟨congrArg _ (isStr_VR rfl g1 g4),step_below g5 hN hi⟩
theorem run_any{N:Nat}{W:World}{v:Value}(hG:GOK glR W)(hN:N<=W.heap.size)(hv:Rz N W (stmsD dSU) v) :
  Calls Tryz.prog 40 #[v,.int .i64 9] W fun e w'=>∃ lv,e=.returned (.tuple #[lv,.int .i64 5])/\Below N W w'/\∀ W2,Below w'.heap.size w' W2->Calls Tryz.prog 21 #[lv] W2 fun e w3=>e=.returned (.string ⟨#[49,32,50,32,51,10,54,10]⟩)/\Below N W2 w3:=by
 refine(piece_stms Z1_ok absB_U lits_U.1 lits_U.2 (by decide) run_run (ys:=[.int .i64 9]) (fun β=>VRs.cons'.2 ⟨by simp only[VR];rfl,VRs.nil.2 rfl⟩) hG hN hv).mono ?_
 rintro e w' ⟨x,a,h',β',m,rfl,q1,q2,q3,q4,q5,q6,_⟩
 unfold runK at q1
 split at q1
 ·rename_i lv n
  split at q1
  ·rename_i hn
   have hn:=of_beq hn
   subst hn
   simp only[VR] at q3
   obtain⟨vs,rfl,q3⟩:=q3
   obtain⟨x1,r1,rfl,g1,q3⟩:=VRs.cons.1 q3
   obtain⟨x2,r2,rfl,g2,q3⟩:=VRs.cons.1 q3
   rw[VRs.nil] at q3;subst q3
   simp only[VR] at g2;subst g2
   refine⟨x1,rfl,q5,fun W2 hb=>?_⟩
   exact print_any q1 (q2.below hb h'.next).1 g1 q4 (Nat.le_trans hN (Nat.le_trans q5.size hb.size)) q6
  ·cases q1
 ·cases q1
end
end Go.Proofs.YtmladikgbmcmcaaGreatDoor
