/- a part of the proof of TopLines. -/
import Derived.Test.YtmladikgbmcmcaaGreatDoorRows
import Derived.Test.YtmladikgbmcmcaaGreatDoorK06
import Derived.ProofKit
import Derived.LaidMore
import Derived.LaidHandle
import Derived.OpenShut
import Derived.Deep.DeepHandedRow
import Derived.Deep.DeepWitnessRowRef
set_option linter.all false
namespace Go.Proofs.YtmladikgbmcmcaaGreatDoor
open Go Go.ChangeShapes Go.WideShapes Go.ChangeAt Go.RowKit
abbrev lW:List (String×DataW Unit):=Rows.topErrorsRow.laid
def wFirst:Array Value:=#[240,240,240,240,240,240,240,240,240,240,240,240,240,240,240,240,240,240,240,240,240,240,240,240,240,240,240,240,240,240,240,240,240,240,240,240,240,240,240,240,240,240,240,240,240,240,240,240,240,240,240,240,240,240,240,240,240,240,240,240,240,240,240,240,240,240,240,240,240,240,240,240,240,240,240,240,240,240,240,240,240,240,240,240,240,240,240,240,240,240,240,240,240,240,240,240,240,240,240,240,240,240,240,240,240,240,240,240,240,240,240,240,240,240,240,240,240,240,240,240,240,240,240,240,240,240,240,240,241,241,241,241,241,241,241,241,241,241,241,241,241,241,241,241,241,241,241,241,241,241,241,241,241,241,241,241,241,241,241,241,241,241,241,241,241,241,241,241,241,241,241,241,241,241,241,241,241,241,241,241,241,241,241,241,241,241,241,241,241,241,241,241,241,241,2,2,2,2,2,2,2,2,2,2,2,2,2,2,2,2,2,2,2,2,2,2,2,2,2,2,2,2,2,2,19,3,3,3,3,3,3,3,3,3,3,3,3,35,3,3,52,4,4,4,68,241,241,241,241,241,241,241,241,241,241,241].map (.int .u8 ·)
noncomputable abbrev wW(os:Os):World:=
 let w0:=World.doorLaid Tryz.prog 400 os
 { w0 with heap:=w0.heap.modify 9 fun
   |.cells _ t frozen=>.cells wFirst t frozen
   |o=>o }
noncomputable abbrev wF(os:Os)(args:Array Value):World:=(wW os).forCall (fun _ _=>0) ⟨#[],args,[]⟩
abbrev wArgs:Array Value:=#[.string ⟨#[]⟩]
def runsB:List MemPlace->Nat->Nat->List Nat->Bool
 |[],_,_,_=>true
 |.map _::_,_,_,_=>false
 |.cell b o::l,c,nx,done=>match Nat.beq b c with
  |true=>(match Nat.ble nx o with|true=>runsB l c (o+1) done|false=>false)
  |false=>(match Abs.memN b (c::done) with|true=>false|false=>runsB l b (o+1) (c::done))
theorem memN_mem:∀ (n:Nat) (l:List Nat),Abs.memN n l=false->n ∉ l
 |_,[],_=>by simp
 |n,m::l,h=>by
  unfold Abs.memN at h
  split at h
  ·cases h
  ·rename_i q
   rw[Abs.beq_nat] at q
   have q:=of_decide_eq_false q
   simp only[List.mem_cons,not_or]
   exact⟨q,memN_mem n l h⟩
theorem runsB_ok:∀ (l:List MemPlace) (c nx:Nat) (done:List Nat),c ∉ done->runsB l c nx done=true->l.Nodup/\∀ p∈l,∃ b o,p=.cell b o/\b ∉ done/\(b=c->nx<=o)
 |[],_,_,_,_,_=>⟨List.nodup_nil,fun p hp=>by cases hp⟩
 |.map _::_,_,_,_,_,h=>by cases h
 |.cell b o::l,c,nx,done,hc,h=>by
  unfold runsB at h
  split at h
  ·rename_i q
   rw[Abs.beq_nat] at q
   have q:=of_decide_eq_true q
   subst q
   split at h
   ·rename_i q2
    rw[Abs.ble_nat] at q2
    have q2:=of_decide_eq_true q2
    obtain⟨h1,h2⟩:=runsB_ok l b (o+1) done hc h
    refine⟨List.nodup_cons.2 ⟨fun hm=>?_,h1⟩,fun p hp=>?_⟩
    ·obtain⟨b',o',e,_,h3⟩:=h2 _ hm
     cases e
     have:=h3 rfl;omega
    ·rcases List.mem_cons.1 hp with rfl|hp
     ·exact⟨b,o,rfl,hc,fun _=>q2⟩
     ·obtain⟨b',o',e,h3,h4⟩:=h2 _ hp
      exact⟨b',o',e,h3,fun e=>by have:=h4 e;omega⟩
   ·cases h
  ·rename_i q
   rw[Abs.beq_nat] at q
   have q:=of_decide_eq_false q
   split at h
   ·cases h
   ·rename_i q2
    have q2:=memN_mem _ _ q2
    obtain⟨h1,h2⟩:=runsB_ok l b (o+1) (c::done) q2 h
    refine⟨List.nodup_cons.2 ⟨fun hm=>?_,h1⟩,fun p hp=>?_⟩
    ·obtain⟨b',o',e,_,h3⟩:=h2 _ hm
     cases e
     have:=h3 rfl;omega
    ·rcases List.mem_cons.1 hp with rfl|hp
     ·exact⟨b,o,rfl,fun h=>q2 (List.mem_cons_of_mem _ h),fun e=>absurd e q⟩
     ·obtain⟨b',o',e,h3,h4⟩:=h2 _ hp
      exact⟨b',o',e,fun h=>h3 (List.mem_cons_of_mem _ h),fun e=>absurd (e ▸ List.mem_cons_self) h3⟩
theorem laidMet_runs{P:Program}{w:World}{l:List (String×DataW Unit)}(fuel:Nat)(h:(DataW.laidRun P w fuel (l.map (·.1))).map (·.1)=some l)
  (hn:(DataW.laidRun P w fuel (l.map (·.1))).map (fun x=>runsB x.2 999999 0 [])=some true) (hr:(DataW.laidRun P w fuel (l.map (·.1))).map (fun x=>laidRowsB P w x.2)=some true):laidMet P l w:=by
 cases hx:DataW.laidRun P w fuel (l.map (·.1)) with
 |none=>simp[hx] at h
 |some x=>
  obtain⟨l',ps⟩:=x
  simp only[hx,Option.map_some,Option.some.injEq] at h hr hn
  subst h
  exact laidMet_of_run fuel hx (decide_eq_true (runsB_ok ps 999999 0 [] (by simp) hn).1) hr
theorem w_1(os:Os):(DataW.laidRun Tryz.prog (wF os wArgs).memory 8 ((lW.filter fun x=>x.2.handleName?.isNone).map (·.1))).map (·.1)=some (lW.filter fun x=>x.2.handleName?.isNone):=by kernel_rfl
theorem w_3(os:Os):(lW.filter fun x=>x.2.handleName?.isSome).all (handleAtB Tryz.prog (wF os wArgs).memory)=true:=by kernel_rfl
end Go.Proofs.YtmladikgbmcmcaaGreatDoor
