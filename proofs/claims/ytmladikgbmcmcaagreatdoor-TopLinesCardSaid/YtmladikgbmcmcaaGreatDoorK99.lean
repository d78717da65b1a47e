/- TopLines: for every text the law answers true, and the text reads behind the call as it did. No condition. -/
import Derived.Test.YtmladikgbmcmcaaGreatDoorK53
import Derived.Test.YtmladikgbmcmcaaGreatDoorK74
import Derived.Test.YtmladikgbmcmcaaGreatDoorK85
import Derived.Test.YtmladikgbmcmcaaGreatDoorK86
import Derived.Test.YtmladikgbmcmcaaGreatDoorK87
import Derived.Test.YtmladikgbmcmcaaGreatDoorK88
import Derived.Test.YtmladikgbmcmcaaGreatDoorK84
import Derived.Test.YtmladikgbmcmcaaGreatDoorCards
import Derived.Test.YtmladikgbmcmcaaGreatDoorK94
import Derived.Test.YtmladikgbmcmcaaGreatDoorK95
import Derived.JoinedCond
import Derived.WalkKit
import Derived.Deep.Slices
import Derived.Deep.Strs
set_option maxRecDepth 100000
set_option linter.all false
namespace Go.Proofs.YtmladikgbmcmcaaGreatDoor.topLines
open Go.ChangeShapes Go.WideShapes Go.ChangeAt Go.RowKit Go.Deep Go.ChangeMaps
theorem own:ownKnob Tryz.prog.godebug=none:=by kernel_rfl
theorem kids:Kids Tryz.prog (· < Tryz.prog.types.size):=kids_rows (by kernel_rfl) (by kernel_rfl)
theorem slicesFull:∀ t e,t<Tryz.prog.types.size->Tryz.prog.underlying t=some (.slice e)->0<Tryz.prog.cellsOf e:=slices_full_of Tryz.prog (by kernel_rfl)
section
variable {H:Type} {enc:TypeId×Value→H}
theorem trodAll_carry{W W':World}(hb:Below W.heap.size W W'):∀ {ts:List TypeId} {vs:List Value} {ds:List (DataW H)} {ps:List MemPlace},(∀ p∈ps,p.block<W.heap.size) ->
  DataW.TrodAll enc Tryz.prog W 0 (fun _=>true) true ts vs ds ps->DataW.TrodAll enc Tryz.prog W' 0 (fun _=>true) true ts vs ds ps
 |[],[],[],_,_,h=>h
 |_::_,_::_,_::_,_,hl,⟨p,q,⟨n,h1⟩,h2,e⟩=>
  ⟨p,q,⟨n,DataW.trod_carry _ _ _ _ h1 (fun x hx=>hb.same (hl x (by rw[e];exact List.mem_append_left _ hx)))⟩,trodAll_carry hb (fun x hx=>hl x (by rw[e];exact List.mem_append_right _ hx)) h2,e⟩
theorem post_true{f:Func}{s:ChangeSpec}{fresh handsOn again:Bool}{W W':World}{args:Array Value}{ds gs:List (DataW H)}{before:List MemPlace}
  (hrt:f.resultTypes=#[4]) (hpt:∀ t∈f.params.toList,t<Tryz.prog.types.size) (hv0:s.vars=[]) (hW:DataW.Whole enc Tryz.prog f.params.toList s.vars false W args.toList ds gs before)
  (hs:s.fn H (ds++gs)={ results:=[.lit (.bool true)],args:=ds }) (hb:Below W.heap.size W W'):s.post enc Tryz.prog f false fresh handsOn again W args (.bool true) W':=by
 have hW':=hW
 obtain⟨p,q,hA0,hV,e,hz,hn⟩:=hW'
 rw[hv0] at hV
 obtain⟨_,hq⟩:=trodVars_none hV
 subst hq
 rw[List.append_nil] at e
 subst e
 have hlt:=hW.lt
 have hA:DataW.TrodAll enc Tryz.prog W 0 (fun _=>true) true f.params.toList args.toList ds before:=hA0
 have hC:=trodAll_carry hb hlt hA
 have hargs:∀ sp:Nat->Bool,(∀ p∈before,sp p.block=true)->DataW.TrodAll enc Tryz.prog W' 0 sp true f.params.toList args.toList ds before:=fun sp hsp=>
  DataW.TrodAll.respare kids slicesFull hpt hC hsp
 have hres:∀ (b:Nat) (sp:Nat->Bool) (hd:Bool),DataW.TrodAll enc Tryz.prog W' b sp hd f.resultTypes.toList ((Value.bool true).resultList f.resultTypes.size) [.lit (.bool true)] []:=fun b sp hd=>by
  rw[hrt]
  exact trodAll_cons_mk (shut_bool Tryz.underlying4 _) trodAll_mk0
 have hold:∀ p∈before,(fun b=>decide (b<W.heap.size)) p.block=true:=fun p hp=>by simpa using hlt p hp
 have hvars:∀ sp:Nat->Bool,DataW.TrodVars enc Tryz.prog W' sp s.vars [] []:=fun sp=>by rw[hv0];rfl
 refine⟨ds,gs,before,[],before,[],hW,by rw[hs];exact hres _ _ _,by rw[hs];exact hargs _ hold,by rw[hs];exact hvars _,hb.frame _,fun _=>?_⟩
 refine⟨?_,_,_,([]++before)++[],⟨[]++before,[],trodAll_append (hargs _ (fun _ _=>rfl)) (hres _ _ _),hvars _,rfl,?_,?_⟩,?_⟩
 ·exact ok_one hrt rfl (okWide_bool_mk Tryz.underlying4 _)
 ·intro b off hp
  have hp':MemPlace.cell b off∈before:=by simpa using hp
  have:=hlt _ hp'
  rw[show W'.frozen? ⟨b,off,none⟩=W.frozen? ⟨b,off,none⟩ from hb.frozen (p:=⟨b,off,none⟩) this]
  exact hz b off hp'
 ·intro ha
  have:=hn ha
  simpa using this
 ·intro p hp _
  simpa using hp
end
theorem topLines_ok(w:World)(s:ByteArray)(h:EnvA w):Calls Tryz.prog 3 #[.string s] w fun e w'=>e=.returned (.bool true)/\Below w.heap.size w w':=
 topLines_any w s ((shown_ok w h).mono fun e w' ⟨h1,h2⟩=>⟨h1,(h.keep (h2.mono h.size)).env,(h.keep (h2.mono h.size)).envG,h2⟩)
theorem contract(H:Type)(enc:TypeId×Value->H)(W:World)(base:Nat)(args:Array Value)(ds gs:List (DataW H))(before:List MemPlace)
  (hval:∀ (j:Nat) t v,Tryz.f3.params[j]?=some t->args[j]?=some v->Value.okWide Tryz.prog W .any base t v)
  (hW:DataW.Whole enc Tryz.prog Tryz.f3.params.toList Rows.topLinesSpec.vars false W args.toList ds gs before) (hL:laidMetH Tryz.prog Rows.topLinesRow.laid W) (hsh:W.ShapedOpen Tryz.prog) :
  Calls Tryz.prog 3 args W fun e W'=>∃ v,e=.returned v/\Rows.topLinesSpec.post enc Tryz.prog Tryz.f3 false true false false W args v W':=by
 have hW':=hW
 obtain⟨p,q,hA0,hV,rfl,hfz,hnd⟩:=hW
 have hA:DataW.TrodAll enc Tryz.prog W 0 (fun _=>true) true Tryz.f3.params.toList args.toList ds p:=hA0
 rw[Tryz.params3] at hA hval
 obtain⟨v0,d0,rfl,rfl,h0⟩:=trodAll_one hA
 obtain⟨rfl,rfl⟩:=trodVars_none hV
 obtain⟨s,rfl,rfl,rfl,hs⟩:=open_string Tryz.underlying9 (hval 0 9 v0 rfl rfl) h0
 refine(topLines_ok W s (envA_of_laid hL hsh)).mono fun e W' ⟨he,hb⟩=>?_
 subst he
 exact⟨_,rfl,post_true rfl (by rw[Tryz.params3];decide) rfl hW' rfl hb⟩
theorem laid_met(os:Os):laidMetH Tryz.prog Rows.topLinesRow.laid (wF os wArgs).memory:=laidMetH_of_parts (laidMet_runs 8 (w_1 os) (w_2 os) (w_2r os)) (w_3 os)
theorem lifted(os:Os)(started:os.Started)(H:Type)(enc:TypeId×Value->H)(F:Stop.Interp) :
  ReturnsInHanded {} Tryz.checked os 3 .any ((OpenSpec.ofChange Rows.topLinesSpec).preRow enc Tryz.prog Tryz.f3 Rows.topLinesRow.domain false Rows.topLinesRow.laid) (((OpenSpec.ofChange Rows.topLinesSpec).at F).post enc Tryz.prog Tryz.f3 false true false false):=by
 obtain⟨places,hx⟩:=w_rdL os enc
 refine returnsInHanded_of_row (C:=Tryz.checked) (s:=OpenSpec.ofChange Rows.topLinesSpec) own started (by kernel_rfl) Tryz.func3
  (witness_row_atRef (enc:=enc) (C:=Tryz.checked) false (wW os) wArgs rfl (w_hv os) (w_hr os) (w_okL os)
   (OpenSpec.preRow_of_cond 8 hx (by kernel_rfl) (fun k hk=>by cases hk) (by kernel_rfl) (laid_met os))) ?_
 intro W base args ds gs before hval hW _ _ _ hL hsh _
 exact contract H enc W base args ds gs before hval hW hL hsh
theorem said:Rows.TopLinesSaid:=
 OpenClaim.holds_of_cond 3 Tryz.f3 rfl rfl rfl rfl rfl rfl rfl ⟨rfl,rfl,rfl,rfl,rfl⟩ rfl rfl rfl rfl rfl q_named Tryz.func3 q_closed q_inst q_wrap
  (fun os started H enc _ F=>by rw[OpenClaim.pre_eq_preRow];exact lifted os started H enc F)
theorem plain (f : FuncId) (fn : Func) (hf : Tryz.pinned.checked.prog.funcNamed "diaeresis/diaeresistop.TopLines" = some f) (hfn : Tryz.pinned.checked.prog.funcs[f]? = some fn) :
  true=Tryz.pinned.checked.prog.looks []/\∀ (j:Nat) t,fn.params[j]?=some t->Tryz.pinned.checked.prog.wantsStandIn t=false:=by
 obtain rfl:f=3:=Option.some.inj (r_n.symm.trans hf) |>.symm
 obtain rfl:fn=Tryz.f3:=(Option.some.inj (Tryz.func3.symm.trans hfn)).symm
 refine⟨r_l,fun j t ht=>?_⟩
 rw[Tryz.params3] at ht
 have hm:=Array.mem_of_getElem? ht
 simp only[List.mem_toArray,List.mem_cons,List.not_mem_nil,or_false] at hm
 subst hm
 exact r_9
theorem card:Rows.TopLinesCardSaid:=
 Claim7.holds_tied_plain_at .later [] _ _ _ _ said (fun _ h=>by cases h) r_w (fun _ h=>by cases h) topLines_row_tie rfl ⟨rfl,rfl⟩ r_m rfl plain r_g
end Go.Proofs.YtmladikgbmcmcaaGreatDoor.topLines
