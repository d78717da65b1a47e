/- a part of the proof of TopLines. -/
import Derived.Test.YtmladikgbmcmcaaGreatDoorK21
import Derived.Test.YtmladikgbmcmcaaGreatDoorK24
import Derived.Test.YtmladikgbmcmcaaGreatDoorK23
import Derived.ChangeAlike
import Derived.Maps.OwnIn
import Derived.Lib.SplitLaws
import Derived.Deep.RegionWith
set_option maxHeartbeats 4000000
set_option maxRecDepth 100000
set_option linter.all false
namespace Go.Proofs.YtmladikgbmcmcaaGreatDoor
open Go.RowKit Go.Shelf Go.Dia Go.Maps
attribute [local go_sem] Oper.semAt_some
def IterOK(n:Nat)(F:FuncId)(caps:Array Value)(m:Nat)(vals:Nat->Value)(IR:Nat->World->Prop)(IA:Nat->World->World->Prop)(w:World):Prop:=
 ∀ (l:Nat) (JR:Nat->World->Prop) (JA:Nat->World->World->Prop) (Jx:World->Prop) (W:World),w.grownBy W none->JR 0 W ->
  (∀ k X,JR k X->IR k X)->(∀ k X Y,JA k X Y->IA k X Y)->(∀ k X Y,JR k X->KeepsOthers X Y->IR k Y->JR k Y)->(∀ k X Y Z,JA k X Y->KeepsOthers Y Z->IR (k+1) Z->JR (k+1) Z) ->
  (∀ k X,k<m->JR k X->YieldAt Fence.wide (n - 1) Tryz.prog l #[vals k] X fun e Y=>(e=.returned (.bool true)/\JA k X Y)\/(e=.returned (.bool false)/\Jx Y)) ->
  CallsIn Fence.wide n Tryz.prog F (#[.func (.yield l) #[] #[]]++caps) W fun e Y=>(∃ v,e=.returned v)/\(JR m Y\/Jx Y)
theorem range_iter{g:Operand}{p:Tmp}{assign body:Code}{Q:Exit->Act->World->Prop}{a:Act}{w:World}(n:Nat)(hn:3<=n)(F:FuncId)(caps:Array Value)(m:Nat)(vals:Nat->Value)
  (hg:a.eval g=.func (.func F) #[] caps) (hF:∀ args (W:World),(callFunc F args).run Tryz.prog W=.ok (.enter F args) W)
  (IR:Nat->World->Prop) (IA:Nat->World->World->Prop) (Ix:Code->World->Prop)
  (hiter:IterOK (n - 1) F caps m vals IR IA w)
  (hIA:∀ k X Y l r r',w.heap.size<=l->IA k X Y->Y.heap[l]?=some (.loop r)->IA k X (Y.putObj l (.loop r')))
  (hIR:∀ k X l r r',w.heap.size<=l->IR k X->X.heap[l]?=some (.loop r)->IR k (X.putObj l (.loop r')))
  (hIx:∀ c X l r r',w.heap.size<=l->Ix c X->X.heap[l]?=some (.loop r)->Ix c (X.putObj l (.loop r')))
  (h0:∀ Y,w.grownBy Y none->IR 0 Y)
  (hround:∀ l k X r,k<m->w.heap.size<=l->X.heap[l]?=some (.loop r)->IR k X ->
   assign.wpIn (Fence.wide.inRound l) (n - 2) Tryz.prog (Exit.then (fun a₁ X₁=>KeepsOthers X X₁/\∀ r',body.wpIn (Fence.wide.inRound l) (n - 2) Tryz.prog (roundQ (IA k X) Ix (X₁.putObj l (.loop r'))) a₁ (X₁.putObj l (.loop r'))) (fun _ _ _=>False))
    { tmps:=a.tmps.setIfInBounds p (vals k),defers:=[] } X)
  (hdone:∀ D X,w.heap.size<=D->IR m X->X.heap[D]?=some (.deferred (some []))->Q .normal { a with defers:={ target:=.collected D,args:=#[] }::a.defers } X)
  (hstop:∀ D c X,w.heap.size<=D->Ix c X->X.heap[D]?=some (.deferred (some []))->c.wpIn Fence.wide n Tryz.prog Q { a with defers:={ target:=.collected D,args:=#[] }::a.defers } X) :
  (Code.rangeFunc g #[p] assign body).wpIn Fence.wide n Tryz.prog Q a w:=by
 refine wpIn_rangeFunc ?_
 intro fn hfn
 obtain⟨rc,hrc⟩:∃ rc:LoopState->Option Code->Loop,rc=fun st pe=>{ state:=st,pending:=pe,fn,tmps:=a.tmps,params:=#[p],assign,body,defers:=w.heap.size }:=⟨_,rfl⟩
 have hen:=run_enterLoop_outer (P:=Tryz.prog) (w:=w) fn a.tmps #[p] assign body
 have hlast:((w.alloc (.deferred (some []))).alloc (.loop (rc .ready none))).heap[w.heap.size+1]?=some (.loop (rc .ready none)):=by
  have:=World.alloc_heap_new (w.alloc (.deferred (some []))) (.loop (rc .ready none));rwa [World.size_alloc] at this
 have hdef:((w.alloc (.deferred (some []))).alloc (.loop (rc .ready none))).heap[w.heap.size]?=some (.deferred (some [])):=
  (Below.heap_alloc _ _ _ (by simp)).trans (World.alloc_heap_new w _)
 have hgw:w.grownBy ((w.alloc (.deferred (some []))).alloc (.loop (rc .ready none))) none:=(World.grownBy_alloc w _ _).trans (World.grownBy_alloc _ _ _)
 have hen:(Instr.enterLoop fn a.tmps #[p] assign body Fence.wide.round).run Tryz.prog w=.ok (w.heap.size+1,[{ target:=.collected w.heap.size,args:=#[] }]) ((w.alloc (.deferred (some []))).alloc (.loop (rc .ready none))):=by rw[hrc];exact hen
 generalize (w.alloc (.deferred (some []))).alloc (.loop (rc .ready none))=W1 at *
 refine⟨w.heap.size+1,[{ target:=.collected w.heap.size,args:=#[] }],W1,{ target:=.fn (.func F) caps,args:=#[.func (.yield (w.heap.size+1)) #[] #[]] },W1,F,
  #[.func (.yield (w.heap.size+1)) #[] #[]]++caps,W1,hen,?_,fun _ _=>trivial,?_,fun _=>by omega,?_⟩
 ·simp only[resolve,hg]
  simp[go_sem]
 ·simp[invoke,go_sem,hF]
 ·refine(hiter (w.heap.size+1)
   (fun k X=>IR k X/\X.heap[w.heap.size+1]?=some (.loop (rc .ready none))/\X.heap[w.heap.size]?=some (.deferred (some [])))
   (fun k X Y=>IA k X Y/\Y.heap[w.heap.size+1]?=some (.loop (rc .ready none))/\Y.heap[w.heap.size]?=some (.deferred (some [])))
   (fun X=>∃ c,Ix c X/\X.heap[w.heap.size+1]?=some (.loop (rc .done (some c)))/\X.heap[w.heap.size]?=some (.deferred (some []))) W1 hgw ⟨h0 _ hgw,hlast,hdef⟩
   (fun k X h=>h.1) (fun k X Y h=>h.1) (fun k X Y h hk hi=>⟨hi,hk.same _ _ h.2.1 rfl,hk.same _ _ h.2.2 rfl⟩) (fun k X Y Z h hk hi=>⟨hi,hk.same _ _ h.2.1 rfl,hk.same _ _ h.2.2 rfl⟩) ?_).mono ?_
  ·rintro k X hk ⟨hi,hl,hd⟩
   have hy:=run_yield (P:=Tryz.prog) (args:=#[vals k]) hl (by rw[hrc];rfl)
   rw[show n - 1 - 1=n - 2 by omega]
   refine⟨fn,a.tmps.setIfInBounds p (vals k),assign,body,by rw[hrc] at hy;simpa using hy,roundIn_of_wpIn trivial (wpIn_mono (hround _ k X _ hk (by omega) hl hi) ?_)⟩
   rintro e a₁ X₁ hq
   cases e with
   |normal=>
    obtain⟨hk1,hbody⟩:=hq
    have hl1:=hk1.same _ _ hl rfl
    have hd1:=hk1.same _ _ hd rfl
    have hlt1:=(Array.getElem?_eq_some_iff.1 hl1).1
    refine⟨_,run_beginRound hl1 (by rw[hrc]),wpIn_mono (hbody { rc .ready none with state:=.busy }) ?_⟩
    have hl2:(X₁.putObj (w.heap.size+1) (.loop { rc .ready none with state:=.busy })).heap[w.heap.size+1]?=some (.loop { rc .ready none with state:=.busy }):=World.putObj_heap_same hlt1
    have hd2:(X₁.putObj (w.heap.size+1) (.loop { rc .ready none with state:=.busy })).heap[w.heap.size]?=some (.deferred (some [])):=(World.putObj_heap_other (by omega)).trans hd1
    have close:∀ (j:Option Code) (Y:World),KeepsOthers (X₁.putObj (w.heap.size+1) (.loop { rc .ready none with state:=.busy })) Y ->
      Y.heap[w.heap.size+1]?=some (.loop { rc .ready none with state:=.busy })/\(Instr.endRound (w.heap.size+1) j).run Tryz.prog Y=.ok (.bool j.isNone) (Y.putObj (w.heap.size+1) (.loop (rc (if j.isNone then .ready else .done) j))) /\
      (Y.putObj (w.heap.size+1) (.loop (rc (if j.isNone then .ready else .done) j))).heap[w.heap.size+1]?=some (.loop (rc (if j.isNone then .ready else .done) j)) /\
      (Y.putObj (w.heap.size+1) (.loop (rc (if j.isNone then .ready else .done) j))).heap[w.heap.size]?=some (.deferred (some [])):=fun j Y hY=>by
     have hl3:=hY.same _ _ hl2 rfl
     have hr:=run_endRound (P:=Tryz.prog) j hl3
     refine⟨hl3,?_,World.putObj_heap_same (Array.getElem?_eq_some_iff.1 hl3).1,(World.putObj_heap_other (by omega)).trans (hY.same _ _ hd2 rfl)⟩
     rw[hr,hrc]
    rintro e3 a3 Y h3
    cases e3 with
    |normal=>obtain⟨c0,c1,c2,c3⟩:=close none Y h3.1;exact⟨_,_,c1,.inl ⟨rfl,hIA _ _ _ _ _ _ (by omega) h3.2 c0,c2,c3⟩⟩
    |ret=>obtain⟨c0,c1,c2,c3⟩:=close (some .ret) Y h3.1;exact⟨_,_,c1,.inr ⟨rfl,.ret,hIx _ _ _ _ _ (by omega) h3.2 c0,c2,c3⟩⟩
    |exit id=>obtain⟨c0,c1,c2,c3⟩:=close (some (.exit id)) Y h3.1;exact⟨_,_,c1,.inr ⟨rfl,.exit id,hIx _ _ _ _ _ (by omega) h3.2 c0,c2,c3⟩⟩
    |goto t=>obtain⟨c0,c1,c2,c3⟩:=close (some (.goto t)) Y h3.1;exact⟨_,_,c1,.inr ⟨rfl,.goto t,hIx _ _ _ _ _ (by omega) h3.2 c0,c2,c3⟩⟩
    |panic ch=>exact h3.elim
    |outgrown=>exact h3.elim
   |ret=>exact hq.elim
   |exit id=>exact hq.elim
   |goto t=>exact hq.elim
   |panic ch=>exact hq.elim
   |outgrown=>exact hq.elim
  ·rintro e X ⟨⟨u,rfl⟩,⟨hi,hl,hd⟩|⟨c,hi,hl,hd⟩⟩
   ·refine⟨none,_,?_,hdone w.heap.size _ (Nat.le_refl _) (hIR m X (w.heap.size+1) _ { rc .ready none with state:=.exhausted } (by omega) hi hl) ((World.putObj_heap_other (by omega)).trans hd)⟩
    have:=run_endLoop (P:=Tryz.prog) hl (by rw[hrc];simp)
    rw[hrc] at this ⊢
    exact this
   ·refine⟨some c,_,?_,hstop w.heap.size c _ (Nat.le_refl _) (hIx c X (w.heap.size+1) _ { rc .done (some c) with state:=.exhausted } (by omega) hi hl) ((World.putObj_heap_other (by omega)).trans hd)⟩
    have:=run_endLoop (P:=Tryz.prog) hl (by rw[hrc];simp)
    rw[hrc] at this ⊢
    exact this
attribute [local go_sem] Oper.semAt_some
theorem lexFirst_nil(w:World):Calls Tryz.prog 214 #[.string ⟨#[]⟩] w fun e W'=>e=.returned (.tuple #[.agg #[.int .i64 0,.string ⟨#[]⟩,.string ⟨#[]⟩],.bool false])/\Below w.heap.size w W':=by
 go_enter Tryz.func214,Tryz.ntmps214
 go_wp2
 refine bodyPost_ret (v:=.tuple #[.agg #[.int .i64 0,.string ⟨#[]⟩,.string ⟨#[]⟩],.bool false]) ?_ rfl ?_
 ·simp[results,Tryz.results214,go_sem]
 exact⟨rfl,Zab w _⟩
theorem Za1{X Y:World}(h:Below X.heap.size X Y):KeepsOthers X Y:=⟨h.size,fun k _ hk _=>(h.block k (Array.getElem?_eq_some_iff.1 hk).1).trans hk⟩
theorem Env.env_set{W:World}{b:Nat}(h:Env W)(hb:18<=b)(v:Value):Env (W.setCell ⟨b,0,none⟩ v):=by
 have hc:∀ g o,g<18->(W.setCell ⟨b,0,none⟩ v).cell? ⟨g,o,none⟩=W.cell? ⟨g,o,none⟩:=fun g o hg=>World.cell?_setCell_other W _ _ v (fun e=>by cases e;omega)
 obtain⟨⟨h1,h2⟩,m,h3⟩:=h
 exact⟨⟨fun c hh=>(hc _ _ (by decide)).trans (h1 c hh),fun i hi=>⟨(hc _ _ (by decide)).trans (h2 i hi).1,(hc _ _ (by decide)).trans (h2 i hi).2⟩⟩,m,(hc _ _ (by decide)).trans h3⟩
def strSize(b:Nat)(W:World):Nat:=match W.cell? ⟨b,0,none⟩ with|some (.string s)=>s.size|_=>0
theorem strSize_eq{b:Nat}{W:World}{s:ByteArray}(h:W.cell? ⟨b,0,none⟩=some (.string s)):strSize b W=s.size:=by unfold strSize;rw[h]
def tokAt(s:ByteArray)(k:Nat):Value:=.agg #[.int .i64 (lexTok (restS s k)).1,.string (lexTok (restS s k)).2.1,.string (lexTok (restS s k)).2.2]
def TokR(s:ByteArray)(Bp:Nat)(U:Nat->World->Prop)(k:Nat)(X:World):Prop:=X.cell? ⟨Bp,0,none⟩=some (.string (restS s k))/\X.frozen? ⟨Bp,0,none⟩=false/\Env X/\U k X
def TokA(s:ByteArray)(Bp:Nat)(U:Nat->World->Prop)(dirty:World->Nat->Prop)(k:Nat)(X Y:World):Prop:=Y.cell? ⟨Bp,0,none⟩=some (.string (restS s k))/\Y.frozen? ⟨Bp,0,none⟩=false/\Env Y/\U (k+1) Y/\∀ b o,b<X.heap.size->¬ dirty X b->Y.cell? ⟨b,o,none⟩=X.cell? ⟨b,o,none⟩
theorem tokens1(n:Nat)(hn:1<=n)(s:ByteArray)(hsz:s.size<=100000)(Bp:Nat)(hBp:18<=Bp)(U:Nat->World->Prop)(hU:∀ k X Y,U k X->Below X.heap.size X Y->U k Y)(hUs:∀ k X v,U k X->U k (X.setCell ⟨Bp,0,none⟩ v))(dirty:World->Nat->Prop)(hd1:∀ k X b,U k X->dirty X b->b<X.heap.size)(hd2:∀ k X Y b,U k X->Below X.heap.size X Y->dirty Y b->dirty X b)(w:World) :
  IterOK n 213 #[.pointer (some ⟨Bp,0,none⟩)] (lexLine s).length (tokAt s) (TokR s Bp U) (TokA s Bp U dirty) w:=by
 intro l JR JA Jx W hgw h0 r1 a1 m1 m2 hy
 have hfn:Fence.wide.fn 214:=trivial
 have hspec:=lineF_spec s.size s (Nat.le_refl _)
 have hnn:=hid hspec
 obtain⟨m,hm⟩:∃ m,(lexLine s).length=m:=⟨_,rfl⟩
 rw[hm] at hy ⊢
 show CallsIn _ _ _ _ #[.func (.yield l) #[] #[],.pointer (some ⟨Bp,0,none⟩)] _ _
 refine callsIn_of_wp Tryz.func213 rfl trivial ?_ rfl
 simp only[Tryz.ntmps213,List.size_toArray,List.length_cons,List.length_nil,Nat.reduceAdd,Nat.reduceSub,Array.replicate_succ,Array.replicate_zero,List.push_toArray,List.append_toArray,List.nil_append,List.cons_append]
 gi_wp2
 refine Zau ?_
 refine wpIn_seq (wpIn_label ?_)
 gi_wp2
 gi_loopw [3,4,5,6,7,8,9,10,11,12,13,14,15,16,17,18,19,20,21,22] (fun _ _ _ _ _ _ _ _ _ _ _ _ _ _ _ _ _ _ _ _ wr=>∃ k:Nat,k<=m/\JR k wr) (fun _ _ _ _ _ _ _ _ _ _ _ _ _ _ _ _ _ _ _ _ wr=>strSize Bp wr)
 case atStart=>exact⟨0,Nat.zero_le _,h0⟩
 case round=>
  obtain⟨k,hk,hJ⟩:=hrel
  obtain⟨c0,f0,he,hu⟩:=r1 _ _ hJ
  have hle:=restS_le s k
  have hss:=strSize_eq c0
  by_cases hlt:k<m
  ·have hkl:k<(lineF s.size s).length:=by rw[show(lineF s.size s).length=m from hm];exact hlt
   have hpos:=(hspec.2 k hkl).1
   have hts:=hid (lexTok_spec (restS s k) hpos)
   have KF:=hid (lexFirst_any wr (restS s k) hpos (by omega) he)
   have HY:=hid (hy k)
   have HN:=hid (show restS s (k+1)=(restS s k).extract (lexTok (restS s k)).2.1.size (restS s k).size from rfl)
   have HV:=hid (show tokAt s k=.agg #[.int .i64 (lexTok (restS s k)).1,.string (lexTok (restS s k)).2.1,.string (lexTok (restS s k)).2.2] from rfl)
   obtain⟨rs,hrs⟩:∃ rs,restS s k=rs:=⟨_,rfl⟩
   rw[hrs] at KF HN HV hts c0 hpos hle hss
   obtain⟨tk,htk⟩:∃ tk,lexTok rs=tk:=⟨_,rfl⟩
   rw[htk] at KF HN HV hts
   obtain⟨k1,k2,k3⟩:=tk
   simp only at KF HN HV hts
   clear htk hspec
   gi_wp2_with (gi_at_call 214;refine(callsIn_wide.2 KF.out).mono ?_;rintro e w1 ⟨rfl,b1⟩;have hB:=hid (Zaa b1 (Nat.le_refl _) (Zab w1 (.cells #[.int .i64 k1,.string k2,.string k3] 73)));have hz1:=b1.size;clear b1;have hJX:=m1 k wr _ hJ (Za1 hB.out) ⟨Zac (hrs ▸ c0) hB.out,((bcell hB.out).2 _ _ (cell_lt c0)).trans f0,he.keep hB.out,hU _ _ _ hu hB.out⟩;have cX:=(Blk.new w1 73 #[.int .i64 k1,.string k2,.string k3]).cell 1;obtain⟨fn,tmps,assign,body,hyy,hR⟩:=HY.out _ hlt hJX;rw[HV.out] at hyy)
   refine hR.mono ?_
   rintro e W3 (⟨rfl,hA⟩|⟨rfl,hx3⟩)
   ·obtain⟨d0,e0,dE,dU,dX⟩:=a1 _ _ _ hA
    rw[hrs] at d0
    have dX:=(dX w1.heap.size 1 (by simp) (fun hd=>by have:=hd1 k wr _ hu (hd2 k wr _ _ hu hB.out hd);omega)).trans cX
    have j1:(0:Int)<=(k2.size:Int):=by omega
    have j2:(k2.size:Int)<=(rs.size:Int):=by have:=hts.out.2.2;omega
    gi_wp2
    have hs2:(W3.setCell ⟨Bp,0,none⟩ (.string (rs.extract k2.size rs.size))).cell? ⟨Bp,0,none⟩=some (.string (rs.extract k2.size rs.size)):=World.cell?_setCell_same W3 _ _ d0
    refine⟨⟨k+1,by omega,m2 k _ W3 _ hA (KeepsOthers.setCell _ _ _) ⟨by rw[HN.out];exact hs2,?_,?_,hUs _ _ _ dU⟩⟩,?_⟩
    ·simpa using e0
    ·exact dE.env_set hBp _
    ·rw[strSize_eq hs2,hss,ByteArray.size_extract];have:=hts.out.1;omega
   ·gi_wp2
    rw[Exit.noGoto_normal]
    go_end0
    exact⟨⟨_,rfl⟩,.inr hx3⟩
  ·obtain rfl:k=m:=by omega
   have h00:=hspec.1
   rw[show(lineF s.size s).length=k from hm] at h00
   have hz:restS s k=⟨#[]⟩:=by
    refine bl_inj (List.eq_nil_of_length_eq_zero ?_)
    rw[Zax];exact h00
   rw[hz] at c0
   have KN:=hid (lexFirst_nil wr)
   clear hspec
   gi_wp2_with (gi_at_call 214;refine(callsIn_wide.2 KN.out).mono ?_;rintro e w1 ⟨rfl,b1⟩;have hB:=hid (Zaa b1 (Nat.le_refl _) (Zab w1 (.cells #[.int .i64 0,.string ⟨#[]⟩,.string ⟨#[]⟩] 73)));clear b1)
   refine⟨fun _ h=>(by cases h),?_⟩
   gi_wp2
   rw[Exit.noGoto_normal]
   go_end0
   exact⟨⟨_,rfl⟩,.inl (m1 k wr _ hJ (Za1 hB.out) ⟨Zac (by rw[hz];exact c0) hB.out,((bcell hB.out).2 _ _ (cell_lt c0)).trans f0,he.keep hB.out,hU _ _ _ hu hB.out⟩)⟩
attribute [local go_sem] Oper.semAt_some
def tokCells(l:List Tok):List Value:=l.flatMap fun t=>[.int .i64 t.1,.string t.2.1,.string t.2.2]
theorem tokCells_length(l:List Tok):(tokCells l).length=l.length*3:=by
 induction l with
 |nil=>rfl
 |cons t l ih=>simp[tokCells] at *;omega
theorem tokCells_append(a b:List Tok):tokCells (a++b)=tokCells a++tokCells b:=by simp[tokCells]
theorem infoTok:(Tryz.prog.info? 73).map (fun i=>(i.zero,i.size,i.bytes))=some (some (.agg #[.int .i64 0,.string ⟨#[]⟩,.string ⟨#[]⟩]),3,40):=by kernel_rfl
theorem tokens_any(w:World)(s:ByteArray):Calls Tryz.prog 165 #[.string s] w fun e w'=>e=.returned (.func (.func 213) #[] #[.pointer (some ⟨w.heap.size,0,none⟩)])/\w'=w.alloc (.cells #[.string s] 9):=by
 go_enter Tryz.func165,Tryz.ntmps165
 go_wp2
 go_ret
 exact⟨rfl,rfl⟩
def LineU(w:World)(s:ByteArray)(k:Nat)(X:World):Prop:=∃ v,Blk X w.heap.size 32 #[v]/\X.ownsRow (w.heap.size+2) 73 3 v k (tokCells ((lexLine s).take k))/\Below w.heap.size w X/\w.heap.size+2<=X.heap.size
def LineD(w:World)(X:World)(b:Nat):Prop:=b=w.heap.size\/∃ v,X.cell? ⟨w.heap.size,0,none⟩=some v/\v.ownBlock=some b
theorem LineU.step{w X Y:World}{s:ByteArray}{k:Nat}(h:LineU w s k X)(hb:Below X.heap.size X Y):LineU w s k Y:=by
 obtain⟨v,h1,h2,h3,h4⟩:=h
 exact⟨v,Blk.below h1 hb h1.lt,Zam h2 hb,Zaa h3 (Nat.le_refl _) hb,Nat.le_trans h4 hb.size⟩
theorem LineU.set{w X:World}{s:ByteArray}{k:Nat}(h:LineU w s k X)(u:Value):LineU w s k (X.setCell ⟨w.heap.size+1,0,none⟩ u):=by
 obtain⟨v,h1,h2,h3,h4⟩:=h
 have gs:=Zaj X (w.heap.size+1) 0 u
 refine⟨v,h1.other (by omega) _,h2.kept gs (.inr fun e=>?_),h3.setCell (p:=⟨w.heap.size+1,0,none⟩) (by show w.heap.size<=w.heap.size+1;omega) _,Nat.le_trans h4 gs.size⟩
 have:=(h2.lt _ e).1;omega
theorem lineD_lt{w X:World}{s:ByteArray}{k b:Nat}(h:LineU w s k X)(hd:LineD w X b):b<X.heap.size:=by
 obtain⟨v,h1,h2,h3,h4⟩:=h
 rcases hd with rfl|⟨u,hu,ho⟩
 ·omega
 ·rw[h1.cell 0] at hu
  obtain rfl:v=u:=by simpa using hu
  exact(h2.lt _ ho).2
theorem lineD_back{w X Y:World}{s:ByteArray}{k b:Nat}(h:LineU w s k X)(hb:Below X.heap.size X Y)(hd:LineD w Y b):LineD w X b:=by
 obtain⟨v,h1,_⟩:=h
 rcases hd with rfl|⟨u,hu,ho⟩
 ·exact .inl rfl
 ·have h5:=(Blk.below h1 hb h1.lt).cell 0
  rw[h5] at hu
  exact .inr ⟨u,(h1.cell 0).trans hu,ho⟩
theorem put_cell{X:World}{l:Nat}{r r':Loop}(h:X.heap[l]?=some (.loop r))(a:Addr):(X.putObj l (.loop r')).cell? a=X.cell? a:=by
 by_cases e:a.block=l
 ·have h1:(X.putObj l (.loop r')).heap[a.block]?=some (.loop r'):=by rw[e];exact World.putObj_heap_same (Array.getElem?_eq_some_iff.1 h).1
  have h2:X.heap[a.block]?=some (.loop r):=by rw[e];exact h
  unfold World.cell?
  rw[h1,h2]
 ·have h1:(X.putObj l (.loop r')).heap[a.block]?=X.heap[a.block]?:=World.putObj_heap_other e
  unfold World.cell?
  rw[h1]
theorem Env.same{X Y:World}(h:Env X)(hc:∀ a,Y.cell? a=X.cell? a):Env Y:=by
 obtain⟨⟨h1,h2⟩,m,h3⟩:=h
 exact⟨⟨fun c hh=>(hc _).trans (h1 c hh),fun i hi=>⟨(hc _).trans (h2 i hi).1,(hc _).trans (h2 i hi).2⟩⟩,m,(hc _).trans h3⟩
theorem LineU.books{w X:World}{s:ByteArray}{k l:Nat}{r r':Loop}(h:LineU w s k X)(hl:w.heap.size<=l)(hr:X.heap[l]?=some (.loop r)):LineU w s k (X.putObj l (.loop r')):=by
 obtain⟨v,h1,h2,h3,h4⟩:=h
 exact⟨v,Blk.books h1 hr,own_books h2 hr,h3.grown (grownBy_putObj' X l _) h3.size (fun k e=>by cases e;omega),Nat.le_trans h4 (grownBy_putObj' X l (.loop r')).size⟩
theorem put_frozen'{X:World}{l:Nat}{r r':Loop}(h:X.heap[l]?=some (.loop r))(a:Addr):(X.putObj l (.loop r')).frozen? a=X.frozen? a:=by
 by_cases e:a.block=l
 ·have h1:(X.putObj l (.loop r')).heap[a.block]?=some (.loop r'):=by rw[e];exact World.putObj_heap_same (Array.getElem?_eq_some_iff.1 h).1
  have h2:X.heap[a.block]?=some (.loop r):=by rw[e];exact h
  unfold World.frozen?
  rw[h1,h2]
 ·have h1:(X.putObj l (.loop r')).heap[a.block]?=X.heap[a.block]?:=World.putObj_heap_other e
  unfold World.frozen?
  rw[h1]
theorem line_any(w:World)(s:ByteArray)(hsz:s.size<=100000)(he:Env w)(hw:18<=w.heap.size):Calls Tryz.prog 107 #[.string s] w fun e W'=>∃ v,e=.returned v/\W'.ownsRow w.heap.size 73 3 v (lexLine s).length (tokCells (lexLine s))/\Below w.heap.size w W':=by
 obtain⟨i0,hi,hz0,hz1,hz2⟩:=info_parts infoTok
 refine callsIn_wide.1 (?_:CallsIn Fence.wide 5 Tryz.prog 107 #[.string s] w _)
 have hfn:Fence.wide.fn 165:=trivial
 refine callsIn_of_wp_marks Tryz.func107 rfl trivial ?_ rfl
 simp only[Tryz.ntmps107,List.size_toArray,List.length_cons,List.length_nil,Nat.reduceAdd,Nat.reduceSub,Array.replicate_succ,Array.replicate_zero,List.push_toArray,List.append_toArray,List.nil_append,List.cons_append]
 gi_wp2_with (gi_at_call 165;refine(callsIn_wide.2 (tokens_any _ _)).mono ?_;rintro e w' ⟨rfl,rfl⟩)
 have bO:Blk ((w.alloc (.cells #[.slice none 0 0] 32)).alloc (.cells #[.string s] 9)) w.heap.size 32 #[.slice none 0 0]:=(Blk.new w _ _).alloc _
 have bP:Blk ((w.alloc (.cells #[.slice none 0 0] 32)).alloc (.cells #[.string s] 9)) (w.heap.size+1) 9 #[.string s]:=by
  have:=Blk.new (w.alloc (.cells #[.slice none 0 0] 32)) 9 #[.string s]
  rwa [World.size_alloc] at this
 have hB0:Below w.heap.size w ((w.alloc (.cells #[.slice none 0 0] 32)).alloc (.cells #[.string s] 9)):=((Below.refl _ w).alloc (Nat.le_refl _) _).alloc (by simp) _
 have hsz0:((w.alloc (.cells #[.slice none 0 0] 32)).alloc (.cells #[.string s] 9)).heap.size=w.heap.size+2:=by simp
 generalize (w.alloc (.cells #[.slice none 0 0] 32)).alloc (.cells #[.string s] 9)=W0 at *
 refine range_iter 5 (by omega) 213 #[.pointer (some ⟨w.heap.size+1,0,none⟩)] (lexLine s).length (tokAt s) rfl (by intro args W;simp[go_sem]) (TokR s (w.heap.size+1) (LineU w s)) (TokA s (w.heap.size+1) (LineU w s) (LineD w)) (fun _ _=>False)
  (tokens1 _ (by omega) s hsz (w.heap.size+1) (by omega) (LineU w s) (fun k X Y h hb=>h.step hb) (fun k X v h=>h.set v) (LineD w) (fun k X b h hd=>lineD_lt h hd) (fun k X Y b h hb hd=>lineD_back h hb hd) W0) ?booksA ?booksR (fun _ _ _ _ _ _ h _=>h) ?start ?round ?done (fun _ _ _ _ h _=>h.elim)
 case booksR=>
  rintro k X l r r' hl ⟨h1,h2,h3,h4⟩ hr
  exact⟨(put_cell hr _).trans h1,(put_frozen' hr _).trans h2,h3.same (put_cell hr),h4.books (by omega) hr⟩
 case booksA=>
  rintro k X Y l r r' hl ⟨h1,h2,h3,h4,h5⟩ hr
  exact⟨(put_cell hr _).trans h1,(put_frozen' hr _).trans h2,h3.same (put_cell hr),h4.books (by omega) hr,fun b o hb hd=>(put_cell hr _).trans (h5 b o hb hd)⟩
 case start=>
  intro Y hg
  have bP':=Blk.kept bP hg (by simp)
  exact⟨bP'.cell 0,bP'.frozen 0,(he.keep hB0).keep (grownBy.below hg),.slice none 0 0,bO.kept hg (by simp),World.ownsRow_nil _ _ _ _,hB0.grown hg (by omega) (fun k e=>by cases e),by have:=hg.size;omega⟩
 case done=>
  rintro D X hD ⟨_,_,_,v,h2,h3,h5,_⟩ hK
  have c1:=h2.cell 0
  gi_wp2
  refine⟨by simp,.inl ⟨_,_,rfl,run_takeDeferred hK,?_⟩⟩
  have hDo:v.ownBlock≠some D:=by
   intro e
   rcases h3.2 with ⟨rfl,_⟩|⟨g,cap,cur,rfl,_,hgc,_⟩
   ·cases e
   ·have:g=D:=by simpa[Value.ownBlock] using e
    subst this;rw[hgc] at hK;cases hK
  refine⟨_,results_tmp rfl _ _ _,v,rfl,?_,h5.trans (belowK_b (w:=w) (Nat.le_refl _) X D _ _ (by omega) hK rfl rfl)⟩
  have e:(lexLine s).take (lexLine s).length=lexLine s:=List.take_length
  rw[e] at h3
  exact own_mono (h3.kept (grownBy_putObj' X D _) (.inr hDo)) (by omega)
 case round=>
  rintro l k X r hk hl hlp ⟨h1,h2,h3,v,h4,h5,h6,h7⟩
  have hsp:=(lineF_spec s.size s (Nat.le_refl _)).2 k hk
  have hlen:=Za8 s.size s
  have hk2:k<100000:=Nat.lt_of_lt_of_le hk (Nat.le_trans hlen hsz)
  have HS:Hid (tokCells ((lexLine s).take (k+1))=tokCells ((lexLine s).take k)++[.int .i64 (lexTok (restS s k)).1,.string (lexTok (restS s k)).2.1,.string (lexTok (restS s k)).2.2]):=hid (by
   rw[List.take_succ_eq_append_getElem hk,tokCells_append]
   rw[show(lexLine s)[k]=lexTok (restS s k) from hsp.2];rfl)
  unfold tokAt
  obtain⟨tk,htk⟩:∃ tk,lexTok (restS s k)=tk:=⟨_,rfl⟩
  rw[htk] at HS ⊢
  clear htk hsp
  obtain⟨k1,k2,k3⟩:=tk
  simp only at HS ⊢
  gi_wp2
  refine⟨KeepsOthers.alloc _ _,fun r'=>?_⟩
  have hlp':=loop_alloc hlp (.cells #[.int .i64 k1,.string k2,.string k3] 73)
  have bX:Blk ((X.alloc (.cells #[.int .i64 k1,.string k2,.string k3] 73)).putObj l (.loop r')) X.heap.size 73 #[.int .i64 k1,.string k2,.string k3]:=Blk.books (Blk.new X _ _) hlp'
  have q0:Below X.heap.size X (X.alloc (.cells #[.int .i64 k1,.string k2,.string k3] 73)):=Zab X _
  have e1:((X.alloc (.cells #[.int .i64 k1,.string k2,.string k3] 73)).putObj l (.loop r')).cell? ⟨w.heap.size+1,0,none⟩=some (.string (restS s k)):=(put_cell hlp' _).trans (Zac h1 q0)
  have e2:((X.alloc (.cells #[.int .i64 k1,.string k2,.string k3] 73)).putObj l (.loop r')).frozen? ⟨w.heap.size+1,0,none⟩=false:=(put_frozen' hlp' _).trans (((bcell q0).2 _ _ (cell_lt h1)).trans h2)
  have e3:Env ((X.alloc (.cells #[.int .i64 k1,.string k2,.string k3] 73)).putObj l (.loop r')):=(h3.keep q0).same (put_cell hlp')
  have e4:∀ b o,b<X.heap.size->((X.alloc (.cells #[.int .i64 k1,.string k2,.string k3] 73)).putObj l (.loop r')).cell? ⟨b,o,none⟩=X.cell? ⟨b,o,none⟩:=fun b o hb=>(put_cell hlp' _).trans ((bcell q0).1 b o hb)
  have f2:=Blk.books (r':=r') (h4.alloc (.cells #[.int .i64 k1,.string k2,.string k3] 73)) hlp'
  have f3:=own_books (r':=r') (h5.alloc (.cells #[.int .i64 k1,.string k2,.string k3] 73)) hlp'
  have f5:=(h6.alloc h6.size (.cells #[.int .i64 k1,.string k2,.string k3] 73)).grown (grownBy_putObj' _ l (.loop r')) (by have:=h6.size;simp;omega) (fun k e=>by cases e;omega)
  have hgx:X.heap.size+1<=((X.alloc (.cells #[.int .i64 k1,.string k2,.string k3] 73)).putObj l (.loop r')).heap.size:=by have:=(grownBy_putObj' (X.alloc (.cells #[.int .i64 k1,.string k2,.string k3] 73)) l (.loop r')).size;rw[World.size_alloc] at this;exact this
  generalize (X.alloc (.cells #[.int .i64 k1,.string k2,.string k3] 73)).putObj l (.loop r')=X2 at *
  have d0:=bX.cell 0
  have d00:=bX.cell 1
  have d01:=bX.cell 2
  have d1:=f2.cell 0
  have hs5:=f5.size
  have hf2:=f2.lt
  have HF:=hid (And.intro f2 (And.intro f3 (And.intro f5 bX)))
  have H4:=hid e4
  clear h1 h2 h3 h5 h6 f2 f5 e4
  gi_wp2_with (gi_at_builtin;refine wpListIn_append_own_at _ rfl _ _ 32 rfl (w.heap.size+2) 73 i0 (.agg #[.int .i64 0,.string ⟨#[]⟩,.string ⟨#[]⟩]) 3 40 Tryz.underlying32 hi hz0 hz1 hz2 rfl (by decide) _ _ _ rfl (f3.alloc _) ⟨X2.heap.size,0,none⟩ 1 1 [.int .i64 k1,.string k2,.string k3] rfl rfl (Zaf _ _ _) (by simp[Value.oneCell']) (by unfold maxLen;omega) (by omega) (by simp;omega) ?_;intro o' w1 hown' hgrow hnil hat;obtain⟨g',cap',rfl,hgb,hgl⟩:=hown'.form (by omega);have q1:Blk w1 w.heap.size 32 #[v]:=(HF.out.1.alloc _).kept hgrow (fun e=>by have:=(f3.lt _ e.symm).1;omega);have q2:=q1.cell 0;have q3:=q1.frozen 0)
  obtain⟨f2,f3',f5,bX⟩:=HF.out
  have gs:=Zaj w1 w.heap.size 0 (.slice (some ⟨g',0,none⟩) (k+1) cap')
  have hob:∀ j,v.ownBlock=some j->w.heap.size+2<=j:=fun j e=>(f3.lt j e).1
  have bY:∀ b,b<X2.heap.size->b≠w.heap.size->v.ownBlock≠some b->(w1.setCell ⟨w.heap.size,0,none⟩ (.slice (some ⟨g',0,none⟩) (k+1) cap')).heap[b]?=X2.heap[b]?:=fun b hb h1 h2=>
   (gs.block b (Nat.lt_of_lt_of_le hb (Nat.le_trans (by simp) hgrow.size)) (by simpa using h1)).trans ((hgrow.block b (by simp;omega) (fun e=>h2 e.symm)).trans (Below.heap_alloc _ _ _ hb))
  have cY:∀ b o,b<X2.heap.size->b≠w.heap.size->v.ownBlock≠some b->(w1.setCell ⟨w.heap.size,0,none⟩ (.slice (some ⟨g',0,none⟩) (k+1) cap')).cell? ⟨b,o,none⟩=X2.cell? ⟨b,o,none⟩:=fun b o hb h1 h2=>by
   unfold World.cell?;rw[bY b hb h1 h2]
  have fY:∀ b o,b<X2.heap.size->b≠w.heap.size->v.ownBlock≠some b->(w1.setCell ⟨w.heap.size,0,none⟩ (.slice (some ⟨g',0,none⟩) (k+1) cap')).frozen? ⟨b,o,none⟩=X2.frozen? ⟨b,o,none⟩:=fun b o hb h1 h2=>by
   unfold World.frozen?;rw[bY b hb h1 h2]
  have hrow:∀ b,b<w.heap.size+2->v.ownBlock≠some b:=fun b hb e=>by have:=hob b e;omega
  refine⟨((KeepsOthers.alloc _ _).trans (keeps_row (f3.alloc _) hgrow)).trans (KeepsOthers.setCell _ _ _),?_,?_,?_,⟨_,q1.set 0 _,?_,?_,?_⟩,?_⟩
  ·exact(cY _ _ (by omega) (by omega) (hrow _ (by omega))).trans e1
  ·exact(fY _ _ (by omega) (by omega) (hrow _ (by omega))).trans e2
  ·obtain⟨⟨a1,a2⟩,m,a3⟩:=e3
   have cg:∀ g o,g<18->_:=fun g o hg=>cY g o (by omega) (by omega) (hrow _ (by omega))
   exact⟨⟨fun c hh=>(cg _ _ (by decide)).trans (a1 c hh),fun i hi=>⟨(cg _ _ (by decide)).trans (a2 i hi).1,(cg _ _ (by decide)).trans (a2 i hi).2⟩⟩,m,(cg _ _ (by decide)).trans a3⟩
  ·rw[HS.out]
   exact hown'.kept gs (.inr (by simp[Value.ownBlock];omega))
  ·exact((f5.alloc hs5 _).grown hgrow (by simp;omega) (fun j e=>by have:=hob j e;omega)).setCell (p:=⟨w.heap.size,0,none⟩) (Nat.le_refl _) _
  ·have:=gs.size
   have:=hgrow.size
   simp at *
   omega
  ·intro b o hb hd
   refine(cY b o (by omega) (fun e=>hd (.inl e)) (fun e=>hd (.inr ⟨v,h4.cell 0,e⟩))).trans (H4.out b o hb)
theorem row_ne{W:World}{N e size n q:Nat}{v:Value}{xs:List Value}{t:TypeId}{cs:Array Value}(h:W.ownsRow N e size v n xs)(hq:Blk W q t cs)(ht:t≠e):some q≠v.ownBlock:=fun he=>by
 rcases h.2 with ⟨rfl,_⟩|⟨g,cap,cur,rfl,_,hg,_⟩
 ·cases he
 ·have:q=g:=by simpa[Value.ownBlock] using he
  subst this
  have:=hq.symm.trans hg;simp at this;exact ht this.2
inductive D where
 |lit (v:Value)
 |row (t:TypeId) (size:Nat) (l:List D)
mutual
/-- a value reads as data -/
def Rd(W:World):D->Value->Prop
 |.lit u,v=>v=u
 |.row t size l,v=>(v=.slice none 0 0/\l.length=0)\/∃ b off n c,v=.slice (some ⟨b,off,none⟩) n c/\l.length=n*size/\(∃ cs,Blk W b t cs)/\n<=c/\RdC W b off l
def RdC(W:World)(b:Nat):Nat->List D->Prop
 |_,[]=>True
 |off,d::l=>(∃ u,W.cell? ⟨b,off,none⟩=some u/\Rd W d u)/\RdC W b (off+1) l
end
def RdV(W:World):List D->List Value->Prop
 |[],[]=>True
 |d::l,v::r=>Rd W d v/\RdV W l r
 |_,_=>False
mutual
/-- no row of this type in it -/
def D.free(s:TypeId):D->Bool
 |.lit _=>true
 |.row t _ l=>!(t==s)&&D.freeL s l
def D.freeL(s:TypeId):List D->Bool
 |[]=>true
 |d::l=>d.free s&&D.freeL s l
end
mutual
theorem Rd.kept{W W':World}{s:TypeId}(hk:∀ b t cs,Blk W b t cs->t≠s->Blk W' b t cs):∀ (d:D) (v:Value),d.free s=true->Rd W d v->Rd W' d v
 |.lit _,_,_,h=>by unfold Rd at h ⊢;exact h
 |.row t size l,v,hf,h=>by
  unfold D.free at hf
  simp only[Bool.and_eq_true,Bool.not_eq_true',beq_eq_false_iff_ne] at hf
  unfold Rd at h ⊢
  rcases h with h|⟨b,off,n,c,h1,h2,⟨cs,h3⟩,h4,h5⟩
  ·exact .inl h
  ·have h6:=hk b t cs h3 hf.1
   exact .inr ⟨b,off,n,c,h1,h2,⟨cs,h6⟩,h4,RdC.kept hk b (fun o=>by rw[h6.cell o,h3.cell o]) l off hf.2 h5⟩
theorem RdC.kept{W W':World}{s:TypeId}(hk:∀ b t cs,Blk W b t cs->t≠s->Blk W' b t cs)(b:Nat)(hc:∀ o,W'.cell? ⟨b,o,none⟩=W.cell? ⟨b,o,none⟩):∀ (l:List D) (off:Nat),D.freeL s l=true->RdC W b off l->RdC W' b off l
 |[],_,_,_=>by unfold RdC;trivial
 |d::l,off,hf,h=>by
  unfold D.freeL at hf
  simp only[Bool.and_eq_true] at hf
  unfold RdC at h ⊢
  obtain⟨⟨u,h1,h2⟩,h3⟩:=h
  exact⟨⟨u,(hc off).trans h1,Rd.kept hk d u hf.1 h2⟩,RdC.kept hk b hc l (off+1) hf.2 h3⟩
end
mutual
theorem Rd.keep{W W':World}(hb:Below W.heap.size W W'):∀ (d:D) (v:Value),Rd W d v->Rd W' d v
 |.lit _,_,h=>by unfold Rd at h ⊢;exact h
 |.row t size l,v,h=>by
  unfold Rd at h ⊢
  rcases h with h|⟨b,off,n,c,h1,h2,⟨cs,h3⟩,h4,h5⟩
  ·exact .inl h
  ·exact .inr ⟨b,off,n,c,h1,h2,⟨cs,Blk.below h3 hb h3.lt⟩,h4,RdC.keep hb b h3.lt l off h5⟩
theorem RdC.keep{W W':World}(hb:Below W.heap.size W W')(b:Nat)(hlt:b<W.heap.size):∀ (l:List D) (off:Nat),RdC W b off l->RdC W' b off l
 |[],_,_=>by unfold RdC;trivial
 |d::l,off,h=>by
  unfold RdC at h ⊢
  obtain⟨⟨u,h1,h2⟩,h3⟩:=h
  exact⟨⟨u,((bcell hb).1 b off hlt).trans h1,Rd.keep hb d u h2⟩,RdC.keep hb b hlt l (off+1) h3⟩
end
theorem RdV.kept{W W':World}{s:TypeId}(hk:∀ b t cs,Blk W b t cs->t≠s->Blk W' b t cs):∀ (l:List D) (r:List Value),D.freeL s l=true->RdV W l r->RdV W' l r
 |[],[],_,_=>trivial
 |[],_::_,_,h=>h.elim
 |_::_,[],_,h=>h.elim
 |d::l,v::r,hf,h=>by
  unfold D.freeL at hf
  simp only[Bool.and_eq_true] at hf
  exact⟨Rd.kept hk d v hf.1 h.1,RdV.kept hk l r hf.2 h.2⟩
theorem freeL_append(s:TypeId):∀ a b:List D,D.freeL s (a++b)=(D.freeL s a&&D.freeL s b)
 |[],_=>by simp[D.freeL]
 |d::a,b=>by simp[D.freeL,freeL_append s a b,Bool.and_assoc]
theorem freeL_lit(s:TypeId):∀ xs:List Value,D.freeL s (xs.map .lit)=true
 |[]=>by simp[D.freeL]
 |x::xs=>by simp[D.freeL,D.free,freeL_lit s xs]
theorem Zaz{W W':World}{base s size n:Nat}{v:Value}{xs:List Value}(h:W.ownsRow base s size v n xs)(hg:W.grownBy W' v.ownBlock):∀ b t cs,Blk W b t cs->t≠s->Blk W' b t cs:=fun _ _ _ hb ht=>
 Blk.kept hb hg (row_ne h hb ht)
theorem RdV.keep{W W':World}(hb:Below W.heap.size W W'):∀ (l:List D) (r:List Value),RdV W l r->RdV W' l r
 |[],[],_=>trivial
 |[],_::_,h=>h.elim
 |_::_,[],h=>h.elim
 |d::l,v::r,h=>⟨Rd.keep hb d v h.1,RdV.keep hb l r h.2⟩
theorem RdV.length{W:World}:∀ {l:List D} {r:List Value},RdV W l r->r.length=l.length
 |[],[],_=>rfl
 |[],_::_,h=>h.elim
 |_::_,[],h=>h.elim
 |_::_,_::_,h=>by simp[RdV.length h.2]
theorem RdV.append{W:World}:∀ {l m:List D} {r q:List Value},RdV W l r->RdV W m q->RdV W (l++m) (r++q)
 |[],_,[],_,_,k=>k
 |[],_,_::_,_,h,_=>h.elim
 |_::_,_,[],_,h,_=>h.elim
 |_::_,_,_::_,_,h,k=>⟨h.1,RdV.append h.2 k⟩
theorem RdV.get{W:World}:∀ {l:List D} {r:List Value},RdV W l r->∀ j (h:j<l.length),∃ v,r[j]?=some v/\Rd W l[j] v
 |[],[],_,j,h=>by simp at h
 |[],_::_,h,_,_=>h.elim
 |_::_,[],h,_,_=>h.elim
 |_::_,v::_,h,0,_=>⟨v,rfl,h.1⟩
 |_::_,_::_,h,j+1,hj=>by simpa using RdV.get h.2 j (by simpa using hj)
theorem RdC.get{W:World}{b:Nat}:∀ {l:List D} {off:Nat},RdC W b off l->∀ j (h:j<l.length),∃ u,W.cell? ⟨b,off+j,none⟩=some u/\Rd W l[j] u
 |[],_,_,j,h=>by simp at h
 |d::l,off,h,0,_=>by unfold RdC at h;exact h.1
 |d::l,off,h,j+1,hj=>by
  unfold RdC at h
  obtain⟨u,h1,h2⟩:=RdC.get h.2 j (by simpa using hj)
  exact⟨u,by rw[show off+(j+1)=off+1+j by omega];exact h1,by simpa using h2⟩
theorem RdC.mk{W:World}{b:Nat}:∀ {l:List D} {off:Nat},(∀ j (h:j<l.length),∃ u,W.cell? ⟨b,off+j,none⟩=some u/\Rd W l[j] u)->RdC W b off l
 |[],_,_=>by unfold RdC;trivial
 |d::l,off,h=>by
  unfold RdC
  refine⟨by have:=h 0 (by simp);rw[Nat.add_zero] at this;exact this,RdC.mk fun j hj=>?_⟩
  have:=h (j+1) (by simpa using hj)
  rw[show off+(j+1)=off+1+j by omega] at this
  simpa using this
theorem rd_own{W:World}{N e size n:Nat}{v:Value}{xs:List Value}{l:List D}(h:W.ownsRow N e size v n xs)(hv:RdV W l xs):Rd W (.row e size l) v:=by
 have hl:=hv.length
 have hx:=h.1
 unfold Rd
 rcases Nat.eq_zero_or_pos n with rfl|hn
 ·rcases h.2 with ⟨rfl,_⟩|⟨g,cap,cur,rfl,_,hg,hnc,_⟩
  ·exact .inl ⟨rfl,by omega⟩
  ·have h0:l=[]:=List.eq_nil_of_length_eq_zero (by omega)
   subst h0
   exact .inr ⟨g,0,0,cap,rfl,by simp,⟨cur,hg⟩,hnc,by unfold RdC;trivial⟩
 ·obtain⟨g,cap,rfl,hg,hlt⟩:=h.form hn
  have hnc:n<=cap/\∃ cs,Blk W g e cs:=by
   rcases h.2 with ⟨e,_⟩|⟨g',cap',cur,e,_,hgg,hnc,_⟩
   ·cases e
   ·cases e;exact⟨hnc,cur,hgg⟩
  refine .inr ⟨g,0,n,cap,rfl,by omega,hnc.2,hnc.1,RdC.mk fun j hj=>?_⟩
  obtain⟨u,h1,h2⟩:=hv.get j hj
  exact⟨u,by rw[Nat.zero_add];exact(h.cellAt j (by omega)).trans h1,h2⟩
def tokD(l:List Tok):D:=.row 73 3 ((tokCells l).map .lit)
theorem rdv_lit(W:World):∀ xs:List Value,RdV W (xs.map .lit) xs
 |[]=>trivial
 |x::xs=>⟨by unfold Rd;rfl,rdv_lit W xs⟩
theorem rd_toks{W:World}{N n:Nat}{v:Value}{l:List Tok}(h:W.ownsRow N 73 3 v n (tokCells l)):Rd W (tokD l) v:=rd_own h (rdv_lit W _)
theorem Zae{W:World}{N e size n:Nat}{v:Value}{xs:List Value}(h:W.ownsRow N e size v n xs):∃ A c,v=.slice A n c/\n<=c:=by
 rcases h.2 with ⟨rfl,h0⟩|⟨g,cap,cur,rfl,_,_,hnc,_⟩
 ·exact⟨none,0,by rw[h0],by omega⟩
 ·exact⟨_,_,rfl,hnc⟩
def lineD(t:ByteArray):List D:=[.lit (.string t),tokD (lexLine t)]
def linesD(l:List ByteArray):List D:=l.flatMap lineD
theorem linesD_append(a b:List ByteArray):linesD (a++b)=linesD a++linesD b:=by simp[linesD]
theorem Zao(s:TypeId)(l:List Tok)(h:73≠s):(tokD l).free s=true:=by
 unfold tokD D.free
 simp[freeL_lit,h]
theorem linesD_free(s:TypeId)(h:73≠s):∀ l,D.freeL s (linesD l)=true
 |[]=>by unfold linesD;simp[D.freeL]
 |t::r=>by
  have ih:=linesD_free s h r
  unfold linesD at ih ⊢
  rw[List.flatMap_cons,freeL_append,ih]
  simp[lineD,D.freeL,D.free,Zao s _ h]
theorem Zas{X:World}{b j:Nat}{s:TypeId}{cs:Array Value}(h:Blk X b s cs)(u:Value):∀ q t ds,Blk X q t ds->t≠s->Blk (X.setCell ⟨b,j,none⟩ u) q t ds:=fun q t ds hq ht=>
 hq.other (fun e=>by subst e;have:=hq.symm.trans h;simp at this;exact ht this.2) u
theorem infoLine:(Tryz.prog.info? 210).map (fun i=>(i.zero,i.size,i.bytes))=some (some (.agg #[.string ⟨#[]⟩,.slice none 0 0]),2,40):=by kernel_rfl
def OwnL(W:World)(N:Nat)(v:Value)(l:List ByteArray):Prop:=∃ xs,W.ownsRow N 210 2 v l.length xs/\RdV W (linesD l) xs
theorem add64_any(w:World)(g j:Nat)(n m:Int)(h:w.cell? ⟨g,j,none⟩=some (.int .i64 n))(hf:w.frozen? ⟨g,j,none⟩=false):Calls Tryz.prog 108 #[.pointer (some ⟨g,j,none⟩),.int .i64 m] w fun e w'=>(∃ r,e=.returned (.int .i64 r))/\∃ u,w'=w.setCell ⟨g,j,none⟩ u:=by
 obtain⟨r,hr⟩:∃ r,(Op.intArith .add .i64 n m).run Tryz.prog w=.ok (.int .i64 r) w:=⟨_,by simp[go_sem];rfl⟩
 have hadd:=run_call_add (P:=Tryz.prog) Tryz.func166 (by kernel_rfl) (by kernel_rfl) (by kernel_rfl) .i64 (by kernel_rfl) (x:=n) (y:=m) (s:=r) h hf hr
 clear hr
 go_enter Tryz.func108,Tryz.ntmps108
 go_wp2
 go_ret
 exact⟨⟨r,rfl⟩,_,rfl⟩
theorem lex_any(w:World)(b g c:Nat)(l:List ByteArray)(hl:l.length<=100000)(hls:∀ t∈l,t.size<=100000)(hg:∀ j (h:j<l.length),w.cell? ⟨g,j,none⟩=some (.string l[j]))(hgl:g<w.heap.size)(hb:Blk w b 139 #[.slice none 0 0,.int .i64 0])(he:Env w)(hw:18<=w.heap.size) :
  Calls Tryz.prog 55 #[.pointer (some ⟨b,0,none⟩),.slice (some ⟨g,0,none⟩) l.length c] w fun e W'=>∃ v,e=.returned v/\OwnL W' w.heap.size v l/\(∃ u,Blk W' b 139 #[.slice none 0 0,u])/\w.grownBy W' (some b):=by
 obtain⟨i0,hi,hz0,hz1,hz2⟩:=info_parts infoLine
 have HG:=hid hg
 have HB:=hid hb
 obtain⟨m,hm⟩:∃ m,l.length=m:=⟨_,rfl⟩
 rw[hm] at hl ⊢
 have HM:=hid hm
 clear hg hb hm
 go_enter Tryz.func55,Tryz.ntmps55
 go_wp2
 go_loopw [5,10] (fun v i wr=>∃ k:Nat,k<=m/\i=.int .i64 k/\OwnL wr w.heap.size v (l.take k)/\Below w.heap.size w wr) (fun _ i _=>m - (intOf i).toNat)
 case atStart=>exact⟨0,Nat.zero_le _,rfl,⟨[],World.ownsRow_nil _ _ _ _,trivial⟩,Below.refl _ _⟩
 case round=>
  obtain⟨k,hk,rfl,⟨xs,h1,h2⟩,h3⟩:=hrel
  by_cases hlt:k<m
  ·have hkl:k<l.length:=by rw[HM.out];exact hlt
   have c0:=Zac (HG.out k hkl) h3
   have hsz:=hls _ (List.getElem_mem hkl)
   have KL:=hid (fun(W:World) (h:Env W) (h2:18<=W.heap.size)=>line_any W l[k] hsz h h2)
   have HS:Hid (linesD (l.take (k+1))=linesD (l.take k)++lineD l[k]):=hid (by rw[List.take_succ_eq_append_getElem hkl,linesD_append];simp[linesD])
   have HT:Hid ((l.take (k+1)).length=k+1):=hid (by rw[List.length_take];omega)
   have hk0:(l.take k).length=k:=by rw[List.length_take];omega
   rw[hk0] at h1
   have HF:Hid (D.freeL 210 (linesD (l.take k))=true):=hid (linesD_free _ (by decide) _)
   have hws:=h3.size
   obtain⟨t,ht⟩:∃ t,l[k]=t:=⟨_,rfl⟩
   rw[ht] at c0 hsz KL HS
   clear ht
   obtain⟨nt,hnt⟩:∃ nt,(lexLine t).length=nt:=⟨_,rfl⟩
   rw[hnt] at KL
   clear hnt
   go_wp2_with (first|(go_at_call 107;refine(KL.out _ (he.keep h3) (by omega)).mono ?_;rintro e w1 ⟨v1,rfl,o1,b1⟩;obtain⟨A1,c1,rfl,hn1⟩:=Zae o1;have hR:=hid (rd_toks o1);have hB1:=hid b1;have h1':=Zam h1 b1;have hz1':=b1.size;clear b1 o1)|(at_builtin;refine wpList_append_own _ rfl _ _ 135 rfl w.heap.size 210 i0 (.agg #[.string ⟨#[]⟩,.slice none 0 0]) 2 40 Tryz.underlying135 hi hz0 hz1 hz2 rfl (by decide) _ _ _ rfl (h1'.alloc _) ⟨w1.heap.size,0,none⟩ 1 1 [.string t,.slice A1 nt c1] rfl rfl (Zaf _ _ _) (by simp[Value.oneCell']) (by unfold maxLen;omega) (by omega) (by simp;omega) ?_;intro v' w2 hown' hgrow _))
   have hB2:=below_two hB1.out (Zab w1 (.cells #[.string t,.slice A1 nt c1] 210))
   have r1:=RdV.keep hB2 _ _ h2
   have r2:=Rd.keep (Zab w1 (.cells #[.string t,.slice A1 nt c1] 210)) _ _ hR.out
   have hkr:=Zaz (h1'.alloc (.cells #[.string t,.slice A1 nt c1] 210)) hgrow
   have hb1:=(Zaa h3 (Nat.le_refl _) hB2).grown hgrow (Nat.le_trans hws hB2.size) (fun k hk=>(h1.lt k hk).1)
   go_roundw
   case rel=>
    refine⟨k+1,by omega,by go_num,⟨_,by rw[HT.out];exact hown',?_⟩,hb1⟩
    rw[HS.out]
    exact RdV.append (RdV.kept hkr _ _ HF.out r1) ⟨by unfold Rd;rfl,Rd.kept hkr _ _ (Zao _ _ (by decide)) r2,trivial⟩
   case measure=>simp[intOf];omega
  ·obtain rfl:k=m:=by omega
   have htk:l.take k=l:=by rw[<-HM.out,List.take_length]
   rw[htk] at h1 h2
   have bW:=Blk.below HB.out h3 HB.out.lt
   have c1:=bW.cell 1
   have f1:=bW.frozen 1
   have KA:=hid (add64_any wr b 1 0 k c1 f1)
   obtain⟨A0,c0,rfl,hn0⟩:=Zae h1
   have H1:=hid h1
   have H2:=hid h2
   have hO:A0.map (·.block)≠some b:=fun e=>by
    cases A0 with
    |none=>cases e
    |some a=>
     rcases h1.2 with ⟨e1,_⟩|⟨gg,cap,cur,e1,_,hgg,_⟩
     ·cases e1
     ·have e2:a=⟨gg,0,none⟩:=by injection e1 with e1;injection e1
      subst e2
      have:gg=b:=by simpa using e
      subst this
      have:=bW.symm.trans hgg;simp at this
   clear h1 h2 htk
   go_wp2_with (go_at_call 108;refine KA.out.mono ?_;rintro e w1 ⟨⟨r,rfl⟩,u,rfl⟩)
   go_ret
   have gs:=Zaj wr b 1 u
   refine⟨_,rfl,⟨xs,H1.out.kept gs (.inr ?_),RdV.kept (Zas bW u) _ _ (linesD_free _ (by decide) _) H2.out⟩,⟨u,bW.set 1 u⟩,grownBy.trans (Go.Dia.Below.grow h3 _) gs⟩
   intro e
   apply hO
   cases A0 with
   |none=>cases e
   |some a=>simpa[Value.ownBlock] using e
def nlB:ByteArray:=⟨#[10]⟩
def linesOf(s:ByteArray):List ByteArray:=Lib.splitB nlB 0 (Lib.countB s nlB) s
theorem linesOf_length(s:ByteArray):(linesOf s).length=Lib.countB s nlB+1:=Lib.splitB_all nlB (by decide) 0 _ s rfl
theorem split_size(sep:ByteArray):∀ (k:Nat) (s:ByteArray),∀ t∈Lib.splitB sep 0 k s,t.size<=s.size
 |0,s,t,h=>by rw[Lib.splitB_zero] at h;simp at h;rw[h];exact Nat.le_refl _
 |k+1,s,t,h=>by
  unfold Lib.splitB at h
  split at h
  ·simp at h;rw[h];exact Nat.le_refl _
  ·rcases List.mem_cons.1 h with rfl|h
   ·rw[ByteArray.size_extract];omega
   ·have:=split_size sep k _ t h
    rw[ByteArray.size_extract] at this;omega
theorem lex_at(w:World)(b g c n:Nat)(l:List ByteArray)(hn:l.length=n)(hl:l.length<=100000)(hls:∀ t∈l,t.size<=100000)(hg:∀ j (h:j<l.length),w.cell? ⟨g,j,none⟩=some (.string l[j]))(hgl:g<w.heap.size)(hb:Blk w b 139 #[.slice none 0 0,.int .i64 0])(he:Env w)(hw:18<=w.heap.size) :
  Calls Tryz.prog 55 #[.pointer (some ⟨b,0,none⟩),.slice (some ⟨g,0,none⟩) n c] w fun e W'=>∃ v,e=.returned v/\OwnL W' w.heap.size v l/\(∃ u,Blk W' b 139 #[.slice none 0 0,u])/\w.grownBy W' (some b):=by
 subst hn;exact lex_any w b g c l hl hls hg hgl hb he hw
theorem relexNew_any(w:World)(s:ByteArray)(hs:s.size<=4000)(he:Env w)(hw:18<=w.heap.size):Calls Tryz.prog 23 #[.string s] w fun e W'=>∃ v,e=.returned (.tuple #[.pointer (some ⟨w.heap.size,0,none⟩),.int .i64 0])/\(∃ u,Blk W' w.heap.size 139 #[v,u])/\OwnL W' (w.heap.size+1) v (linesOf s)/\Below w.heap.size w W':=by
 have j0:¬ (4000:Int)<(s.size:Int):=by omega
 have hcl:=Lib.countB_le nlB (by decide) s.size s (Nat.le_refl _)
 have KS:=hid (fun(W:World) (m:Int) hm=>Tryz.strings_Split s nlB m W (by omega) hm (by decide))
 have hls:(Lib.splitB nlB 0 (Lib.countB s nlB) s)=linesOf s:=rfl
 have hln:=linesOf_length s
 have hsz:∀ t∈linesOf s,t.size<=100000:=fun t ht=>Nat.le_trans (split_size _ _ _ t ht) (by omega)
 rw[hls] at KS
 obtain⟨n,hn⟩:∃ n,Lib.countB s nlB+1=n:=⟨_,rfl⟩
 rw[hn] at KS hln
 obtain⟨L,hL⟩:∃ L,linesOf s=L:=⟨_,rfl⟩
 rw[hL] at KS hln hsz ⊢
 have hn2:n<=100000:=by omega
 have HLN:=hid hln
 have KL:=hid (fun(W:World) (b g c:Nat) h1 h2 h3 h4 h5=>lex_at W b g c n L hln (by omega) hsz h1 h2 h3 h4 h5)
 clear hn hL hls hcl hln
 unfold nlB at KS
 have he0:=he.keep (Zab w (.cells #[.slice none 0 0,.int .i64 0] 139))
 obtain⟨_,m,hm⟩:=he0
 have hm':(w.alloc (.cells #[.slice none 0 0,.int .i64 0] 139)).drew.cell? ⟨8,0,none⟩=some (.int .i64 m):=hm
 have q0:Below w.heap.size w (w.alloc (.cells #[.slice none 0 0,.int .i64 0] 139)).drew:=(Zab w (.cells #[.slice none 0 0,.int .i64 0] 139)).drew
 have q1:Below w.heap.size w ((w.alloc (.cells #[.slice none 0 0,.int .i64 0] 139)).drew.alloc (.cells (L.map Value.string).toArray 9)):=q0.alloc q0.size _
 have hY3:Blk ((w.alloc (.cells #[.slice none 0 0,.int .i64 0] 139)).drew.alloc (.cells (L.map Value.string).toArray 9)) w.heap.size 139 #[.slice none 0 0,.int .i64 0]:=Blk.alloc (Blk.new w _ _) _
 have hYn:=Blk.new (w.alloc (.cells #[.slice none 0 0,.int .i64 0] 139)).drew 9 (L.map Value.string).toArray
 have hsz1:(w.alloc (.cells #[.slice none 0 0,.int .i64 0] 139)).drew.heap.size=w.heap.size+1:=by show(w.alloc _).heap.size=_;simp
 rw[hsz1] at hYn
 have HY:=hid (And.intro q1 (And.intro hY3 hYn))
 have HE:=hid he
 clear hm q1 hY3 hYn he q0
 go_enter Tryz.func23,Tryz.ntmps23
 go_wp2
 go_region_with (first|(go_at_call 56;(with_reducible refine(KS.out _ _ hm').mono ?_);rintro e w1 ⟨rfl,rfl⟩)|(go_at_call 55;refine(KL.out _ w.heap.size (w.heap.size+1) n (fun j h=>(HY.out.2.2.cell j).trans (by simp[h])) HY.out.2.2.lt HY.out.2.1 (HE.out.keep HY.out.1) (Nat.le_trans hw HY.out.1.size)).mono ?_;rintro e w2 ⟨v,rfl,⟨xs,hO1,hO2⟩,⟨u,hB⟩,hg2⟩;obtain⟨A0,c0,rfl,hn0⟩:=Zae hO1;have b0:=hB.cell 0;have bf:=hB.frozen 0;have HB2:=hid hB;have HO1:=hid hO1;have HO2:=hid hO2;have HG2:=hid hg2;clear hB hO1 hO2 hg2))
 go_wp2
 go_ret2
 have hB:=HB2.out
 have hO1:=HO1.out
 have gs:=Zaj w2 w.heap.size 0 (.slice A0 L.length c0)
 have hys:w.heap.size+2<=(((w.alloc (.cells #[.slice none 0 0,.int .i64 0] 139)).drew.alloc (.cells (L.map Value.string).toArray 9))).heap.size:=by simp[World.size_alloc]
 have hne:(Value.slice A0 L.length c0).ownBlock≠some w.heap.size:=fun e=>by have:=(hO1.lt _ e).1;omega
 refine⟨_,rfl,⟨u,hB.set 0 _⟩,⟨xs,own_mono (hO1.kept gs (.inr hne)) (by omega),RdV.kept (Zas hB _) _ _ (linesD_free _ (by decide) _) HO2.out⟩,?_⟩
 exact(HY.out.1.trans (grown_below HG2.out (by omega))).setCell (p:=⟨w.heap.size,0,none⟩) (Nat.le_refl _) _
end Go.Proofs.YtmladikgbmcmcaaGreatDoor
