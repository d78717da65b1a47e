/- a part of the proof of TopLines. -/
import Derived.Test.YtmladikgbmcmcaaGreatDoorK05
import Derived.OrdersIn
import Derived.RangeFuncNested
set_option linter.all false
namespace Go.Abs
open Go
noncomputable section
variable {P:Program}
theorem setRegsK_true:∀ {ps:List Nat} {vs:List AV} {a:Fr} {k:Fr->Bool},setRegsK a ps vs k=true->ps.length=vs.length/\∃ a',k a'=true/\a'.n=a.n /\
  ∀ (β:Pl) (tmps:Array Value) (xs:List Value),FR β a tmps->VRs β vs xs->FR β a' ((ps.zip xs).foldl (fun tmps (t,x)=>tmps.setIfInBounds t x) tmps)
 |[],[],a,k,e=>⟨rfl,a,e,rfl,fun β tmps xs hf hx=>by rw[VRs.nil] at hx;subst hx;exact hf⟩
 |[],_::_,a,k,e=>by cases e
 |_::_,[],a,k,e=>by cases e
 |p::ps,v::vs,a,k,e=>by
  obtain⟨hp,e⟩:=Fr.set_true (show a.set p v _=true from e)
  obtain⟨h1,a',h2,h3,h4⟩:=setRegsK_true e
  refine⟨by simp[h1],a',h2,h3,fun β tmps xs hf hx=>?_⟩
  obtain⟨x,ws,rfl,hx1,hx2⟩:=VRs.cons.1 hx
  exact h4 β _ ws (hf.put hp hx1) hx2
theorem BR.loop{β:Pl}{n:Nat}{regs:Regs}{ps:List Nat}{as body:Code}{st:LS}{o:Option Obj}{κ:Nat}:BR β (.loop n regs ps as body st) o κ->∃ lp:Loop,o=some (.loop lp)/\lp.tmps.size=n/\n<=512 /\
  (∀ t v,t<n->get3 regs (RP.of t)=some v->VR β v (lp.tmps.getD t undef))/\lp.params.toList=ps/\lp.assign=as/\lp.body=body /\
   (match st with
    |.ready=>lp.state=.ready/\lp.pending=none
    |.busy=>lp.state=.busy/\lp.pending=none
    |.done e=>lp.state=.done/\lp.pending=(match e with|.ret=>some .ret|.exit i=>some (.exit i)|.goto l=>some (.goto l)|.normal=>none)):=fun h=>h
theorem Sim.loop{β:Pl}{h:H}{W:World}(hs:Sim β h W){x:A}{n:Nat}{regs:Regs}{ps:List Nat}{as body:Code}{st:LS}{r κ:Nat}{lp:Loop}(hβ:β x=some (r,κ))(hg:h.get x=some (.loop n regs ps as body st))
  (hl:W.heap[r]?=some (.loop lp)) {b':Blk} {lp':Loop} (hd:lp'.defers=lp.defers) (hb:BR β b' (some (.loop lp')) κ) (m:A) :
  Sim β (h.put x b') (W.putObj r (.loop lp'))/\Step m β W β (W.putObj r (.loop lp')):=by
 have hlt:=lt_of_some hl
 refine hs.set hβ hg rfl World.putObj_size (fun r' hr=>World.putObj_heap_other hr) (by rw[World.putObj_heap_same hlt];exact hb) (fun q hq=>?_) ⟨rfl,rfl,rfl⟩ m
 rw[hl] at hq;cases hq
 exact⟨lp',World.putObj_heap_same hlt,hd⟩
theorem loop_live{β:Pl}{h:H}{W:World}(hs:Sim β h W){x:A}{n:Nat}{regs:Regs}{ps:List Nat}{as body:Code}{st:LS}{r κ:Nat}(hβ:β x=some (r,κ))(hg:h.get x=some (.loop n regs ps as body st)) :
  BR β (.loop n regs ps as body st) W.heap[r]? κ:=by
 obtain⟨r',κ',hβ',hbr⟩:=hs.live x _ hg
 rw[hβ] at hβ';cases hβ'
 exact hbr
theorem beginK_true{h:H}{x:A}{k:H->Bool}(e:beginK h x k=true):∃ h',k h'=true/\h'.next=h.next/\∀ (β:Pl) (W:World) (r κ:Nat),Sim β h W->β x=some (r,κ) ->
  ∃ W',(Instr.beginRound r).run P W=.ok () W'/\Sim β h' W'/\Step h.next β W β W':=by
 obtain⟨bl,hg,e⟩:=Zat (show getK h x _=true from e)
 split at e
 ·rename_i n a ps as body
  rw[setK_eq] at e
  refine⟨_,e,rfl,fun β W r κ hs hβ=>?_⟩
  obtain⟨lp,h1,h2,h3,h4,h5,h6,h7,h8,h9⟩:=(loop_live hs hβ hg).loop
  obtain⟨s1,s2⟩:=hs.loop (lp':={ lp with state:=.busy }) hβ hg h1 rfl (b':=.loop n a ps as body .busy) ⟨_,rfl,h2,h3,h4,h5,h6,h7,rfl,h9⟩ h.next
  exact⟨_,run_beginRound h1 h8,s1,s2⟩
 ·cases e
def Ex.jump:Ex->Option Code|.normal=>none|.ret=>some .ret|.exit i=>some (.exit i)|.goto l=>some (.goto l)
theorem endK_true{h:H}{x:A}{e:Ex}{k:AV->H->Bool}(q:endK h x e k=true):∃ v h',k v h'=true/\h'.next=h.next/\∀ (β:Pl) (W:World) (r κ:Nat),Sim β h W->β x=some (r,κ) ->
  ∃ y W',(Instr.endRound r e.jump).run P W=.ok y W'/\VR β v y/\Sim β h' W'/\Step h.next β W β W':=by
 obtain⟨bl,hg,q⟩:=Zat (show getK h x _=true from q)
 split at q
 ·rename_i n a ps as body st
  cases e with
  |normal=>
   dsimp only at q
   rw[setK_eq] at q
   refine⟨_,_,q,rfl,fun β W r κ hs hβ=>?_⟩
   obtain⟨lp,h1,h2,h3,h4,h5,h6,h7,h8⟩:=(loop_live hs hβ hg).loop
   obtain⟨s1,s2⟩:=hs.loop (lp':={ lp with state:=.ready,pending:=none }) hβ hg h1 rfl (b':=.loop n a ps as body .ready) ⟨_,rfl,h2,h3,h4,h5,h6,h7,rfl,rfl⟩ h.next
   exact⟨_,_,run_endRound none h1,by simp[VR],s1,s2⟩
  |ret=>
   dsimp only at q
   rw[setK_eq] at q
   refine⟨_,_,q,rfl,fun β W r κ hs hβ=>?_⟩
   obtain⟨lp,h1,h2,h3,h4,h5,h6,h7,h8⟩:=(loop_live hs hβ hg).loop
   obtain⟨s1,s2⟩:=hs.loop (lp':={ lp with state:=.done,pending:=some .ret }) hβ hg h1 rfl (b':=.loop n a ps as body (.done .ret)) ⟨_,rfl,h2,h3,h4,h5,h6,h7,rfl,rfl⟩ h.next
   exact⟨_,_,run_endRound (some .ret) h1,by simp[VR],s1,s2⟩
  |exit i=>
   dsimp only at q
   rw[setK_eq] at q
   refine⟨_,_,q,rfl,fun β W r κ hs hβ=>?_⟩
   obtain⟨lp,h1,h2,h3,h4,h5,h6,h7,h8⟩:=(loop_live hs hβ hg).loop
   obtain⟨s1,s2⟩:=hs.loop (lp':={ lp with state:=.done,pending:=some (.exit i) }) hβ hg h1 rfl (b':=.loop n a ps as body (.done (.exit i))) ⟨_,rfl,h2,h3,h4,h5,h6,h7,rfl,rfl⟩ h.next
   exact⟨_,_,run_endRound (some (.exit i)) h1,by simp[VR],s1,s2⟩
  |goto l=>
   dsimp only at q
   rw[setK_eq] at q
   refine⟨_,_,q,rfl,fun β W r κ hs hβ=>?_⟩
   obtain⟨lp,h1,h2,h3,h4,h5,h6,h7,h8⟩:=(loop_live hs hβ hg).loop
   obtain⟨s1,s2⟩:=hs.loop (lp':={ lp with state:=.done,pending:=some (.goto l) }) hβ hg h1 rfl (b':=.loop n a ps as body (.done (.goto l))) ⟨_,rfl,h2,h3,h4,h5,h6,h7,rfl,rfl⟩ h.next
   exact⟨_,_,run_endRound (some (.goto l)) h1,by simp[VR],s1,s2⟩
 ·cases q
theorem roundK_ok{ex:Doer}(hex:DoerOK P ex){x:A}{l:List AV}{h:H}{k:AV->H->Bool}(e:roundK ex x l h k=true){β:Pl}{W:World}{args:List Value}{r κ:Nat}(hβ:β x=some (r,κ))(hs:Sim β h W)(hv:VRs β l args)(hg:Gl β)(ro:Option Nat) :
  ∃ f tmps as body,(Instr.yield r args.toArray).run P W=.ok (.round r f tmps as body) W/\RoundIn (FW ro) 0 P r f tmps as body W fun e w'=>∃ y,e=.returned y/\Gave k h β W y w':=by
 obtain⟨bl,hgx,e⟩:=Zat (show getK h x _=true from e)
 split at e
 ·rename_i n a ps as body
  obtain⟨hlen,a',e,hn,hfr⟩:=setRegsK_true e
  obtain⟨lp,h1,h2,h3,h4,h5,h6,h7,h8,h9⟩:=(loop_live hs hβ hgx).loop
  subst h6;subst h7
  have hsz:args.toArray.size=lp.params.size:=by
   have:=hv.length;rw[<-hlen,<-h5] at this;simpa using this
  refine⟨_,_,_,_,run_yield h1 hsz,?_⟩
  have hf0:FR β ⟨n,a⟩ lp.tmps:=⟨h2,h3,fun t v ht hv=>h4 t v ht hv,hg⟩
  have hf1:=hfr β lp.tmps args hf0 hv
  have hz:(lp.params.zip args.toArray).foldl (fun tmps (t,a)=>tmps.setIfInBounds t a) lp.tmps=(ps.zip args).foldl (fun tmps (t,x)=>tmps.setIfInBounds t x) lp.tmps:=by
   rw[<-Array.foldl_toList,Array.toList_zip,h5]
  rw[hz]
  have hst:St 0 β h W a' { tmps:=(ps.zip args).foldl (fun tmps (t,x)=>tmps.setIfInBounds t x) lp.tmps,defers:=[] }:=⟨hs,hf1,DR.nil _ _ _,Nat.zero_le _⟩
  refine roundIn_of_wpIn (F:=FW ro) trivial ((Zar (ro:=some r)).1 ((hex.code e (ro:=some r) (fun q hq=>by cases hq;exact⟨lp,h1⟩) hst).mono ?_))
  rintro _ act1 W1 ⟨e2,a1,h1',β1,rfl,q2,q3,q4,q5⟩
  cases e2 with
  |ret=>cases q2
  |exit i=>cases q2
  |goto t=>cases q2
  |normal=>
   obtain⟨hb,eb,hbn,hbr⟩:=beginK_true (P:=P) (show beginK h1' x _=true from q2)
   obtain⟨W2,r1,r2,r3⟩:=hbr β1 W1 r κ q4.sim (q5.ext _ _ hβ)
   refine⟨W2,r1,(Zar (ro:=some r)).1 ((hex.code eb (ro:=some r) (β:=β1) (W:=W2) (s0:=0) (act:=act1) ?_ ⟨r2,q4.fr,q4.ds.step r3,Nat.zero_le _⟩).mono ?_)⟩
   ·intro q hq;cases hq
    obtain⟨lp1,l1,_⟩:=q5.loops r lp h1
    obtain⟨lp2,l2,_⟩:=r3.loops r lp1 l1
    exact⟨lp2,l2⟩
   ·rintro _ act3 W3 ⟨e3,a3,h3',β3,rfl,p2,p3,p4,p5⟩
    obtain⟨v,h4',k1,k2,k3⟩:=endK_true (P:=P) p2
    obtain⟨y,W4,y1,y2,y3,y4⟩:=k3 β3 W3 r κ p4.sim (p5.ext _ _ (q5.ext _ _ hβ))
    have hle:h1'.next.toNat<=h3'.next.toNat:=by rw[hbn] at p3;exact p3
    have st1:Step h1'.next β1 W1 β3 W3:=r3.trans p5 (by rw[hbn];exact Nat.le_refl _)
    have st:Step h.next β W β3 W4:=(q5.trans st1 q3).trans y4 (Nat.le_trans q3 hle)
    have G:Gave k h β W y W4:=⟨v,h4',β3,k1,by rw[k2];exact Nat.le_trans q3 hle,y3,y2,st⟩
    cases e3 with
    |normal=>exact⟨y,W4,y1,y,rfl,G⟩
    |ret=>exact⟨y,W4,y1,y,rfl,G⟩
    |exit i=>exact⟨y,W4,y1,y,rfl,G⟩
    |goto t=>exact⟨y,W4,y1,y,rfl,G⟩
 ·cases e
end
end Go.Abs
namespace Go.Abs
open Go
noncomputable section
theorem kvOf_true{d:Option Nat}{a:Fr}{k:Fr->H->Bool}{v:AV}{h:H}(e:kvOf d a k v h=true):(d=none/\k a h=true)\/∃ t,d=some t/\t<a.n/\k (a.put t v) h=true:=by
 cases d with
 |none=>exact .inl ⟨rfl,e⟩
 |some t=>
  obtain⟨h1,h2⟩:=Fr.set_true (show a.set t v (fun a=>k a h)=true from e)
  exact .inr ⟨t,rfl,h1,h2⟩
section
variable {Z:E} {ex:Doer} {o:Oper} {b a:Fr} {h:H} {k:Fr→H→Bool} {ro:Option Nat} {β:Pl} {W:World} {act:Act}
def Next(k:AV->H->Bool)(h:H)(β:Pl)(W:World)(d:Option Nat)(act:Act)(next:Act->World->Prop):Prop:=∀ v h' β' x W',k v h'=true->h.next.toNat<=h'.next.toNat->Sim β' h' W'->VR β' v x->Step h.next β W β' W'->next (act.put d x) W'
theorem callsIn_any{n:Nat}{P:Program}{f:FuncId}{args:Array Value}{w:World}{R:Ending->World->Prop}(h:CallsIn Fence.wide n P f args w R):CallsIn (FW ro) n P f args w R:=h
theorem opOf_nodefer{P:Program}{q:Op}{kv:KV}{kc:KC}{ky:KY}(e:opOf P q a h kv kc ky=true):∀ c,q≠.defer c:=by
 intro c hc;subst hc;cases e
theorem doOper_ok(hZ:ZOK Z)(hex:DoerOK Z.P ex)(e:doOper Z ex o b a h k=true)(hs:Sim β h W)(hf:FR β b act.tmps){next:Act->World->Prop}{Q:Exit->Act->World->Prop}
  (hn:Next (kvOf o.dst a k) h β W o.dst act next):o.wpIn (FW ro) 0 Z.P act W next Q:=by
 refine⟨fun f _=>trivial,?_⟩
 rw[Oper.semAt_eq _ _ _ (fun c hc=>opOf_nodefer e c hc)]
 rcases opOf_ok (o:=o) rfl e with ⟨v,h',hk,hle,hR⟩|⟨f,l,hk,hR⟩|⟨x,l,hk,hR⟩
 ·obtain⟨β',x,W',r1,r2,r3,r4⟩:=hR β W act hs hf
  rcases r1 with r1|⟨r1,rfl⟩
  ·rw[r1];exact hn v h' β' x W' hk hle r3 r2 r4
  ·rw[r1];exact hn v h' β' undef W' hk hle r3 r2 r4
 ·obtain⟨args,ha,hr⟩:=hR β act hf
  rw[hr W]
  rcases callK_ok hZ hex hk hs ha hf.gl with ⟨x,W',r1,v,h',β',q1,q2,q3,q4,q5⟩|⟨r1,r2⟩
  ·rw[r1];exact hn v h' β' x W' q1 q2 q3 q4 q5
  ·rw[r1]
   refine⟨(fun q=>by cases q),callsIn_any (r2.mono ?_)⟩
   rintro _ w' ⟨x,rfl,v,h',β',q1,q2,q3,q4,q5⟩
   exact hn v h' β' x w' q1 q2 q3 q4 q5
 ·obtain⟨r,κ,args,hβ,ha,hr⟩:=hR β act hf
  rw[hr W]
  obtain⟨f,tmps,as,body,r1,r2⟩:=roundK_ok hex hk hβ hs ha hf.gl ro
  rw[r1]
  refine⟨(fun q=>by cases q),r2.mono ?_⟩
  rintro _ w' ⟨x,rfl,v,h',β',q1,q2,q3,q4,q5⟩
  exact hn v h' β' x w' q1 q2 q3 q4 q5
theorem wantOf_true{ops:Array Oper}{kk:Bool->Bool}(e:wantOf ops o b kk=true):∃ c,kk c=true/\∀ (β:Pl) (act:Act),FR β b act.tmps->Region.wanted o (yielded ops act.tmps)=c:=by
 cases hg:o.guard with
 |none=>
  simp only[wantOf,hg] at e
  exact⟨true,e,fun β act hf=>by simp[Region.wanted,hg]⟩
 |some q=>
  obtain⟨j,c⟩:=q
  cases hj:ops[j]? with
  |none=>simp only[wantOf,hg,hj] at e;cases e
  |some oj=>
   cases hd:oj.dst with
   |none=>simp only[wantOf,hg,hj,hd] at e;cases e
   |some t=>
    simp only[wantOf,hg,hj,hd] at e
    obtain⟨v,ht,hv,e⟩:=Fr.get_true (show b.get t _=true from e)
    have look:∀ (β:Pl) (act:Act),FR β b act.tmps->∃ x,act.tmps[t]?=some x/\VR β v x:=by
     intro β act hf
     have h1:=hf.reg t v ht hv
     have h2:t<act.tmps.size:=by rw[hf.size];exact ht
     refine⟨act.tmps.getD t undef,?_,h1⟩
     rw[Array.getD_eq_getD_getElem?,Array.getElem?_eq_getElem h2];rfl
    have wd:∀ (β:Pl) (act:Act),FR β b act.tmps->∃ x,VR β v x/\Region.wanted o (yielded ops act.tmps)=((match x with|.bool b=>some b|_=>none)==some c):=by
     intro β act hf
     obtain⟨x,h1,h2⟩:=look β act hf
     refine⟨x,h2,?_⟩
     simp only[Region.wanted,hg,yielded,hj,Option.bind_some,hd,h1]
     cases x<;>rfl
    split at e
    ·rename_i d
     have hc:∃ r,kk r=true/\r=(d==c):=by
      cases c<;>cases d<;>exact⟨_,e,rfl⟩
     obtain⟨r,hr,rfl⟩:=hc
     refine⟨_,hr,fun β act hf=>?_⟩
     obtain⟨x,h1,h2⟩:=wd β act hf
     simp only[VR] at h1;subst h1
     rw[h2];cases d<;>cases c<;>rfl
    ·refine⟨false,e,fun β act hf=>?_⟩
     obtain⟨x,h1,h2⟩:=wd β act hf
     simp only[VR] at h1
     obtain⟨vs,rfl,_⟩:=h1
     rw[h2];rfl
    ·cases e
theorem operK_ok(hZ:ZOK Z)(hex:DoerOK Z.P ex){ops:Array Oper}{i:Nat}(hi:ops[i]?=some o)(e:operK Z ex ops o b a h k=true)(hs:Sim β h W)(hf:FR β b act.tmps){next:Act->World->Prop}{Q:Exit->Act->World->Prop}
  (hn:Next (kvOf o.dst a k) h β W o.dst act next):wpOpIn (FW ro) 0 Z.P ops Q i next act W:=by
 simp only[wpOpIn,hi]
 cases hg:o.guard with
 |none=>
  simp only[operK,operOf,hg] at e
  have:Region.wanted o (yielded ops act.tmps)=true:=by simp[Region.wanted,hg]
  rw[this,if_pos rfl]
  exact doOper_ok hZ hex e hs hf hn
 |some q=>
  simp only[operK,operOf,hg] at e
  obtain⟨c,e,hw⟩:=wantOf_true (show wantOf ops o b _=true from e)
  rw[hw β act hf]
  cases c with
  |true=>exact doOper_ok hZ hex e hs hf hn
  |false=>exact⟨fun f _=>trivial,hn undefA h β undef W e (Nat.le_refl _) hs (by simp[VR,undefA,undef,VRs]) (Step.refl _ _ _)⟩
end
section
variable {Z:E} {ex:Doer} {ro:Option Nat} {s0:Nat}
theorem St.put{β β':Pl}{h h':H}{W W':World}{a:Fr}{act:Act}(hst:St s0 β h W a act){d:Option Nat}{v:AV}{x:Value}{k:Fr->H->Bool}(e:kvOf d a k v h'=true)(hs:Sim β' h' W')(hv:VR β' v x){n:A}(st:Step n β W β' W') :
  ∃ a',k a' h'=true/\St s0 β' h' W' a' (act.put d x):=by
 rcases kvOf_true e with ⟨rfl,e⟩|⟨t,rfl,ht,e⟩
 ·exact⟨a,e,hs,hst.fr.mono st.ext,hst.ds.step st,Nat.le_trans hst.le st.size⟩
 ·exact⟨a.put t v,e,hs,(hst.fr.mono st.ext).put ht hv,hst.ds.step st,Nat.le_trans hst.le st.size⟩
theorem opersK_ok(hZ:ZOK Z)(hex:DoerOK Z.P ex){ops:Array Oper}{Q:Exit->Act->World->Prop}:∀ (m i:Nat) (a:Fr) (h:H) (k:Fr->H->Bool),i+m=ops.size->opersK Z ops ex (ops.toList.drop i) a h k=true ->
  ∀ (β:Pl) (W:World) (act:Act),RO ro W->St s0 β h W a act->(∀ a' h' β' act' W',k a' h'=true->h.next.toNat<=h'.next.toNat->St s0 β' h' W' a' act'->Step h.next β W β' W'->Q .normal act' W') ->
  wpOpsIn (FW ro) 0 Z.P ops Q (List.range' i m) act W
 |0,i,a,h,k,hm,e,β,W,act,hro,hst,hq=>by
  rw[List.drop_of_length_le (by simp;omega)] at e
  exact hq a h β act W e (Nat.le_refl _) hst (Step.refl _ _ _)
 |m+1,i,a,h,k,hm,e,β,W,act,hro,hst,hq=>by
  have hi:i<ops.toList.length:=by simp;omega
  rw[List.drop_eq_getElem_cons hi] at e
  rw[List.range'_succ,wpOpsIn_cons]
  refine operK_ok (o:=ops.toList[i]) hZ hex ?_ (show operK Z ex ops _ a a h _=true from e) hst.sim hst.fr ?_
  ·rw[Array.getElem_toList];exact Array.getElem?_eq_getElem _
  ·intro v h' β' x W' q1 q2 q3 q4 q5
   obtain⟨a',e',st'⟩:=hst.put q1 q3 q4 q5
   refine opersK_ok hZ hex m (i+1) a' h' k (by omega) e' β' W' _ (hro.step q5) st' ?_
   intro a2 h2 β2 act2 W2 r1 r2 r3 r4
   exact hq a2 h2 β2 act2 W2 r1 (Nat.le_trans q2 r2) r3 (q5.trans r4 q2)
theorem cRegion_ok(hZ:ZOK Z)(hex:DoerOK Z.P ex){id:Nat}{ops:Array Oper}{a:Fr}{h:H}{k:Ex->Fr->H->Bool}(e:cRegion Z ops ex a h k=true){β:Pl}{W:World}{act:Act}(hro:RO ro W)(hst:St s0 β h W a act) :
  wpIt ro Z.P [.code (.region id ops false)] (Left k s0 h β W) act W:=by
 refine Zar.2 (wpIn_region ?_)
 rw[List.range_eq_range']
 refine opersK_ok hZ hex ops.size 0 a h (fun a h=>k .normal a h) (by omega) (by rw[List.drop_zero];exact e) β W act hro hst ?_
 intro a' h' β' act' W' q1 q2 q3 q4
 exact⟨.normal,a',h',β',rfl,q1,q2,q3,q4⟩
end
end
end Go.Abs
namespace Go.Abs
open Go
noncomputable section
theorem Sim.extra{β:Pl}{h:H}{W:World}(hs:Sim β h W)(o:Obj)(n:A):Sim β h (W.alloc o)/\Step n β W β (W.alloc o):=by
 refine⟨⟨fun x b e=>?_,hs.fresh,hs.inj,fun x r κ e=>by rw[World.size_alloc];have:=hs.bound x r κ e;omega,⟨by rw[World.size_alloc];exact Nat.le_succ_of_le hs.high.1,hs.high.2⟩⟩,⟨Ext.refl β,fun _ _ e=>.inl e,fun x r κ e=>.inl ⟨x,κ,e⟩,by rw[World.size_alloc];omega,fun r hr _=>Zav hr,fun r lp e=>⟨lp,by rw[Zav (lt_of_some e)];exact e,rfl⟩,⟨rfl,rfl,rfl⟩,fun r hr=>Zav (Nat.lt_of_lt_of_le hr hs.high.1)⟩⟩
 obtain⟨r,κ,e1,e2⟩:=hs.live x b e
 exact⟨r,κ,e1,by rw[Zav (hs.bound _ _ _ e1)];exact e2⟩
section
variable {Z:E} {ex:Doer} {ro:Option Nat} {s0:Nat}
theorem enter_ok{P:Program}{a:Fr}{h:H}{β:Pl}{W:World}{act:Act}(hro:RO ro W)(hst:St s0 β h W a act)(fn:FuncId)(ps:Array Tmp)(as body:Code){y:A}(hy:y.toNat=h.next.toNat+1) :
  ∃ l mark W1 κ β1,(Instr.enterLoop fn act.tmps ps as body ro).run P W=.ok (l,mark) W1/\β1 h.next=some (l,κ)/\St s0 β1 (h.new (.loop a.n a.regs ps.toList as body .ready) y) W1 a { act with defers:=mark++act.defers }/\Step h.next β W β1 W1:=by
 cases ro with
 |none=>
  obtain⟨s1,s2⟩:=hst.sim.extra (.deferred (some [])) h.next
  let lp:Loop:={ state:=.ready,pending:=none,fn:=fn,tmps:=act.tmps,params:=ps,assign:=as,body:=body,defers:=W.heap.size }
  obtain⟨s3,s4⟩:=s1.new (b:=.loop a.n a.regs ps.toList as body .ready) (o:=.loop lp) (κ:=0) hy
   ⟨lp,rfl,hst.fr.size,hst.fr.le,fun t v ht hv=>VR.mono (s1.ext_new _ _) _ _ (hst.fr.reg t v ht hv),rfl,rfl,rfl,rfl,rfl⟩
  have st:=s2.trans s4 (Nat.le_refl _)
  refine⟨_,_,_,0,_,run_enterLoop_outer fn act.tmps ps as body,?_,⟨s3,hst.fr.mono st.ext,?_,Nat.le_trans hst.le st.size⟩,st⟩
  ·simp[Pl.new,World.size_alloc]
  ·obtain⟨rs,d1,d2,d3⟩:=hst.ds.step st
   refine⟨W.heap.size::rs,by simp[mk,d1],?_,?_⟩
   ·rw[List.nodup_cons]
    refine⟨fun hm=>?_,d2⟩
    obtain⟨rs0,e1,e2,e3⟩:=hst.ds
    have:rs0=rs:=by
     have q:rs0.map mk=rs.map mk:=by rw[<-e1,<-d1]
     have inj:∀ (l m:List Nat),l.map mk=m.map mk->l=m:=by
      intro l
      induction l with
      |nil=>intro m hm;cases m with|nil=>rfl|cons _ _=>cases hm
      |cons x l ih=>
       intro m hm
       cases m with
       |nil=>cases hm
       |cons z m=>
        simp only[List.map_cons,List.cons.injEq,mk] at hm
        injection hm.1 with q1 _
        injection q1 with q1
        rw[q1,ih m hm.2]
     exact inj _ _ q
    subst this
    have:=lt_of_some (e3 _ hm).2.1
    omega
   ·intro r hr
    rcases List.mem_cons.1 hr with rfl|hr
    ·refine⟨hst.le,?_,fun z κ' hz=>?_⟩
     ·rw[Zav (by rw[World.size_alloc];omega)]
      exact heap_alloc_new _ _
     ·simp only[Pl.new] at hz
      split at hz
      ·simp only[Option.some.injEq,Prod.mk.injEq,World.size_alloc] at hz;omega
      ·have:=hst.sim.bound _ _ _ hz;omega
    ·exact d3 r hr
 |some l0=>
  obtain⟨r0,h0⟩:=hro l0 rfl
  let lp:Loop:={ state:=.ready,pending:=none,fn:=fn,tmps:=act.tmps,params:=ps,assign:=as,body:=body,defers:=r0.defers }
  obtain⟨s3,s4⟩:=hst.sim.new (b:=.loop a.n a.regs ps.toList as body .ready) (o:=.loop lp) (κ:=0) hy
   ⟨lp,rfl,hst.fr.size,hst.fr.le,fun t v ht hv=>VR.mono (hst.sim.ext_new _ _) _ _ (hst.fr.reg t v ht hv),rfl,rfl,rfl,rfl,rfl⟩
  refine⟨_,_,_,0,_,run_enterLoop_inner h0 fn act.tmps ps as body,by simp[Pl.new],⟨s3,hst.fr.mono s4.ext,?_,Nat.le_trans hst.le s4.size⟩,s4⟩
  exact hst.ds.step s4
theorem endLoopK_ok{P:Program}{l:A}{a:Fr}{h:H}{k:Ex->Fr->H->Bool}(e:endLoopK l a h k=true):∃ ex h',k ex a h'=true/\h'.next=h.next/\∀ (β:Pl) (W:World) (r κ:Nat),Sim β h W->β l=some (r,κ) ->
  ∃ W',(Instr.endLoop r).run P W=.ok ex.jump W'/\Sim β h' W'/\Step h.next β W β W':=by
 obtain⟨bl,hg,e⟩:=Zat (show getK h l _=true from e)
 have fin:∀ (n:Nat) (regs:Regs) (ps:List Nat) (as body:Code) (st:LS) (ex:Ex),bl=.loop n regs ps as body st->setK h l .dead (fun h=>k ex a h)=true ->
   (∀ (β:Pl) (o:Option Obj) (κ:Nat),BR β bl o κ->∃ lp:Loop,o=some (.loop lp)/\lp.state≠.busy/\lp.pending=ex.jump) ->
   ∃ ex h',k ex a h'=true/\h'.next=h.next/\∀ (β:Pl) (W:World) (r κ:Nat),Sim β h W->β l=some (r,κ)->∃ W',(Instr.endLoop r).run P W=.ok ex.jump W'/\Sim β h' W'/\Step h.next β W β W':=by
  intro n regs ps as body st ex hbl e2 hR
  rw[setK_eq] at e2
  refine⟨ex,_,e2,rfl,fun β W r κ hs hβ=>?_⟩
  subst hbl
  obtain⟨lp,l1,l2,l3⟩:=hR β _ κ (loop_live hs hβ hg)
  obtain⟨s1,s2⟩:=hs.loop (lp':={ lp with state:=.exhausted }) hβ hg l1 rfl (b':=.dead) (by show _≠_;simp) h.next
  refine⟨_,?_,s1,s2⟩
  rw[<-l3];exact run_endLoop l1 l2
 split at e
 ·rename_i n regs ps as body ex
  refine fin n regs ps as body _ ex rfl e fun β o κ hb=>?_
  obtain⟨lp,h1,h2,h3,h4,h5,h6,h7,h8,h9⟩:=hb.loop
  refine⟨lp,h1,by rw[h8];simp,?_⟩
  rw[h9];cases ex<;>rfl
 ·rename_i n regs ps as body
  refine fin n regs ps as body _ .normal rfl e fun β o κ hb=>?_
  obtain⟨lp,h1,h2,h3,h4,h5,h6,h7,h8,h9⟩:=hb.loop
  exact⟨lp,h1,by rw[h8];simp,h9⟩
 ·cases e
theorem cRangeFunc_ok(hZ:ZOK Z)(hex:DoerOK Z.P ex){g:Operand}{ps:Array Tmp}{as body:Code}{a:Fr}{h:H}{k:Ex->Fr->H->Bool}(e:cRangeFunc Z g ps.toList as body ex a h k=true){β:Pl}{W:World}{act:Act}(hro:RO ro W)(hst:St s0 β h W a act) :
  wpIt ro Z.P [.code (.rangeFunc g ps as body)] (Left k s0 h β W) act W:=by
 refine Zar.2 (wpIn_rangeFunc fun fn _=>?_)
 obtain⟨v,e,hv⟩:=Zai (show evK a g _=true from e)
 have hv:=hv β act hst.fr
 split at e
 ·rename_i f first caps _
  obtain⟨y,hy,e⟩:=newK_true e
  rw[appK_eq] at e
  obtain⟨l,mark,W1,κ,β1,r1,r2,r3,r4⟩:=enter_ok (P:=Z.P) hro hst fn ps as body hy
  simp only[VR] at hv
  obtain⟨m,cp,hv,hm,hcp⟩:=hv
  have hargs:VRs β1 (first++(.yld h.next::caps)) (m++(.func (.yield l) #[] #[]::cp)):=
   VRs.append (VRs.mono r4.ext _ _ hm) (VRs.cons'.2 ⟨by simp only[VR];exact⟨l,κ,r2,rfl⟩,VRs.mono r4.ext _ _ hcp⟩)
  obtain⟨q1,q2⟩:=funcOf_ok hZ hex e r3.sim hargs r3.fr.gl
  refine⟨l,mark,W1,{ target:=.fn (.func f) cp.toArray,args:=m.toArray ++ #[.func (.yield l) #[] #[]] },W1,f,(m++(.func (.yield l) #[] #[]::cp)).toArray,W1,r1,?_,fun _ _=>trivial,?_,(fun q=>by cases q),?_⟩
  ·simp[resolve,hv,Deferred.ofValue]
   rfl
  ·have:(m.toArray ++ #[.func (.yield l) #[] #[]])++cp.toArray=(m++(.func (.yield l) #[] #[]::cp)).toArray:=by simp
   simp only[invoke,this];exact q1
  ·refine callsIn_any (q2.mono ?_)
   rintro _ W2 ⟨x,rfl,w,h2,β2,p1,p2,p3,p4,p5⟩
   obtain⟨ex2,h3,k1,k2,k3⟩:=endLoopK_ok (P:=Z.P) p1
   obtain⟨W3,z1,z2,z3⟩:=k3 β2 W2 l κ p3 (p5.ext _ _ r2)
   have hnew:(h.new (.loop a.n a.regs ps.toList as body .ready) y).next=y:=rfl
   rw[hnew] at p2 p5
   have st:Step h.next β W β2 W3:=(r4.trans p5 (by omega)).trans z3 (by omega)
   have hL:Left k s0 h β W ex2.x { act with defers:=mark++act.defers } W3:=by
    refine⟨ex2,a,h3,β2,rfl,k1,by rw[k2];omega,⟨z2,r3.fr.mono p5.ext,(r3.ds.step p5).step z3,?_⟩,st⟩
    exact Nat.le_trans hst.le st.size
   refine⟨ex2.jump,W3,z1,?_⟩
   cases ex2 with
   |normal=>exact hL
   |ret=>exact wpIn_ret hL
   |exit i=>exact wpIn_exit hL
   |goto t=>exact wpIn_goto hL
 ·cases e
end
end
end Go.Abs
namespace Go.Abs
open Go
noncomputable section
theorem memN_iff{n:Nat}:∀ {l:List Nat},memN n l=true↔n∈l
 |[]=>by simp[memN]
 |m::l=>by
  unfold memN
  split
  ·rename_i h;rw[beq_nat] at h;simp at h;simp[h]
  ·rename_i h;rw[beq_nat] at h
   have h:n≠m:=by simpa using h
   rw[memN_iff];simp[h]
theorem memN_false{n:Nat}{l:List Nat}(h:memN n l=false):n ∉ l:=fun c=>by rw[memN_iff.2 c] at h;cases h
theorem mem_unionN{p:Nat}:∀ {l m:List Nat},p∈unionN l m↔p∈l\/p∈m
 |[],m=>by simp[unionN]
 |n::l,m=>by
  unfold unionN
  split
  ·rename_i h
   have h:=memN_iff.1 h
   rw[mem_unionN];simp only[List.mem_cons]
   constructor
   ·rintro(a|a)
    ·exact .inl (.inr a)
    ·exact .inr a
   ·rintro((rfl|a)|a)
    ·exact .inr h
    ·exact .inl a
    ·exact .inr a
  ·rw[mem_unionN];simp only[List.mem_cons]
   constructor
   ·rintro(a|rfl|a)
    ·exact .inl (.inr a)
    ·exact .inl (.inl rfl)
    ·exact .inr a
   ·rintro((rfl|a)|a)
    ·exact .inr (.inl rfl)
    ·exact .inl a
    ·exact .inr (.inr a)
theorem mem_nthL{p:Nat}:∀ {l:List (List Nat)} {e:Nat},p∈nthL l e->∃ b,l[e]?=some b/\p∈b
 |[],e,h=>by simp[nthL] at h
 |x::_,0,h=>⟨x,rfl,h⟩
 |_::l,e+1,h=>by
  obtain⟨b,h1,h2⟩:=mem_nthL (l:=l) (e:=e) h
  exact⟨b,by simpa using h1,h2⟩
theorem mem_edgesOf{e:Nat}:∀ {l:List Edge},e∈edgesOf l ↔ ∃ x∈l,Region.binds .any x=true/\x.on=e
 |[]=>by simp[edgesOf]
 |x::l=>by
  unfold edgesOf
  split
  ·rename_i h
   rw[List.mem_cons,mem_edgesOf]
   constructor
   ·rintro(rfl|⟨y,a,b⟩)
    ·exact⟨x,by simp,h,rfl⟩
    ·exact⟨y,by simp[a],b⟩
   ·rintro⟨y,a,b,c⟩
    rcases List.mem_cons.1 a with rfl|a
    ·exact .inl c.symm
    ·exact .inr ⟨y,a,b,c⟩
  ·rename_i h
   rw[mem_edgesOf]
   constructor
   ·rintro⟨y,a,b⟩;exact⟨y,by simp[a],b⟩
   ·rintro⟨y,a,b,c⟩
    rcases List.mem_cons.1 a with rfl|a
    ·rw[h] at b;cases b
    ·exact⟨y,a,b,c⟩
theorem mem_closeOf{done:List (List Nat)}{p:Nat}:∀ {l:List Nat},p∈closeOf done l ↔ ∃ e∈l,p=e\/p∈nthL done e
 |[]=>by simp[closeOf]
 |e::l=>by
  unfold closeOf
  rw[mem_unionN,mem_closeOf]
  simp only[List.mem_cons]
  constructor
  ·rintro((rfl|a)|⟨x,a,b⟩)
   ·exact⟨p,.inl rfl,.inl rfl⟩
   ·exact⟨e,.inl rfl,.inr a⟩
   ·exact⟨x,.inr a,b⟩
  ·rintro⟨x,rfl|a,b⟩
   ·exact .inl b
   ·exact .inr ⟨x,a,b⟩
def Down(ops:Array Oper)(S:Nat->Prop):Prop:=∀ i o,ops[i]?=some o->S i->∀ e∈edgesOf o.after.toList,S e
def Cl(ops:Array Oper)(j:Nat)(b:List Nat):Prop:=∀ S,Down ops S->(∀ o,ops[j]?=some o->∀ e∈edgesOf o.after.toList,S e)->∀ p∈b,S p
theorem infosOf_spec(ops:Array Oper):∀ (l:List Oper) (i:Nat) (done:List (List Nat)),ops.toList.drop i=l->done.length=i->(∀ j b,done[j]?=some b->Cl ops j b/\j<ops.size) ->
  (infosOf l i done).length=l.length/\∀ j r,(infosOf l i done)[j]?=some r->r.i=i+j/\ops[i+j]?=some r.o/\r.m=notB (pureOp r.o.op)/\Cl ops (i+j) r.bs/\∀ e∈edgesOf r.o.after.toList,e∈r.bs
 |[],i,done,_,_,_=>⟨rfl,fun j r h=>by simp[infosOf] at h⟩
 |o::l,i,done,hl,hd,hc=>by
  have hi:ops[i]?=some o:=by
   have:=congrArg (fun x=>x[0]?) hl
   simpa using this
  have hlt:i<ops.size:=by
   rcases Nat.lt_or_ge i ops.size with q|q
   ·exact q
   ·rw[Array.getElem?_eq_none q] at hi;cases hi
  have hcl:Cl ops i (closeOf done (edgesOf o.after.toList)):=by
   intro S hS he p hp
   obtain⟨e,h1,h2⟩:=mem_closeOf.1 hp
   have hse:=he o hi e h1
   rcases h2 with rfl|h2
   ·exact hse
   ·obtain⟨b,b1,b2⟩:=mem_nthL h2
    exact(hc e b b1).1 S hS (fun o' ho' e' he'=>hS e o' ho' hse e' he') p b2
  have hl':ops.toList.drop (i+1)=l:=by
   rw[<-List.drop_drop,hl];rfl
  obtain⟨h1,h2⟩:=infosOf_spec ops l (i+1) (done++[closeOf done (edgesOf o.after.toList)]) hl' (by simp[hd]) (fun j b hb=>by
   rcases Nat.lt_or_ge j done.length with q|q
   ·rw[List.getElem?_append_left q] at hb;exact hc j b hb
   ·rw[List.getElem?_append_right q] at hb
    have:j - done.length=0:=by
     rcases Nat.eq_zero_or_pos (j - done.length) with z|z
     ·exact z
     ·rw[List.getElem?_eq_none (by simp;omega)] at hb;cases hb
    rw[this] at hb;cases hb
    have:j=i:=by omega
    subst this;exact⟨hcl,hlt⟩)
  refine⟨by simp[infosOf,h1],fun j r hj=>?_⟩
  cases j with
  |zero=>
   simp only[infosOf,List.getElem?_cons_zero,Option.some.injEq] at hj
   subst hj
   exact⟨rfl,hi,rfl,hcl,fun e he=>mem_closeOf.2 ⟨e,he,.inl rfl⟩⟩
  |succ j=>
   simp only[infosOf,List.getElem?_cons_succ] at hj
   obtain⟨a,b,c⟩:=h2 j r hj
   have e:i+1+j=i+(j+1):=by omega
   rw[e] at a b c
   exact⟨a,b,c⟩
def infs(ops:Array Oper):List OI:=infosOf ops.toList 0 []
section
variable {ops:Array Oper}
theorem infs_length:(infs ops).length=ops.size:=by
 have:=(infosOf_spec ops ops.toList 0 [] rfl rfl (fun j b h=>by simp at h)).1
 rw[infs,this];simp
theorem infs_get{j:Nat}{r:OI}(h:(infs ops)[j]?=some r):r.i=j/\ops[j]?=some r.o/\r.m=notB (pureOp r.o.op)/\Cl ops j r.bs/\∀ e∈edgesOf r.o.after.toList,e∈r.bs:=by
 have:=(infosOf_spec ops ops.toList 0 [] rfl rfl (fun j b h=>by simp at h)).2 j r h
 simp only[Nat.zero_add] at this
 exact this
theorem infs_mem{r:OI}(h:r∈infs ops):(infs ops)[r.i]?=some r:=by
 obtain⟨j,hj⟩:=List.getElem?_of_mem h
 rw[(infs_get hj).1];exact hj
theorem infs_at{j:Nat}(h:j<ops.size):∃ r,(infs ops)[j]?=some r/\r∈infs ops:=by
 have hl:j<(infs ops).length:=by rw[infs_length];exact h
 exact⟨_,List.getElem?_eq_getElem hl,List.getElem_mem _⟩
def dstAt(ops:Array Oper)(p:Nat):Option Nat:=(ops[p]?).bind (·.dst)
theorem dstAt_of{r:OI}(h:r∈infs ops):dstAt ops r.i=r.o.dst:=by
 have:=(infs_get (infs_mem h)).2.1
 simp[dstAt,this]
theorem dstAt_mem{p t:Nat}(h:dstAt ops p=some t):∃ r∈infs ops,r.i=p/\r.o.dst=some t:=by
 unfold dstAt at h
 cases ho:ops[p]? with
 |none=>rw[ho] at h;cases h
 |some o=>
  have hp:p<ops.size:=by
   rcases Nat.lt_or_ge p ops.size with q|q
   ·exact q
   ·rw[Array.getElem?_eq_none q] at ho;cases ho
  obtain⟨r,h1,h2⟩:=infs_at hp
  obtain⟨a,b,_⟩:=infs_get h1
  rw[ho] at b h;cases b
  exact⟨r,h2,a,h⟩
theorem mem_dstsOf{t:Nat}:∀ {I:List OI},t∈dstsOf I ↔ ∃ r∈I,r.o.dst=some t
 |[]=>by simp[dstsOf]
 |r::I=>by
  unfold dstsOf
  split
  ·rename_i u hu
   rw[List.mem_cons,mem_dstsOf]
   constructor
   ·rintro(rfl|⟨q,a,b⟩)
    ·exact⟨r,by simp,hu⟩
    ·exact⟨q,by simp[a],b⟩
   ·rintro⟨q,a,b⟩
    rcases List.mem_cons.1 a with rfl|a
    ·rw[hu] at b;cases b;exact .inl rfl
    ·exact .inr ⟨q,a,b⟩
  ·rename_i hu
   rw[mem_dstsOf]
   constructor
   ·rintro⟨q,a,b⟩;exact⟨q,by simp[a],b⟩
   ·rintro⟨q,a,b⟩
    rcases List.mem_cons.1 a with rfl|a
    ·rw[hu] at b;cases b
    ·exact⟨q,a,b⟩
theorem distinct_one:∀ {I:List OI},distinctN (dstsOf I)=true->∀ (p q:Nat) (r s:OI) (t:Nat),I[p]?=some r->I[q]?=some s->r.o.dst=some t->s.o.dst=some t->p=q
 |[],_,p,q,r,s,t,h,_,_,_=>by simp at h
 |x::I,hd,p,q,r,s,t,h1,h2,h3,h4=>by
  have hrest:distinctN (dstsOf I)=true/\(∀ u,x.o.dst=some u->u ∉ dstsOf I):=by
   unfold dstsOf at hd
   split at hd
   ·rename_i u hu
    unfold distinctN at hd
    split at hd
    ·cases hd
    ·rename_i hm
     exact⟨hd,fun u' hu'=>by rw[hu] at hu';cases hu';exact memN_false hm⟩
   ·rename_i hu
    exact⟨hd,fun u' hu'=>by rw[hu] at hu';cases hu'⟩
  cases p with
  |zero=>
   cases q with
   |zero=>rfl
   |succ q=>
    simp only[List.getElem?_cons_zero,Option.some.injEq] at h1;subst h1
    simp only[List.getElem?_cons_succ] at h2
    exact absurd (mem_dstsOf.2 ⟨s,List.mem_of_getElem? h2,h4⟩) (hrest.2 t h3)
  |succ p=>
   cases q with
   |zero=>
    simp only[List.getElem?_cons_zero,Option.some.injEq] at h2;subst h2
    simp only[List.getElem?_cons_succ] at h1
    exact absurd (mem_dstsOf.2 ⟨r,List.mem_of_getElem? h1,h3⟩) (hrest.2 t h4)
   |succ q=>
    simp only[List.getElem?_cons_succ] at h1 h2
    rw[distinct_one hrest.1 p q r s t h1 h2 h3 h4]
theorem allLt_true{n:Nat}:∀ {l:List Nat},allLt l n=true->∀ p∈l,p<n
 |[],_,p,h=>by cases h
 |q::l,h,p,hp=>by
  unfold allLt at h
  split at h
  ·rename_i hb
   rw[blt_nat] at hb
   rcases List.mem_cons.1 hp with rfl|hp
   ·simpa using hb
   ·exact allLt_true h p hp
  ·cases h
theorem lowI_true:∀ {I:List OI},lowI I=true->∀ r∈I,∀ p∈r.bs,p<r.i
 |[],_,r,h=>by cases h
 |x::I,h,r,hr=>by
  unfold lowI at h
  split at h
  ·rename_i hb
   rcases List.mem_cons.1 hr with rfl|hr
   ·exact allLt_true hb
   ·exact lowI_true h r hr
  ·cases h
theorem fitI_true{I:List OI}(h:fitI I=true):distinctN (dstsOf I)=true/\lowI I=true:=by
 unfold fitI at h
 split at h
 ·rename_i hd;exact⟨hd,h⟩
 ·cases h
theorem dst_one(h:fitI (infs ops)=true){p q t:Nat}(hp:dstAt ops p=some t)(hq:dstAt ops q=some t):p=q:=by
 obtain⟨r,r1,rfl,r3⟩:=dstAt_mem hp
 obtain⟨s,s1,rfl,s3⟩:=dstAt_mem hq
 exact distinct_one (fitI_true h).1 _ _ r s t (infs_mem r1) (infs_mem s1) r3 s3
theorem subN_true:∀ {l ms vs:List Nat},subN l ms vs=true ↔ ∀ p∈l,p∈ms\/p∈vs
 |[],ms,vs=>by simp[subN]
 |p::l,ms,vs=>by
  unfold subN
  split
  ·rename_i h
   rw[subN_true];simp[memN_iff.1 h]
  ·rename_i h
   split
   ·rename_i h2
    rw[subN_true];simp[memN_iff.1 h2]
   ·rename_i h2
    simp[memN_false h,memN_false h2]
theorem readyM_iff{ms vs:List Nat}{r:OI}:∀ {I:List OI},r∈readyM I ms vs↔r∈I/\r.m=true/\r.i ∉ ms/\∀ p∈r.bs,p∈ms\/p∈vs
 |[]=>by simp[readyM]
 |x::I=>by
  unfold readyM
  split
  ·rename_i h1 h2 h3
   rw[List.mem_cons,readyM_iff,List.mem_cons]
   constructor
   ·rintro(rfl|⟨a,b⟩)
    ·exact⟨.inl rfl,h1,memN_false h2,subN_true.1 h3⟩
    ·exact⟨.inr a,b⟩
   ·rintro⟨rfl|a,b⟩
    ·exact .inl rfl
    ·exact .inr ⟨a,b⟩
  ·rename_i hne
   rw[readyM_iff,List.mem_cons]
   constructor
   ·rintro⟨a,b⟩;exact⟨.inr a,b⟩
   ·rintro⟨rfl|a,b,c,d⟩
    ·have h2:memN r.i ms=false:=by
      cases q:memN r.i ms with
      |false=>rfl
      |true=>exact absurd (memN_iff.1 q) c
     exact(hne b h2 (subN_true.2 d)).elim
    ·exact⟨a,b,c,d⟩
theorem fullV_true{ms vs:List Nat}:∀ {I:List OI},fullV I ms vs=true->∀ r∈I,r.m=false->(∀ p∈r.bs,p∈ms\/p∈vs)->r.i∈vs
 |[],_,r,h=>by cases h
 |x::I,h,r,hr=>by
  intro hm hb
  unfold fullV at h
  split at h
  ·cases h
  ·rename_i hne
   rcases List.mem_cons.1 hr with rfl|hr
   ·cases q:memN r.i vs with
    |true=>exact memN_iff.1 q
    |false=>exact(hne hm q (subN_true.2 hb)).elim
   ·exact fullV_true h r hr hm hb
theorem bsAt_of:∀ {I:List OI} {m:Nat} {p:Nat},p∈bsAt I m->∃ r∈I,r.i=m/\p∈r.bs
 |[],m,p,h=>by simp[bsAt] at h
 |x::I,m,p,h=>by
  unfold bsAt at h
  split at h
  ·rename_i hb;rw[beq_nat] at hb
   exact⟨x,by simp,by simpa using hb,h⟩
  ·obtain⟨r,a,b⟩:=bsAt_of h
   exact⟨r,by simp[a],b⟩
theorem aheadOf_true{I:List OI}{i:Nat}:∀ {ms:List Nat},aheadOf I i ms=true->∃ m∈ms,i∈bsAt I m
 |[],h=>by cases h
 |m::ms,h=>by
  unfold aheadOf at h
  split at h
  ·rename_i hb;exact⟨m,by simp,memN_iff.1 hb⟩
  ·obtain⟨q,a,b⟩:=aheadOf_true h
   exact⟨q,by simp[a],b⟩
theorem lateV_iff{I:List OI}{ms vs:List Nat}{r:OI}:∀ {J:List OI},r∈lateV I J ms vs↔r∈J/\r.m=false/\r.i∈vs/\aheadOf I r.i ms=false
 |[]=>by simp[lateV]
 |x::J=>by
  unfold lateV
  split
  ·rename_i h0 h1 h2
   rw[List.mem_cons,lateV_iff,List.mem_cons]
   constructor
   ·rintro(rfl|⟨a,b⟩)
    ·exact⟨.inl rfl,h0,memN_iff.1 h1,h2⟩
    ·exact⟨.inr a,b⟩
   ·rintro⟨rfl|a,b⟩
    ·exact .inl rfl
    ·exact .inr ⟨a,b⟩
  ·rename_i hne
   rw[lateV_iff,List.mem_cons]
   constructor
   ·rintro⟨a,b⟩;exact⟨.inr a,b⟩
   ·rintro⟨rfl|a,b,c,d⟩
    ·exact(hne b (memN_iff.2 c) d).elim
    ·exact⟨a,b,c,d⟩
theorem actsOf_in{r:OI}{t:Nat}:∀ {I:List OI},(t,true)∈actsOf I r->∃ q∈I,q.o.dst=some t/\q.i∈r.bs
 |[],h=>by simp[actsOf] at h
 |x::I,h=>by
  unfold actsOf at h
  split at h
  ·obtain⟨q,a,b⟩:=actsOf_in h;exact⟨q,by simp[a],b⟩
  ·rename_i u hu
   split at h
   ·rename_i hm
    rcases List.mem_cons.1 h with e|h
    ·cases e;exact⟨x,by simp,hu,memN_iff.1 hm⟩
    ·obtain⟨q,a,b⟩:=actsOf_in h;exact⟨q,by simp[a],b⟩
   ·split at h
    ·obtain⟨q,a,b⟩:=actsOf_in h;exact⟨q,by simp[a],b⟩
    ·rcases List.mem_cons.1 h with e|h
     ·cases e
     ·obtain⟨q,a,b⟩:=actsOf_in h;exact⟨q,by simp[a],b⟩
theorem actsOf_out{r:OI}{t:Nat}:∀ {I:List OI},(∀ x∈actsOf I r,x.1≠t)->∀ q∈I,q.o.dst=some t->r.i∈q.i::q.bs
 |[],_,q,h=>by cases h
 |x::I,h,q,hq=>by
  intro hd
  unfold actsOf at h
  rcases List.mem_cons.1 hq with rfl|hq
  ·simp only[hd] at h
   split at h
   ·exact absurd rfl (h (t,true) (by simp))
   ·split at h
    ·rename_i hm;exact memN_iff.1 hm
    ·exact absurd rfl (h (t,false) (by simp))
  ·refine actsOf_out (I:=I) ?_ q hq hd
   intro y hy
   refine h y ?_
   split
   ·exact hy
   ·split
    ·simp[hy]
    ·split
     ·exact hy
     ·simp[hy]
end
end
end Go.Abs
namespace Go.Abs
open Go
noncomputable section
theorem eq3_true{a b c:Bool}(h:eq3 a b c=true):a=true/\b=true/\c=true:=by
 cases a<;>cases b<;>cases c<;>first|(cases h;done)|exact⟨rfl,rfl,rfl⟩
theorem eqAVs_true{f:AV->AV->Bool}(hf:∀ x y,f x y=true->x=y):∀ {l m:List AV},eqAVs f l m=true->l=m
 |[],[],_=>rfl
 |[],_::_,h=>by cases h
 |_::_,[],h=>by cases h
 |x::l,y::m,h=>by
  unfold eqAVs at h
  split at h
  ·rename_i hxy
   rw[hf x y hxy,eqAVs_true hf h]
  ·cases h
theorem eqAV_true:∀ (n:Nat) (x y:AV),eqAV n x y=true->x=y
 |0,x,y,h=>by cases h
 |n+1,x,y,h=>by
  have ih:=eqAV_true n
  unfold eqAV at h
  split at h
  ·obtain⟨a,b,_⟩:=eq3_true h
   rw[ieq_eq] at b
   rw[kindEq_true a,of_decide_eq_true b]
  ·rename_i a b
   cases a<;>cases b<;>first|rfl|(cases h;done)
  ·rw[natsEq_eq] at h;rw[of_decide_eq_true h]
  ·obtain⟨a,b,_⟩:=eq3_true h
   rw[A.eqb_eq] at a;rw[beq_nat] at b
   rw[of_decide_eq_true a,of_decide_eq_true b]
  ·rfl
  ·obtain⟨a,b,c⟩:=eq3_true h
   obtain⟨c,d,_⟩:=eq3_true c
   rw[A.eqb_eq] at a;rw[beq_nat] at b c d
   rw[of_decide_eq_true a,of_decide_eq_true b,of_decide_eq_true c,of_decide_eq_true d]
  ·obtain⟨a,b,c⟩:=eq3_true h
   obtain⟨c,d,_⟩:=eq3_true c
   rw[A.eqb_eq] at a;rw[beq_nat] at b c d
   rw[of_decide_eq_true a,of_decide_eq_true b,of_decide_eq_true c,of_decide_eq_true d]
  ·rw[A.eqb_eq] at h;rw[of_decide_eq_true h]
  ·rfl
  ·rw[A.eqb_eq] at h;rw[of_decide_eq_true h]
  ·rfl
  ·obtain⟨a,b,c⟩:=eq3_true h
   rw[beq_nat] at a
   rw[of_decide_eq_true a,eqAVs_true ih b,eqAVs_true ih c]
  ·rfl
  ·rw[A.eqb_eq] at h;rw[of_decide_eq_true h]
  ·obtain⟨a,b,_⟩:=eq3_true h
   rw[beq_nat] at a
   rw[of_decide_eq_true a,ih _ _ b]
  ·rfl
  ·rw[eqAVs_true ih h]
  ·rw[eqAVs_true ih h]
  ·cases h
theorem Fr.unset_true{a:Fr}{t:Nat}{k:Fr->Bool}(h:a.unset t k=true):t<a.n/\∃ a',k a'=true/\a'.n=a.n/\(a.n<=512->∀ u,u<a.n->a'.at? u=if u=t then none else a.at? u):=by
 obtain⟨n,m⟩:=a
 simp only[Fr.unset] at h
 split at h
 ·rename_i p hp
  obtain⟨hlt,rfl⟩:=RP.at_some hp
  rw[set3_eq] at h
  refine⟨hlt,_,h,rfl,fun hn u hu=>?_⟩
  simp only[Fr.at?,get3_upd3]
  by_cases c:u=t
  ·simp[c]
  ·have:RP.of u≠RP.of t:=fun e=>c (RP.of_inj (by simp only at hn hu;omega) (by simp only at hn hlt;omega) e)
   simp[c,this]
 ·cases h
theorem actK_true{x:Nat×Bool}{a b:Fr}{k:Fr->Bool}(e:actK x a b k=true):∃ b',k b'=true/\b'.n=b.n/\(b.n<=512->∀ u,u<b.n->(u=x.1->∀ v,b'.at? u=some v->x.2=true/\a.at? u=some v)/\(u≠x.1->b'.at? u=b.at? u)):=by
 obtain⟨t,c⟩:=x
 cases c with
 |true=>
  obtain⟨v,h1,h2,e⟩:=Fr.get_true (show a.get t (fun v=>b.set t v k)=true from e)
  obtain⟨h3,e⟩:=Fr.set_true e
  refine⟨_,e,rfl,fun hn u hu=>⟨fun hut w hw=>?_,fun hut=>?_⟩⟩
  ·rw[Fr.at_put hn h3 hu,if_pos hut] at hw;cases hw
   exact⟨rfl,by rw[hut];exact h2⟩
  ·rw[Fr.at_put hn h3 hu,if_neg hut]
 |false=>
  obtain⟨h1,b',e,h2,h3⟩:=Fr.unset_true (show b.unset t k=true from e)
  refine⟨b',e,h2,fun hn u hu=>⟨fun hut w hw=>?_,fun hut=>?_⟩⟩
  ·rw[h3 hn u hu,if_pos hut] at hw;cases hw
  ·rw[h3 hn u hu,if_neg hut]
theorem frameK_true{a:Fr}:∀ {l:List (Nat×Bool)} {b:Fr} {k:Fr->Bool},frameK l a b k=true->∃ b',k b'=true/\b'.n=b.n /\
  (b.n<=512->∀ u v,u<b.n->b'.at? u=some v->(b.at? u=some v/\∀ x∈l,x.1≠u)\/((u,true)∈l/\a.at? u=some v))
 |[],b,k,e=>⟨b,e,rfl,fun _ u v _ h=>.inl ⟨h,fun x hx=>by cases hx⟩⟩
 |x::l,b,k,e=>by
  obtain⟨b1,e,h1,h2⟩:=actK_true (show actK x a b (fun b=>frameK l a b k)=true from e)
  obtain⟨b2,e,h3,h4⟩:=frameK_true e
  refine⟨b2,e,h3.trans h1,fun hn u v hu hv=>?_⟩
  rw[h1] at h4
  rcases h4 hn u v hu hv with ⟨q1,q2⟩|⟨q1,q2⟩
  ·by_cases c:u=x.1
   ·obtain⟨r1,r2⟩:=(h2 hn u hu).1 c v q1
    refine .inr ⟨?_,r2⟩
    have:x=(u,true):=by rw[c,<-r1]
    rw[this];simp
   ·rw[(h2 hn u hu).2 c] at q1
    refine .inl ⟨q1,fun y hy=>?_⟩
    rcases List.mem_cons.1 hy with rfl|hy
    ·exact fun z=>c z.symm
    ·exact q2 y hy
  ·exact .inr ⟨by simp[q1],q2⟩
end
end Go.Abs
namespace Go.Abs
open Go
noncomputable section
structure G(ops:Array Oper)(a0 a:Fr)(dn:Nat->Prop)(val:Nat->AV):Prop where
 n:a.n=a0.n
 at_:∀ t,t<a0.n->((∀ p,dn p->dstAt ops p≠some t)/\a.at? t=a0.at? t)\/∃ p,dn p/\dstAt ops p=some t/\a.at? t=some (val p)
structure RB(ops:Array Oper)(a0:Fr)(β:Pl)(val:Nat->AV)(r:OI)(act:Act):Prop where
 size:act.tmps.size=a0.n
 gl:Gl β
 bs:∀ p∈r.bs,∀ t,t<a0.n->dstAt ops p=some t->VR β (val p) (act.tmps.getD t undef)
 old:∀ t v,t<a0.n->a0.at? t=some v->(∀ q∈infs ops,q.o.dst=some t->r.i∈q.i::q.bs)->VR β v (act.tmps.getD t undef)
def dn(ms vs:List Nat):Nat->Prop:=fun p=>p∈ms\/p∈vs
section
variable {ops:Array Oper} {a0 a:Fr} {val:Nat→AV}
theorem frame_ok(hfit:fitI (infs ops)=true)(hn:a0.n<=512){d:Nat->Prop}(hG:G ops a0 a d val){r:OI}(hb:∀ p∈r.bs,d p){k:Fr->Bool}(e:frameK (actsOf (infs ops) r) a a0 k=true) :
  ∃ b,k b=true/\∀ (β:Pl) (act:Act),RB ops a0 β val r act->FR β b act.tmps:=by
 obtain⟨b,e,h1,h2⟩:=frameK_true e
 refine⟨b,e,fun β act hr=>⟨by rw[hr.size,h1],by rw[h1];exact hn,fun t v ht hv=>?_,hr.gl⟩⟩
 rw[h1] at ht
 rcases h2 hn t v ht hv with ⟨q1,q2⟩|⟨q1,q2⟩
 ·exact hr.old t v ht q1 (actsOf_out q2)
 ·obtain⟨q,m1,m2,m3⟩:=actsOf_in q1
  have hq:=(dstAt_of m1).trans m2
  rcases hG.at_ t ht with ⟨g1,g2⟩|⟨p,g1,g2,g3⟩
  ·exact absurd hq (g1 _ (hb _ m3))
  ·have:p=q.i:=dst_one hfit g2 hq
   subst this
   rw[q2] at g3;cases g3
   exact hr.bs _ m3 t ht hq
theorem G.put{d d':Nat->Prop}(hG:G ops a0 a d val)(hn:a0.n<=512){r:OI}(hr:r∈infs ops)(hd:¬ d r.i)(hd':∀ p,d' p↔p=r.i\/d p){v:AV}{k:Fr->Bool}(e:putK' r.o.dst a v k=true) :
  ∃ a',k a'=true/\G ops a0 a' d' (fun p=>if p=r.i then v else val p):=by
 have hdr:=dstAt_of hr
 cases hdst:r.o.dst with
 |none=>
  rw[hdst] at e hdr
  refine⟨a,e,hG.n,fun t ht=>?_⟩
  rcases hG.at_ t ht with ⟨g1,g2⟩|⟨p,g1,g2,g3⟩
  ·refine .inl ⟨fun p hp=>?_,g2⟩
   rcases(hd' p).1 hp with rfl|hp
   ·rw[hdr];simp
   ·exact g1 p hp
  ·refine .inr ⟨p,(hd' p).2 (.inr g1),g2,?_⟩
   have:p≠r.i:=fun c=>hd (c ▸ g1)
   simp only[this,if_false];exact g3
 |some u=>
  rw[hdst] at e hdr
  obtain⟨hu,e⟩:=Fr.set_true (show a.set u v k=true from e)
  refine⟨_,e,hG.n,fun t ht=>?_⟩
  have ha:=Fr.at_put (a:=a) (t:=u) (u:=t) (v:=v) (by rw[hG.n];exact hn) hu (by rw[hG.n];exact ht)
  by_cases c:t=u
  ·subst c
   rw[if_pos rfl] at ha
   exact .inr ⟨r.i,(hd' _).2 (.inl rfl),hdr,by simp only[if_true];exact ha⟩
  ·rw[if_neg c] at ha
   rcases hG.at_ t ht with ⟨g1,g2⟩|⟨p,g1,g2,g3⟩
   ·refine .inl ⟨fun p hp=>?_,ha.trans g2⟩
    rcases(hd' p).1 hp with rfl|hp
    ·rw[hdr];intro q;cases q;exact c rfl
    ·exact g1 p hp
   ·refine .inr ⟨p,(hd' p).2 (.inr g1),g2,?_⟩
    have:p≠r.i:=fun c=>hd (c ▸ g1)
    simp only[this,if_false];exact ha.trans g3
end
def VF(P:Program)(ops:Array Oper)(a0:Fr)(r:OI)(h:H)(val:Nat->AV):Prop:=∀ (β:Pl) (W:World) (act:Act),Sim β h W->RB ops a0 β val r act ->
 (Region.wanted r.o (yielded ops act.tmps)=true/\∃ x,(execOp act.eval r.o).run P W=.ok (.value x) W/\∀ t,r.o.dst=some t->VR β (val r.i) x) \/
 (Region.wanted r.o (yielded ops act.tmps)=false/\∀ t,r.o.dst=some t->val r.i=undefA)
section
variable {Z:E} {ops:Array Oper} {a0:Fr}
theorem VF.congr{r:OI}{h:H}{val val':Nat->AV}(hv:VF Z.P ops a0 r h val)(hb:∀ p∈r.bs,val' p=val p)(hi:val' r.i=val r.i):VF Z.P ops a0 r h val':=by
 intro β W act hs hr
 rw[hi]
 exact hv β W act hs ⟨hr.size,hr.gl,fun p hp t ht hd=>by rw[<-hb p hp];exact hr.bs p hp t ht hd,hr.old⟩
theorem pureK_ok{o:Oper}{b:Fr}{h:H}{kv:KV}(hp:pureOp o.op=true)(e:pureK Z ops o b h kv=true):∃ v,kv v h=true/\∀ (β:Pl) (W:World) (act:Act),Sim β h W->FR β b act.tmps ->
  (Region.wanted o (yielded ops act.tmps)=true/\∃ x,(execOp act.eval o).run Z.P W=.ok (.value x) W/\VR β v x)\/(Region.wanted o (yielded ops act.tmps)=false/\v=undefA):=by
 obtain⟨c,e,hw⟩:=wantOf_true (show wantOf ops o b _=true from e)
 cases c with
 |true=>
  obtain⟨v,h1,h2⟩:=opOf_pure (o:=o) rfl hp e
  refine⟨v,h1,fun β W act hs hf=>.inl ⟨hw β act hf,h2 β W act hs hf⟩⟩
 |false=>exact⟨undefA,e,fun β W act hs hf=>.inr ⟨hw β act hf,rfl⟩⟩
theorem notB_false{b:Bool}(h:notB b=false):b=true:=by cases b<;>first|rfl|cases h
theorem newVs_ok(hfit:fitI (infs ops)=true)(hn:a0.n<=512){ms:List Nat}{h:H}{k:Fr->Bool}(hms:∀ r∈infs ops,r.m=false->r.i ∉ ms):∀ (I':List OI) (vs:List Nat) (a:Fr) (val:Nat->AV),(∀ r∈I',r∈infs ops) ->
  G ops a0 a (dn ms vs) val->newVs Z ops (infs ops) a0 (freshV I' ms vs) a h k=true ->
  ∃ a' val',k a'=true/\G ops a0 a' (dn ms (idsOn (freshV I' ms vs) vs)) val'/\(∀ p,dn ms vs p->val' p=val p)/\(∀ p∈vs,p∈idsOn (freshV I' ms vs) vs) /\
   ∀ r∈infs ops,r.i∈idsOn (freshV I' ms vs) vs->r.i∈vs\/(r.m=false/\VF Z.P ops a0 r h val'/\∀ p∈r.bs,dn ms (idsOn (freshV I' ms vs) vs) p)
 |[],vs,a,val,_,hG,e=>⟨a,val,e,hG,fun _ _=>rfl,fun _ h=>h,fun _ _ h=>.inl h⟩
 |r::I',vs,a,val,hI,hG,e=>by
  unfold freshV at e ⊢
  split at e
  ·rename_i h1 h2 h3
   have hr:=hI r (by simp)
   have hnv:=memN_false h2
   have hb:=subN_true.1 h3
   obtain⟨b,e,hb'⟩:=frame_ok hfit hn hG hb (show frameK (actsOf (infs ops) r) a a0 _=true from e)
   obtain⟨_,_,hm,_,_⟩:=infs_get (infs_mem hr)
   obtain⟨v,e,hv⟩:=pureK_ok (notB_false (by rw[<-hm];exact h1)) e
   have hnd:¬ dn ms vs r.i:=by
    rintro(q|q)
    ·exact hms r hr h1 q
    ·exact hnv q
   obtain⟨a1,e,hG1⟩:=hG.put hn hr hnd (d':=dn ms (r.i::vs)) (fun p=>by
    simp only[dn,List.mem_cons]
    constructor
    ·rintro(q|q|q)
     ·exact .inr (.inl q)
     ·exact .inl q
     ·exact .inr (.inr q)
    ·rintro(q|q|q)
     ·exact .inr (.inl q)
     ·exact .inl q
     ·exact .inr (.inr q)) e
   obtain⟨a2,val2,k1,k2,k3,k4,k5⟩:=newVs_ok hfit hn hms I' (r.i::vs) a1 _ (fun q hq=>hI q (by simp[hq])) hG1 e
   have hval:∀ p,dn ms vs p->val2 p=val p:=fun p hp=>by
    have hne:p≠r.i:=fun c=>hnd (c ▸ hp)
    rw[k3 p (by rcases hp with q|q;exact .inl q;exact .inr (by simp[q]))]
    simp only[hne,if_false]
   have hself:val2 r.i=v:=by
    rw[k3 r.i (.inr (by simp))];simp
   refine⟨a2,val2,k1,k2,hval,fun p hp=>k4 p (by simp[hp]),fun q hq hqi=>?_⟩
   rcases k5 q hq hqi with q1|q1
   ·rcases List.mem_cons.1 q1 with q1|q1
    ·have:q=r:=by
      have x1:=infs_mem hq;have x2:=infs_mem hr
      rw[q1,x2] at x1;cases x1;rfl
     subst this
     refine .inr ⟨h1,?_,fun p hp=>?_⟩
     ·intro β W act hs hrb
      have hrb':RB ops a0 β val q act:=⟨hrb.size,hrb.gl,fun p hp t ht hd=>by rw[<-hval p (hb p hp)];exact hrb.bs p hp t ht hd,hrb.old⟩
      rw[hself]
      rcases hv β W act hs (hb' β act hrb') with ⟨w1,x,w2,w3⟩|⟨w1,w2⟩
      ·exact .inl ⟨w1,x,w2,fun _ _=>w3⟩
      ·exact .inr ⟨w1,fun _ _=>w2⟩
     ·rcases hb p hp with z|z
      ·exact .inl z
      ·exact .inr (k4 p (by simp[z]))
    ·exact .inl q1
   ·exact .inr q1
  ·rename_i hne
   obtain⟨a',val',k1,k2,k3,k4,k5⟩:=newVs_ok hfit hn hms I' vs a val (fun q hq=>hI q (by simp[hq])) hG e
   exact⟨a',val',k1,k2,k3,k4,k5⟩
theorem sameVs_ok(hfit:fitI (infs ops)=true)(hn:a0.n<=512){ms vs:List Nat}{h:H}{k:Fr->Bool}{a:Fr}{val:Nat->AV}(hG:G ops a0 a (dn ms vs) val):∀ (l:List OI),(∀ r∈l,r∈infs ops/\r.m=false/\dn ms vs r.i/\∀ p∈r.bs,dn ms vs p) ->
  sameVs Z ops (infs ops) a0 l a h k=true->k a=true/\∀ r∈l,VF Z.P ops a0 r h val
 |[],_,e=>⟨e,fun r hr=>by cases hr⟩
 |r::l,hl,e=>by
  obtain⟨hr,hm,hi,hb⟩:=hl r (by simp)
  obtain⟨b,e,hb'⟩:=frame_ok hfit hn hG hb (show frameK (actsOf (infs ops) r) a a0 _=true from e)
  obtain⟨_,_,hmm,_,_⟩:=infs_get (infs_mem hr)
  obtain⟨v,e,hv⟩:=pureK_ok (notB_false (by rw[<-hmm];exact hm)) e
  have hs:sameVs Z ops (infs ops) a0 l a h k=true/\∀ t,r.o.dst=some t->v=val r.i:=by
   cases hd:r.o.dst with
   |none=>rw[hd] at e;exact⟨e,fun t ht=>by cases ht⟩
   |some t=>
    rw[hd] at e
    obtain⟨w,w1,w2,e⟩:=Fr.get_true (show a.get t _=true from e)
    split at e
    ·rename_i heq
     refine⟨e,fun t' ht'=>?_⟩
     rw[eqAV_true _ _ _ heq]
     rcases hG.at_ t (by rw[<-hG.n];exact w1) with ⟨g1,g2⟩|⟨p,g1,g2,g3⟩
     ·exact absurd ((dstAt_of hr).trans hd) (g1 _ hi)
     ·have:p=r.i:=dst_one hfit g2 ((dstAt_of hr).trans hd)
      subst this
      rw[w2] at g3;cases g3;rfl
    ·cases e
  obtain⟨k1,k2⟩:=sameVs_ok hfit hn hG l (fun q hq=>hl q (by simp[hq])) hs.1
  refine⟨k1,fun q hq=>?_⟩
  rcases List.mem_cons.1 hq with rfl|hq
  ·intro β W act hsim hrb
   rcases hv β W act hsim (hb' β act hrb) with ⟨w1,x,w2,w3⟩|⟨w1,w2⟩
   ·exact .inl ⟨w1,x,w2,fun t ht=>by rw[<-hs.2 t ht];exact w3⟩
   ·exact .inr ⟨w1,fun t ht=>by rw[<-hs.2 t ht];exact w2⟩
  ·exact k2 q hq
structure Pre(P:Program)(ops:Array Oper)(a0:Fr)(ms vs:List Nat)(a:Fr)(h:H)(val:Nat->AV):Prop where
 g:G ops a0 a (dn ms vs) val
 late:∀ r∈infs ops,r.m=false->r.i∈vs->aheadOf (infs ops) r.i ms=false->VF P ops a0 r h val
 bs:∀ r∈infs ops,dn ms vs r.i->∀ p∈r.bs,dn ms vs p
 mm:∀ r∈infs ops,r.i∈ms->r.m=true
 vv:∀ r∈infs ops,r.i∈vs->r.m=false
def restK(Z:E)(ops:Array Oper)(ex:Doer)(a0:Fr)(n:Nat)(ms vs:List Nat)(a:Fr)(h:H)(k:Fr->H->Bool):Bool:=match readyM (infs ops) ms vs with
 |[]=>k a h
 |r::l=>effK Z ops (infs ops) ex a0 (fun ms vs a h=>drawK Z ops (infs ops) ex a0 n ms vs a h k) ms vs a h (r::l)
theorem stage_ok(hfit:fitI (infs ops)=true)(hn:a0.n<=512){ex:Doer}{n:Nat}{ms vs:List Nat}{a:Fr}{h:H}{val:Nat->AV}{k:Fr->H->Bool}(e:drawK Z ops (infs ops) ex a0 n ms vs a h k=true)(hp:Pre Z.P ops a0 ms vs a h val) :
  ∃ n' vs' a' val',Pre Z.P ops a0 ms vs' a' h val'/\fullV (infs ops) ms vs'=true/\restK Z ops ex a0 n' ms vs' a' h k=true/\(∀ p,dn ms vs p->val' p=val p)/\∀ p∈vs,p∈vs':=by
 cases n with
 |zero=>cases e
 |succ n=>
  have hms:∀ r∈infs ops,r.m=false->r.i ∉ ms:=fun r hr hm q=>by rw[hp.mm r hr q] at hm;cases hm
  obtain⟨a',val',k1,k2,k3,k4,k5⟩:=newVs_ok (Z:=Z) hfit hn hms (infs ops) vs a val (fun _ h=>h) hp.g (show newVs Z ops (infs ops) a0 (freshV (infs ops) ms vs) a h _=true from e)
  split at k1
  ·cases k1
  ·rename_i hf
   refine⟨n,idsOn (freshV (infs ops) ms vs) vs,a',val',⟨k2,fun r hr hm hi ha=>?_,fun r hr hi p hpb=>?_,hp.mm,fun r hr hi=>?_⟩,hf,k1,k3,k4⟩
   ·rcases k5 r hr hi with q|⟨_,q,_⟩
    ·have hd:dn ms vs r.i:=.inr q
     exact(hp.late r hr hm q ha).congr (fun p hpb=>k3 p (hp.bs r hr hd p hpb)) (k3 _ hd)
    ·exact q
   ·have lift:∀ p,dn ms vs p->dn ms (idsOn (freshV (infs ops) ms vs) vs) p:=fun p hp=>by
     rcases hp with q|q
     ·exact .inl q
     ·exact .inr (k4 p q)
    rcases hi with q|q
    ·exact lift p (hp.bs r hr (.inl q) p hpb)
    ·rcases k5 r hr q with q|⟨_,_,q⟩
     ·exact lift p (hp.bs r hr (.inr q) p hpb)
     ·exact q p hpb
   ·rcases k5 r hr hi with q|⟨q,_⟩
    ·exact hp.vv r hr q
    ·exact q
theorem effK_mem{ex:Doer}{dr:List Nat->List Nat->Fr->H->Bool}{ms vs:List Nat}{a:Fr}{h:H}{r:OI}:∀ {l:List OI},effK Z ops (infs ops) ex a0 dr ms vs a h l=true->r∈l ->
  frameK (actsOf (infs ops) r) a a0 (fun b=>operK Z ex ops r.o b a h fun a h=>sameVs Z ops (infs ops) a0 (lateV (infs ops) (infs ops) (r.i::ms) vs) a h fun a=>dr (r.i::ms) vs a h)=true
 |[],_,hr=>by cases hr
 |x::l,e,hr=>by
  have e:(match frameK (actsOf (infs ops) x) a a0 (fun b=>operK Z ex ops x.o b a h fun a h=>sameVs Z ops (infs ops) a0 (lateV (infs ops) (infs ops) (x.i::ms) vs) a h fun a=>dr (x.i::ms) vs a h) with
   |true=>effK Z ops (infs ops) ex a0 dr ms vs a h l
   |false=>false)=true:=e
  split at e
  ·rename_i hx
   rcases List.mem_cons.1 hr with rfl|hr
   ·exact hx
   ·exact effK_mem e hr
  ·cases e
end
end
end Go.Abs
namespace Go.Abs
open Go
noncomputable section
section
variable {Z:E} {ops:Array Oper} {a0:Fr} {ex:Doer} {k:Fr→H→Bool} {ro:Option Nat} {s0:Nat} {n0:A} {β0:Pl} {W0:World}
structure RS(Z:E)(ops:Array Oper)(a0:Fr)(ex:Doer)(k:Fr->H->Bool)(s0:Nat)(n0:A)(β0:Pl)(W0:World)(S:Nat->Prop)(n:Nat)(ms vs:List Nat)(a:Fr)(h:H)(val:Nat->AV)(β:Pl)(act:Act)(W:World):Prop where
 pre:Pre Z.P ops a0 ms vs a h val
 full:fullV (infs ops) ms vs=true
 eq:restK Z ops ex a0 n ms vs a h k=true
 down:Down ops S
 lt:∀ i,S i->i<ops.size
 sm:∀ r∈infs ops,S r.i->r.m=true->r.i∈ms
 sms:∀ i∈ms,S i
 sv:∀ r∈infs ops,S r.i->r.m=false->r.i∈vs
 sim:Sim β h W
 st:Step n0 β0 W0 β W
 le:n0.toNat<=h.next.toNat
 size:act.tmps.size=a0.n
 gl:Gl β
 ds:DR s0 β W act.defers
 sle:s0<=W.heap.size
 regs:∀ t,t<a0.n->(∀ p,S p->dstAt ops p=some t->VR β (val p) (act.tmps.getD t undef))/\((∀ p,S p->dstAt ops p≠some t)->∀ v,a0.at? t=some v->VR β v (act.tmps.getD t undef))
def RX(Z:E)(ops:Array Oper)(a0:Fr)(ex:Doer)(k:Fr->H->Bool)(s0:Nat)(n0:A)(β0:Pl)(W0:World)(S:Nat->Prop)(act:Act)(W:World):Prop:=
 ∃ n ms vs a h val β,RS Z ops a0 ex k s0 n0 β0 W0 S n ms vs a h val β act W
def And1(S:Nat->Prop)(i:Nat):Nat->Prop:=fun j=>j=i\/S j
theorem Down.add{S:Nat->Prop}(hd:Down ops S){i:Nat}(hi:∀ o,ops[i]?=some o->∀ e∈edgesOf o.after.toList,S e):Down ops (And1 S i):=by
 intro j o ho hj e he
 rcases hj with rfl|hj
 ·exact .inr (hi o ho e he)
 ·exact .inr (hd j o ho hj e he)
theorem regs_put(hfit:fitI (infs ops)=true){S:Nat->Prop}{β β':Pl}{val val':Nat->AV}{act:Act}{r:OI}(hr:r∈infs ops){x:Value}(hsz:act.tmps.size=a0.n)(he:Ext β β')
  (hg:∀ t,t<a0.n->(∀ p,S p->dstAt ops p=some t->VR β (val p) (act.tmps.getD t undef))/\((∀ p,S p->dstAt ops p≠some t)->∀ v,a0.at? t=some v->VR β v (act.tmps.getD t undef)))
  (hv:∀ p,S p->val' p=val p) (hx:∀ t,r.o.dst=some t->VR β' (val' r.i) x) :
  (act.put r.o.dst x).tmps.size=a0.n/\∀ t,t<a0.n->(∀ p,And1 S r.i p->dstAt ops p=some t->VR β' (val' p) ((act.put r.o.dst x).tmps.getD t undef)) /\
   ((∀ p,And1 S r.i p->dstAt ops p≠some t)->∀ v,a0.at? t=some v->VR β' v ((act.put r.o.dst x).tmps.getD t undef)):=by
 have hdr:=dstAt_of hr
 cases hd:r.o.dst with
 |none=>
  rw[hd] at hdr
  refine⟨hsz,fun t ht=>⟨fun p hp hpt=>?_,fun hp v hv'=>?_⟩⟩
  ·rcases hp with rfl|hp
   ·rw[hdr] at hpt;cases hpt
   ·rw[hv p hp];exact VR.mono he _ _ ((hg t ht).1 p hp hpt)
  ·exact VR.mono he _ _ ((hg t ht).2 (fun p hs=>hp p (.inr hs)) v hv')
 |some u=>
  rw[hd] at hdr
  refine⟨by simpa[Act.put] using hsz,fun t ht=>?_⟩
  by_cases c:t=u
  ·subst c
   have hget:((act.put (some t) x).tmps.getD t undef)=x:=by
    show(act.tmps.setIfInBounds t x).getD t undef=x
    rw[getD_set _ _ _ _ (by rw[hsz];exact ht),if_pos rfl]
   rw[hget]
   refine⟨fun p _ hpt=>?_,fun hp=>absurd hdr (hp r.i (.inl rfl))⟩
   have:p=r.i:=dst_one hfit hpt hdr
   subst this;exact hx t hd
  ·have hget:((act.put (some u) x).tmps.getD t undef)=act.tmps.getD t undef:=by
    show(act.tmps.setIfInBounds u x).getD t undef=_
    by_cases hu:u<act.tmps.size
    ·rw[getD_set _ _ _ _ hu,if_neg c]
    ·rw[Array.setIfInBounds_eq_of_size_le (Nat.le_of_not_lt hu)]
   rw[hget]
   refine⟨fun p hp hpt=>?_,fun hp v hv'=>?_⟩
   ·rcases hp with rfl|hp
    ·rw[hdr] at hpt;cases hpt;exact absurd rfl c
    ·rw[hv p hp];exact VR.mono he _ _ ((hg t ht).1 p hp hpt)
   ·exact VR.mono he _ _ ((hg t ht).2 (fun p hs=>hp p (.inr hs)) v hv')
theorem draw_step(hZ:ZOK Z)(hex:DoerOK Z.P ex)(hfit:fitI (infs ops)=true)(hn:a0.n<=512){S:Nat->Prop}{act:Act}{W:World}(hx:RX Z ops a0 ex k s0 n0 β0 W0 S act W){i:Nat}(hi:i<ops.size)(hS:¬ S i)
  (hready:∀ o,ops[i]?=some o->∀ e∈edgesOf o.after.toList,S e) {K:Act->World->Prop} {Q:Exit->Act->World->Prop} (hK:∀ act' W',RX Z ops a0 ex k s0 n0 β0 W0 (And1 S i) act' W'->K act' W') :
  wpOpIn (FW ro) 0 Z.P ops Q i K act W:=by
 obtain⟨n,ms,vs,a,h,val,β,R⟩:=hx
 obtain⟨r,hri,hr⟩:=infs_at hi
 obtain⟨h1,h2,h3,h4,h5⟩:=infs_get hri
 subst h1
 have hb:∀ p∈r.bs,S p:=h4 S R.down hready
 have hbd:∀ p∈r.bs,dn ms vs p:=fun p hp=>by
  have hs:=hb p hp
  obtain⟨q,q1,q2⟩:=infs_at (R.lt p hs)
  have q3:=(infs_get q1).1
  subst q3
  cases hm:q.m with
  |true=>exact .inl (R.sm q q2 hs hm)
  |false=>exact .inr (R.sv q q2 hs hm)
 have hRB:RB ops a0 β val r act:=by
  refine⟨R.size,R.gl,fun p hp t ht hd=>(R.regs t ht).1 p (hb p hp) hd,fun t v ht hv hq=>(R.regs t ht).2 (fun p hp hd=>?_) v hv⟩
  obtain⟨q,q1,q2,q3⟩:=dstAt_mem hd
  subst q2
  rcases List.mem_cons.1 (hq q q1 q3) with z|z
  ·rw[<-z] at hp;exact hS hp
  ·have:=(infs_get (infs_mem q1)).2.2.2.1 S R.down (fun o ho=>R.down _ o ho hp) _ z
   exact hS this
 have hdown:Down ops (And1 S r.i):=R.down.add hready
 have hlt:∀ j,And1 S r.i j->j<ops.size:=fun j hj=>by
  rcases hj with rfl|hj
  ·exact hi
  ·exact R.lt j hj
 have huniq:∀ q∈infs ops,q.i=r.i->q=r:=fun q hq hqi=>by
  have x1:=infs_mem hq
  rw[hqi,hri] at x1;cases x1;rfl
 cases hm:r.m with
 |false=>
  have hv:r.i∈vs:=fullV_true R.full r hr hm hbd
  have hna:aheadOf (infs ops) r.i ms=false:=by
   cases ha:aheadOf (infs ops) r.i ms with
   |false=>rfl
   |true=>
    obtain⟨m,m1,m2⟩:=aheadOf_true ha
    obtain⟨q,q1,q2,q3⟩:=bsAt_of m2
    subst q2
    have hsm:=R.sms _ m1
    exact absurd ((infs_get (infs_mem q1)).2.2.2.1 S R.down (fun o ho=>R.down _ o ho hsm) _ q3) hS
  have hVF:=R.pre.late r hr hm hv hna
  have fin:∀ x,(∀ t,r.o.dst=some t->VR β (val r.i) x)->RX Z ops a0 ex k s0 n0 β0 W0 (And1 S r.i) (act.put r.o.dst x) W:=by
   intro x hx
   obtain⟨p1,p2⟩:=regs_put hfit hr (β':=β) (val':=val) R.size (Ext.refl β) R.regs (fun _ _=>rfl) hx
   refine⟨n,ms,vs,a,h,val,β,R.pre,R.full,R.eq,hdown,hlt,fun q hq hs hqm=>?_,fun j hj=>.inr (R.sms j hj),fun q hq hs hqm=>?_,R.sim,R.st,R.le,p1,R.gl,?_,R.sle,p2⟩
   ·rcases hs with hs|hs
    ·rw[huniq q hq hs,hm] at hqm;cases hqm
    ·exact R.sm q hq hs hqm
   ·rcases hs with hs|hs
    ·rw[hs];exact hv
    ·exact R.sv q hq hs hqm
   ·cases r.o.dst<;>exact R.ds
  have hpure:pureOp r.o.op=true:=notB_false (by rw[<-h3];exact hm)
  simp only[wpOpIn,h2]
  rcases hVF β W act R.sim hRB with ⟨w1,x,w2,w3⟩|⟨w1,w2⟩
  ·rw[w1,if_pos rfl]
   refine⟨fun f _=>trivial,?_⟩
   rw[Oper.semAt_eq _ _ _ (fun c hc=>by rw[hc] at hpure;cases hpure),w2]
   exact hK _ _ (fin x w3)
  ·rw[w1]
   exact⟨fun f _=>trivial,hK _ _ (fin undef fun t ht=>by rw[w2 t ht];simp[VR,undefA,undef,VRs])⟩
 |true=>
  have hnm:r.i ∉ ms:=fun q=>hS (R.sms _ q)
  have hrd:r∈readyM (infs ops) ms vs:=readyM_iff.2 ⟨hr,hm,hnm,hbd⟩
  have he:=R.eq
  unfold restK at he
  split at he
  ·rename_i hnil;rw[hnil] at hrd;cases hrd
  ·rename_i r1 l hcons
   have e:=effK_mem he (by rw[<-hcons];exact hrd)
   obtain⟨b,e,hb'⟩:=frame_ok hfit hn R.pre.g hbd e
   refine operK_ok hZ hex h2 e R.sim (hb' β act hRB) ?_
   intro v h' β' x W' q1 q2 q3 q4 q5
   have hnd:¬ dn ms vs r.i:=by
    rintro(q|q)
    ·exact hnm q
    ·rw[R.pre.vv r hr q] at hm;cases hm
   obtain⟨a1,e1,hG1⟩:=R.pre.g.put hn hr hnd (d':=dn (r.i::ms) vs) (fun p=>by simp only[dn,List.mem_cons];exact or_assoc) (v:=v) (k:=fun a=>sameVs Z ops (infs ops) a0 (lateV (infs ops) (infs ops) (r.i::ms) vs) a h' fun a=>drawK Z ops (infs ops) ex a0 n (r.i::ms) vs a h' k) q1
   have hle:∀ p,dn ms vs p->dn (r.i::ms) vs p:=fun p hp=>by
    rcases hp with q|q
    ·exact .inl (by simp[q])
    ·exact .inr q
   obtain⟨e2,hlate⟩:=sameVs_ok hfit hn hG1 _ (fun q hq=>by
    obtain⟨m1,m2,m3,_⟩:=lateV_iff.1 hq
    exact⟨m1,m2,.inr m3,fun p hp=>hle p (R.pre.bs q m1 (.inr m3) p hp)⟩) e1
   have hpre:Pre Z.P ops a0 (r.i::ms) vs a1 h' (fun p=>if p=r.i then v else val p):=by
    refine⟨hG1,fun q hq hqm hqv hqa=>hlate q (lateV_iff.2 ⟨hq,hqm,hqv,hqa⟩),fun q hq hqd p hp=>?_,fun q hq hqi=>?_,R.pre.vv⟩
    ·rcases hqd with z|z
     ·rcases List.mem_cons.1 z with z|z
      ·rw[huniq q hq z] at hp;exact hle p (hbd p hp)
      ·exact hle p (R.pre.bs q hq (.inl z) p hp)
     ·exact hle p (R.pre.bs q hq (.inr z) p hp)
    ·rcases List.mem_cons.1 hqi with z|z
     ·rw[huniq q hq z];exact hm
     ·exact R.pre.mm q hq z
   obtain⟨n',vs',a2,val2,s1,s2,s3,s4,s5⟩:=stage_ok hfit hn e2 hpre
   have hval:∀ p,S p->val2 p=val p:=fun p hp=>by
    have hne:p≠r.i:=fun c=>hS (c ▸ hp)
    have hd:dn ms vs p:=by
     obtain⟨q,w1,w2⟩:=infs_at (R.lt p hp)
     have w3:=(infs_get w1).1
     subst w3
     cases hqm:q.m with
     |true=>exact .inl (R.sm q w2 hp hqm)
     |false=>exact .inr (R.sv q w2 hp hqm)
    rw[s4 p (hle p hd)];simp only[hne,if_false]
   have hself:val2 r.i=v:=by rw[s4 r.i (.inl (by simp))];simp
   obtain⟨p1,p2⟩:=regs_put hfit hr (β':=β') (val':=val2) (x:=x) R.size q5.ext R.regs hval (fun t _=>by rw[hself];exact q4)
   refine hK _ _ ⟨n',r.i::ms,vs',a2,h',val2,β',s1,s2,s3,hdown,hlt,fun q hq hs hqm=>?_,fun j hj=>?_,fun q hq hs hqm=>?_,q3,R.st.trans q5 R.le,Nat.le_trans R.le q2,p1,fun g hg=>?_,?_,Nat.le_trans R.sle q5.size,p2⟩
   ·rcases hs with hs|hs
    ·rw[hs];simp
    ·simp[R.sm q hq hs hqm]
   ·rcases List.mem_cons.1 hj with rfl|hj
    ·exact .inl rfl
    ·exact .inr (R.sms j hj)
   ·rcases hs with hs|hs
    ·rw[huniq q hq hs,hm] at hqm;cases hqm
    ·exact s5 _ (R.sv q hq hs hqm)
   ·obtain⟨κ,hκ⟩:=R.gl g hg
    exact⟨κ,q5.ext _ _ hκ⟩
   ·have:=R.ds.step q5
    cases r.o.dst<;>exact this
theorem draw_end(hfit:fitI (infs ops)=true)(hn:a0.n<=512){S:Nat->Prop}{act:Act}{W:World}(hx:RX Z ops a0 ex k s0 n0 β0 W0 S act W)(hall:∀ i,i<ops.size->S i) :
  ∃ a h β,k a h=true/\n0.toNat<=h.next.toNat/\St s0 β h W a act/\Step n0 β0 W0 β W:=by
 obtain⟨n,ms,vs,a,h,val,β,R⟩:=hx
 have hnil:readyM (infs ops) ms vs=[]:=by
  cases hr:readyM (infs ops) ms vs with
  |nil=>rfl
  |cons r l=>
   have:r∈readyM (infs ops) ms vs:=by rw[hr];simp
   obtain⟨q1,q2,q3,_⟩:=readyM_iff.1 this
   have hlt:r.i<ops.size:=by
    have:=(infs_get (infs_mem q1)).2.1
    rcases Nat.lt_or_ge r.i ops.size with z|z
    ·exact z
    ·rw[Array.getElem?_eq_none z] at this;cases this
   exact absurd (R.sm r q1 (hall _ hlt) q2) q3
 have he:=R.eq
 unfold restK at he
 rw[hnil] at he
 refine⟨a,h,β,he,R.le,⟨R.sim,⟨by rw[R.size,R.pre.g.n],by rw[R.pre.g.n];exact hn,fun t v ht hv=>?_,R.gl⟩,R.ds,R.sle⟩,R.st⟩
 rw[R.pre.g.n] at ht
 have hdnall:∀ p,S p->dn ms vs p:=fun p hp=>by
  obtain⟨q,w1,w2⟩:=infs_at (R.lt p hp)
  have w3:=(infs_get w1).1
  subst w3
  cases hqm:q.m with
  |true=>exact .inl (R.sm q w2 hp hqm)
  |false=>exact .inr (R.sv q w2 hp hqm)
 rcases R.pre.g.at_ t ht with ⟨g1,g2⟩|⟨p,g1,g2,g3⟩
 ·exact(R.regs t ht).2 (fun p hp=>g1 p (hdnall p hp)) v (by rw[<-g2];exact hv)
 ·rw[hv] at g3;cases g3
  obtain⟨q,q1,q2,q3⟩:=dstAt_mem g2
  refine(R.regs t ht).1 p (hall p ?_) g2
  have:=(infs_get (infs_mem q1)).2.1
  rw[q2] at this
  rcases Nat.lt_or_ge p ops.size with z|z
  ·exact z
  ·rw[Array.getElem?_eq_none z] at this;cases this
end
end
end Go.Abs
