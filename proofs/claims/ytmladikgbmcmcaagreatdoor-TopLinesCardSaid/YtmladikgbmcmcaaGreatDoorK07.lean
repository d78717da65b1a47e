/- a part of the proof of TopLines. -/
import Derived.Test.YtmladikgbmcmcaaGreatDoorK06
import Derived.Below
import Derived.Laws.LoneSync
import Derived.Lib.Builder
set_option linter.all false
namespace Go.Abs
open Go
noncomputable section
section
variable {Z:E} {ops:Array Oper} {a0:Fr} {ex:Doer} {k:Fr→H→Bool} {ro:Option Nat} {s0:Nat} {n0:A} {β0:Pl} {W0:World}
def Ls(l:Array Bool):Nat->Prop:=fun i=>l.getD i false=true
theorem getD_listed(l:Array Bool)(i j:Nat)(hi:i<l.size):(l.setIfInBounds i true).getD j false=if j=i then true else l.getD j false:=by
 simp only[Array.getD_eq_getD_getElem?,Array.getElem?_setIfInBounds]
 by_cases h:j=i
 ·subst h;simp[hi]
 ·have:¬ i=j:=fun e=>h e.symm
  simp[h,this]
theorem Ls.set{l:Array Bool}{i:Nat}(hi:i<l.size):Ls (l.setIfInBounds i true)=And1 (Ls l) i:=by
 funext j
 apply propext
 unfold Ls And1
 rw[getD_listed _ _ _ hi]
 by_cases h:j=i
 ·simp[h]
 ·simp[h]
theorem listed_same(l:Array Bool)(i:Nat)(hi:i<l.size):l.getD i true=l.getD i false:=by
 simp only[Array.getD_eq_getD_getElem?,Array.getElem?_eq_getElem hi];rfl
theorem mem_ready{l:Array Bool}(hl:l.size=ops.size){i:Nat}:i∈Region.ready .any ops l↔i<ops.size/\¬ Ls l i/\∀ o,ops[i]?=some o->∀ e∈edgesOf o.after.toList,Ls l e:=by
 unfold Region.ready
 rw[List.mem_filter,List.mem_range]
 constructor
 ·rintro⟨h1,h2⟩
  rw[Bool.and_eq_true,listed_same l i (by omega)] at h2
  refine⟨h1,fun q=>by rw[q] at h2;simp at h2,fun o ho e he=>?_⟩
  have h3:=h2.2
  rw[ho] at h3
  simp only[Option.map_some,Option.getD_some] at h3
  obtain⟨x,x1,x2,rfl⟩:=mem_edgesOf.1 he
  have:=(Array.all_eq_true'.1 h3) x (by simpa using x1)
  rw[x2] at this
  show l.getD x.on false=true
  simpa only[Bool.not_true,Bool.false_or] using this
 ·rintro⟨h1,h2,h3⟩
  refine⟨h1,?_⟩
  rw[Bool.and_eq_true,listed_same l i (by omega)]
  refine⟨by unfold Ls at h2;simpa using h2,?_⟩
  have ho:ops[i]?=some ops[i]:=Array.getElem?_eq_getElem h1
  rw[ho]
  simp only[Option.map_some,Option.getD_some]
  rw[Array.all_eq_true']
  intro x hx
  cases hb:Region.binds .any x with
  |false=>rfl
  |true=>
   have:=h3 _ ho x.on (mem_edgesOf.2 ⟨x,by simpa using hx,hb,rfl⟩)
   unfold Ls at this
   rw[this];rfl
theorem ready_nil{l:Array Bool}(hl:l.size=ops.size)(hlow:lowI (infs ops)=true)(h:Region.ready .any ops l=[]):∀ i,i<ops.size->Ls l i:=by
 intro i
 induction i using Nat.strongRecOn with
 |_ i ih=>
  intro hi
  apply Classical.byContradiction
  intro hn
  have:i∈Region.ready .any ops l:=(mem_ready hl).2 ⟨hi,hn,fun o ho e he=>?_⟩
  ·rw[h] at this;cases this
  ·obtain⟨r,h1,h2⟩:=infs_at hi
   obtain⟨a,b,_,_,c⟩:=infs_get h1
   rw[ho] at b;cases b
   have:=lowI_true hlow r h2 e (c e he)
   rw[a] at this
   exact ih e this (by omega)
theorem filt_le{α:Type}{p q:α->Bool}(h:∀ x,q x=true->p x=true):∀ l:List α,(l.filter q).length<=(l.filter p).length
 |[]=>Nat.le_refl _
 |x::l=>by
  have ih:=filt_le h l
  cases hq:q x with
  |true=>simp[hq,h x hq,ih]
  |false=>
   cases hp:p x with
   |true=>simp[hq,hp];omega
   |false=>simp[hq,hp,ih]
theorem filt_lt{α:Type}{p q:α->Bool}(h:∀ x,q x=true->p x=true){i:α}(hp:p i=true)(hq:q i=false):∀ l:List α,i∈l->(l.filter q).length<(l.filter p).length
 |[],hi=>by cases hi
 |x::l,hi=>by
  rcases List.mem_cons.1 hi with rfl|hi
  ·have:=filt_le h l
   simp[hp,hq];omega
  ·have ih:=filt_lt h hp hq l hi
   cases hqx:q x with
   |true=>simp[hqx,h x hqx,ih]
   |false=>
    cases hpx:p x with
    |true=>simp[hqx,hpx];omega
    |false=>simp[hqx,hpx,ih]
def unl(ops:Array Oper)(l:Array Bool):Nat:=((List.range ops.size).filter fun i=>!l.getD i false).length
theorem draw_any(hZ:ZOK Z)(hex:DoerOK Z.P ex)(hfit:fitI (infs ops)=true)(hn:a0.n<=512){Q:Exit->Act->World->Prop}(hQ:∀ a h β act W,k a h=true->n0.toNat<=h.next.toNat->St s0 β h W a act->Step n0 β0 W0 β W->Q .normal act W) :
  ∀ (fuel:Nat) (l:Array Bool) (act:Act) (W:World),l.size=ops.size->unl ops l<=fuel->RX Z ops a0 ex k s0 n0 β0 W0 (Ls l) act W->wpAnyIn (FW ro) 0 Z.P .any ops Q fuel l act W
 |0,l,act,W,hl,hu,hx=>by
  have hall:∀ i,i<ops.size->Ls l i:=by
   intro i hi
   apply Classical.byContradiction
   intro hc
   have:i∈(List.range ops.size).filter fun i=>!l.getD i false:=List.mem_filter.2 ⟨List.mem_range.2 hi,by unfold Ls at hc;simpa using hc⟩
   have:=List.length_pos_of_mem this
   unfold unl at hu;omega
  refine⟨?_,?_⟩
  ·cases hr:Region.ready .any ops l with
   |nil=>rfl
   |cons i r=>
    have:i∈Region.ready .any ops l:=by rw[hr];simp
    obtain⟨q1,q2,_⟩:=(mem_ready hl).1 this
    exact absurd (hall i q1) q2
  ·obtain⟨a,h,β,r1,r2,r3,r4⟩:=draw_end hfit hn hx hall
   exact hQ a h β act W r1 r2 r3 r4
 |fuel+1,l,act,W,hl,hu,hx=>by
  refine⟨fun hnil=>?_,fun i hi=>?_⟩
  ·obtain⟨a,h,β,r1,r2,r3,r4⟩:=draw_end hfit hn hx (ready_nil hl (fitI_true hfit).2 hnil)
   exact hQ a h β act W r1 r2 r3 r4
  ·obtain⟨q1,q2,q3⟩:=(mem_ready hl).1 hi
   refine draw_step hZ hex hfit hn hx q1 q2 q3 fun act' W' hx'=>?_
   rw[<-Ls.set (by omega)] at hx'
   refine draw_any hZ hex hfit hn hQ fuel _ act' W' (by simpa using hl) ?_ hx'
   have:unl ops (l.setIfInBounds i true)<unl ops l:=by
    refine filt_lt (fun x hx=>?_) ?_ ?_ (List.range ops.size) (List.mem_range.2 q1) (i:=i)
    ·simp only[getD_listed _ _ _ (show i<l.size by omega)] at hx
     by_cases c:x=i
     ·simp[c] at hx
     ·simpa[c] using hx
    ·unfold Ls at q2;simpa using q2
    ·simp only[getD_listed _ _ _ (show i<l.size by omega)];simp
   omega
theorem cDraw_ok(hZ:ZOK Z)(hex:DoerOK Z.P ex){id:Nat}{a:Fr}{h:H}{k:Ex->Fr->H->Bool}(e:cDraw Z ops ex a h k=true){β:Pl}{W:World}{act:Act}(hst:St s0 β h W a act) :
  wpIt ro Z.P [.code (.region id ops true)] (Left k s0 h β W) act W:=by
 unfold cDraw at e
 split at e
 ·rename_i hfit
  have hn:a.n<=512:=hst.fr.le
  let W1:World:={ W with drawn:=W.drawn+1 }
  have hs1:Sim β h W1:=⟨hst.sim.live,hst.sim.fresh,hst.sim.inj,hst.sim.bound,hst.sim.high⟩
  have hstp:Step h.next β W β W1:=⟨Ext.refl β,fun _ _ h=>.inl h,fun x r κ h=>.inl ⟨x,κ,h⟩,Nat.le_refl _,fun _ _ _=>rfl,fun _ lp h=>⟨lp,h,rfl⟩,⟨rfl,rfl,rfl⟩,fun _ _=>rfl⟩
  have hpre:Pre Z.P ops a [] [] a h (fun _=>undefA):=by
   refine⟨⟨rfl,fun t ht=>.inl ⟨fun p hp=>?_,rfl⟩⟩,fun r _ _ hv=>?_,fun r _ hd=>?_,fun r _ hv=>?_,fun r _ hv=>?_⟩
   ·rcases hp with q|q<;>cases q
   ·cases hv
   ·rcases hd with q|q<;>cases q
   ·cases hv
   ·cases hv
  obtain⟨n',vs',a2,val2,s1,s2,s3,s4,s5⟩:=stage_ok (Z:=Z) hfit hn e hpre
  refine Zar.2 (wpIn_region_any hZ.mixed ?_)
  refine draw_any (a0:=a) (ex:=ex) (k:=fun a h=>k .normal a h) (s0:=s0) (n0:=h.next) (β0:=β) (W0:=W) hZ hex hfit hn (fun a' h' β' act' W' q1 q2 q3 q4=>⟨.normal,a',h',β',rfl,q1,q2,q3,q4⟩) ops.size _ act W1 (by simp) ?_ ?_
  ·unfold unl
   have:=List.length_filter_le (fun i=>!(Array.replicate ops.size false).getD i false) (List.range ops.size)
   simpa using this
  ·have hno:∀ i,¬ Ls (Array.replicate ops.size false) i:=by
    intro i hi
    unfold Ls at hi
    rw[Array.getD_eq_getD_getElem?] at hi
    by_cases c:i<ops.size
    ·simp[c] at hi
    ·simp[c] at hi
   refine⟨n',[],vs',a2,h,val2,β,s1,s2,s3,fun i o _ hi=>absurd hi (hno i),fun i hi=>absurd hi (hno i),fun r _ hi=>absurd hi (hno _),(fun i hi=>by cases hi),fun r _ hi=>absurd hi (hno _),hs1,hstp,Nat.le_refl _,hst.fr.size,hst.fr.gl,hst.ds.step hstp,hst.le,fun t ht=>⟨fun p hp=>absurd hp (hno p),fun _ v hv=>hst.fr.reg t v ht hv⟩⟩
 ·cases e
end
theorem jobOf_ok{Z:E}(hZ:ZOK Z){ex:Doer}(hex:DoerOK Z.P ex):DoerOK Z.P (fun j=>jobOf Z j ex):=by
 intro j a h k e ro s0 β W act hro hst its hi
 cases j with
 |inScope r c=>
  simp only[starts,List.mem_cons,List.not_mem_nil,or_false] at hi
  subst hi
  exact cScope_ok hex e hro hst
 |code c=>
  cases c with
  |loop c=>exact cLoop_ok hex e hro hst its hi
  |skip=>
   simp only[starts,List.mem_cons,List.not_mem_nil,or_false] at hi;subst hi
   exact cSkip_ok e hst
  |label l=>
   simp only[starts,List.mem_cons,List.not_mem_nil,or_false] at hi;subst hi
   exact cLabel_ok e hst
  |region id ops d=>
   simp only[starts,List.mem_cons,List.not_mem_nil,or_false] at hi;subst hi
   cases d with
   |true=>exact cDraw_ok hZ hex e hst
   |false=>exact cRegion_ok hZ hex e hro hst
  |seq x y=>
   simp only[starts,List.mem_cons,List.not_mem_nil,or_false] at hi;subst hi
   exact cSeq_ok hex e hro hst
  |cond c x y=>
   simp only[starts,List.mem_cons,List.not_mem_nil,or_false] at hi;subst hi
   exact cCond_ok hex e hro hst
  |block i c=>
   simp only[starts,List.mem_cons,List.not_mem_nil,or_false] at hi;subst hi
   exact cBlock_ok hex e hro hst
  |rangeFunc f ps as body=>
   simp only[starts,List.mem_cons,List.not_mem_nil,or_false] at hi;subst hi
   exact cRangeFunc_ok hZ hex e hro hst
  |exit i=>
   simp only[starts,List.mem_cons,List.not_mem_nil,or_false] at hi;subst hi
   exact cExit_ok e hst
  |goto l=>
   simp only[starts,List.mem_cons,List.not_mem_nil,or_false] at hi;subst hi
   exact cGoto_ok e hst
  |ret=>
   simp only[starts,List.mem_cons,List.not_mem_nil,or_false] at hi;subst hi
   exact cRet_ok e hst
  |scope c=>
   simp only[starts,List.mem_cons,List.not_mem_nil,or_false] at hi;subst hi
   exact wpIt_scope0 (cScope_ok hex e hro hst)
  |refuse r=>cases e
theorem exec_ok{Z:E}(hZ:ZOK Z):∀ n,DoerOK Z.P (exec Z n)
 |0=>fun j a h k e=>by cases e
 |n+1=>jobOf_ok hZ (exec_ok hZ n)
end
end Go.Abs
namespace Go.Abs
open Go Go.RowKit
noncomputable section
variable {P:Program}
theorem Sim.below{β:Pl}{h:H}{W W':World}(hs:Sim β h W)(hb:Below W.heap.size W W')(n:A):Sim β h W'/\Step n β W β W':=by
 refine⟨⟨fun x b e=>?_,hs.fresh,hs.inj,fun x r κ e=>Nat.lt_of_lt_of_le (hs.bound x r κ e) hb.size,⟨Nat.le_trans hs.high.1 hb.size,hs.high.2⟩⟩,⟨Ext.refl β,fun _ _ e=>.inl e,fun x r κ e=>.inl ⟨x,κ,e⟩,hb.size,fun r hr _=>hb.block r hr,fun r lp e=>⟨lp,by rw[hb.block r (lt_of_some e)];exact e,rfl⟩,⟨hb.os,hb.tape,hb.output⟩,fun r hr=>hb.block r (Nat.lt_of_lt_of_le hr hs.high.1)⟩⟩
 obtain⟨r,κ,e1,e2⟩:=hs.live x b e
 exact⟨r,κ,e1,by rw[hb.block r (hs.bound _ _ _ e1)];exact e2⟩
theorem callR_of {f : FuncId} {fn : Func} {c : Code} (hf : P.funcs[f]? = some fn) (hn : (fn.name == "runtime.NumGoroutine") = false) (hb : fn.body = some c) {args : Array Value} {W : World} {R : Value → World → Prop}
  (h:Calls P f args W fun e w'=>∃ x,e=.returned x/\R x w'):CallR P f args W R:=
 .inr ⟨funcs_enter hf hn hb args W,callsIn_wide.2 h⟩
theorem orc_below {f : FuncId} {fn : Func} {c : Code} (hf : P.funcs[f]? = some fn) (hn : (fn.name == "runtime.NumGoroutine") = false) (hb : fn.body = some c) {args : Array Value} {β : Pl} {h : H} {W : World} (hs : Sim β h W) {v : AV} {x : Value} (hv : VR β v x)
  (hc:Calls P f args W fun e w'=>e=.returned x/\Below W.heap.size W w'):CallR P f args W fun x W'=>∃ β',h.next.toNat<=h.next.toNat/\Sim β' h W'/\VR β' v x/\Step h.next β W β' W':=by
 refine callR_of hf hn hb (hc.mono ?_)
 rintro e w' ⟨rfl,hb⟩
 obtain⟨s1,s2⟩:=hs.below hb h.next
 exact⟨x,rfl,β,Nat.le_refl _,s1,hv,s2⟩
mutual
/-- what is said of a value that was known before, in a wider map, holds in the old one -/
theorem VR.back{β β':Pl}(he:Ext β β'):∀ (a:AV) (u v:Value),VR β a u->VR β' a v->VR β a v
 |.int _ _,_,_,_,e|.bool _,_,_,_,e|.str _,_,_,_,e|.nilp,_,_,_,e|.nils,_,_,_,e|.sln,_,_,_,e|.nilm,_,_,_,e|.nilf,_,_,_,e|.ife,_,_,_,e|.uni,_,_,_,e|.err _,_,_,_,e|.nili,_,_,_,e=>by simpa only[VR] using e
 |.ptr x off,u,v,h,e=>by
  simp only[VR] at h e ⊢
  obtain⟨r,κ,hb,_⟩:=h
  obtain⟨r',κ',hb',hv⟩:=e
  rw[he _ _ hb] at hb';cases hb'
  exact⟨r,κ,hb,hv⟩
 |.sl x off len cap,u,v,h,e=>by
  simp only[VR] at h e ⊢
  obtain⟨r,κ,hb,_⟩:=h
  obtain⟨r',κ',hb',hv⟩:=e
  rw[he _ _ hb] at hb';cases hb'
  exact⟨r,κ,hb,hv⟩
 |.slu x off len sz,u,v,h,e=>by
  simp only[VR] at h e ⊢
  obtain⟨r,κ,_,hb,_⟩:=h
  obtain⟨r',κ',c,hb',hv⟩:=e
  rw[he _ _ hb] at hb';cases hb'
  exact⟨r,κ,c,hb,hv⟩
 |.sle x,u,v,h,e=>by
  simp only[VR] at h e ⊢
  obtain⟨r,κ,_,_,hb,_⟩:=h
  obtain⟨r',κ',o,c,hb',hv⟩:=e
  rw[he _ _ hb] at hb';cases hb'
  exact⟨r,κ,o,c,hb,hv⟩
 |.map x,u,v,h,e=>by
  simp only[VR] at h e ⊢
  obtain⟨r,κ,hb,_⟩:=h
  obtain⟨r',κ',hb',hv⟩:=e
  rw[he _ _ hb] at hb';cases hb'
  exact⟨r,κ,hb,hv⟩
 |.yld x,u,v,h,e=>by
  simp only[VR] at h e ⊢
  obtain⟨r,κ,hb,_⟩:=h
  obtain⟨r',κ',hb',hv⟩:=e
  rw[he _ _ hb] at hb';cases hb'
  exact⟨r,κ,hb,hv⟩
 |.fn f m l,u,v,h,e=>by
  simp only[VR] at h e ⊢
  obtain⟨a,b,_,h1,h2⟩:=h
  obtain⟨a',b',hv,e1,e2⟩:=e
  exact⟨a',b',hv,VRs.back he m a a' h1 e1,VRs.back he l b b' h2 e2⟩
 |.ifc t x,u,v,h,e=>by
  simp only[VR] at h e ⊢
  obtain⟨y,_,h1⟩:=h
  obtain⟨y',hv,e1⟩:=e
  exact⟨y',hv,VR.back he x y y' h1 e1⟩
 |.agg l,u,v,h,e=>by
  simp only[VR] at h e ⊢
  obtain⟨vs,_,h1,h2⟩:=h
  obtain⟨vs',hv,e1,_⟩:=e
  exact⟨vs',hv,VRs.back he l vs vs' h1 e1,h2⟩
 |.tup l,u,v,h,e=>by
  simp only[VR] at h e ⊢
  obtain⟨vs,_,h1⟩:=h
  obtain⟨vs',hv,e1⟩:=e
  exact⟨vs',hv,VRs.back he l vs vs' h1 e1⟩
theorem VRs.back{β β':Pl}(he:Ext β β'):∀ (l:List AV) (us vs:List Value),VRs β l us->VRs β' l vs->VRs β l vs
 |[],us,vs,_,e=>by simpa only[VRs] using e
 |a::l,us,vs,h,e=>by
  simp only[VRs] at h e ⊢
  obtain⟨u,us',_,h1,h2⟩:=h
  obtain⟨v,ws,hv,e1,e2⟩:=e
  exact⟨v,ws,hv,VR.back he a u v h1 e1,VRs.back he l us' ws h2 e2⟩
end
mutual
/-- a value without a place -/
def AV.free:AV->Bool
 |.int _ _|.bool _|.str _|.nilp|.nils|.sln|.nilm|.nilf|.ife|.uni|.err _|.nili=>true
 |.ifc _ v=>v.free
 |.agg l=>AV.frees l
 |.tup l=>AV.frees l
 |.fn _ m l=>AV.frees m&&AV.frees l
 |_=>false
def AV.frees:List AV->Bool
 |[]=>true
 |a::l=>a.free&&AV.frees l
end
mutual
theorem VR.free{β β':Pl}:∀ (a:AV) (v:Value),a.free=true->VR β a v->VR β' a v
 |.int _ _,_,_,e|.bool _,_,_,e|.str _,_,_,e|.nilp,_,_,e|.nils,_,_,e|.sln,_,_,e|.nilm,_,_,e|.nilf,_,_,e|.ife,_,_,e|.uni,_,_,e|.err _,_,_,e|.nili,_,_,e=>by simpa only[VR] using e
 |.ptr _ _,_,h,_|.sl _ _ _ _,_,h,_|.slu _ _ _ _,_,h,_|.sle _,_,h,_|.map _,_,h,_|.yld _,_,h,_=>by simp[AV.free] at h
 |.ifc t x,v,h,e=>by
  simp only[VR] at e ⊢
  simp only[AV.free] at h
  obtain⟨y,hv,h1⟩:=e
  exact⟨y,hv,VR.free x y h h1⟩
 |.fn f m l,v,h,e=>by
  simp only[VR] at e ⊢
  simp only[AV.free,Bool.and_eq_true] at h
  obtain⟨a,b,hv,h1,h2⟩:=e
  exact⟨a,b,hv,VRs.free m a h.1 h1,VRs.free l b h.2 h2⟩
 |.agg l,v,h,e=>by
  simp only[VR] at e ⊢
  simp only[AV.free] at h
  obtain⟨vs,hv,h1,h2⟩:=e
  exact⟨vs,hv,VRs.free l vs h h1,h2⟩
 |.tup l,v,h,e=>by
  simp only[VR] at e ⊢
  simp only[AV.free] at h
  obtain⟨vs,hv,h1⟩:=e
  exact⟨vs,hv,VRs.free l vs h h1⟩
theorem VRs.free{β β':Pl}:∀ (l:List AV) (vs:List Value),AV.frees l=true->VRs β l vs->VRs β' l vs
 |[],vs,_,e=>by simpa only[VRs] using e
 |a::l,vs,h,e=>by
  simp only[VRs] at e ⊢
  simp only[AV.frees,Bool.and_eq_true] at h
  obtain⟨v,ws,hv,h1,h2⟩:=e
  exact⟨v,ws,hv,VR.free a v h.1 h1,VRs.free l ws h.2 h2⟩
end
theorem BR.back{β β':Pl}(he:Ext β β'){b:Blk}{o o':Option Obj}{κ κ':Nat}(h:BR β b o κ)(e:BR β' b o' κ'):BR β b o' κ':=by
 cases b with
 |cells l k=>
  obtain⟨c,t,fr,h1,h2,h3,h4,h5⟩:=h
  obtain⟨c',t',fr',e1,e2,e3,e4,e5⟩:=e
  exact⟨c',t',fr',e1,e2,e3,VRs.back he _ _ _ h4 e4,e5⟩
 |map es=>
  obtain⟨c,t,h1,h2,h3⟩:=h
  obtain⟨c',t',e1,e2,e3⟩:=e
  exact⟨c',t',e1,VRs.back he _ _ _ h2 e2,VRs.back he _ _ _ h3 e3⟩
 |iter s all pos=>exact e
 |loop n regs ps as body st=>
  obtain⟨lp,h1,h2,h3,h4,h5⟩:=h
  obtain⟨lp',e1,e2,e3,e4,e5⟩:=e
  refine⟨lp',e1,e2,e3,fun t v ht hv=>VR.back he v _ _ (h4 t v ht hv) (e4 t v ht hv),e5⟩
 |dead=>exact e
mutual
/-- the places that a value names are known -/
def AV.under(n:A->Bool):AV->Bool
 |.ptr x _|.sl x _ _ _|.slu x _ _ _|.sle x|.map x|.yld x=>n x
 |.ifc _ v=>v.under n
 |.agg l=>AV.unders n l
 |.tup l=>AV.unders n l
 |.fn _ m l=>AV.unders n m&&AV.unders n l
 |_=>true
def AV.unders(n:A->Bool):List AV->Bool
 |[]=>true
 |a::l=>a.under n&&AV.unders n l
end
def Pl.cut(β:Pl)(n:A->Bool):Pl:=fun x=>if n x=true then β x else none
theorem Pl.cut_ext(β:Pl)(n:A->Bool):Ext (β.cut n) β:=by
 intro x p e
 simp only[Pl.cut] at e
 split at e
 ·exact e
 ·cases e
mutual
theorem VR.cut{β:Pl}{n:A->Bool}:∀ (a:AV) (v:Value),a.under n=true->VR β a v->VR (β.cut n) a v
 |.int _ _,_,_,e|.bool _,_,_,e|.str _,_,_,e|.nilp,_,_,e|.nils,_,_,e|.sln,_,_,e|.nilm,_,_,e|.nilf,_,_,e|.ife,_,_,e|.uni,_,_,e|.err _,_,_,e|.nili,_,_,e=>by simpa only[VR] using e
 |.ptr x off,v,h,e=>by
  simp only[VR] at e ⊢;simp only[AV.under] at h
  obtain⟨r,κ,hb,hv⟩:=e;exact⟨r,κ,by simp[Pl.cut,h,hb],hv⟩
 |.sl x off len cap,v,h,e=>by
  simp only[VR] at e ⊢;simp only[AV.under] at h
  obtain⟨r,κ,hb,hv⟩:=e;exact⟨r,κ,by simp[Pl.cut,h,hb],hv⟩
 |.slu x off len sz,v,h,e=>by
  simp only[VR] at e ⊢;simp only[AV.under] at h
  obtain⟨r,κ,c,hb,hv⟩:=e;exact⟨r,κ,c,by simp[Pl.cut,h,hb],hv⟩
 |.sle x,v,h,e=>by
  simp only[VR] at e ⊢;simp only[AV.under] at h
  obtain⟨r,κ,o,c,hb,hv⟩:=e;exact⟨r,κ,o,c,by simp[Pl.cut,h,hb],hv⟩
 |.map x,v,h,e=>by
  simp only[VR] at e ⊢;simp only[AV.under] at h
  obtain⟨r,κ,hb,hv⟩:=e;exact⟨r,κ,by simp[Pl.cut,h,hb],hv⟩
 |.yld x,v,h,e=>by
  simp only[VR] at e ⊢;simp only[AV.under] at h
  obtain⟨r,κ,hb,hv⟩:=e;exact⟨r,κ,by simp[Pl.cut,h,hb],hv⟩
 |.ifc t x,v,h,e=>by
  simp only[VR] at e ⊢
  simp only[AV.under] at h
  obtain⟨y,hv,h1⟩:=e
  exact⟨y,hv,VR.cut x y h h1⟩
 |.fn f m l,v,h,e=>by
  simp only[VR] at e ⊢
  simp only[AV.under,Bool.and_eq_true] at h
  obtain⟨a,b,hv,h1,h2⟩:=e
  exact⟨a,b,hv,VRs.cut m a h.1 h1,VRs.cut l b h.2 h2⟩
 |.agg l,v,h,e=>by
  simp only[VR] at e ⊢
  simp only[AV.under] at h
  obtain⟨vs,hv,h1,h2⟩:=e
  exact⟨vs,hv,VRs.cut l vs h h1,h2⟩
 |.tup l,v,h,e=>by
  simp only[VR] at e ⊢
  simp only[AV.under] at h
  obtain⟨vs,hv,h1⟩:=e
  exact⟨vs,hv,VRs.cut l vs h h1⟩
theorem VRs.cut{β:Pl}{n:A->Bool}:∀ (l:List AV) (vs:List Value),AV.unders n l=true->VRs β l vs->VRs (β.cut n) l vs
 |[],vs,_,e=>by simpa only[VRs] using e
 |a::l,vs,h,e=>by
  simp only[VRs] at e ⊢
  simp only[AV.unders,Bool.and_eq_true] at h
  obtain⟨v,ws,hv,h1,h2⟩:=e
  exact⟨v,ws,hv,VR.cut a v h.1 h1,VRs.cut l ws h.2 h2⟩
end
def Blk.closed(n:A->Bool):Blk->Prop
 |.cells l _=>AV.unders n l=true
 |.map es=>AV.unders n (es.map (·.1))=true/\AV.unders n (es.map (·.2))=true
 |_=>False
theorem BR.cut{β:Pl}{n:A->Bool}{b:Blk}{o:Option Obj}{κ:Nat}(hc:b.closed n)(h:BR β b o κ):BR (β.cut n) b o κ:=by
 cases b with
 |cells l k=>
  obtain⟨c,t,fr,h1,h2,h3,h4,h5⟩:=h
  exact⟨c,t,fr,h1,h2,h3,VRs.cut _ _ hc h4,h5⟩
 |map es=>
  obtain⟨c,t,h1,h2,h3⟩:=h
  exact⟨c,t,h1,VRs.cut _ _ hc.1 h2,VRs.cut _ _ hc.2 h3⟩
 |_=>cases hc
def H.has(h:H):A->Bool:=fun x=>(h.get x).isSome
theorem H.has_iff{h:H}{x:A}:h.has x=true ↔ ∃ b,h.get x=some b:=by
 unfold H.has;cases h.get x<;>simp
theorem Sim.cut{β:Pl}{h h0:H}{W:World}(hs:Sim β h W)(hsub:∀ x b,h0.get x=some b->h.get x=some b)(hcl:∀ x b,h0.get x=some b->b.closed h0.has)(hlow:∀ x b,h0.get x=some b->x.toNat<h0.next.toNat):Sim (β.cut h0.has) h0 W where
 live x b e:=by
  obtain⟨r,κ,h1,h2⟩:=hs.live x b (hsub x b e)
  exact⟨r,κ,by simp[Pl.cut,H.has_iff.2 ⟨b,e⟩,h1],h2.cut (hcl x b e)⟩
 fresh x p e:=by
  simp only[Pl.cut] at e
  split at e
  ·rename_i q
   obtain⟨b,hb⟩:=H.has_iff.1 q
   exact hlow x b hb
  ·cases e
 inj x y r κ κ' b b' e1 e2 g1 g2 a1 a2:=hs.inj x y r κ κ' b b' (Pl.cut_ext _ _ _ _ e1) (Pl.cut_ext _ _ _ _ e2) (hsub _ _ g1) (hsub _ _ g2) a1 a2
 bound x r κ e:=hs.bound x r κ (Pl.cut_ext _ _ _ _ e)
 high:=⟨hs.high.1,fun x r κ b e1 e2 e3=>hs.high.2 x r κ b (Pl.cut_ext _ _ _ _ e1) (hsub _ _ e2) e3⟩
theorem Sim.piece{β β':Pl}{h h0 h':H}{W W':World}(hs:Sim β h W)(hsub:∀ x b,h0.get x=some b->h.get x=some b)(hcl:∀ x b,h0.get x=some b->b.closed h0.has)
  (hin:∀ x y r κ κ' b b',β x=some (r,κ)->β y=some (r,κ')->h.get x=some b->h.get y=some b'->b.alive=true->b'.alive=true->x=y) (hs':Sim β' h' W') (hst:Step h0.next (β.cut h0.has) W β' W') (hk:∀ x b,h0.get x=some b->h'.get x=some b):Sim β h W'/\Step h.next β W β W':=by
 refine⟨⟨fun x b e=>?_,hs.fresh,hs.inj,fun x r κ e=>Nat.lt_of_lt_of_le (hs.bound x r κ e) hst.size,⟨Nat.le_trans hs.high.1 hst.size,hs.high.2⟩⟩,⟨Ext.refl β,fun _ _ e=>.inl e,fun x r κ e=>.inl ⟨x,κ,e⟩,hst.size,fun r hr hn=>hst.kept r hr fun y κ e=>hn y κ (Pl.cut_ext _ _ _ _ e),hst.loops,hst.q,hst.glob⟩⟩
 obtain⟨r,κ,e1,e2⟩:=hs.live x b e
 refine⟨r,κ,e1,?_⟩
 have hlt:=hs.bound _ _ _ e1
 by_cases hd:b.alive=true
 ·by_cases c:∃ y κ',(β.cut h0.has) y=some (r,κ')
  ·obtain⟨y,κ',hy⟩:=c
   have hyβ:=Pl.cut_ext _ _ _ _ hy
   have hhas:h0.has y=true:=by
    simp only[Pl.cut] at hy
    split at hy
    ·assumption
    ·cases hy
   obtain⟨b0,hb0⟩:=H.has_iff.1 hhas
   have hclo:=hcl y b0 hb0
   have ha0:b0.alive=true:=by
    cases b0<;>first|rfl|cases hclo
   have hxy:x=y:=hin x y r κ κ' b b0 e1 hyβ e (hsub y b0 hb0) hd ha0
   subst hxy
   have hbb:b=b0:=by
    have:=hsub x b0 hb0
    rw[e] at this;cases this;rfl
   subst hbb
   obtain⟨r',κ2,e3,e4⟩:=hs'.live x b (hk x b hb0)
   rw[hst.ext _ _ hy] at e3;cases e3
   rw[hyβ] at e1;cases e1
   exact BR.mono (Pl.cut_ext _ _) (BR.back hst.ext (e2.cut hclo) e4)
  ·rw[hst.kept r hlt fun y κ' q=>c ⟨y,κ',q⟩];exact e2
 ·cases b with
  |dead=>
   show W'.heap[r]?≠none
   have:=hst.size
   rw[Array.getElem?_eq_getElem (by omega)];simp
  |_=>exact absurd rfl hd
end
end Go.Abs
namespace Go.Abs
open Go Go.RowKit
noncomputable section
def ofNats(s:List Nat):ByteArray:=⟨(s.map UInt8.ofNat).toArray⟩
theorem str_VR_iff{β:Pl}{s:List Nat}{v:Value}(h:VR β (.str s) v):v=.string (ofNats s)/\(ofNats s).data.toList.map UInt8.toNat=s:=by
 simp only[VR] at h
 obtain⟨b,rfl,hb⟩:=h
 have:ofNats s=b:=by
  unfold ofNats
  rw[<-hb,List.map_map]
  have:(UInt8.ofNat ∘ UInt8.toNat)=id:=by funext x;simp
  rw[this,List.map_id]
 rw[this];exact⟨rfl,hb⟩
abbrev Hd:=List AV->H->Option (AV×H)
def HOK(P:Program)(f:Nat)(g:Hd):Prop:=∀ l h v h',g l h=some (v,h')->∀ (β:Pl) (W:World) (args:List Value),Sim β h W->VRs β l args->Gl β ->
  CallR P f args.toArray W fun x W'=>∃ β',h.next.toNat<=h'.next.toNat/\Sim β' h' W'/\VR β' v x/\Step h.next β W β' W'
def boolO(b:Bool)(h:H):Option (AV×H):=match b with|true=>some (.bool true,h)|false=>some (.bool false,h)
theorem boolO_some{b:Bool}{h h':H}{v:AV}(e:boolO b h=some (v,h')):v=.bool b/\h'=h:=by
 cases b <;>(simp only[boolO,Option.some.injEq,Prod.mk.injEq] at e;exact⟨e.1.symm,e.2.symm⟩)
theorem Sim.cell{β:Pl}{h:H}{W:World}(hs:Sim β h W){b:A}{r κ:Nat}{l:List AV}{k:Kind}(hβ:β b=some (r,κ))(hg:h.get b=some (.cells l k))(hk:k≠.fixed){off:Nat}{v:AV}(hv:l[off]?=some v) :
  ∃ x,W.cell? ⟨r,off,none⟩=some x/\W.frozen? ⟨r,off,none⟩=false/\VR β v x:=by
 obtain⟨r',κ',hβ',hbr⟩:=hs.live b _ hg
 rw[hβ] at hβ';cases hβ'
 obtain⟨c,t,fr,e1,e2,e3,e4,e5,e6⟩:=hbr
 have hlt:off<l.length:=by
  rcases Nat.lt_or_ge off l.length with q|q
  ·exact q
  ·rw[List.getElem?_eq_none q] at hv;cases hv
 obtain⟨x,x1,x2⟩:=e4.get hv
 rw[List.getElem?_take,if_pos hlt] at x1
 refine⟨x,by rw[cell_of e1];simpa using x1,?_,x2⟩
 rw[frozen_of e1]
 have hfr:∀ i,i<c.size->¬ (fr.1<=i/\i<fr.2):=by
  cases k with
  |whole=>exact e6.2.2
  |tail=>exact e6.2
  |fixed=>exact absurd rfl hk
 have:=hfr off (by omega)
 cases q:(decide (fr.1<=off)&&decide (off<fr.2)) with
 |false=>rfl
 |true=>exact absurd (by simpa using q) this
def writable(k:Kind):Bool:=match k with|.fixed=>false|_=>true
def hAdd:Hd:=fun l h=>match l with
 |[.ptr b off,.int .i64 d]=>match h.get b with
  |some (.cells c k)=>match writable k,c[off]? with
   |true,some (.int .i64 x)=>set5 (some (.cells (c.take off++([.int .i64 (IntKind.i64.wrap (x+d))]++c.drop (off+1))) k)) h.mem b fun m=>some (.int .i64 (IntKind.i64.wrap (x+d)),⟨h.next,m⟩)
   |_,_=>none
  |_=>none
 |_=>none
def hLoad:Hd:=fun l h=>match l with
 |[.ptr b off]=>match h.get b with
  |some (.cells c k)=>match writable k,c[off]? with
   |true,some (.int .i64 x)=>some (.int .i64 x,h)
   |_,_=>none
  |_=>none
 |_=>none
def hStore:Hd:=fun l h=>match l with
 |[.ptr b off,.int .i64 d]=>match h.get b with
  |some (.cells c k)=>match writable k,c[off]? with
   |true,some (.int .i64 _)=>set5 (some (.cells (c.take off++([.int .i64 d]++c.drop (off+1))) k)) h.mem b fun m=>some (.tup [],⟨h.next,m⟩)
   |_,_=>none
  |_=>none
 |_=>none
def hSame:Hd:=fun l h=>match l with|[.ptr b off]=>some (.ptr b off,h)|_=>none
theorem writable_true{k:Kind}(h:writable k=true):k≠.fixed:=by cases k<;>simp_all [writable]
section
variable {P:Program} {f:FuncId} {fn:Func}
theorem stored(P:Program){β:Pl}{h:H}{W:World}(hs:Sim β h W){b:A}{off:Nat}{c:List AV}{k:Kind}{r κ:Nat}(hβ:β b=some (r,κ))(hg:h.get b=some (.cells c k))(hk:k≠.fixed){v:AV}(hv:c[off]?=some v)(s:Int) :
  Sim β (h.put b (.cells (c.take off++([.int .i64 s]++c.drop (off+1))) k)) (W.setCell ⟨r,off,none⟩ (.int .i64 s))/\Step h.next β W β (W.setCell ⟨r,off,none⟩ (.int .i64 s)):=by
 have hlt:off<c.length:=by
  rcases Nat.lt_or_ge off c.length with q|q
  ·exact q
  ·rw[List.getElem?_eq_none q] at hv;cases hv
 exact(hs.store (P:=P) hβ hg hk (m:=[.int .i64 s]) (vs:=[.int .i64 s]) (VRs.cons'.2 ⟨by simp[VR],VRs.nil.2 rfl⟩) rfl (by simp only[List.length_cons,List.length_nil];omega) h.next).2
theorem hAdd_ok (hf : P.funcs[f]? = some fn) (hname : (fn.name == "runtime.NumGoroutine") = false) (hb : fn.body.isNone = true) (hn : Extern.findNext fn = none) (he : Extern.find fn = some (Extern.Atomic.update (Op.intArith .add) .i64 true)) : HOK P f hAdd := by
 intro l h v h' e β W args hs hv _
 unfold hAdd at e
 split at e
 ·rename_i b off d
  split at e
  ·rename_i c k hg
   split at e
   ·rename_i x hk hx
    rw[set5_eq] at e
    simp only[Option.some.injEq,Prod.mk.injEq] at e
    obtain⟨rfl,rfl⟩:=e
    obtain⟨u,w,rfl,h1,h2⟩:=two hv
    simp only[VR] at h1 h2
    obtain⟨r,κ,hβ,h1⟩:=h1
    subst h1;subst h2
    obtain⟨z,z1,z2,z3⟩:=hs.cell hβ hg (writable_true hk) hx
    simp only[VR] at z3;subst z3
    obtain⟨s1,s2⟩:=stored P hs hβ hg (writable_true hk) hx (IntKind.i64.wrap (x+d))
    exact .inl ⟨_,_,run_call_add hf hname hb hn .i64 he z1 z2 (by simp[Op.intArith]),β,Nat.le_refl _,s1,by simp[VR],s2⟩
   ·cases e
  ·cases e
 ·cases e
theorem hLoad_ok (hf : P.funcs[f]? = some fn) (hname : (fn.name == "runtime.NumGoroutine") = false) (hb : fn.body.isNone = true) (hn : Extern.findNext fn = none) (he : Extern.find fn = some (Extern.Atomic.loadT (.int .i64))) : HOK P f hLoad := by
 intro l h v h' e β W args hs hv _
 unfold hLoad at e
 split at e
 ·rename_i b off
  split at e
  ·rename_i c k hg
   split at e
   ·rename_i x hk hx
    simp only[Option.some.injEq,Prod.mk.injEq] at e
    obtain⟨rfl,rfl⟩:=e
    obtain⟨u,rfl,h1⟩:=one' hv
    simp only[VR] at h1
    obtain⟨r,κ,hβ,h1⟩:=h1
    subst h1
    obtain⟨z,z1,z2,z3⟩:=hs.cell hβ hg (writable_true hk) hx
    simp only[VR] at z3;subst z3
    exact .inl ⟨_,_,run_call_load hf hname hb hn .i64 he z1,β,Nat.le_refl _,hs,by simp[VR],Step.refl _ _ _⟩
   ·cases e
  ·cases e
 ·cases e
theorem hStore_ok (hf : P.funcs[f]? = some fn) (hname : (fn.name == "runtime.NumGoroutine") = false) (hb : fn.body.isNone = true) (hn : Extern.findNext fn = none) (he : Extern.find fn = some Extern.Atomic.storeT) : HOK P f hStore := by
 intro l h v h' e β W args hs hv _
 unfold hStore at e
 split at e
 ·rename_i b off d
  split at e
  ·rename_i c k hg
   split at e
   ·rename_i x hk hx
    rw[set5_eq] at e
    simp only[Option.some.injEq,Prod.mk.injEq] at e
    obtain⟨rfl,rfl⟩:=e
    obtain⟨u,w,rfl,h1,h2⟩:=two hv
    simp only[VR] at h1 h2
    obtain⟨r,κ,hβ,h1⟩:=h1
    subst h1;subst h2
    obtain⟨z,z1,z2,z3⟩:=hs.cell hβ hg (writable_true hk) hx
    obtain⟨s1,s2⟩:=stored P hs hβ hg (writable_true hk) hx d
    exact .inl ⟨_,_,run_call_store hf hname hb hn he z1 z2,β,Nat.le_refl _,s1,by simp[VR,VRs],s2⟩
   ·cases e
  ·cases e
 ·cases e
theorem hSame_ok (hf : P.funcs[f]? = some fn) (hname : (fn.name == "runtime.NumGoroutine") = false) (hb : fn.body.isNone = true) (hn : Extern.findNext fn = none) (he : Extern.find fn = some Extern.AbiNoEscape.same) : HOK P f hSame := by
 intro l h v h' e β W args hs hv _
 unfold hSame at e
 split at e
 ·rename_i b off
  simp only[Option.some.injEq,Prod.mk.injEq] at e
  obtain⟨rfl,rfl⟩:=e
  obtain⟨u,rfl,h1⟩:=one' hv
  refine .inl ⟨u,W,?_,β,Nat.le_refl _,hs,h1,Step.refl _ _ _⟩
  simp only[VR] at h1
  obtain⟨r,κ,hβ,h1⟩:=h1
  subst h1
  rw[run_callFunc_extern hf hname hb hn he]
  rfl
 ·cases e
end
end
end Go.Abs
namespace Go.Abs
open Go
noncomputable section
theorem Sim.share{β:Pl}{h:H}{W:World}(hs:Sim β h W){r:Nat}{c:Array Value}{t:TypeId}{fr:Nat×Nat}{l:List AV}{y:A}(hy:y.toNat=h.next.toNat+1)(hc:W.heap[r]?=some (.cells c t fr))(hl:l.length<=c.size)
  (hv:VRs β l (c.toList.take l.length)) (h1:l.all AV.one=true) (hown:∀ x κ b,β x=some (r,κ)->h.get x=some b->b.own=false) :
  Sim (β.new h.next r c.size) (h.new (.cells l .fixed) y) W/\Ext β (β.new h.next r c.size):=by
 have hx:=hs.ext_new r c.size
 have hlt:r<W.heap.size:=by
  rcases Nat.lt_or_ge r W.heap.size with q|q
  ·exact q
  ·rw[Array.getElem?_eq_none q] at hc;cases hc
 refine⟨⟨?_,?_,?_,?_,⟨hs.high.1,fun x r' κ' b' e1 e2 e3=>by
   rw[H.get_new] at e2;simp only[Pl.new] at e1
   by_cases c:x=h.next
   ·simp only[c,if_true,Option.some.injEq] at e2;subst e2;cases e3
   ·simp only[c,if_false] at e1 e2;exact hs.high.2 x r' κ' b' e1 e2 e3⟩⟩,hx⟩
 ·intro x b e
  rw[H.get_new] at e
  by_cases q:x=h.next
  ·simp only[q,if_true,Option.some.injEq] at e;subst e
   exact⟨r,c.size,by unfold Pl.new;rw[if_pos q],c,t,fr,hc,rfl,hl,VRs.mono hx _ _ hv,h1,trivial⟩
  ·simp only[q,if_false] at e
   obtain⟨r',κ',e1,e2⟩:=hs.live x b e
   exact⟨r',κ',hx _ _ e1,e2.mono hx⟩
 ·intro x p e
  show x.toNat<y.toNat
  simp only[Pl.new] at e
  split at e
  ·rename_i q;rw[q,hy];omega
  ·have:=hs.fresh x p e;omega
 ·intro x z r' κ1 κ2 b1 b2 e1 e2 g1 g2 a1 a2
  rw[H.get_new] at g1 g2
  simp only[Pl.new] at e1 e2
  by_cases c1:x=h.next<;>by_cases c2:z=h.next
  ·rw[c1,c2]
  ·simp only[c1,if_true,Option.some.injEq] at g1;subst g1;cases a1
  ·simp only[c1,c2,if_true,if_false,Option.some.injEq,Prod.mk.injEq] at e1 e2 g1 g2
   have:=hown x κ1 b1 (by rw[e1,e2.1]) g1
   rw[this] at a1;cases a1
  ·simp only[c1,c2,if_false] at e1 e2 g1 g2
   exact hs.inj _ _ _ _ _ _ _ e1 e2 g1 g2 a1 a2
 ·intro x r' κ' e
  simp only[Pl.new] at e
  split at e
  ·simp only[Option.some.injEq,Prod.mk.injEq] at e;omega
  ·exact hs.bound _ _ _ e
end
end Go.Abs
namespace Go.Abs
open Go
noncomputable section
theorem A.of_toNat{n:Nat}(h:n<32768):(A.of n).toNat=n:=by
 unfold A.of A.toNat
 simp only[D.of_toNat]
 omega
def buildH:List Blk->Nat->H->H
 |[],_,h=>h
 |b::l,n,h=>buildH l (n+1) (h.new b (A.of (n+1)))
theorem buildH_get:∀ (l:List Blk) (n:Nat) (h:H),h.next=A.of n->n+l.length<32768->(buildH l n h).next=A.of (n+l.length)/\∀ x,(buildH l n h).get x=if n<=x.toNat/\x.toNat<n+l.length then l[x.toNat - n]? else h.get x
 |[],n,h,hn,_=>⟨hn,fun x=>by rw[if_neg (by simp)];rfl⟩
 |b::l,n,h,hn,hl=>by
  simp only[List.length_cons] at hl
  obtain⟨h1,h2⟩:=buildH_get l (n+1) (h.new b (A.of (n+1))) rfl (by omega)
  refine⟨by rw[List.length_cons,show n+(l.length+1)=n+1+l.length by omega];exact h1,fun x=>?_⟩
  show(buildH l (n+1) (h.new b (A.of (n+1)))).get x=_
  rw[h2,H.get_new,hn,List.length_cons]
  by_cases c:x.toNat=n
  ·have hx:x=A.of n:=A.inj (by rw[A.of_toNat (by omega)];exact c)
   rw[if_neg (by omega),if_pos hx,if_pos (by omega),c,Nat.sub_self];rfl
  ·have hx:x≠A.of n:=fun e=>c (by rw[e,A.of_toNat (by omega)])
   rw[if_neg hx]
   by_cases d:n+1<=x.toNat/\x.toNat<n+1+l.length
   ·rw[if_pos d,if_pos (by omega),show x.toNat - n=x.toNat - (n+1)+1 by omega,List.getElem?_cons_succ]
   ·rw[if_neg d,if_neg (by omega)]
def emptyH:H:=⟨A.of 0,N.all (N.all (N.all (N.all (N.all none))))⟩
theorem N.get_all{α:Type}(x:α)(p:D):N.get (N.all x) p=x:=by cases p<;>rfl
theorem emptyH_get(x:A):emptyH.get x=none:=by
 obtain⟨p,q,r,s,t⟩:=x
 show N.get (N.get (N.get (N.get (N.get (N.all (N.all (N.all (N.all (N.all none))))) t) s) r) q) p=none
 rw[N.get_all,N.get_all,N.get_all,N.get_all,N.get_all]
def placesOf(ps:List (Nat×Nat)):Pl:=fun x=>ps[x.toNat]?
theorem Sim.ofList{W:World}(l:List Blk)(ps:List (Nat×Nat))(hlen:ps.length=l.length)(hn:l.length<32768)(hW:nGlobals<=W.heap.size)
  (hb:∀ (i:Nat) (b:Blk) (r κ:Nat),l[i]?=some b->ps[i]?=some (r,κ)->BR (placesOf ps) b W.heap[r]? κ/\b.own=false/\r<W.heap.size) :
  Sim (placesOf ps) (buildH l 0 emptyH) W/\(buildH l 0 emptyH).next=A.of l.length:=by
 obtain⟨h1,h2⟩:=buildH_get l 0 emptyH rfl (by omega)
 rw[Nat.zero_add] at h1
 have hget:∀ x,(buildH l 0 emptyH).get x=l[x.toNat]?:=fun x=>by
  rw[h2 x,emptyH_get]
  by_cases c:x.toNat<l.length
  ·rw[if_pos (by omega),Nat.sub_zero]
  ·rw[if_neg (by omega),List.getElem?_eq_none (by omega)]
 refine⟨⟨fun x b e=>?_,fun x p e=>?_,fun x y r κ κ' b b' e1 e2 g1 g2 a1 a2=>?_,fun x r κ e=>?_,⟨hW,fun x r κ b e1 e2 e3=>by
   rw[hget] at e2;have:=(hb _ b r κ e2 e1).2.1;rw[this] at e3;cases e3⟩⟩,h1⟩
 ·rw[hget] at e
  have hlt:=(List.getElem?_eq_some_iff.1 e).1
  obtain⟨⟨r,κ⟩,hp⟩:∃ p,ps[x.toNat]?=some p:=⟨_,List.getElem?_eq_getElem (by omega)⟩
  exact⟨r,κ,hp,(hb _ b r κ e hp).1⟩
 ·have hlt:=(List.getElem?_eq_some_iff.1 e).1
  rw[h1,A.of_toNat hn];omega
 ·rw[hget] at g1
  have:=(hb _ b r κ g1 e1).2.1
  rw[this] at a1;cases a1
 ·have hlt:=(List.getElem?_eq_some_iff.1 e).1
  obtain⟨b,hbb⟩:∃ b,l[x.toNat]?=some b:=⟨_,List.getElem?_eq_getElem (by omega)⟩
  exact(hb _ b r κ hbb e).2.2
end
end Go.Abs
