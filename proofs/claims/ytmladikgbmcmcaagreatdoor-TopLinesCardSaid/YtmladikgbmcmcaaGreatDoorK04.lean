/- a part of the proof of TopLines. -/
import Derived.Test.YtmladikgbmcmcaaGreatDoorK03
import Derived.Laws.BitsAll
import Derived.Laws.Append
import Derived.Laws.AppendOwn
set_option linter.all false
namespace Go.Abs
open Go
noncomputable section
variable {P:Program}
def BinOK(P:Program)(op:BinOp)(t:TypeId)(ox oy:Operand)(f:AV->AV->(AV->Bool)->Bool):Prop:=∀ (x y:AV) (k:AV->Bool),f x y k=true->∃ z,k z=true /\
 ∀ (β:Pl) (u v:Value) (W:World),VR β x u->VR β y v->∃ w,(eqGuard op t ox oy u v).run P W=.ok () W/\(binOp op t u v).run P W=.ok w W/\VR β z w
variable {t:TypeId} {ox oy:Operand}
theorem nilsK_true{k:Bool->Bool}(e:nilsK P t ox oy k=true):k true=true/\(∃ ms,P.underlying t=some (.interface ms))/\((∃ v,ox=.const v)\/∃ v,oy=.const v):=by
 cases ht:P.underlying t with
 |none=>cases ox<;>cases oy<;>simp only[nilsK,ht] at e<;>cases e
 |some d=>
  cases d<;>cases ox<;>cases oy<;>simp only[nilsK,ht] at e<;>first
   |(cases e;done)
   |exact⟨e,⟨_,rfl⟩,.inl ⟨_,rfl⟩⟩
   |exact⟨e,⟨_,rfl⟩,.inr ⟨_,rfl⟩⟩
theorem nil_nil(W:World){ms:Array (String×TypeId)}(ht:P.underlying t=some (.interface ms)):(Op.equal t .nilIface .nilIface).run P W=.ok true W:=by
 have:∀ n,(Op.equalIn (n+1) t .nilIface .nilIface).run P W=.ok true W:=fun n=>by simp[Op.equalIn,Zag W ht]
 exact this 9999
theorem eqlK_ok:BinOK P .eql t ox oy (eqlK P t ox oy):=by
 intro x y k e
 by_cases hn:x=.nili/\y=.nili
 ·obtain⟨rfl,rfl⟩:=hn
  obtain⟨hk,⟨ms,ht⟩,hc⟩:=nilsK_true (k:=fun b=>k (.bool b)) e
  refine⟨_,hk,fun β u v W hu hv=>⟨.bool true,?_⟩⟩
  simp only[VR] at hu hv;subst hu;subst hv
  refine⟨eqGuard_const _ _ _ _ _ hc,?_,by simp[VR]⟩
  rw[binOp_eql_plain t _ _ rfl];simp[nil_nil W ht]
 ·have e:eqOf P t x y (fun b=>boolK b k)=true:=by
   unfold eqlK at e
   split at e
   ·exact absurd ⟨rfl,rfl⟩ hn
   ·exact e
  obtain⟨b,hb,hR⟩:=eql_run e hn
  rw[boolK_eq] at hb
  refine⟨_,hb,fun β u v W hu hv=>?_⟩
  obtain⟨h1,h2,h3,h4⟩:=hR β u v W ox oy hu hv
  exact⟨_,h1,h3,by simp[VR]⟩
theorem neqK_ok:BinOK P .neq t ox oy (neqK P t ox oy):=by
 intro x y k e
 by_cases hn:x=.nili/\y=.nili
 ·obtain⟨rfl,rfl⟩:=hn
  obtain⟨hk,⟨ms,ht⟩,hc⟩:=nilsK_true (k:=fun _=>k (.bool false)) e
  refine⟨_,hk,fun β u v W hu hv=>⟨.bool false,?_⟩⟩
  simp only[VR] at hu hv;subst hu;subst hv
  refine⟨eqGuard_const _ _ _ _ _ hc,?_,by simp[VR]⟩
  rw[binOp_neq_plain t _ _ rfl];simp[nil_nil W ht]
 ·have e:eqOf P t x y (fun b=>notK b k)=true:=by
   unfold neqK at e
   split at e
   ·exact absurd ⟨rfl,rfl⟩ hn
   ·exact e
  obtain⟨b,hb,hR⟩:=eql_run e hn
  rw[notK_eq] at hb
  refine⟨_,hb,fun β u v W hu hv=>?_⟩
  obtain⟨h1,h2,h3,h4⟩:=hR β u v W ox oy hu hv
  exact⟨_,h2,h4,by simp[VR]⟩
def noEq(op:BinOp):Bool:=match op with|.eql|.neq=>false|_=>true
theorem guard_noEq{op:BinOp}(h:noEq op=true)(u v:Value)(W:World):(eqGuard op t ox oy u v).run P W=.ok () W:=by
 cases op<;>first|(cases h;done)|simp[eqGuard]
theorem intsK_ok{op:BinOp}{f:IntKind->Int->Int->(AV->Bool)->Bool}(hop:noEq op=true)
  (hf:∀ j a b k,f j a b k=true->∃ z,k z=true/\∀ (W:World),∃ w,(binOp op t (.int j a) (.int j b)).run P W=.ok w W/\∀ β,VR β z w):BinOK P op t ox oy (intsK f):=by
 intro x y k e
 unfold intsK at e
 split at e
 ·rename_i i a j b
  cases hk:kindEq i j with
  |false=>simp only[hk] at e;cases e
  |true=>
   simp only[hk] at e
   have:=kindEq_true hk;subst this
   obtain⟨z,hz,hR⟩:=hf i a b k e
   refine⟨z,hz,fun β u v W hu hv=>?_⟩
   simp only[VR] at hu hv;subst hu;subst hv
   obtain⟨w,h1,h2⟩:=hR W
   exact⟨w,guard_noEq hop _ _ W,h1,h2 β⟩
 ·cases e
theorem bytesLess_eq:∀ (l m:List UInt8),Op.bytesLess l m=natsLt (l.map UInt8.toNat) (m.map UInt8.toNat)
 |l,[]=>by cases l<;>rfl
 |[],_::_=>rfl
 |a::l,b::m=>by
  simp only[Op.bytesLess,List.map_cons,natsLt,blt_nat,beq_nat]
  have h1:(a<b)↔(a.toNat<b.toNat):=UInt8.lt_iff_toNat_lt
  have h2:(a=b)↔(a.toNat=b.toNat):=UInt8.toNat_inj.symm
  by_cases q:a.toNat<b.toNat
  ·simp[q,h1.2 q]
  ·have:¬ a<b:=fun z=>q (h1.1 z)
   by_cases q2:a.toNat=b.toNat
   ·have hab:=h2.2 q2
    subst hab
    simp[this,bytesLess_eq l m]
   ·have h3:¬ a=b:=fun z=>q2 (h2.1 z)
    simp[q,this,q2,h3]
theorem lt_total:∀ (l m:List Nat),(natsLt l m||decide (l=m))=!natsLt m l
 |[],[]=>rfl
 |[],_::_=>rfl
 |_::_,[]=>rfl
 |a::l,b::m=>by
  simp only[natsLt,blt_nat,beq_nat]
  rcases Nat.lt_trichotomy a b with q|q|q
  ·have h1:¬ b<a:=by omega
   have h2:¬ b=a:=by omega
   have h3:¬ a=b:=by omega
   simp[q,h1,h2,h3]
  ·subst q
   simpa using lt_total l m
  ·have h1:¬ a<b:=by omega
   have h3:¬ a=b:=by omega
   simp[q,h1,h3]
theorem toList_data(s:ByteArray):s.toList=s.data.toList:=by rw[ByteArray.toList_eq]
theorem orderK_ok{op:BinOp}{f:Int->Int->(AV->Bool)->Bool}{g:List Nat->List Nat->(AV->Bool)->Bool}(hop:noEq op=true)
  (hf:∀ a b k,f a b k=true->∃ z,k z=true/\∀ (j:IntKind) (W:World),∃ w,(binOp op t (.int j a) (.int j b)).run P W=.ok w W/\∀ β,VR β z w)
  (hg:∀ a b k,g a b k=true->∃ z,k z=true/\∀ (s s':ByteArray) (W:World),s.data.toList.map UInt8.toNat=a->s'.data.toList.map UInt8.toNat=b->∃ w,(binOp op t (.string s) (.string s')).run P W=.ok w W/\∀ β,VR β z w) :
  BinOK P op t ox oy (orderK f g):=by
 intro x y k e
 unfold orderK at e
 split at e
 ·rename_i i a j b
  cases hk:kindEq i j with
  |false=>simp only[hk] at e;cases e
  |true=>
   simp only[hk] at e
   have:=kindEq_true hk;subst this
   obtain⟨z,hz,hR⟩:=hf a b k e
   refine⟨z,hz,fun β u v W hu hv=>?_⟩
   simp only[VR] at hu hv;subst hu;subst hv
   obtain⟨w,h1,h2⟩:=hR i W
   exact⟨w,guard_noEq hop _ _ W,h1,h2 β⟩
 ·rename_i a b
  obtain⟨z,hz,hR⟩:=hg a b k e
  refine⟨z,hz,fun β u v W hu hv=>?_⟩
  simp only[VR] at hu hv
  obtain⟨s,hu,hs⟩:=hu
  obtain⟨s',hv,hs'⟩:=hv
  subst hu;subst hv
  obtain⟨w,h1,h2⟩:=hR s s' W hs hs'
  exact⟨w,guard_noEq hop _ _ W,h1,h2 β⟩
 ·cases e
theorem addK_ok:BinOK P .add t ox oy addK:=by
 intro x y k e
 unfold addK at e
 split at e
 ·rename_i i a j b
  cases hk:kindEq i j with
  |false=>simp only[hk] at e;cases e
  |true=>
   simp only[hk,addI,wrapK_eq] at e
   have:=kindEq_true hk;subst this
   refine⟨_,e,fun β u v W hu hv=>?_⟩
   simp only[VR] at hu hv;subst hu;subst hv
   exact⟨.int i (i.wrap (a+b)),guard_noEq rfl _ _ W,by simp[binOp,Op.intArith],by simp[VR]⟩
 ·rename_i a b
  rw[appK_eq,lenK_eq] at e
  split at e
  ·rename_i hb
   rw[ble_nat] at hb
   have hb:(a++b).length<=1000000:=by simpa using hb
   refine⟨_,e,fun β u v W hu hv=>?_⟩
   simp only[VR] at hu hv
   obtain⟨s,hu,hs⟩:=hu
   obtain⟨s',hv,hs'⟩:=hv
   subst hu;subst hv
   refine⟨.string (s++s'),guard_noEq rfl _ _ W,?_,?_⟩
   ·have h1:s.size=a.length:=by rw[<-hs,List.length_map];rfl
    have h2:s'.size=b.length:=by rw[<-hs',List.length_map];rfl
    have:¬ (((s.size+s'.size:Nat):Int)>IntKind.i64.max):=by
     simp only[List.length_append] at hb
     simp only[IntKind.max,IntKind.signed,IntKind.bits];simp only[if_true];omega
    simp only[binOp,Op.stringOp,if_neg this,Sem.run_pure]
   ·simp only[VR]
    exact⟨s++s',rfl,by rw[<-hs,<-hs'];simp⟩
  ·cases e
 ·cases e
end
end Go.Abs
namespace Go.Abs
open Go
noncomputable section
variable {P:Program} {t:TypeId} {ox oy:Operand}
theorem order_of{op:BinOp}{f:Int->Int->(AV->Bool)->Bool}{g:List Nat->List Nat->(AV->Bool)->Bool}(z:Int->Int->Bool)(q:List Nat->List Nat->Bool)(hop:noEq op=true)
  (hf:∀ a b k,f a b k=k (.bool (z a b))) (hg:∀ a b k,g a b k=k (.bool (q a b)))
  (h1:∀ (j:IntKind) (a b:Int) (W:World),(binOp op t (.int j a) (.int j b)).run P W=.ok (.bool (z a b)) W)
  (h2:∀ (s s':ByteArray) (W:World),(binOp op t (.string s) (.string s')).run P W=.ok (.bool (q (s.data.toList.map UInt8.toNat) (s'.data.toList.map UInt8.toNat))) W):BinOK P op t ox oy (orderK f g):=
 orderK_ok hop (fun a b k e=>⟨_,(hf a b k).symm.trans e,fun j W=>⟨_,h1 j a b W,fun β=>by simp[VR]⟩⟩)
  (fun a b k e=>⟨_,(hg a b k).symm.trans e,fun s s' W hs hs'=>⟨_,h2 s s' W,fun β=>by rw[hs,hs'];simp[VR]⟩⟩)
theorem lss_ok:BinOK P .lss t ox oy (orderK ltI ltS):=
 order_of (fun a b=>decide (a<b)) natsLt rfl (fun a b k=>by simp only[ltI,boolK_eq,ilt_eq]) (fun a b k=>by simp only[ltS,boolK_eq])
  (fun j a b W=>by simp[binOp,Op.intCmp]) (fun s s' W=>by simp[binOp,Op.stringOp,toList_data,bytesLess_eq])
theorem gtr_ok:BinOK P .gtr t ox oy (orderK gtI gtS):=
 order_of (fun a b=>decide (b<a)) (fun a b=>natsLt b a) rfl (fun a b k=>by simp only[gtI,boolK_eq,ilt_eq]) (fun a b k=>by simp only[gtS,boolK_eq])
  (fun j a b W=>by simp[binOp,Op.intCmp]) (fun s s' W=>by
   have h1:=lt_total (s.data.toList.map UInt8.toNat) (s'.data.toList.map UInt8.toNat)
   have h2:=bytes_list s s'
   have h3:natsLt (s'.data.toList.map UInt8.toNat) (s.data.toList.map UInt8.toNat)=!(natsLt (s.data.toList.map UInt8.toNat) (s'.data.toList.map UInt8.toNat)||(s.toList==s'.toList)):=by
    rw[h2,h1,Bool.not_not]
   rw[h3]
   simp only[binOp,Op.stringOp,bytesLess_eq,Sem.run_pure,toList_data])
theorem leq_ok:BinOK P .leq t ox oy (orderK leI leS):=
 order_of (fun a b=>!decide (b<a)) (fun a b=>!natsLt b a) rfl (fun a b k=>by simp only[leI,notK_eq,ilt_eq]) (fun a b k=>by simp only[leS,notK_eq])
  (fun j a b W=>by
   have:(!decide (b<a))=decide (a<=b):=by rw[<-decide_not,decide_eq_decide];omega
   rw[this];simp[binOp,Op.intCmp]) (fun s s' W=>by
   have h1:=lt_total (s.data.toList.map UInt8.toNat) (s'.data.toList.map UInt8.toNat)
   have h2:=bytes_list s s'
   rw[<-h1,<-h2]
   simp only[binOp,Op.stringOp,bytesLess_eq,Sem.run_pure,toList_data])
theorem geq_ok:BinOK P .geq t ox oy (orderK geI geS):=
 order_of (fun a b=>!decide (a<b)) (fun a b=>!natsLt a b) rfl (fun a b k=>by simp only[geI,notK_eq,ilt_eq]) (fun a b k=>by simp only[geS,notK_eq])
  (fun j a b W=>by
   have:(!decide (a<b))=decide (b<=a):=by rw[<-decide_not,decide_eq_decide];omega
   rw[this];simp[binOp,Op.intCmp]) (fun s s' W=>by simp only[binOp,Op.stringOp,bytesLess_eq,Sem.run_pure,toList_data])
theorem binOf_ok(op:BinOp):BinOK P op t ox oy (binOf P op t ox oy):=by
 have bad:BinOK P op t ox oy badK:=fun x y k e=>by cases e
 cases op with
 |eql=>exact eqlK_ok
 |neq=>exact neqK_ok
 |add=>exact addK_ok
 |sub=>exact intsK_ok rfl fun j a b k e=>(by
   simp only[subI,wrapK_eq] at e
   exact⟨_,e,fun W=>⟨.int j (j.wrap (a - b)),by simp[binOp,Op.intArith],fun β=>by simp[VR]⟩⟩)
 |mul=>exact intsK_ok rfl fun j a b k e=>(by
   simp only[mulI,wrapK_eq] at e
   exact⟨_,e,fun W=>⟨.int j (j.wrap (a*b)),by simp[binOp,Op.intArith],fun β=>by simp[VR]⟩⟩)
 |quo=>exact intsK_ok rfl fun j a b k e=>(by
   unfold quoI at e
   split at e
   ·cases e
   ·rename_i hb
    rw[ieq_eq] at hb
    have hb:¬ b=0:=by simpa using hb
    rw[forceI_eq] at e
    exact⟨_,e,fun W=>⟨.int j (j.wrap (a.tdiv b)),by simp[binOp,Op.intDiv,hb],fun β=>by simp[VR]⟩⟩)
 |rem=>exact intsK_ok rfl fun j a b k e=>(by
   unfold remI at e
   split at e
   ·cases e
   ·rename_i hb
    rw[ieq_eq] at hb
    have hb:¬ b=0:=by simpa using hb
    rw[forceI_eq] at e
    exact⟨_,e,fun W=>⟨.int j (a.tmod b),by simp[binOp,Op.intDiv,hb],fun β=>by simp[VR]⟩⟩)
 |and=>exact intsK_ok rfl fun j a b k e=>(by
   unfold andI at e
   split at e
   ·rename_i a b
    split at e
    ·rename_i h1 h2
     rw[blt_nat] at h1 h2
     have h1:a<256:=by simpa using h1
     have h2:b<256:=by simpa using h2
     rw[Zaw] at e
     refine⟨_,e,fun W=>⟨.int .u8 (Int.ofNat (Nat.land a b)),?_,fun β=>by simp[VR]⟩⟩
     have:=u8_and_nat a b h1 h2
     simp only[binOp,Op.intBits,ne_eq,not_true_eq_false,if_false,Sem.run_pure]
     congr 2
    ·cases e
   ·cases e)
 |shl=>
  intro x y k e0
  have e:shlK x y k=true:=e0
  clear e0
  unfold shlK at e
  split at e
  ·rename_i j a j' b
   rw[forceI_eq] at e
   refine⟨_,e,fun β u v W hu hv=>?_⟩
   simp only[VR] at hu hv;subst hu;subst hv
   refine⟨_,guard_noEq rfl _ _ W,?_,by simp[VR];rfl⟩
   have c1:¬ (Int.ofNat b<0):=by have:(Int.ofNat b)=(b:Int):=rfl;omega
   simp only[binOp,Op.shift,if_neg c1,Sem.run_pure];rfl
  ·cases e
 |shr=>
  intro x y k e0
  have e:shrK x y k=true:=e0
  clear e0
  unfold shrK at e
  split at e
  ·rename_i j a j' b
   rw[forceI_eq] at e
   refine⟨_,e,fun β u v W hu hv=>?_⟩
   simp only[VR] at hu hv;subst hu;subst hv
   refine⟨_,guard_noEq rfl _ _ W,?_,by simp[VR];rfl⟩
   have c1:¬ (Int.ofNat b<0):=by have:(Int.ofNat b)=(b:Int):=rfl;omega
   simp only[binOp,Op.shift,if_neg c1,Sem.run_pure];rfl
  ·cases e
 |lss=>exact lss_ok
 |leq=>exact leq_ok
 |gtr=>exact gtr_ok
 |geq=>exact geq_ok
 |_=>exact bad
theorem oBin_ok{o:Oper}{a:Fr}{h:H}{kv:KV}{kc:KC}{ky:KY}{op:BinOp}{x y:Operand}{yt:TypeId}(ho:o.op=.binOp op t x y yt)(e:oBin (binOf P op t x y) x y a h kv kc ky=true):OkP P o a h kv:=by
 obtain⟨u,hk0,hu⟩:=Zai (show evK a x _=true from e)
 obtain⟨v,hk1,hv⟩:=Zai hk0
 obtain⟨z,hz,hR⟩:=binOf_ok op _ _ _ hk1
 refine⟨z,hz,fun β W act hs hf=>?_⟩
 obtain⟨w,h1,h2,h3⟩:=hR β _ _ W (hu β act hf) (hv β act hf)
 refine⟨w,?_,h3⟩
 generalize Act.eval act=ρ at *
 simp only[execOp,ho,Sem.run_bind,h1,Result.andThen_ok,h2,Sem.run_pure]
end
end Go.Abs
namespace Go.Abs
open Go
noncomputable section
variable {P:Program}
theorem OR.some{β:Pl}{v:AV}{x:Option Value}(h:OR β (some v) x):∃ y,x=some y/\VR β v y:=by
 cases x with
 |none=>exact h.elim
 |some y=>exact⟨y,rfl,h⟩
theorem OR.none{β:Pl}{x:Option Value}(h:OR β none x):x=none:=by
 cases x with
 |none=>rfl
 |some y=>exact h.elim
theorem run_bound{j:IntKind}{n y:Nat}{c:BoundsCode}(W:World)(h:n<=y):(Instr.sliceBound (.int j (Int.ofNat n)) y c).run P W=.ok n W:=by
 have c1:(0:Int)<=Int.ofNat n/\Int.ofNat n<=(y:Int):=⟨Int.natCast_nonneg n,by have:(Int.ofNat n)=(n:Int):=rfl;rw[this];omega⟩
 simp only[Instr.sliceBound,asIntOf,Sem.run_bind,Sem.run_pure,Result.andThen_ok,if_pos c1];rfl
theorem boundsK_true{len cap:Nat}{lo hi mx:Option AV}{k:Nat->Nat->Nat->Bool}(e:boundsK len cap lo hi mx k=true):∃ l h m,k l h m=true/\(lo=none->l=0)/\(lo≠none->l<=h) /\
  (hi=none->h=len)/\(hi≠none->h<=m)/\m<=cap/\(mx=none->m=cap) /\
  ∀ (β:Pl) (lo' hi' mx':Option Value) (isSlice:Bool) (c:Nat) (W:World),OR β lo lo'->OR β hi hi'->OR β mx mx'->cap<=c ->
   (Instr.sliceBounds isSlice len c lo' hi' mx').run P W=.ok (l,h,if mx.isNone then c else m) W:=by
 unfold boundsK at e
 have hm:∃ m,highK hi mx len m (fun h=>lowK lo h fun l=>k l h m)=true/\m<=cap/\(mx=none->m=cap)/\(∀ v,mx=some v->∃ j,v=.int j (Int.ofNat m)):=by
  unfold maxK at e
  split at e
  ·exact⟨cap,e,Nat.le_refl _,fun _=>rfl,fun v q=>(by cases q)⟩
  ·obtain⟨j,n,hv,e2⟩:=natK_true e
   clear e
   subst hv
   split at e2
   ·rename_i hb;rw[ble_nat] at hb
    exact⟨n,e2,by simpa using hb,fun q=>(by cases q),fun v q=>(by cases q;exact⟨j,rfl⟩)⟩
   ·cases e2
 obtain⟨m,e,hm1,hm2,hm3⟩:=hm
 have hh:∃ h,lowK lo h (fun l=>k l h m)=true/\(hi=none->h=len/\mx=none)/\(hi≠none->h<=m)/\(∀ v,hi=some v->∃ j,v=.int j (Int.ofNat h)):=by
  unfold highK at e
  split at e
  ·obtain⟨j,n,hv,e2⟩:=natK_true e
   clear e
   subst hv
   split at e2
   ·rename_i hb;rw[ble_nat] at hb
    exact⟨n,e2,fun q=>(by cases q),fun _=>(by simpa using hb),fun v q=>(by cases q;exact⟨j,rfl⟩)⟩
   ·cases e2
  ·exact⟨len,e,fun _=>⟨rfl,rfl⟩,fun q=>absurd rfl q,fun v q=>(by cases q)⟩
  ·cases e
 obtain⟨h,e,hh1,hh2,hh3⟩:=hh
 have hl:∃ l,k l h m=true/\(lo=none->l=0)/\(lo≠none->l<=h)/\(∀ v,lo=some v->∃ j,v=.int j (Int.ofNat l)):=by
  unfold lowK at e
  split at e
  ·obtain⟨j,n,hv,e2⟩:=natK_true e
   clear e
   subst hv
   split at e2
   ·rename_i hb;rw[ble_nat] at hb
    exact⟨n,e2,fun q=>(by cases q),fun _=>(by simpa using hb),fun v q=>(by cases q;exact⟨j,rfl⟩)⟩
   ·cases e2
  ·exact⟨0,e,fun _=>rfl,fun q=>absurd rfl q,fun v q=>(by cases q)⟩
 obtain⟨l,hk,hl1,hl2,hl3⟩:=hl
 refine⟨l,h,m,hk,hl1,hl2,fun q=>(hh1 q).1,hh2,hm1,hm2,fun β lo' hi' mx' isSlice c W o1 o2 o3 hc=>?_⟩
 have M:(mx=none/\mx'=none/\m=cap)\/∃ w j,mx=some w/\mx'=some (.int j (Int.ofNat m)):=by
  cases mx with
  |none=>exact .inl ⟨rfl,o3.none,hm2 rfl⟩
  |some v=>
   obtain⟨y,hy1,hy⟩:=o3.some
   obtain⟨j,hv⟩:=hm3 v rfl
   subst hv
   simp only[VR] at hy;subst hy
   exact .inr ⟨_,j,rfl,hy1⟩
 have Hh:(hi=none/\hi'=none/\h=len/\mx=none)\/∃ w j,hi=some w/\hi'=some (.int j (Int.ofNat h))/\h<=m:=by
  cases hi with
  |none=>exact .inl ⟨rfl,o2.none,hh1 rfl⟩
  |some v=>
   obtain⟨y,hy1,hy⟩:=o2.some
   obtain⟨j,hv⟩:=hh3 v rfl
   subst hv
   simp only[VR] at hy;subst hy
   exact .inr ⟨_,j,rfl,hy1,hh2 (by simp)⟩
 have L:(lo=none/\lo'=none/\l=0)\/∃ w j,lo=some w/\lo'=some (.int j (Int.ofNat l))/\l<=h:=by
  cases lo with
  |none=>exact .inl ⟨rfl,o1.none,hl1 rfl⟩
  |some v=>
   obtain⟨y,hy1,hy⟩:=o1.some
   obtain⟨j,hv⟩:=hl3 v rfl
   subst hv
   simp only[VR] at hy;subst hy
   exact .inr ⟨_,j,rfl,hy1,hl2 (by simp)⟩
 unfold Instr.sliceBounds
 rcases M with ⟨a1,a2,a3⟩|⟨w1,j1,a1,a2⟩<;>rcases Hh with ⟨b1,b2,b3,b4⟩|⟨w2,j2,b1,b2,b3⟩<;>rcases L with ⟨c1,c2,c3⟩|⟨w3,j3,c1,c2,c3⟩
 ·subst a1;subst a2;subst b2;subst c2;subst b3;subst c3
  simp only[Sem.run_bind,Sem.run_pure,Result.andThen_ok,Option.isNone_none,if_true]
 ·subst a1;subst a2;subst b2;subst c2;subst b3
  simp only[Sem.run_bind,Sem.run_pure,Result.andThen_ok,Option.isNone_none,if_true,run_bound W c3]
 ·subst a1;subst a2;subst b2;subst c2;subst c3
  simp only[Sem.run_bind,Sem.run_pure,Result.andThen_ok,Option.isNone_none,if_true,run_bound W (show h<=c by omega)]
 ·subst a1;subst a2;subst b2;subst c2
  simp only[Sem.run_bind,Sem.run_pure,Result.andThen_ok,Option.isNone_none,if_true,run_bound W (show h<=c by omega),run_bound W c3]
 ·rw[a1] at b4;cases b4
 ·rw[a1] at b4;cases b4
 ·subst a1;subst a2;subst b2;subst c2;subst c3
  simp only[Sem.run_bind,Sem.run_pure,Result.andThen_ok,Option.isNone_some,Bool.false_eq_true,if_false,run_bound W (Nat.le_trans hm1 hc),run_bound W b3]
 ·subst a1;subst a2;subst b2;subst c2
  simp only[Sem.run_bind,Sem.run_pure,Result.andThen_ok,Option.isNone_some,Bool.false_eq_true,if_false,run_bound W (Nat.le_trans hm1 hc),run_bound W b3,run_bound W c3]
end
end Go.Abs
namespace Go.Abs
open Go
noncomputable section
variable {P:Program}
def SlOK(P:Program)(t:TypeId)(f:SlK):Prop:=∀ (v:AV) (lo hi mx:Option AV) (k:AV->Bool),f v lo hi mx k=true->∃ z,k z=true /\
 ∀ (β:Pl) (x:Value) (lo' hi' mx':Option Value) (W:World),VR β v x->OR β lo lo'->OR β hi hi'->OR β mx mx'->∃ w,(Instr.sliceAt t x lo' hi' mx').run P W=.ok w W/\VR β z w
theorem extract_map(s:ByteArray)(l h:Nat):(s.extract l h).data.toList.map UInt8.toNat=((s.data.toList.map UInt8.toNat).drop l).take (h - l):=by
 rw[<-List.map_drop,<-List.map_take]
 congr 1
 simp[ByteArray.data_extract,List.extract_eq_drop_take]
theorem slStr_ok{t:TypeId}(ht:P.underlying t=some .string):SlOK P t slStr:=by
 intro v lo hi mx k e
 unfold slStr at e
 split at e
 ·rename_i s
  rw[lenK_eq] at e
  obtain⟨l,h,m,e1,l1,l2,h1,h2,m1,m2,hR⟩:=boundsK_true (P:=P) e
  obtain⟨d1,e2⟩:=dropK_true e1
  obtain⟨d2,e3⟩:=takeK_true e2
  refine⟨_,e3,fun β x lo' hi' mx' W hx o1 o2 o3=>?_⟩
  simp only[VR] at hx
  obtain⟨b,hx,hb⟩:=hx
  subst hx
  have hmx:=o3.none
  subst hmx
  have hs:b.size=s.length:=by rw[<-hb,List.length_map];rfl
  have:=hR β lo' hi' none false s.length W o1 o2 trivial (Nat.le_refl _)
  simp only[Option.isNone_none,if_true] at this
  refine⟨.string (b.extract l h),?_,by simp only[VR];exact⟨_,rfl,by rw[extract_map,hb]⟩⟩
  simp only[Instr.sliceAt,Sem.run_bind,Zag W ht,Result.andThen_ok,Instr.slice,Option.isSome_none,Bool.false_eq_true,if_false,hs,this,Sem.run_pure]
 ·cases e
theorem slArr_ok{t el:TypeId}{n sz:Nat}(ht:P.underlying t=some (.array n el))(hs:sizeOfT P el=some sz):SlOK P t (slArr n sz):=by
 intro v lo hi mx k e
 unfold slArr at e
 split at e
 ·rename_i b off
  obtain⟨l,h,m,e1,l1,l2,h1,h2,m1,m2,hR⟩:=boundsK_true (P:=P) e
  have run:∀ (β:Pl) (r:Nat) (lo' hi' mx':Option Value) (W:World),OR β lo lo'->OR β hi hi'->OR β mx mx' ->
    (Instr.sliceAt t (.pointer (some ⟨r,off,none⟩)) lo' hi' mx').run P W=.ok (.slice (some (if m=l then⟨r,off,none⟩ else⟨r,off+l*sz,none⟩)) (h - l) (m - l)) W:=by
   intro β r lo' hi' mx' W o1 o2 o3
   have:=hR β lo' hi' mx' false n W o1 o2 o3 (Nat.le_refl _)
   have hq:(if mx.isNone=true then n else m)=m:=by
    cases mx with
    |none=>simp[m2 rfl]
    |some _=>rfl
   rw[hq] at this
   simp only[Instr.sliceAt,Sem.run_bind,Zag W ht,Result.andThen_ok,Instr.sureAddr,Sem.run_pure,this,run_size W hs,addr_add]
  split at e1
  ·rename_i hb
   rw[beq_nat] at hb
   have hb:m=l:=by simpa using hb
   rw[Zaw] at e1
   refine⟨_,e1,fun β x lo' hi' mx' W hx o1 o2 o3=>?_⟩
   simp only[VR] at hx
   obtain⟨r,κ,hβ,hx⟩:=hx
   subst hx
   refine⟨_,run β r lo' hi' mx' W o1 o2 o3,?_⟩
   simp only[VR,if_pos hb]
   exact⟨r,κ,hβ,by rw[hb,Nat.sub_self]⟩
  ·rename_i hb
   rw[beq_nat] at hb
   have hb:¬ m=l:=by simpa using hb
   simp only[Zaw] at e1
   refine⟨_,e1,fun β x lo' hi' mx' W hx o1 o2 o3=>?_⟩
   simp only[VR] at hx
   obtain⟨r,κ,hβ,hx⟩:=hx
   subst hx
   refine⟨_,run β r lo' hi' mx' W o1 o2 o3,?_⟩
   simp only[VR,if_neg hb]
   exact⟨r,κ,hβ,rfl⟩
 ·cases e
theorem slRow_ok{t el:TypeId}{sz:Nat}(ht:P.underlying t=some (.slice el))(hs:sizeOfT P el=some sz):SlOK P t (slRow sz):=by
 intro v lo hi mx k e
 have run:∀ (a:Option Addr) (len c l h m:Nat) (lo' hi' mx':Option Value) (W:World),(Instr.sliceBounds true len c lo' hi' mx').run P W=.ok (l,h,m) W ->
   (Instr.sliceAt t (.slice a len c) lo' hi' mx').run P W=.ok (.slice (if m=l then a else a.map (·.add (l*sz))) (h - l) (m - l)) W:=by
  intro a len c l h m lo' hi' mx' W hb
  simp only[Instr.sliceAt,Sem.run_bind,Zag W ht,Result.andThen_ok,Instr.slice,hb,Sem.run_pure,run_size W hs]
 unfold slRow at e
 split at e
 ·-- nils
  obtain⟨l,h,m,e1,l1,l2,h1,h2,m1,m2,hR⟩:=boundsK_true (P:=P) e
  split at e1
  ·refine⟨_,e1,fun β x lo' hi' mx' W hx o1 o2 o3=>?_⟩
   simp only[VR] at hx;subst hx
   have hb:=hR β lo' hi' mx' true 0 W o1 o2 o3 (Nat.le_refl _)
   have hq:(if mx.isNone=true then 0 else 0)=0:=by split<;>rfl
   rw[hq] at hb
   exact⟨_,run none 0 0 0 0 0 lo' hi' mx' W hb,by simp[VR]⟩
  ·cases e1
 ·-- sl
  rename_i b off len cap
  obtain⟨l,h,m,e1,l1,l2,h1,h2,m1,m2,hR⟩:=boundsK_true (P:=P) e
  have hq:(if mx.isNone=true then cap else m)=m:=by
   cases mx with
   |none=>simp[m2 rfl]
   |some _=>rfl
  split at e1
  ·rename_i hb
   rw[beq_nat] at hb
   have hb:m=l:=by simpa using hb
   rw[Zaw] at e1
   refine⟨_,e1,fun β x lo' hi' mx' W hx o1 o2 o3=>?_⟩
   simp only[VR] at hx
   obtain⟨r,κ,hβ,hx⟩:=hx
   subst hx
   have hB:=hR β lo' hi' mx' true cap W o1 o2 o3 (Nat.le_refl _)
   rw[hq] at hB
   refine⟨_,run _ _ _ l h m lo' hi' mx' W hB,?_⟩
   simp only[VR,if_pos hb]
   exact⟨r,κ,hβ,by rw[hb,Nat.sub_self]⟩
  ·rename_i hb
   rw[beq_nat] at hb
   have hb:¬ m=l:=by simpa using hb
   simp only[Zaw] at e1
   refine⟨_,e1,fun β x lo' hi' mx' W hx o1 o2 o3=>?_⟩
   simp only[VR] at hx
   obtain⟨r,κ,hβ,hx⟩:=hx
   subst hx
   have hB:=hR β lo' hi' mx' true cap W o1 o2 o3 (Nat.le_refl _)
   rw[hq] at hB
   refine⟨_,run _ _ _ l h m lo' hi' mx' W hB,?_⟩
   simp only[VR,if_neg hb,Option.map_some,addr_add]
   exact⟨r,κ,hβ,rfl⟩
 ·-- slu
  rename_i b off len sz'
  split at e
  ·rename_i hz
   rw[beq_nat] at hz
   have hz:sz=sz':=by simpa using hz
   subst hz
   obtain⟨l,h,m,e1,l1,l2,h1,h2,m1,m2,hR⟩:=boundsK_true (P:=P) e
   split at e1
   ·rename_i hhl
    rw[ble_nat] at hhl
    have hhl:h<=len:=by simpa using hhl
    have hlh:l<=h:=by
     cases lo with
     |none=>rw[l1 rfl];omega
     |some _=>exact l2 (by simp)
    cases mx with
    |none=>
     simp only at e1
     split at e1
     ·rename_i hlt
      rw[blt_nat] at hlt
      have hlt:l<len:=by simpa using hlt
      simp only[Zaw] at e1
      refine⟨_,e1,fun β x lo' hi' mx' W hx o1 o2 o3=>?_⟩
      simp only[VR] at hx
      obtain⟨r,κ,c,hβ,hc1,hc2,hx⟩:=hx
      subst hx
      have hB:=hR β lo' hi' mx' true c W o1 o2 o3 hc2
      simp only[Option.isNone_none,if_true] at hB
      refine⟨_,run _ _ _ l h c lo' hi' mx' W hB,?_⟩
      have hcl:¬ c=l:=by omega
      simp only[VR,if_neg hcl,Option.map_some,addr_add]
      refine⟨r,κ,c - l,hβ,?_,by omega,rfl⟩
      rw[<-hc1]
      have:c*sz=l*sz+(c - l)*sz:=by rw[<-Nat.add_mul];congr 1;omega
      omega
     ·rename_i hlt
      rw[blt_nat] at hlt
      have hlt:¬ l<len:=by simpa using hlt
      split at e1
      ·rename_i hbe
       rw[beq_nat] at hbe
       have hbe:l=h:=by simpa using hbe
       refine⟨_,e1,fun β x lo' hi' mx' W hx o1 o2 o3=>?_⟩
       simp only[VR] at hx
       obtain⟨r,κ,c,hβ,hc1,hc2,hx⟩:=hx
       subst hx
       have hB:=hR β lo' hi' mx' true c W o1 o2 o3 hc2
       simp only[Option.isNone_none,if_true] at hB
       refine⟨_,run _ _ _ l h c lo' hi' mx' W hB,?_⟩
       simp only[VR]
       subst hbe
       by_cases hcl:c=l
       ·exact⟨r,κ,off,c - l,hβ,by simp[hcl]⟩
       ·exact⟨r,κ,off+l*sz,c - l,hβ,by simp[hcl,addr_add]⟩
      ·cases e1
    |some w=>
     simp only at e1
     split at e1
     ·rename_i hb
      rw[beq_nat] at hb
      have hb:m=l:=by simpa using hb
      rw[Zaw] at e1
      refine⟨_,e1,fun β x lo' hi' mx' W hx o1 o2 o3=>?_⟩
      simp only[VR] at hx
      obtain⟨r,κ,c,hβ,hc1,hc2,hx⟩:=hx
      subst hx
      have hB:=hR β lo' hi' mx' true c W o1 o2 o3 hc2
      simp only[Option.isNone_some,Bool.false_eq_true,if_false] at hB
      refine⟨_,run _ _ _ l h m lo' hi' mx' W hB,?_⟩
      simp only[VR,if_pos hb]
      exact⟨r,κ,hβ,by rw[hb,Nat.sub_self]⟩
     ·rename_i hb
      rw[beq_nat] at hb
      have hb:¬ m=l:=by simpa using hb
      simp only[Zaw] at e1
      refine⟨_,e1,fun β x lo' hi' mx' W hx o1 o2 o3=>?_⟩
      simp only[VR] at hx
      obtain⟨r,κ,c,hβ,hc1,hc2,hx⟩:=hx
      subst hx
      have hB:=hR β lo' hi' mx' true c W o1 o2 o3 hc2
      simp only[Option.isNone_some,Bool.false_eq_true,if_false] at hB
      refine⟨_,run _ _ _ l h m lo' hi' mx' W hB,?_⟩
      simp only[VR,if_neg hb,Option.map_some,addr_add]
      exact⟨r,κ,hβ,rfl⟩
   ·cases e1
  ·cases e
 ·-- sle
  rename_i b
  split at e
  ·obtain⟨l,h,m,e1,l1,l2,h1,h2,m1,m2,hR⟩:=boundsK_true (P:=P) e
   split at e1
   ·refine⟨_,e1,fun β x lo' hi' mx' W hx o1 o2 o3=>?_⟩
    simp only[VR] at hx
    obtain⟨r,κ,o,c,hβ,hx⟩:=hx
    subst hx
    have hmx:=o3.none
    subst hmx
    have hB:=hR β lo' hi' none true c W o1 o2 trivial (Nat.zero_le _)
    simp only[Option.isNone_none,if_true] at hB
    refine⟨_,run _ _ _ 0 0 c lo' hi' none W hB,?_⟩
    simp only[VR]
    by_cases hc0:c=0
    ·exact⟨r,κ,o,0,hβ,by simp[hc0]⟩
    ·exact⟨r,κ,o,c,hβ,by simp[hc0,addr_add]⟩
   ·cases e1
  ·cases e
 ·cases e
theorem oSlice_ok{o:Oper}{a:Fr}{h:H}{kv:KV}{kc:KC}{ky:KY}{t:TypeId}{x:Operand}{lo hi mx:Option Operand}(ho:o.op=.slice t x lo hi mx)(e:oSlice P t x lo hi mx a h kv kc ky=true):OkP P o a h kv:=by
 obtain⟨v,k0,hv⟩:=Zai (show evK a x _=true from e)
 obtain⟨l,k1,hl⟩:=optK_true k0
 obtain⟨h',k2,hh⟩:=optK_true k1
 obtain⟨m,k3,hm⟩:=optK_true k2
 have fin:∀ f,SlOK P t f->f v l h' m (fun v=>kv v h)=true->OkP P o a h kv:=by
  intro f hf hk
  obtain⟨z,hz,hR⟩:=hf v l h' m _ hk
  refine⟨z,hz,fun β W act hs hfr=>?_⟩
  obtain⟨w,h1,h2⟩:=hR β _ _ _ _ W (hv β act hfr) (hl β act hfr) (hh β act hfr) (hm β act hfr)
  refine⟨w,?_,h2⟩
  generalize Act.eval act=ρ at *
  simp only[execOp,ho,Sem.run_bind,h1,Result.andThen_ok,Sem.run_pure]
 cases ht:P.underlying t with
 |none=>simp only[sliceOf,ht] at k3;cases k3
 |some d=>
  cases d with
  |string=>simp only[sliceOf,ht] at k3;exact fin _ (slStr_ok ht) k3
  |slice el=>
   cases hs:sizeOfT P el with
   |none=>simp only[sliceOf,ht,hs] at k3;cases k3
   |some n=>simp only[sliceOf,ht,hs] at k3;exact fin _ (slRow_ok ht hs) k3
  |array len el=>
   cases hs:sizeOfT P el with
   |none=>simp only[sliceOf,ht,hs] at k3;cases k3
   |some n=>simp only[sliceOf,ht,hs] at k3;exact fin _ (slArr_ok ht hs) k3
  |_=>simp only[sliceOf,ht] at k3;cases k3
end
end Go.Abs
namespace Go.Abs
open Go
noncomputable section
variable {P:Program}
theorem Sim.redirect{β:Pl}{h:H}{W W':World}(hs:Sim β h W){b y:A}{r κ:Nat}{b0 b':Blk}(hβ:β b=some (r,κ))(hg:h.get b=some b0)(ha:b0.own=true)(hy:y.toNat=h.next.toNat+1)
  (hsz:W'.heap.size=W.heap.size) (ho:∀ r',r'≠r->W'.heap[r']?=W.heap[r']?) (hb:BR (β.new h.next r κ) b' W'.heap[r]? κ)
  (hl:∀ lp:Loop,W.heap[r]?≠some (.loop lp)) (hq:Quiet W W') :
  Sim (β.new h.next r κ) ((h.put b .dead).new b' y) W'/\Step h.next β W (β.new h.next r κ) W':=by
 have hx:=hs.ext_new r κ
 have hbn:b≠h.next:=fun c=>by have:=hs.fresh b _ hβ;rw[c] at this;omega
 have hget:∀ x,((h.put b .dead).new b' y).get x=if x=h.next then some b' else if x=b then some .dead else h.get x:=by
  intro x;rw[H.get_new];show(if x=h.next then some b' else(h.put b .dead).get x)=_;rw[H.get_put]
 refine⟨⟨?_,?_,?_,?_,⟨by rw[hsz];exact hs.high.1,fun x r' κ' b2 e1 e2 e3=>by
   rw[hget] at e2;simp only[Pl.new] at e1
   by_cases c1:x=h.next
   ·simp only[c1,if_true,Option.some.injEq,Prod.mk.injEq] at e1;have:=hs.high.2 b r κ b0 hβ hg ha;omega
   ·simp only[c1,if_false] at e1;rw[if_neg c1] at e2
    by_cases c2:x=b
    ·rw[if_pos c2] at e2;cases e2;cases e3
    ·rw[if_neg c2] at e2;exact hs.high.2 x r' κ' b2 e1 e2 e3⟩⟩,⟨hx,?_,?_,Nat.le_of_eq hsz.symm,?_,?_,hq,fun r' hr'=>ho r' fun q=>by have:=hs.high.2 b r κ b0 hβ hg ha;omega⟩⟩
 ·intro x b2 e
  rw[hget] at e
  by_cases c1:x=h.next
  ·rw[if_pos c1] at e;cases e
   exact⟨r,κ,by unfold Pl.new;rw[if_pos c1],hb⟩
  ·rw[if_neg c1] at e
   by_cases c2:x=b
   ·rw[if_pos c2] at e;cases e
    refine⟨r,κ,hx _ _ (by rw[c2];exact hβ),?_⟩
    have hlt:=hs.bound _ _ _ hβ
    show W'.heap[r]?≠none
    rw[Array.getElem?_eq_getElem (by omega)];simp
   ·rw[if_neg c2] at e
    obtain⟨r',κ',e1,e2⟩:=hs.live x b2 e
    refine⟨r',κ',hx _ _ e1,?_⟩
    by_cases hd:b2.alive=true
    ·have:r'≠r:=fun q=>c2 (hs.inj b x r' κ κ' b0 b2 (by rw[q];exact hβ) e1 hg e ha hd).symm
     rw[ho r' this];exact e2.mono hx
    ·cases b2 with
     |dead=>
      have hlt:=hs.bound _ _ _ e1
      show W'.heap[r']?≠none
      rw[Array.getElem?_eq_getElem (by omega)];simp
     |_=>exact absurd rfl hd
 ·intro x p e
  show x.toNat<y.toNat
  simp only[Pl.new] at e
  split at e
  ·rename_i c;rw[c,hy];omega
  ·have:=hs.fresh x p e;omega
 ·intro x z r' κ1 κ2 b1 b2 e1 e2 g1 g2 a1 a2
  rw[hget] at g1 g2
  have other:∀ (x:A) (κ1:Nat) (b1:Blk),x≠h.next->Pl.new β h.next r κ x=some (r,κ1)->(if x=b then some Blk.dead else h.get x)=some b1->b1.alive=true->False:=by
   intro x κ1 b1 c e g a1
   by_cases c2:x=b
   ·rw[if_pos c2] at g;cases g;cases a1
   ·rw[if_neg c2] at g
    simp only[Pl.new,c,if_false] at e
    exact c2 (hs.inj b x r κ κ1 b0 b1 hβ e hg g ha a1).symm
  by_cases c1:x=h.next<;>by_cases c2:z=h.next
  ·rw[c1,c2]
  ·rw[if_neg c2] at g2
   have:r'=r:=by simp only[Pl.new,c1,if_true,Option.some.injEq,Prod.mk.injEq] at e1;exact e1.1.symm
   subst this
   exact(other z κ2 b2 c2 e2 g2 a2).elim
  ·rw[if_neg c1] at g1
   have:r'=r:=by simp only[Pl.new,c2,if_true,Option.some.injEq,Prod.mk.injEq] at e2;exact e2.1.symm
   subst this
   exact(other x κ1 b1 c1 e1 g1 (Blk.own_alive a1)).elim
  ·rw[if_neg c1] at g1;rw[if_neg c2] at g2
   simp only[Pl.new,c1,c2,if_false] at e1 e2
   by_cases d1:x=b
   ·rw[if_pos d1] at g1;cases g1;cases a1
   ·by_cases d2:z=b
    ·rw[if_pos d2] at g2;cases g2;cases a2
    ·rw[if_neg d1] at g1;rw[if_neg d2] at g2
     exact hs.inj _ _ _ _ _ _ _ e1 e2 g1 g2 a1 a2
 ·intro x r' κ' e
  rw[hsz]
  simp only[Pl.new] at e
  split at e
  ·simp only[Option.some.injEq,Prod.mk.injEq] at e;have:=hs.bound _ _ _ hβ;omega
  ·exact hs.bound _ _ _ e
 ·intro x p e
  simp only[Pl.new] at e
  split at e
  ·rename_i c;exact .inr (by rw[c];exact Nat.le_refl _)
  ·exact .inl e
 ·intro x r' κ' e
  simp only[Pl.new] at e
  split at e
  ·simp only[Option.some.injEq,Prod.mk.injEq] at e;exact .inl ⟨b,κ,by rw[<-e.1];exact hβ⟩
  ·exact .inl ⟨x,κ',e⟩
 ·intro r' _ hn
  exact ho r' fun q=>hn b κ (by rw[q];exact hβ)
 ·intro r' lp e
  by_cases c:r'=r
  ·subst c;exact absurd e (hl lp)
  ·exact⟨lp,by rw[ho r' c];exact e,rfl⟩
theorem lenOfK_true{v:AV}{k:Nat->Bool}(e:lenOfK v k=true):∃ n,k n=true/\∀ (β:Pl) (x:Value) (W:World),VR β v x->(Builtin.lenOf x).run P W=.ok n W:=by
 unfold lenOfK at e
 split at e
 ·exact⟨_,e,fun β x W hx=>by simp only[VR] at hx;subst hx;rfl⟩
 ·exact⟨_,e,fun β x W hx=>by simp only[VR] at hx;obtain⟨_,_,_,_,_,hx⟩:=hx;subst hx;rfl⟩
 ·exact⟨_,e,fun β x W hx=>by simp only[VR] at hx;obtain⟨_,_,hx⟩:=hx;subst hx;rfl⟩
 ·exact⟨_,e,fun β x W hx=>by simp only[VR] at hx;obtain⟨_,_,_,hx⟩:=hx;subst hx;rfl⟩
 ·exact⟨_,e,fun β x W hx=>by simp only[VR] at hx;obtain⟨_,_,_,_,_,_,hx⟩:=hx;subst hx;rfl⟩
 ·rw[lenK_eq] at e
  refine⟨_,e,fun β x W hx=>?_⟩
  simp only[VR] at hx
  obtain⟨b,hx,hb⟩:=hx
  subst hx
  rw[<-hb,List.length_map];rfl
 ·cases e
theorem strsK_eq:∀ (s:List Nat) (k:List AV->Bool),strsK s k=k (s.map fun b=>.int .u8 (.ofNat b))
 |[],k=>rfl
 |b::s,k=>by
  have:strsK (b::s) k=strsK s fun l=>k (.int .u8 (.ofNat b)::l):=rfl
  rw[this,strsK_eq s];rfl
theorem VRs.bytes{β:Pl}:∀ (l:List UInt8),VRs β ((l.map UInt8.toNat).map fun b=>.int .u8 (.ofNat b)) (l.map fun b=>.int .u8 b.toNat)
 |[]=>VRs.nil.2 rfl
 |b::l=>VRs.cons'.2 ⟨by simp[VR],VRs.bytes l⟩
theorem row_load{β:Pl}{h:H}{W:World}(hs:Sim β h W){b:A}{r κ off n sz:Nat}{bl:Blk}(hβ:β b=some (r,κ))(hg:h.get b=some bl){l:List AV}{kd:Kind}(hb:bl=.cells l kd)
  (h1:off<=l.length) (h2:n*sz<=(l.drop off).length) :
  ∃ c:Array Value,(loadCells ⟨r,off,none⟩ (n*sz)).run P W=.ok c W/\VRs β ((l.drop off).take (n*sz)) c.toList/\((l.drop off).take (n*sz)).all AV.one=true/\c.size=n*sz:=by
 subst hb
 obtain⟨r',κ',hβ',hbr⟩:=hs.live b _ hg
 rw[hβ] at hβ';cases hβ'
 obtain⟨vs,hlen,hvs,hrng⟩:=row_range hbr off (n*sz) (by rw[List.length_drop] at h2;omega)
 refine⟨vs.toArray,?_,hvs,?_,by simp[hlen]⟩
 ·have:=run_loadCells_list (P:=P) W ⟨r,off,none⟩ vs (fun j v hv=>by rw[addr_add];exact hrng j v hv)
  rw[hlen] at this;exact this
 ·obtain⟨c,t',fr,_,_,_,_,h5,_⟩:=hbr
  rw[List.all_eq_true] at h5 ⊢
  exact fun z hz=>h5 z (List.mem_of_mem_drop (List.mem_of_mem_take hz))
theorem rowK_at{h:H}{b:A}{off sz n:Nat}{k:List AV->Bool}
  (e:getK h b (fun b=>match b with|.cells l _=>dropK l off fun l=>takeK l (n*sz) k|_=>match n with|0=>k []|_=>false)=true) :
  ∃ l,k l=true/\∀ (β:Pl) (W:World) (r κ:Nat),Sim β h W->β b=some (r,κ)->∃ c:Array Value,(loadCells ⟨r,off,none⟩ (n*sz)).run P W=.ok c W/\VRs β l c.toList/\l.all AV.one=true/\c.size=n*sz:=by
 obtain⟨bl,hg,e1⟩:=Zat e
 clear e
 cases bl with
 |cells l kd=>
  obtain⟨h1,e2⟩:=dropK_true e1
  obtain⟨h2,e3⟩:=takeK_true e2
  exact⟨_,e3,fun β W r κ hs hβ=>row_load hs hβ hg rfl h1 h2⟩
 |_=>
  cases n with
  |succ n=>cases e1
  |zero=>exact⟨[],e1,fun β W r κ hs hβ=>⟨#[],by simp[loadCells,loadCellsFrom],VRs.nil.2 rfl,rfl,by simp⟩⟩
theorem rowK_true{h:H}{v:AV}{sz n:Nat}{k:List AV->Bool}(e:rowK h v sz n k=true):∃ l,k l=true/\∀ (β:Pl) (x:Value) (W:World),Sim β h W->VR β v x->(∀ s,v=.str s->sz=1) ->
  ∃ c:Array Value,(Builtin.firstCells sz n x).run P W=.ok c W/\VRs β l c.toList/\l.all AV.one=true/\c.size=n*sz:=by
 unfold rowK at e
 split at e
 ·split at e
  ·exact⟨_,e,fun β x W hs hx _=>by simp only[VR] at hx;subst hx;exact⟨#[],rfl,VRs.nil.2 rfl,rfl,by simp⟩⟩
  ·cases e
 ·split at e
  ·refine⟨_,e,fun β x W hs hx _=>?_⟩
   simp only[VR] at hx;obtain⟨r,κ,o,c,_,hx⟩:=hx;subst hx
   exact⟨#[],by simp[Builtin.firstCells,loadCells,loadCellsFrom],VRs.nil.2 rfl,rfl,by simp⟩
  ·cases e
 ·split at e
  ·refine⟨_,e,fun β x W hs hx _=>?_⟩
   simp only[VR] at hx;obtain⟨o,c,hx⟩:=hx;subst hx
   exact⟨#[],by cases o<;>simp[Builtin.firstCells,loadCells,loadCellsFrom],VRs.nil.2 rfl,rfl,by simp⟩
  ·cases e
 ·obtain⟨l,hk,hR⟩:=rowK_at (P:=P) e
  refine⟨l,hk,fun β x W hs hx _=>?_⟩
  simp only[VR] at hx
  obtain⟨r,κ,hβ,hx⟩:=hx
  subst hx
  exact hR β W r κ hs hβ
 ·obtain⟨l,hk,hR⟩:=rowK_at (P:=P) e
  refine⟨l,hk,fun β x W hs hx _=>?_⟩
  simp only[VR] at hx
  obtain⟨r,κ,c,hβ,_,_,hx⟩:=hx
  subst hx
  exact hR β W r κ hs hβ
 ·rename_i s
  obtain⟨h1,e1⟩:=takeK_true e
  rw[strsK_eq] at e1
  refine⟨_,e1,fun β x W hs hx h1'=>?_⟩
  have hsz:=h1' s rfl
  simp only[VR] at hx
  obtain⟨b,hx,hb⟩:=hx
  subst hx
  refine⟨(b.extract 0 n).data.map fun b=>.int .u8 b.toNat,rfl,?_,?_,?_⟩
  ·rw[Array.toList_map]
   have:s.take n=(b.extract 0 n).data.toList.map UInt8.toNat:=by rw[extract_map,hb];simp
   rw[this];exact VRs.bytes _
  ·rw[List.all_eq_true];intro z hz
   obtain⟨q,_,rfl⟩:=List.mem_map.1 hz
   rfl
  ·have:=congrArg List.length (extract_map b 0 n)
   rw[hb] at this
   simp only[List.length_map,Array.length_toList,List.drop_zero,Nat.sub_zero,List.length_take] at this
   rw[Array.size_map,this,hsz];omega
 ·cases e
end
end Go.Abs
namespace Go.Abs
open Go
noncomputable section
variable {P:Program}
theorem append_room{ts:Array TypeId}{t t2 ty et:TypeId}{d2:TypeDesc}{i:TypeInfo}{W W':World}{base:Option Addr}{sLen sCap n:Nat}{x:Value}{c:Array Value}
  (h0:ts[0]?=some t) (h1:ts[1]?=some t2) (hu:P.underlying t=some (.slice et)) (hu2:P.underlying t2=some d2) (hd2:∀ k,d2≠.int k) (hi:P.info? et=some i)
  (hn:(Builtin.lenOf x).run P W=.ok n W) (hc:(Builtin.firstCells i.size n x).run P W=.ok c W) (hle:sLen+n<=sCap)
  (hst:(match base with|some a=>storeCells (a.add (sLen*i.size)) c.toList|none=>pure ():Sem Unit).run P W=.ok () W') :
  (Builtin.append_ ts ty #[.slice base sLen sCap,x]).run P W=.ok (.slice base (sLen+n) sCap) W':=by
 have hz:(do pure ((<-underlying t2) matches .int _):Sem Bool).run P W=.ok false W:=by
  simp only[Sem.run_bind,Zag W hu2,Result.andThen_ok]
  cases d2<;>first|(exact absurd rfl (hd2 _))|rfl
 have hso:(sizeOf et).run P W=.ok i.size W:=by simp[sizeOf,typeInfo,hi]
 unfold Builtin.append_
 simp only[h0,List.getElem?_toArray,List.getElem?_cons_zero,List.getElem?_cons_succ,h1,Sem.run_bind,Zag W hu,Zag W hu2,Result.andThen_ok,hso,Sem.run_pure]
 cases d2<;>first|(exact absurd rfl (hd2 _))|skip
 all_goals
  simp only[Bool.false_eq_true,if_false,hn,Result.andThen_ok,Sem.run_bind,if_pos hle,Bool.not_false,if_true,hc]
  cases base with
  |none=>
   have:W'=W:=by
    simp only[Sem.run_pure] at hst;injection hst with _ q;exact q.symm
   subst this;rfl
  |some a=>simp only[hst,Sem.run_bind,Result.andThen_ok,Sem.run_pure]
theorem append_grow{ts:Array TypeId}{t t2 ty et:TypeId}{d2:TypeDesc}{i:TypeInfo}{z:Value}{W:World}{base:Option Addr}{sLen sCap n:Nat}{x:Value}{c old:Array Value}
  (h0:ts[0]?=some t) (h1:ts[1]?=some t2) (hu:P.underlying t=some (.slice et)) (hu2:P.underlying t2=some d2) (hd2:∀ k,d2≠.int k) (hi:P.info? et=some i) (hz:i.zero=some z)
  (hn:(Builtin.lenOf x).run P W=.ok n W) (hc:(Builtin.firstCells i.size n x).run P W.drew=.ok c W.drew) (ho:(Builtin.firstCells i.size sLen (.slice base sLen sCap)).run P W.drew=.ok old W.drew)
  (hgt:sCap<sLen+n) (h63:sLen+n<=1000000) (hb:(sLen+n)*i.bytes<=1000000) :
  (Builtin.append_ ts ty #[.slice base sLen sCap,x]).run P W=.ok (.slice (some ⟨W.heap.size,0,none⟩) (sLen+n) (grownCap W (sLen+n) sCap et))
   (W.drew.alloc (.cells (old++c++Builtin.zeroCells z.cells (grownCap W (sLen+n) sCap et - (sLen+n))) et)):=by
 have hso:(sizeOf et).run P W=.ok i.size W:=by simp[sizeOf,typeInfo,hi]
 have hti:∀ W,(typeInfo et).run P W=.ok i W:=fun W=>by simp[typeInfo,hi]
 have hzv:∀ W,(zeroValue et).run P W=.ok z W:=fun W=>by simp[zeroValue,typeInfo,hi,hz]
 have g1:¬ (sLen+n<=sCap):=by omega
 have g2:¬ (((sLen+n:Nat):Int)>IntKind.i64.max/\(False\/i.bytes=0)):=by
  rintro⟨q,_⟩
  have:IntKind.i64.max=9223372036854775807:=rfl
  omega
 have g2':¬ (((sLen+n:Nat):Int)>IntKind.i64.max):=by
  have:IntKind.i64.max=9223372036854775807:=rfl
  omega
 have g3:¬ (Builtin.nextslicecap (sLen+n) sCap*i.bytes>2 ^ 48):=by
  have h:=nextslicecap_le hgt
  have:Builtin.nextslicecap (sLen+n) sCap*i.bytes<=2*(sLen+n)*i.bytes:=Nat.mul_le_mul_right _ h
  have e2:2*(sLen+n)*i.bytes=2*((sLen+n)*i.bytes):=by rw[Nat.mul_assoc]
  omega
 have hch:(choose (.appendCap (sLen+n) sCap et)).run P W=.ok (grownCap W (sLen+n) sCap et) W.drew:=by
  simp only[run_choose,Question.forced,Bool.false_eq_true,if_false,grownCap,World.drew_eq]
 unfold Builtin.append_
 simp only[h0,List.getElem?_toArray,List.getElem?_cons_zero,List.getElem?_cons_succ,h1,Sem.run_bind,Zag W hu,Zag W hu2,Result.andThen_ok,hso,Sem.run_pure]
 cases d2<;>first|(exact absurd rfl (hd2 _))|skip
 all_goals
  simp only[Bool.false_eq_true,if_false,hn,Result.andThen_ok,Sem.run_bind,if_neg g1,Bool.not_false,if_true,hti,g2',false_and,if_neg g3,hch,run_askRoom,ho,hc,hzv,newRow,run_newObj,World.alloc_eq,Sem.run_pure,World.size_drew]
end
end Go.Abs
namespace Go.Abs
open Go
noncomputable section
variable {P:Program}
def BOK(P:Program)(f:BK)(run:List Value->Sem Value):Prop:=∀ (l:List AV) (h:H) (kv:KV),f l h kv=true->∃ v h',kv v h'=true/\h.next.toNat<=h'.next.toNat /\
 ∀ (β:Pl) (W:World) (vs:List Value),Sim β h W->VRs β l vs->∃ β' x W',(run vs).run P W=.ok x W'/\VR β' v x/\Sim β' h' W'/\Step h.next β W β' W'
theorem elemInfo_some{t t2:Option TypeId}{sz bytes tt:Nat}(e:elemInfo P t t2=some (sz,bytes,tt)):∃ t' t2' et d2 i zl z,t=some t'/\t2=some t2'/\P.underlying t'=some (.slice et)/\P.underlying t2'=some d2 /\
  (∀ k,d2≠.int k)/\P.info? et=some i/\zerosOf P et=some zl/\i.zero=some z/\ofVs z.cells.toList=some zl/\zl.length=i.size/\sz=i.size/\bytes=i.bytes/\tt=et:=by
 cases t with
 |none=>simp[elemInfo] at e
 |some t'=>
  cases hn:noNumber P t2 with
  |false=>simp[elemInfo,hn] at e
  |true=>
   cases t2 with
   |none=>simp[noNumber] at hn
   |some t2'=>
    cases h2:P.underlying t2' with
    |none=>simp[noNumber,h2] at hn
    |some d2=>
     have hd:∀ k,d2≠.int k:=fun k q=>by subst q;simp[noNumber,h2] at hn
     simp only[elemInfo,hn] at e
     cases hu:P.underlying t' with
     |none=>simp[hu] at e
     |some d=>
      cases d with
      |slice et=>
       simp only[hu] at e
       cases hi:P.info? et with
       |none=>simp[hi] at e
       |some i=>
        cases hz:zerosOf P et with
        |none=>simp[hi,hz] at e
        |some zl=>
         simp only[hi,hz] at e
         split at e
         ·rename_i hb
          rw[beq_nat] at hb
          cases e
          obtain⟨i',z,q1,q2,q3⟩:=zerosOf_some hz
          rw[hi] at q1;cases q1
          exact⟨t',t2',_,d2,i,zl,z,rfl,rfl,hu,h2,hd,hi,hz,q2,q3,by simpa using hb,rfl,rfl,rfl⟩
         ·cases e
      |_=>simp[hu] at e
theorem smallK_true{n bytes:Nat}{k:Bool}(e:smallK n bytes k=true):n*bytes<=1000000/\n<=1000000/\k=true:=by
 unfold smallK at e
 split at e
 ·rename_i h1 h2
  rw[ble_nat] at h1 h2
  exact⟨by simpa using h1,by simpa using h2,e⟩
 ·cases e
theorem Sim.drew{β:Pl}{h:H}{W:World}(hs:Sim β h W):Sim β h W.drew:=⟨hs.live,hs.fresh,hs.inj,hs.bound,hs.high⟩
theorem Step.drew(n:A)(β:Pl)(W:World):Step n β W β W.drew:=
 ⟨Ext.refl β,fun _ _ h=>.inl h,fun x r κ h=>.inl ⟨x,κ,h⟩,Nat.le_refl _,fun _ _ _=>rfl,fun _ lp h=>⟨lp,h,rfl⟩,⟨rfl,rfl,rfl⟩,fun _ _=>rfl⟩
theorem Sim.grown{β:Pl}{h:H}{W:World}(hs:Sim β h W){l:List AV}{c zs:Array Value}{m cap sz:Nat}(hl:VRs β l c.toList)(h1:l.all AV.one=true)(hc:c.size=m*sz)(hz:zs.size=sz)(hm:m<=cap)(t:TypeId){y:A}(hy:y.toNat=h.next.toNat+1) :
  Sim (β.new h.next W.heap.size (cap*sz)) (h.new (.cells l (.tail t)) y) (W.drew.alloc (.cells (c++Builtin.zeroCells zs (cap - m)) t)) /\
  Step h.next β W (β.new h.next W.heap.size (cap*sz)) (W.drew.alloc (.cells (c++Builtin.zeroCells zs (cap - m)) t)) /\
  VR (β.new h.next W.heap.size (cap*sz)) (.slu h.next 0 m sz) (.slice (some ⟨W.heap.size,0,none⟩) m cap):=by
 have hsz:(c++Builtin.zeroCells zs (cap - m)).size=cap*sz:=by
  rw[Array.size_append,size_zeroCells,hc,hz,<-Nat.add_mul];congr 1;omega
 have hlen:=hl.length
 simp only[Array.length_toList] at hlen
 obtain⟨s1,s2⟩:=hs.drew.new (b:=.cells l (.tail t)) (o:=.cells (c++Builtin.zeroCells zs (cap - m)) t) (κ:=cap*sz) hy (by
  refine⟨_,t,(0,0),rfl,hsz.symm,by rw[Array.size_append];omega,?_,h1,rfl,fun i _ hi=>by have:=hi.2;simp at this⟩
  have:(c++Builtin.zeroCells zs (cap - m)).toList.take l.length=c.toList:=by
   rw[Array.toList_append,List.take_append_of_le_length (by simp;omega),List.take_of_length_le (by simp;omega)]
  rw[this];exact VRs.mono (hs.drew.ext_new _ _) _ _ hl)
 refine⟨s1,(Step.drew h.next β W).trans s2 (Nat.le_refl _),?_⟩
 simp only[VR]
 exact⟨W.heap.size,cap*sz,cap,if_pos rfl,by omega,hm,rfl⟩
end
end Go.Abs
namespace Go.Abs
open Go
noncomputable section
variable {P:Program}
theorem two{β:Pl}{s x:AV}{vs:List Value}(h:VRs β [s,x] vs):∃ u v,vs=[u,v]/\VR β s u/\VR β x v:=by
 obtain⟨u,ws,rfl,h1,h2⟩:=VRs.cons.1 h
 obtain⟨v,us,rfl,h3,h4⟩:=VRs.cons.1 h2
 rw[VRs.nil] at h4;subst h4
 exact⟨u,v,rfl,h1,h3⟩
theorem strOK_true{sz:Nat}{x:AV}(h:strOK sz x=true):∀ s,x=.str s->sz=1:=by
 intro s hs;subst hs
 have:Nat.beq sz 1=true:=h
 rw[beq_nat] at this;simpa using this
theorem bAppend_ok{ts:Array TypeId}{ty:TypeId}:BOK P (bAppend (elemInfo P ts[0]? ts[1]?)) (fun vs=>Builtin.append_ ts ty vs.toArray):=by
 intro l h kv e
 unfold bAppend at e
 split at e
 ·rename_i s x sz bytes tt heq
  obtain⟨t,t2,et,d2,i,zl,z,h0,h1,hu,hu2,hd2,hi,hz,hiz,hzl,hzlen,rfl,rfl,htt⟩:=elemInfo_some heq
  subst htt
  cases hstr:strOK i.size x with
  |false=>simp only[hstr] at e;cases e
  |true=>
   simp only[hstr] at e
   have hone:=strOK_true hstr
   unfold appendK at e
   obtain⟨n,e1,hn⟩:=lenOfK_true (P:=P) e
   obtain⟨new,e2,hnew⟩:=rowK_true (P:=P) e1
   clear e e1
   have hzs:z.cells.size=i.size:=by
    have:=(ofVs_sound hzl (fun _=>none)).1.length;simp only[Array.length_toList] at this;omega
   -- a new row
   have grow:∀ (hh:H) (m sLen sCap:Nat) (base:Option Addr) (β:Pl) (W:World) (sv xv:Value) (ol:List AV) (old:Array Value) (y:A),m=sLen+n->sv=.slice base sLen sCap->sCap<m->m*i.bytes<=1000000->m<=1000000->Sim β h W->Sim β hh W->VR β x xv->y.toNat=hh.next.toNat+1 ->
     (Builtin.firstCells i.size sLen sv).run P W.drew=.ok old W.drew->VRs β ol old.toList->ol.all AV.one=true->old.size=sLen*i.size ->
     ∃ β' w W',(Builtin.append_ ts ty #[sv,xv]).run P W=.ok w W'/\VR β' (.slu hh.next 0 m i.size) w/\Sim β' (hh.new (.cells (ol++new) (.tail tt)) y) W'/\Step hh.next β W β' W':=by
    intro hh m sLen sCap base β W sv xv ol old y hm hsv hgt hb hs6 hsim hsim1 hx hy ho hol ho1 hosz
    subst hm;subst hsv
    obtain⟨c,c1,c2,c3,c4⟩:=hnew β xv W.drew hsim.drew hx hone
    have:=append_grow (P:=P) (ty:=ty) h0 h1 hu hu2 hd2 hi hiz (hn β xv W hx) c1 ho hgt hs6 hb
    obtain⟨g1,g2,g3⟩:=hsim1.grown (l:=ol++new) (c:=old++c) (zs:=z.cells) (m:=sLen+n) (cap:=grownCap W (sLen+n) sCap tt) (sz:=i.size)
     (by rw[Array.toList_append];exact hol.append c2) (by rw[List.all_append,ho1,c3];rfl) (by rw[Array.size_append,hosz,c4,Nat.add_mul]) hzs (grownCap_ge _ _ _ _) tt hy
    exact⟨_,_,_,this,g3,g1,g2⟩
   split at e2
   ·-- nil
    cases n with
    |zero=>
     refine⟨_,_,e2,Nat.le_refl _,fun β W vs hs hv=>?_⟩
     obtain⟨sv,xv,rfl,h5,h6⟩:=two hv
     simp only[VR] at h5;subst h5
     obtain⟨c,c1,c2,c3,c4⟩:=hnew β xv W hs h6 hone
     have:=append_room (P:=P) (W':=W) (base:=none) (sLen:=0) (sCap:=0) (ty:=ty) h0 h1 hu hu2 hd2 hi (hn β xv W h6) c1 (Nat.le_refl _) rfl
     exact⟨β,_,W,this,by simp[VR],hs,Step.refl _ _ _⟩
    |succ n=>
     obtain⟨b1,b2,e3⟩:=smallK_true e2
     obtain⟨y,hy,hk⟩:=newK_true (show newK h _ _=true from e3)
     refine⟨_,_,hk,new_lt hy,fun β W vs hs hv=>?_⟩
     obtain⟨sv,xv,rfl,h5,h6⟩:=two hv
     simp only[VR] at h5;subst h5
     exact grow h (n+1) 0 0 none β W _ xv [] #[] y (by omega) rfl (by omega) b1 b2 hs hs h6 hy rfl (VRs.nil.2 rfl) rfl (by simp)
   ·-- a row of a known capacity
    rename_i b off len cap
    split at e2
    ·rename_i hbl
     rw[ble_nat] at hbl
     have hle:len+n<=cap:=by simpa using hbl
     obtain⟨bl,hg,e3⟩:=Zat e2
     clear e2
     split at e3
     ·rename_i l kd
      have key:kd≠.fixed->putK l (off+len*i.size) new (fun l=>setK h b (.cells l kd) fun h=>forceN (len+n) fun m=>kv (.sl b off m cap) h)=true->∃ v h',kv v h'=true/\h.next.toNat<=h'.next.toNat /\
        ∀ (β:Pl) (W:World) (vs:List Value),Sim β h W->VRs β [.sl b off len cap,x] vs->∃ β' w W',(Builtin.append_ ts ty vs.toArray).run P W=.ok w W'/\VR β' v w/\Sim β' h' W'/\Step h.next β W β' W':=by
       intro hkd e4
       obtain⟨hle2,e5⟩:=putK_true e4
       rw[setK_eq,Zaw] at e5
       refine⟨_,_,e5,Nat.le_refl _,fun β W vs hs hv=>?_⟩
       obtain⟨sv,xv,rfl,h5,h6⟩:=two hv
       simp only[VR] at h5
       obtain⟨r,κ,hβ,h5⟩:=h5
       subst h5
       obtain⟨c,c1,c2,c3,c4⟩:=hnew β xv W hs h6 hone
       obtain⟨s0,s1,s2⟩:=hs.store (P:=P) hβ hg hkd c2 c3 hle2 h.next
       have:=append_room (P:=P) (base:=some ⟨r,off,none⟩) (sLen:=len) (sCap:=cap) (ty:=ty) h0 h1 hu hu2 hd2 hi (hn β xv W h6) c1 hle (by
        show(storeCells ((⟨r,off,none⟩:Addr).add (len*i.size)) c.toList).run P W=_
        rw[addr_add];exact s0)
       exact⟨β,_,_,this,by simp only[VR];exact⟨r,κ,hβ,rfl⟩,s1,s2⟩
      cases kd with
      |whole=>exact key (by simp) e3
      |tail=>exact key (by simp) e3
      |fixed=>cases e3
     ·cases e3
    ·rename_i hbl
     rw[ble_nat] at hbl
     have hgt:¬ len+n<=cap:=by simpa using hbl
     obtain⟨b1,b2,e3⟩:=smallK_true e2
     obtain⟨old,e4,hold⟩:=rowK_true (P:=P) e3
     rw[appK_eq,Zaw] at e4
     obtain⟨y,hy,hk⟩:=newK_true (show newK h _ _=true from e4)
     refine⟨_,_,hk,new_lt hy,fun β W vs hs hv=>?_⟩
     obtain⟨sv,xv,rfl,h5,h6⟩:=two hv
     have h5':=h5
     simp only[VR] at h5
     obtain⟨r,κ,hβ,h5⟩:=h5
     obtain⟨c,c1,c2,c3,c4⟩:=hold β sv W.drew hs.drew h5' (fun s q=>by cases q)
     exact grow h (len+n) len cap _ β W sv xv old c y rfl h5 (by omega) b1 b2 hs hs h6 hy c1 c2 c3 c4
   ·-- a row of an unknown capacity
    rename_i b off len sz'
    cases n with
    |zero=>
     refine⟨_,_,e2,Nat.le_refl _,fun β W vs hs hv=>?_⟩
     obtain⟨sv,xv,rfl,h5,h6⟩:=two hv
     have h5':=h5
     simp only[VR] at h5
     obtain⟨r,κ,cap,hβ,q1,q2,h5⟩:=h5
     obtain⟨c,c1,c2,c3,c4⟩:=hnew β xv W hs h6 hone
     have hc0:c.toList=[]:=List.length_eq_zero_iff.1 (by rw[Array.length_toList,c4,Nat.zero_mul])
     have:=append_room (P:=P) (W':=W) (base:=some ⟨r,off,none⟩) (sLen:=len) (sCap:=cap) (ty:=ty) h0 h1 hu hu2 hd2 hi (hn β xv W h6) c1 (by omega) (by
      show(storeCells ((⟨r,off,none⟩:Addr).add (len*i.size)) c.toList).run P W=_
      rw[hc0];rfl)
     subst h5
     exact⟨β,_,W,this,h5',hs,Step.refl _ _ _⟩
    |succ n=>
     dsimp only at e2
     split at e2
     ·rename_i hbe
      rw[beq_nat] at hbe
      have hszz:i.size=sz':=by simpa using hbe
      subst hszz
      obtain⟨b1,b2,e3⟩:=smallK_true e2
      obtain⟨bl,hg,e4⟩:=Zat e3
      split at e4
      ·rename_i l tk
       split at e4
       case h_2=>cases e4
       rename_i htk
       rw[beq_nat] at htk
       have htk:tk=tt:=by simpa using htk
       subst htk
       obtain⟨hle,e5⟩:=takeK_true e4
       rw[appK_eq,setK_eq] at e5
       obtain⟨y,hy,hk⟩:=newK_true e5
       rw[Zaw] at hk
       refine⟨_,_,hk,new_lt hy,fun β W vs hs hv=>?_⟩
       obtain⟨sv,xv,rfl,h5,h6⟩:=two hv
       simp only[VR] at h5
       obtain⟨r,κ,cap,hβ,q1,q2,h5⟩:=h5
       obtain⟨r',κ',hβ',hbr⟩:=hs.live b _ hg
       rw[hβ] at hβ';cases hβ'
       have hbr':=hbr
       obtain⟨c0,t0,fr,g1,g2,g3,g4,g5,g6⟩:=hbr
       obtain⟨c,c1,c2,c3,c4⟩:=hnew β xv W hs h6 hone
       have hall:(l.take (len*i.size)).all AV.one=true:=by
        rw[List.all_eq_true] at g5 ⊢
        exact fun z hz=>g5 z (List.mem_of_mem_take hz)
       have hV:VRs β (l.take (len*i.size)) (c0.toList.take (len*i.size)):=by
        have:=g4.take (len*i.size)
        rwa [List.take_take,Nat.min_eq_left hle] at this
       by_cases hcap:len+(n+1)<=cap
       ·have hroom:len*i.size+c.toList.length<=c0.size:=by
         rw[Array.length_toList,c4,<-Nat.add_mul,<-g2,<-q1,Nat.zero_add]
         exact Nat.mul_le_mul_right _ hcap
        obtain⟨c',d1,d2,d3⟩:=setCells_heap r c.toList (len*i.size) W c0 t0 fr g1 hroom
        have hst:(storeCells ⟨r,0+len*i.size,none⟩ c.toList).run P W=.ok () (W.setCells r (0+len*i.size) c.toList):=by
         have:=run_storeCells_cells (P:=P) r (0+len*i.size) c.toList 0 W (fun j hj=>by rw[cell_of g1];simp;omega) (fun j hj=>by
          rw[frozen_of g1]
          have:=g6.2 (0+len*i.size+0+j) (by omega)
          cases q:(decide (fr.1<=0+len*i.size+0+j)&&decide (0+len*i.size+0+j<fr.2)) with
          |false=>rfl
          |true=>exact absurd (by simpa using q) this) (fun v hv=>c2.oneCell c3 v hv)
         simpa using this
        rw[Nat.zero_add] at hst
        obtain⟨s1,s2⟩:=hs.redirect (W':=W.setCells r (len*i.size) c.toList) (b':=.cells (l.take (len*i.size)++new) (.tail tk)) hβ hg rfl hy (setCells_size _ _ _ _) (fun r' hne=>setCells_other _ _ _ _ _ hne) (by
         have hn1:=c2.length
         have hl1:(l.take (len*i.size)).length=len*i.size:=by rw[List.length_take];omega
         refine⟨c',t0,fr,d1,by omega,?_,?_,?_,g6.1,fun j hj=>g6.2 j (by omega)⟩
         ·rw[List.length_append,hl1];omega
         ·have:c'.toList.take (l.take (len*i.size)++new).length=c0.toList.take (len*i.size)++c.toList:=by
           rw[d2,List.length_append,hl1,<-hn1,<-List.append_assoc,List.take_append_of_le_length (by simp;omega),List.take_of_length_le (by simp;omega)]
          rw[this]
          exact VRs.mono (hs.ext_new _ _) _ _ (hV.append c2)
         ·rw[List.all_append,hall,c3];rfl) (fun lp q=>by rw[g1] at q;cases q) (setCells_quiet _ _ _ _)
        have:=append_room (P:=P) (base:=some ⟨r,0,none⟩) (sLen:=len) (sCap:=cap) (ty:=ty) h0 h1 hu hu2 hd2 hi (hn β xv W h6) c1 hcap (by
         show(storeCells ((⟨r,0,none⟩:Addr).add (len*i.size)) c.toList).run P W=_
         rw[addr_add,Nat.zero_add];exact hst)
        subst h5
        refine⟨_,_,_,this,?_,s1,s2⟩
        simp only[VR]
        exact⟨r,κ,cap,if_pos rfl,q1,hcap,rfl⟩
       ·have hsd:=hs.kill hβ
        obtain⟨oc,oc1,oc2,oc3,oc4⟩:=row_load (P:=P) (n:=len) (sz:=i.size) (off:=0) hs.drew hβ hg rfl (Nat.zero_le _) (by simpa using hle)
        rw[List.drop_zero] at oc2 oc3
        have hfc:(Builtin.firstCells i.size len sv).run P W.drew=.ok oc W.drew:=by subst h5;exact oc1
        exact grow (h.put b .dead) (len+(n+1)) len cap _ β W sv xv _ oc y rfl h5 (by omega) b1 b2 hs hsd h6 hy hfc oc2 oc3 oc4
      ·cases e4
     ·cases e2
   ·cases e2
 ·cases e
end
end Go.Abs
namespace Go.Abs
open Go
noncomputable section
variable {P:Program}
def BOP(P:Program)(f:BK)(run:List Value->Sem Value):Prop:=∀ (l:List AV) (h:H) (kv:KV),f l h kv=true->∃ v,kv v h=true /\
 ∀ (β:Pl) (W:World) (vs:List Value),Sim β h W->VRs β l vs->∃ x,(run vs).run P W=.ok x W/\VR β v x
theorem BOP.ok{f:BK}{run:List Value->Sem Value}(e:BOP P f run):BOK P f run:=by
 intro l h kv q
 obtain⟨v,hk,e⟩:=e l h kv q
 refine⟨v,h,hk,Nat.le_refl _,fun β W vs hs hv=>?_⟩
 obtain⟨x,h1,h2⟩:=e β W vs hs hv
 exact⟨β,x,W,h1,h2,hs,Step.refl _ _ _⟩
theorem one'{β:Pl}{s:AV}{vs:List Value}(h:VRs β [s] vs):∃ u,vs=[u]/\VR β s u:=by
 obtain⟨u,ws,rfl,h1,h2⟩:=VRs.cons.1 h
 rw[VRs.nil] at h2;subst h2
 exact⟨u,rfl,h1⟩
theorem bBad_ok(run:List Value->Sem Value):BOP P bBad run:=fun l h kv e=>by cases e
theorem natV_VR(β:Pl)(n:Nat):VR β (natV n) (goInt n):=by simp[VR,natV,goInt]
theorem lenStr_ok{ts:Array TypeId}{t ty:TypeId}(h0:ts[0]?=some t)(hu:P.underlying t=some .string):BOP P lenStr (fun vs=>Builtin.len_ ts ty vs.toArray):=by
 intro l h kv e
 unfold lenStr at e
 split at e
 ·rename_i s
  rw[lenK_eq] at e
  refine⟨_,e,fun β W vs hs hv=>?_⟩
  obtain⟨u,rfl,hu'⟩:=one' hv
  simp only[VR] at hu'
  obtain⟨b,rfl,hb⟩:=hu'
  have:b.size=s.length:=by rw[<-hb,List.length_map];rfl
  refine⟨goInt b.size,?_,by rw[this];exact natV_VR _ _⟩
  simp[Builtin.len_,h0,Zag W hu]
 ·cases e
theorem lenRow_ok{ts:Array TypeId}{t ty et:TypeId}(h0:ts[0]?=some t)(hu:P.underlying t=some (.slice et)):BOP P lenRow (fun vs=>Builtin.len_ ts ty vs.toArray):=by
 intro l h kv e
 have fin:∀ (v:AV) (n:Nat),l=[v]->kv (natV n) h=true->(∀ (β:Pl) (x:Value),VR β v x->∃ a c,x=.slice a n c)->∃ v,kv v h=true /\
   ∀ (β:Pl) (W:World) (vs:List Value),Sim β h W->VRs β l vs->∃ x,(Builtin.len_ ts ty vs.toArray).run P W=.ok x W/\VR β v x:=by
  intro v n hl hk hx
  subst hl
  refine⟨_,hk,fun β W vs hs hv=>?_⟩
  obtain⟨u,rfl,hu'⟩:=one' hv
  obtain⟨a,c,rfl⟩:=hx β u hu'
  exact⟨goInt n,by simp[Builtin.len_,h0,Zag W hu],natV_VR _ _⟩
 unfold lenRow at e
 split at e
 ·exact fin _ 0 rfl e fun β x hx=>by simp only[VR] at hx;exact⟨_,_,hx⟩
 ·exact fin _ 0 rfl e fun β x hx=>by simp only[VR] at hx;obtain⟨_,_,_,_,_,hx⟩:=hx;exact⟨_,_,hx⟩
 ·exact fin _ 0 rfl e fun β x hx=>by simp only[VR] at hx;exact hx
 ·exact fin _ _ rfl e fun β x hx=>by simp only[VR] at hx;obtain⟨_,_,_,hx⟩:=hx;exact⟨_,_,hx⟩
 ·exact fin _ _ rfl e fun β x hx=>by simp only[VR] at hx;obtain⟨_,_,_,_,_,_,hx⟩:=hx;exact⟨_,_,hx⟩
 ·cases e
theorem capRow_ok{ts:Array TypeId}{t ty et:TypeId}(h0:ts[0]?=some t)(hu:P.underlying t=some (.slice et)):BOP P capRow (fun vs=>Builtin.cap_ ts ty vs.toArray):=by
 intro l h kv e
 unfold capRow at e
 split at e
 ·refine⟨_,e,fun β W vs hs hv=>?_⟩
  obtain⟨u,rfl,hu'⟩:=one' hv
  simp only[VR] at hu'
  obtain⟨r,κ,_,rfl⟩:=hu'
  exact⟨goInt _,by simp[Builtin.cap_,h0,Zag W hu],natV_VR _ _⟩
 ·refine⟨_,e,fun β W vs hs hv=>?_⟩
  obtain⟨u,rfl,hu'⟩:=one' hv
  simp only[VR] at hu';subst hu'
  exact⟨goInt (0:Nat),by simp[Builtin.cap_,h0,Zag W hu],natV_VR _ _⟩
 ·cases e
theorem lenMap_ok{ts:Array TypeId}{t ty kt et:TypeId}(h0:ts[0]?=some t)(hu:P.underlying t=some (.map kt et)):BOP P lenMap (fun vs=>Builtin.len_ ts ty vs.toArray):=by
 intro l h kv e
 unfold lenMap at e
 split at e
 ·refine⟨_,e,fun β W vs hs hv=>?_⟩
  obtain⟨u,rfl,hu'⟩:=one' hv
  simp only[VR] at hu';subst hu'
  exact⟨goInt (0:Nat),by simp[Builtin.len_,h0,Zag W hu],natV_VR _ _⟩
 ·rename_i b
  obtain⟨bl,hg,e1⟩:=Zat e
  clear e
  split at e1
  ·rename_i es
   rw[lenK_eq] at e1
   refine⟨_,e1,fun β W vs hs hv=>?_⟩
   obtain⟨u,rfl,hu'⟩:=one' hv
   simp only[VR] at hu'
   obtain⟨r,κ,hβ,rfl⟩:=hu'
   obtain⟨r',κ',hβ',ents,clock,g1,g2,g3⟩:=hs.live b _ hg
   rw[hβ] at hβ';cases hβ'
   have hl:ents.size=es.length:=by have:=g2.length;simpa using this
   have h5:=run_get (P:=P) W g1
   refine⟨goInt ents.size,by simp[Builtin.len_,h0,Zag W hu,h5],by rw[hl];exact natV_VR _ _⟩
  ·cases e1
 ·cases e
theorem lenConst_ok{ts:Array TypeId}{ty:TypeId}{n:Nat}(h:∀ (W:World) (u:Value),(Builtin.len_ ts ty #[u]).run P W=.ok (goInt n) W):BOP P (lenConst n) (fun vs=>Builtin.len_ ts ty vs.toArray):=by
 intro l h' kv e
 unfold lenConst at e
 split at e
 ·refine⟨_,e,fun β W vs hs hv=>?_⟩
  obtain⟨u,rfl,hu'⟩:=one' hv
  exact⟨_,h W u,natV_VR _ _⟩
 ·cases e
theorem bLen_ok{ts:Array TypeId}{ty:TypeId}:BOP P (bLen P ts[0]?) (fun vs=>Builtin.len_ ts ty vs.toArray):=by
 cases h0:ts[0]? with
 |none=>exact bBad_ok _
 |some t=>
  cases hu:P.underlying t with
  |none=>simp only[bLen,hu];exact bBad_ok _
  |some d=>
   cases d with
   |string=>simp only[bLen,hu];exact lenStr_ok h0 hu
   |slice et=>simp only[bLen,hu];exact lenRow_ok h0 hu
   |map kt et=>simp only[bLen,hu];exact lenMap_ok h0 hu
   |array n et=>simp only[bLen,hu];exact lenConst_ok fun W u=>by simp[Builtin.len_,h0,Zag W hu]
   |pointer a=>
    cases ha:P.underlying a with
    |none=>simp only[bLen,hu,ha];exact bBad_ok _
    |some d=>
     cases d with
     |array n et=>simp only[bLen,hu,ha];exact lenConst_ok fun W u=>by simp[Builtin.len_,h0,Zag W hu,Zag W ha]
     |_=>simp only[bLen,hu,ha];exact bBad_ok _
   |_=>simp only[bLen,hu];exact bBad_ok _
theorem bCap_ok{ts:Array TypeId}{ty:TypeId}:BOP P (bCap P ts[0]?) (fun vs=>Builtin.cap_ ts ty vs.toArray):=by
 cases h0:ts[0]? with
 |none=>exact bBad_ok _
 |some t=>
  cases hu:P.underlying t with
  |none=>simp only[bCap,hu];exact bBad_ok _
  |some d=>
   cases d with
   |slice et=>simp only[bCap,hu];exact capRow_ok h0 hu
   |_=>simp only[bCap,hu];exact bBad_ok _
theorem bMin_ok{ts:Array TypeId}{ty:TypeId}:BOP P bMin (fun vs=>Builtin.min_ ts ty vs.toArray):=by
 intro l h kv e
 unfold bMin at e
 split at e
 ·rename_i j a j' b
  refine⟨.int j (if b<a then b else a),?_,fun β W vs hs hv=>?_⟩
  ·rw[ilt_eq] at e
   by_cases q:b<a
   ·simpa[q] using e
   ·simpa[q] using e
  ·obtain⟨u,v,rfl,hu,hw⟩:=two hv
   simp only[VR] at hu hw;subst hu;subst hw
   exact⟨.int j (if b<a then b else a),by simp[Builtin.min_,Builtin.min2],by simp[VR]⟩
 ·cases e
theorem bMax_ok{ts:Array TypeId}{ty:TypeId}:BOP P bMax (fun vs=>Builtin.max_ ts ty vs.toArray):=by
 intro l h kv e
 unfold bMax at e
 split at e
 ·rename_i j a j' b
  refine⟨.int j (if a<b then b else a),?_,fun β W vs hs hv=>?_⟩
  ·rw[ilt_eq] at e
   by_cases q:a<b
   ·simpa[q] using e
   ·simpa[q] using e
  ·obtain⟨u,v,rfl,hu,hw⟩:=two hv
   simp only[VR] at hu hw;subst hu;subst hw
   exact⟨.int j (if a<b then b else a),by simp[Builtin.max_,Builtin.max2],by simp[VR]⟩
 ·cases e
end
end Go.Abs
