/- a part of the proof of TopLines. -/
import Derived.Test.YtmladikgbmcmcaaGreatDoorK01
import Derived.Laws.World
import Derived.Tactics
import Derived.IntWalk
import Derived.Laws.Cells
import Derived.Laws.IdiomCopy
import Derived.Deep.MidRow
import Derived.Deep.Upon
set_option linter.all false
namespace Go.Abs
open Go
noncomputable section
section
variable {α:Type}
theorem dropK_nil(n:Nat)(k:List α->Bool):dropK ([]:List α) (n+1) k=false:=rfl
theorem dropK_cons(x:α)(l:List α)(n:Nat)(k:List α->Bool):dropK (x::l) (n+1) k=dropK l n k:=rfl
theorem dropK_true{k:List α->Bool}:∀ {n:Nat} {l:List α},dropK l n k=true->n<=l.length/\k (l.drop n)=true
 |0,l,h=>⟨Nat.zero_le _,h⟩
 |n+1,[],h=>by simp[dropK_nil] at h
 |n+1,x::l,h=>by
  rw[dropK_cons] at h
  have:=dropK_true h
  exact⟨by simp;omega,by simpa using this.2⟩
theorem takeK_zero(l:List α)(k:List α->Bool):takeK l 0 k=k []:=rfl
theorem takeK_nil(n:Nat)(k:List α->Bool):takeK ([]:List α) (n+1) k=false:=rfl
theorem takeK_cons(x:α)(l:List α)(n:Nat)(k:List α->Bool):takeK (x::l) (n+1) k=takeK l n fun r=>k (x::r):=rfl
theorem takeK_true:∀ {n:Nat} {l:List α} {k:List α->Bool},takeK l n k=true->n<=l.length/\k (l.take n)=true
 |0,l,k,h=>⟨Nat.zero_le _,by rw[takeK_zero] at h;simpa using h⟩
 |n+1,[],k,h=>by simp[takeK_nil] at h
 |n+1,x::l,k,h=>by
  rw[takeK_cons] at h
  have:=takeK_true h
  exact⟨by simp;omega,by simpa using this.2⟩
theorem nthK_true{k:α->Bool}:∀ {n:Nat} {l:List α},nthK l n k=true->∃ x,l[n]?=some x/\k x=true
 |0,[],h=>by cases h
 |0,x::l,h=>⟨x,rfl,h⟩
 |n+1,[],h=>by cases h
 |n+1,x::l,h=>by
  have h:nthK l n k=true:=h
  obtain⟨y,hy,hk⟩:=nthK_true h
  exact⟨y,by simpa using hy,hk⟩
theorem appK_eq(m:List α):∀ (l:List α) (k:List α->Bool),appK l m k=k (l++m)
 |[],k=>rfl
 |x::l,k=>by
  have:appK (x::l) m k=appK l m fun r=>k (x::r):=rfl
  rw[this,appK_eq m l];rfl
theorem overK_true:∀ {m l:List α} {k:List α->Bool},overK l m k=true->m.length<=l.length/\k (m++l.drop m.length)=true
 |[],l,k,h=>⟨Nat.zero_le _,h⟩
 |x::m,[],k,h=>by cases h
 |x::m,y::l,k,h=>by
  have h:overK l m (fun r=>k (x::r))=true:=h
  have:=overK_true h
  exact⟨by simp;omega,by simpa using this.2⟩
theorem putK_true{m:List α}:∀ {n:Nat} {l:List α} {k:List α->Bool},putK l n m k=true->n+m.length<=l.length/\k (l.take n++(m++l.drop (n+m.length)))=true
 |0,l,k,h=>by
  have h:overK l m k=true:=h
  have:=overK_true h
  exact⟨by omega,by simpa using this.2⟩
 |n+1,[],k,h=>by cases h
 |n+1,y::l,k,h=>by
  have h:putK l n m (fun r=>k (y::r))=true:=h
  have:=putK_true h
  refine⟨by simp;omega,?_⟩
  have e:n+1+m.length=(n+m.length)+1:=by omega
  rw[e];simpa using this.2
theorem lenK_eq:∀ (l:List α) (k:Nat->Bool),lenK l k=k l.length
 |[],k=>rfl
 |x::l,k=>by
  have:lenK (x::l) k=lenK l fun n=>k (Nat.succ n):=rfl
  rw[this,lenK_eq l];rfl
end
theorem beq_nat(a b:Nat):Nat.beq a b=decide (a=b):=by
 by_cases h:a=b
 ·subst h;simp
 ·rw[decide_eq_false h]
  cases e:Nat.beq a b
  ·rfl
  ·exact absurd (Nat.eq_of_beq_eq_true e) h
theorem ble_of_le{a b:Nat}(h:a<=b):Nat.ble a b=true:=Nat.ble_eq ▸ h
theorem le_of_ble{a b:Nat}(h:Nat.ble a b=true):a<=b:=Nat.le_of_ble_eq_true h
theorem blt_nat(a b:Nat):Nat.blt a b=decide (a<b):=by
 cases e:Nat.blt a b
 ·symm;apply decide_eq_false;intro h
  have:Nat.blt a b=true:=ble_of_le h
  rw[e] at this;cases this
 ·symm;apply decide_eq_true;exact le_of_ble e
theorem ble_nat(a b:Nat):Nat.ble a b=decide (a<=b):=by
 cases e:Nat.ble a b
 ·symm;apply decide_eq_false;intro h
  rw[ble_of_le h] at e;cases e
 ·symm;apply decide_eq_true;exact le_of_ble e
theorem natsEq_cons(a b:Nat)(l m:List Nat):natsEq (a::l) (b::m)=(Nat.beq a b&&natsEq l m):=by
 show Bool.rec (motive:=fun _=>Bool) false (natsEq l m) (Nat.beq a b)=_
 cases Nat.beq a b<;>rfl
theorem natsEq_eq:∀ (l m:List Nat),natsEq l m=decide (l=m)
 |[],[]=>rfl
 |[],_::_=>rfl
 |_::_,[]=>rfl
 |a::l,b::m=>by
  rw[natsEq_cons,natsEq_eq l m]
  rw[beq_nat]
  by_cases h:a=b<;>simp[h]
theorem Zaw(n:Nat)(k:Nat->Bool):forceN n k=k n:=by cases n<;>rfl
theorem forceI_eq(n:Int)(k:Int->Bool):forceI n k=k n:=by
 cases n<;>simp[forceI,Zaw]
theorem boolK_eq(b:Bool)(k:AV->Bool):boolK b k=k (.bool b):=by cases b<;>rfl
theorem notK_eq(b:Bool)(k:AV->Bool):notK b k=k (.bool (!b)):=by cases b<;>rfl
theorem ieq_eq(x y:Int):ieq x y=decide (x=y):=by
 cases x<;>cases y<;>simp only[ieq,beq_nat,Int.ofNat_eq_natCast,Int.negSucc_eq] <;>
  (first|(rw[decide_eq_decide];constructor<;>intro h<;>omega)|(symm;apply decide_eq_false;omega))
theorem ilt_eq(x y:Int):ilt x y=decide (x<y):=by
 cases x<;>cases y<;>simp only[ilt,blt_nat,Int.ofNat_eq_natCast,Int.negSucc_eq] <;>
  (first|(rw[decide_eq_decide];constructor<;>intro h<;>omega)|(symm;apply decide_eq_false;omega)|(symm;apply decide_eq_true;omega))
theorem kindEq_true{j k:IntKind}(h:kindEq j k=true):j=k:=by cases j<;>cases k<;>simp_all [kindEq]
def D.toNat:D->Nat|.a=>0|.b=>1|.c=>2|.d=>3|.e=>4|.f=>5|.g=>6|.h=>7
def A.toNat(x:A):Nat:=x.p.toNat+8*x.q.toNat+64*x.r.toNat+512*x.s.toNat+4096*x.t.toNat
theorem D.lt(p:D):p.toNat<8:=by cases p<;>decide
theorem D.inj{p q:D}(h:p.toNat=q.toNat):p=q:=by cases p<;>cases q<;>first|rfl|(exact absurd h (by decide))
theorem A.inj{x y:A}(h:x.toNat=y.toNat):x=y:=by
 obtain⟨p,q,r,s,t⟩:=x;obtain⟨p',q',r',s',t'⟩:=y
 simp only[A.toNat] at h
 have:=p.lt;have:=q.lt;have:=r.lt;have:=s.lt;have:=t.lt
 have:=p'.lt;have:=q'.lt;have:=r'.lt;have:=s'.lt;have:=t'.lt
 have h1:p.toNat=p'.toNat:=by omega
 have h2:q.toNat=q'.toNat:=by omega
 have h3:r.toNat=r'.toNat:=by omega
 have h4:s.toNat=s'.toNat:=by omega
 have h5:t.toNat=t'.toNat:=by omega
 rw[D.inj h1,D.inj h2,D.inj h3,D.inj h4,D.inj h5]
theorem D.of_toNat(n:Nat):(D.of n).toNat=n % 8:=by
 unfold D.of
 have:n % 8<8:=Nat.mod_lt _ (by omega)
 split<;>simp_all [D.toNat]<;>omega
theorem RP.of_inj{m n:Nat}(hm:m<512)(hn:n<512)(h:RP.of m=RP.of n):m=n:=by
 simp only[RP.of,RP.mk.injEq] at h
 obtain⟨h1,h2,h3⟩:=h
 have e1:=D.of_toNat m;have e2:=D.of_toNat n
 have e3:=D.of_toNat (m / 8);have e4:=D.of_toNat (n / 8)
 have e5:=D.of_toNat (m / 64);have e6:=D.of_toNat (n / 64)
 rw[h1] at e1;rw[h2] at e3;rw[h3] at e5
 omega
theorem D.up_some{p q:D}(h:p.up=some q):q.toNat=p.toNat+1:=by cases p<;>cases h<;>rfl
theorem D.up_none{p:D}(h:p.up=none):p.toNat=7:=by cases p<;>first|rfl|cases h
theorem A.next_true{x:A}{k:A->Bool}(h:x.next k=true):∃ y:A,y.toNat=x.toNat+1/\k y=true:=by
 obtain⟨p,q,r,s,t⟩:=x
 simp only[A.next] at h
 split at h
 ·rename_i e;exact⟨_,by simp only[A.toNat,D.up_some e];omega,h⟩
 ·rename_i e
  have e:=D.up_none e
  split at h
  ·rename_i e2;exact⟨_,by simp only[A.toNat,D.up_some e2];have ha:D.a.toNat=0:=rfl;omega,h⟩
  ·rename_i e2
   have e2:=D.up_none e2
   split at h
   ·rename_i e3;exact⟨_,by simp only[A.toNat,D.up_some e3];have ha:D.a.toNat=0:=rfl;omega,h⟩
   ·rename_i e3
    have e3:=D.up_none e3
    split at h
    ·rename_i e4;exact⟨_,by simp only[A.toNat,D.up_some e4];have ha:D.a.toNat=0:=rfl;omega,h⟩
    ·rename_i e4
     have e4:=D.up_none e4
     split at h
     ·rename_i e5;exact⟨_,by simp only[A.toNat,D.up_some e5];have ha:D.a.toNat=0:=rfl;omega,h⟩
     ·cases h
theorem D.eqb_eq(p q:D):p.eqb q=decide (p=q):=by cases p<;>cases q<;>rfl
theorem A.eqb_eq(x y:A):x.eqb y=decide (x=y):=by
 obtain⟨p,q,r,s,t⟩:=x;obtain⟨p',q',r',s',t'⟩:=y
 simp only[A.eqb,D.eqb_eq,A.mk.injEq,Bool.decide_and]
section
variable {α β:Type}
def N.upd(t:N α)(p:D)(g:α->α):N α:=match t,p with
 |.n a b c d e f i j,.a=>.n (g a) b c d e f i j|.n a b c d e f i j,.b=>.n a (g b) c d e f i j
 |.n a b c d e f i j,.c=>.n a b (g c) d e f i j|.n a b c d e f i j,.d=>.n a b c (g d) e f i j
 |.n a b c d e f i j,.e=>.n a b c d (g e) f i j|.n a b c d e f i j,.f=>.n a b c d e (g f) i j
 |.n a b c d e f i j,.g=>.n a b c d e f (g i) j|.n a b c d e f i j,.h=>.n a b c d e f i (g j)
theorem N.set_eq(t:N α)(p:D)(m:α->(α->β)->β)(g:α->α)(k:N α->β)(hm:∀ x k,m x k=k (g x)):N.set t p m k=k (t.upd p g):=by
 cases t;cases p<;>exact hm _ _
theorem N.get_upd(t:N α)(p q:D)(g:α->α):N.get (t.upd p g) q=if q=p then g (N.get t p) else N.get t q:=by
 cases t;cases p<;>cases q<;>rfl
def upd3(x:α)(t:N3 α)(p:RP):N3 α:=N.upd t p.r fun t=>N.upd t p.q fun t=>N.upd t p.p fun _=>x
def upd5(x:α)(t:N5 α)(p:A):N5 α:=N.upd t p.t fun t=>N.upd t p.s fun t=>N.upd t p.r fun t=>N.upd t p.q fun t=>N.upd t p.p fun _=>x
theorem set3_eq(x:α)(t:N3 α)(p:RP)(k:N3 α->β):set3 x t p k=k (upd3 x t p):=by
 obtain⟨p,q,r⟩:=p
 exact N.set_eq _ _ _ _ _ fun _ _=>N.set_eq _ _ _ _ _ fun _ _=>N.set_eq _ _ _ _ _ fun _ _=>rfl
theorem set5_eq(x:α)(t:N5 α)(p:A)(k:N5 α->β):set5 x t p k=k (upd5 x t p):=by
 obtain⟨p,q,r,s,u⟩:=p
 exact N.set_eq _ _ _ _ _ fun _ _=>N.set_eq _ _ _ _ _ fun _ _=>N.set_eq _ _ _ _ _ fun _ _=>N.set_eq _ _ _ _ _ fun _ _=>N.set_eq _ _ _ _ _ fun _ _=>rfl
theorem get3_upd3(x:α)(t:N3 α)(p q:RP):get3 (upd3 x t p) q=if q=p then x else get3 t q:=by
 obtain⟨a,b,c⟩:=p;obtain⟨d,e,f⟩:=q
 simp only[get3,upd3,N.get_upd,RP.mk.injEq]
 by_cases h1:f=c<;>by_cases h2:e=b<;>by_cases h3:d=a<;>simp[h1,h2,h3,N.get_upd]
theorem get5_upd5(x:α)(t:N5 α)(p q:A):get5 (upd5 x t p) q=if q=p then x else get5 t q:=by
 obtain⟨a,b,c,d,e⟩:=p;obtain⟨a',b',c',d',e'⟩:=q
 simp only[get5,upd5,N.get_upd,A.mk.injEq]
 by_cases h1:e'=e<;>by_cases h2:d'=d<;>by_cases h3:c'=c<;>by_cases h4:b'=b<;>by_cases h5:a'=a<;>simp[h1,h2,h3,h4,h5,N.get_upd]
end
theorem RP.at_some{n t:Nat}{p:RP}(h:RP.at n t=some p):t<n/\p=RP.of t:=by
 unfold RP.at at h
 split at h
 ·rename_i hb
  exact⟨by rw[blt_nat] at hb;simpa using hb,by cases h;rfl⟩
 ·cases h
def Fr.put(a:Fr)(t:Nat)(v:AV):Fr:=⟨a.n,upd3 (some v) a.regs (RP.of t)⟩
def Fr.at?(a:Fr)(t:Nat):Option AV:=get3 a.regs (RP.of t)
theorem Fr.get_true{a:Fr}{t:Nat}{k:AV->Bool}(h:a.get t k=true):∃ v,t<a.n/\a.at? t=some v/\k v=true:=by
 obtain⟨n,m⟩:=a
 simp only[Fr.get] at h
 split at h
 ·rename_i p hp
  obtain⟨hlt,rfl⟩:=RP.at_some hp
  split at h
  ·rename_i v hv;exact⟨v,hlt,hv,h⟩
  ·cases h
 ·cases h
theorem Fr.set_true{a:Fr}{t:Nat}{v:AV}{k:Fr->Bool}(h:a.set t v k=true):t<a.n/\k (a.put t v)=true:=by
 obtain⟨n,m⟩:=a
 simp only[Fr.set] at h
 split at h
 ·rename_i p hp
  obtain⟨hlt,rfl⟩:=RP.at_some hp
  rw[set3_eq] at h
  exact⟨hlt,h⟩
 ·cases h
theorem Fr.at_put{a:Fr}{t u:Nat}{v:AV}(hn:a.n<=512)(ht:t<a.n)(hu:u<a.n):(a.put t v).at? u=if u=t then some v else a.at? u:=by
 simp only[Fr.put,Fr.at?,get3_upd3]
 by_cases h:u=t
 ·simp[h]
 ·have:RP.of u≠RP.of t:=fun e=>h (RP.of_inj (by omega) (by omega) e)
  simp[h,this]
def H.get(h:H)(x:A):Option Blk:=get5 h.mem x
def H.put(h:H)(x:A)(b:Blk):H:=⟨h.next,upd5 (some b) h.mem x⟩
def H.new(h:H)(b:Blk)(y:A):H:=⟨y,upd5 (some b) h.mem h.next⟩
theorem H.get_put(h:H)(x y:A)(b:Blk):(h.put x b).get y=if y=x then some b else h.get y:=by simp[H.get,H.put,get5_upd5]
theorem H.get_new(h:H)(x y:A)(b:Blk):(h.new b x).get y=if y=h.next then some b else h.get y:=by simp[H.get,H.new,get5_upd5]
theorem newK_true{h:H}{b:Blk}{k:A->H->Bool}(e:newK h b k=true):∃ y:A,y.toNat=h.next.toNat+1/\k h.next (h.new b y)=true:=by
 obtain⟨x,m⟩:=h
 simp only[newK,set5_eq] at e
 exact A.next_true e
theorem setK_eq(h:H)(x:A)(b:Blk)(k:H->Bool):setK h x b k=k (h.put x b):=by
 obtain⟨y,m⟩:=h
 simp only[setK,set5_eq];rfl
theorem Zat{h:H}{x:A}{k:Blk->Bool}(e:getK h x k=true):∃ b,h.get x=some b/\k b=true:=by
 obtain⟨y,m⟩:=h
 simp only[getK] at e
 split at e
 ·rename_i b hb;exact⟨b,hb,e⟩
 ·cases e
end
end Go.Abs
namespace Go.Abs
open Go
noncomputable section
abbrev Pl:=A->Option (Nat×Nat)
def AV.one:AV->Bool
 |.agg _=>false
 |.tup _=>false
 |_=>true
mutual
def VR(β:Pl):AV->Value->Prop
 |.int k n,v=>v=.int k n
 |.bool b,v=>v=.bool b
 |.str s,v=>∃ b:ByteArray,v=.string b/\b.data.toList.map UInt8.toNat=s
 |.ptr x off,v=>∃ r κ,β x=some (r,κ)/\v=.pointer (some ⟨r,off,none⟩)
 |.nilp,v=>v=.pointer none
 |.sl x off len cap,v=>∃ r κ,β x=some (r,κ)/\v=.slice (some ⟨r,off,none⟩) len cap
 |.slu x off len sz,v=>∃ r κ cap,β x=some (r,κ)/\off+cap*sz=κ/\len<=cap/\v=.slice (some ⟨r,off,none⟩) len cap
 |.sle x,v=>∃ r κ o cap,β x=some (r,κ)/\v=.slice (some ⟨r,o,none⟩) 0 cap
 |.nils,v=>v=.slice none 0 0
 |.sln,v=>∃ a c,v=.slice a 0 c
 |.map x,v=>∃ r κ,β x=some (r,κ)/\v=.map (some r)
 |.nilm,v=>v=.map none
 |.fn f first caps,v=>∃ m l:List Value,v=.func (.func f) m.toArray l.toArray/\VRs β first m/\VRs β caps l
 |.nilf,v=>v=.nilFunc
 |.yld x,v=>∃ r κ,β x=some (r,κ)/\v=.func (.yield r) #[] #[]
 |.ifc t x,v=>∃ y,v=.iface t y/\VR β x y
 |.nili,v=>v=.nilIface
 |.ife,v=>∃ t x,v=.iface t x
 |.uni,v=>∃ m,v=.int .i64 m
 |.err t,v=>∃ a:Addr,v=.iface t (.pointer (some a))
 |.agg l,v=>∃ vs:List Value,v=.agg vs.toArray/\VRs β l vs/\l.all AV.one=true
 |.tup l,v=>∃ vs:List Value,v=.tuple vs.toArray/\VRs β l vs
def VRs(β:Pl):List AV->List Value->Prop
 |[],vs=>vs=[]
 |a::l,vs=>∃ v ws,vs=v::ws/\VR β a v/\VRs β l ws
end
def Ext(β β':Pl):Prop:=∀ x p,β x=some p->β' x=some p
theorem Ext.refl(β:Pl):Ext β β:=fun _ _ h=>h
theorem Ext.trans{β β' β'':Pl}(h:Ext β β')(h':Ext β' β''):Ext β β'':=fun x p e=>h' x p (h x p e)
mutual
theorem VR.mono{β β':Pl}(h:Ext β β'):∀ (a:AV) (v:Value),VR β a v->VR β' a v
 |.int _ _,_,e|.bool _,_,e|.str _,_,e|.nilp,_,e|.nils,_,e|.sln,_,e|.nilm,_,e|.nilf,_,e|.ife,_,e|.uni,_,e|.err _,_,e|.nili,_,e=>by simpa only[VR] using e
 |.ptr x off,v,e=>by
  simp only[VR] at e ⊢;obtain⟨r,κ,hb,hv⟩:=e;exact⟨r,κ,h _ _ hb,hv⟩
 |.sl x off len cap,v,e=>by
  simp only[VR] at e ⊢;obtain⟨r,κ,hb,hv⟩:=e;exact⟨r,κ,h _ _ hb,hv⟩
 |.slu x off len sz,v,e=>by
  simp only[VR] at e ⊢;obtain⟨r,κ,c,hb,hv⟩:=e;exact⟨r,κ,c,h _ _ hb,hv⟩
 |.sle x,v,e=>by
  simp only[VR] at e ⊢;obtain⟨r,κ,o,c,hb,hv⟩:=e;exact⟨r,κ,o,c,h _ _ hb,hv⟩
 |.map x,v,e=>by
  simp only[VR] at e ⊢;obtain⟨r,κ,hb,hv⟩:=e;exact⟨r,κ,h _ _ hb,hv⟩
 |.yld x,v,e=>by
  simp only[VR] at e ⊢;obtain⟨r,κ,hb,hv⟩:=e;exact⟨r,κ,h _ _ hb,hv⟩
 |.fn f m l,v,e=>by
  simp only[VR] at e ⊢;obtain⟨a,b,hv,h1,h2⟩:=e;exact⟨a,b,hv,VRs.mono h m a h1,VRs.mono h l b h2⟩
 |.ifc t x,v,e=>by
  simp only[VR] at e ⊢;obtain⟨y,hv,h1⟩:=e;exact⟨y,hv,VR.mono h x y h1⟩
 |.agg l,v,e=>by
  simp only[VR] at e ⊢;obtain⟨vs,hv,h1,h2⟩:=e;exact⟨vs,hv,VRs.mono h l vs h1,h2⟩
 |.tup l,v,e=>by
  simp only[VR] at e ⊢;obtain⟨vs,hv,h1⟩:=e;exact⟨vs,hv,VRs.mono h l vs h1⟩
theorem VRs.mono{β β':Pl}(h:Ext β β'):∀ (l:List AV) (vs:List Value),VRs β l vs->VRs β' l vs
 |[],vs,e=>by simpa only[VRs] using e
 |a::l,vs,e=>by
  simp only[VRs] at e ⊢;obtain⟨v,ws,hv,h1,h2⟩:=e;exact⟨v,ws,hv,VR.mono h a v h1,VRs.mono h l ws h2⟩
end
section
variable {β:Pl}
theorem VRs.nil{vs:List Value}:VRs β [] vs↔vs=[]:=by simp only[VRs]
theorem VRs.cons{a:AV}{l:List AV}{vs:List Value}:VRs β (a::l) vs ↔ ∃ v ws,vs=v::ws/\VR β a v/\VRs β l ws:=by simp only[VRs]
theorem VRs.cons'{a:AV}{l:List AV}{v:Value}{ws:List Value}:VRs β (a::l) (v::ws)↔VR β a v/\VRs β l ws:=by
 rw[VRs.cons]
 constructor
 ·rintro⟨_,_,e,h1,h2⟩;cases e;exact⟨h1,h2⟩
 ·rintro⟨h1,h2⟩;exact⟨_,_,rfl,h1,h2⟩
theorem VRs.length:∀ {l:List AV} {vs:List Value},VRs β l vs->vs.length=l.length
 |[],vs,h=>by rw[VRs.nil] at h;simp[h]
 |a::l,vs,h=>by
  obtain⟨v,ws,rfl,_,h2⟩:=VRs.cons.1 h
  simp[VRs.length h2]
theorem VRs.get:∀ {l:List AV} {vs:List Value} {i:Nat} {a:AV},VRs β l vs->l[i]?=some a->∃ v,vs[i]?=some v/\VR β a v
 |[],vs,i,a,_,e=>by simp at e
 |b::l,vs,0,a,h,e=>by
  obtain⟨v,ws,rfl,h1,h2⟩:=VRs.cons.1 h
  simp at e;subst e;exact⟨v,rfl,h1⟩
 |b::l,vs,i+1,a,h,e=>by
  obtain⟨v,ws,rfl,h1,h2⟩:=VRs.cons.1 h
  simp at e;simpa using VRs.get h2 e
theorem VRs.drop:∀ {l:List AV} {vs:List Value} (n:Nat),VRs β l vs->VRs β (l.drop n) (vs.drop n)
 |l,vs,0,h=>by simpa using h
 |[],vs,n+1,h=>by rw[VRs.nil] at h;subst h;simp[VRs.nil]
 |a::l,vs,n+1,h=>by
  obtain⟨v,ws,rfl,h1,h2⟩:=VRs.cons.1 h
  simpa using VRs.drop n h2
theorem VRs.take:∀ {l:List AV} {vs:List Value} (n:Nat),VRs β l vs->VRs β (l.take n) (vs.take n)
 |l,vs,0,h=>by simp[VRs.nil]
 |[],vs,n+1,h=>by rw[VRs.nil] at h;subst h;simp[VRs.nil]
 |a::l,vs,n+1,h=>by
  obtain⟨v,ws,rfl,h1,h2⟩:=VRs.cons.1 h
  simpa using VRs.cons'.2 ⟨h1,VRs.take n h2⟩
theorem VRs.append:∀ {l m:List AV} {vs ws:List Value},VRs β l vs->VRs β m ws->VRs β (l++m) (vs++ws)
 |[],m,vs,ws,h,h'=>by rw[VRs.nil] at h;subst h;simpa using h'
 |a::l,m,vs,ws,h,h'=>by
  obtain⟨v,us,rfl,h1,h2⟩:=VRs.cons.1 h
  exact VRs.cons'.2 ⟨h1,VRs.append h2 h'⟩
end
def BR(β:Pl)(b:Blk)(o:Option Obj)(κ:Nat):Prop:=match b with
 |.cells l k=>∃ c t fr,o=some (.cells c t fr)/\κ=c.size/\l.length<=c.size/\VRs β l (c.toList.take l.length)/\l.all AV.one=true /\
   (match k with
    |.whole t'=>t=t'/\l.length=c.size/\∀ i,i<c.size->¬ (fr.1<=i/\i<fr.2)
    |.tail t'=>t=t'/\∀ i,i<c.size->¬ (fr.1<=i/\i<fr.2)
    |.fixed=>True)
 |.map es=>∃ ents clock,o=some (.map ents clock)/\VRs β (es.map (·.1)) (ents.toList.map (·.key))/\VRs β (es.map (·.2)) (ents.toList.map (·.val))
 |.iter s all pos=>∃ bs:ByteArray,o=some (.stringIter bs pos)/\bs.data.toList.map UInt8.toNat=all/\s=all.drop pos/\pos<=all.length
 |.loop n regs ps as body st=>∃ lp:Loop,o=some (.loop lp)/\lp.tmps.size=n/\n<=512/\(∀ t v,t<n->get3 regs (RP.of t)=some v->VR β v (lp.tmps.getD t undef)) /\
   lp.params.toList=ps/\lp.assign=as/\lp.body=body /\
   (match st with
    |.ready=>lp.state=.ready/\lp.pending=none
    |.busy=>lp.state=.busy/\lp.pending=none
    |.done e=>lp.state=.done/\lp.pending=(match e with|.ret=>some .ret|.exit i=>some (.exit i)|.goto l=>some (.goto l)|.normal=>none))
 |.dead=>o≠none
theorem BR.mono{β β':Pl}(h:Ext β β'){b:Blk}{o:Option Obj}{κ:Nat}(e:BR β b o κ):BR β' b o κ:=by
 cases b with
 |cells l k=>obtain⟨c,t,fr,h1,h2,h3,h4,h5⟩:=e;exact⟨c,t,fr,h1,h2,h3,VRs.mono h _ _ h4,h5⟩
 |map es=>obtain⟨c,t,h1,h2,h3⟩:=e;exact⟨c,t,h1,VRs.mono h _ _ h2,VRs.mono h _ _ h3⟩
 |iter s all pos=>exact e
 |loop n regs ps as body st=>obtain⟨lp,h1,h2,h3,h4,h5⟩:=e;exact⟨lp,h1,h2,h3,fun t v ht hv=>VR.mono h _ _ (h4 t v ht hv),h5⟩
 |dead=>exact e
def Blk.alive:Blk->Bool|.dead=>false|_=>true
def Blk.own:Blk->Bool|.dead=>false|.cells _ .fixed=>false|_=>true
theorem Blk.own_alive{b:Blk}(h:b.own=true):b.alive=true:=by
 cases b<;>first|rfl|(simp[Blk.own] at h)
theorem Blk.own_cells{l:List AV}{k:Kind}(h:k≠.fixed):(Blk.cells l k).own=true:=by
 cases k<;>first|rfl|exact absurd rfl h
structure Sim(β:Pl)(h:H)(W:World):Prop where
 live:∀ x b,h.get x=some b->∃ r κ,β x=some (r,κ)/\BR β b W.heap[r]? κ
 fresh:∀ x p,β x=some p->x.toNat<h.next.toNat
 inj:∀ x y r κ κ' b b',β x=some (r,κ)->β y=some (r,κ')->h.get x=some b->h.get y=some b'->b.own=true->b'.alive=true->x=y
 bound:∀ x r κ,β x=some (r,κ)->r<W.heap.size
 high:nGlobals<=W.heap.size/\∀ x r κ b,β x=some (r,κ)->h.get x=some b->b.own=true->nGlobals<=r
def Quiet(W W':World):Prop:=W'.os=W.os/\W'.tape=W.tape/\W'.output=W.output
theorem Quiet.refl(W:World):Quiet W W:=⟨rfl,rfl,rfl⟩
theorem Quiet.trans{W W' W'':World}(h:Quiet W W')(h':Quiet W' W''):Quiet W W'':=⟨h'.1.trans h.1,h'.2.1.trans h.2.1,h'.2.2.trans h.2.2⟩
structure Step(n:A)(β:Pl)(W:World)(β':Pl)(W':World):Prop where
 ext:Ext β β'
 newn:∀ x p,β' x=some p->β x=some p\/n.toNat<=x.toNat
 img:∀ x r κ,β' x=some (r,κ)->(∃ y κ',β y=some (r,κ'))\/W.heap.size<=r
 size:W.heap.size<=W'.heap.size
 kept:∀ r,r<W.heap.size->(∀ y κ,β y≠some (r,κ))->W'.heap[r]?=W.heap[r]?
 loops:∀ (r:Nat) (lp:Loop),W.heap[r]?=some (.loop lp)->∃ lp':Loop,W'.heap[r]?=some (.loop lp')/\lp'.defers=lp.defers
 q:Quiet W W'
 glob:∀ r,r<nGlobals->W'.heap[r]?=W.heap[r]?
theorem Step.refl(n:A)(β:Pl)(W:World):Step n β W β W:=
 ⟨Ext.refl β,fun _ _ h=>.inl h,fun x r κ h=>.inl ⟨x,κ,h⟩,Nat.le_refl _,fun _ _ _=>rfl,fun _ lp h=>⟨lp,h,rfl⟩,Quiet.refl W,fun _ _=>rfl⟩
theorem Step.trans{n n':A}{β β' β'':Pl}{W W' W'':World}(h:Step n β W β' W')(h':Step n' β' W' β'' W'')(hn:n.toNat<=n'.toNat):Step n β W β'' W'' where
 ext:=h.ext.trans h'.ext
 newn x p e:=by
  rcases h'.newn x p e with e|e
  ·exact h.newn x p e
  ·exact .inr (by omega)
 img x r κ e:=by
  rcases h'.img x r κ e with ⟨y,κ',e⟩|e
  ·exact h.img y r κ' e
  ·exact .inr (Nat.le_trans h.size e)
 size:=Nat.le_trans h.size h'.size
 kept r hr e:=by
  rw[h'.kept r (Nat.lt_of_lt_of_le hr h.size),h.kept r hr e]
  intro y κ hy
  rcases h.img y r κ hy with ⟨z,κ',hz⟩|hz
  ·exact e z κ' hz
  ·omega
 loops r lp e:=by
  obtain⟨lp1,e1,d1⟩:=h.loops r lp e
  obtain⟨lp2,e2,d2⟩:=h'.loops r lp1 e1
  exact⟨lp2,e2,d2.trans d1⟩
 q:=h.q.trans h'.q
 glob r hr:=(h'.glob r hr).trans (h.glob r hr)
def Pl.new(β:Pl)(x:A)(r κ:Nat):Pl:=fun y=>if y=x then some (r,κ) else β y
theorem Sim.ext_new{β:Pl}{h:H}{W:World}(hs:Sim β h W)(r κ:Nat):Ext β (β.new h.next r κ):=by
 intro x p e
 have:x≠h.next:=fun c=>by have:=hs.fresh x p e;rw[c] at this;omega
 simp[Pl.new,this,e]
theorem Zav{W:World}{o:Obj}{r:Nat}(h:r<W.heap.size):(W.alloc o).heap[r]?=W.heap[r]?:=by
 simp only[World.alloc];rw[Array.getElem?_push,if_neg (by omega)]
theorem heap_alloc_new(W:World)(o:Obj):(W.alloc o).heap[W.heap.size]?=some o:=by
 simp only[World.alloc];rw[Array.getElem?_push,if_pos rfl]
theorem Sim.new{β:Pl}{h:H}{W:World}(hs:Sim β h W){b:Blk}{o:Obj}{κ:Nat}{y:A}(hy:y.toNat=h.next.toNat+1)
  (hb:BR (β.new h.next W.heap.size κ) b (some o) κ):Sim (β.new h.next W.heap.size κ) (h.new b y) (W.alloc o)/\Step h.next β W (β.new h.next W.heap.size κ) (W.alloc o):=by
 have hx:=hs.ext_new W.heap.size κ
 refine⟨⟨?_,?_,?_,?_,⟨by rw[World.size_alloc];exact Nat.le_succ_of_le hs.high.1,fun x r κ' b' e1 e2 e3=>by
   rw[H.get_new] at e2;simp only[Pl.new] at e1
   by_cases c:x=h.next
   ·simp only[c,if_true,Option.some.injEq,Prod.mk.injEq] at e1;have:=hs.high.1;omega
   ·simp only[c,if_false] at e1 e2;exact hs.high.2 x r κ' b' e1 e2 e3⟩⟩,⟨hx,?_,?_,by rw[World.size_alloc];omega,?_,?_,⟨rfl,rfl,rfl⟩,fun r hr=>Zav (Nat.lt_of_lt_of_le hr hs.high.1)⟩⟩
 ·intro x b' e
  rw[H.get_new] at e
  by_cases c:x=h.next
  ·simp only[c,if_true,Option.some.injEq] at e;subst e
   refine⟨W.heap.size,κ,?_,by rw[heap_alloc_new];exact hb⟩
   unfold Pl.new;rw[if_pos c]
  ·simp only[c,if_false] at e
   obtain⟨r,κ',e1,e2⟩:=hs.live x b' e
   exact⟨r,κ',hx _ _ e1,by rw[Zav (hs.bound _ _ _ e1)];exact e2.mono hx⟩
 ·intro x p e
  show x.toNat<y.toNat
  simp only[Pl.new] at e
  split at e
  ·rename_i c;rw[c,hy];omega
  ·have:=hs.fresh x p e;omega
 ·intro x y' r κ1 κ2 b1 b2 e1 e2 g1 g2 a1 a2
  simp only[Pl.new] at e1 e2
  rw[H.get_new] at g1 g2
  by_cases c1:x=h.next<;>by_cases c2:y'=h.next
  ·rw[c1,c2]
  ·simp only[c1,c2,if_true,if_false,Option.some.injEq,Prod.mk.injEq] at e1 e2
   have:=hs.bound _ _ _ e2;omega
  ·simp only[c1,c2,if_true,if_false,Option.some.injEq,Prod.mk.injEq] at e1 e2
   have:=hs.bound _ _ _ e1;omega
  ·simp only[c1,c2,if_false] at e1 e2 g1 g2
   exact hs.inj _ _ _ _ _ _ _ e1 e2 g1 g2 a1 a2
 ·intro x r κ' e
  simp only[Pl.new] at e
  simp only[World.size_alloc]
  split at e
  ·simp only[Option.some.injEq,Prod.mk.injEq] at e;omega
  ·have:=hs.bound _ _ _ e;omega
 ·intro x p e
  simp only[Pl.new] at e
  split at e
  ·rename_i c;exact .inr (by rw[c];exact Nat.le_refl _)
  ·exact .inl e
 ·intro x r κ' e
  simp only[Pl.new] at e
  split at e
  ·simp only[Option.some.injEq,Prod.mk.injEq] at e;exact .inr (by omega)
  ·exact .inl ⟨x,κ',e⟩
 ·intro r hr _;exact Zav hr
 ·intro r lp e
  have hr:r<W.heap.size:=by
   rcases Nat.lt_or_ge r W.heap.size with c|c
   ·exact c
   ·rw[Array.getElem?_eq_none c] at e;cases e
  exact⟨lp,by rw[Zav hr];exact e,rfl⟩
theorem Sim.kill{β:Pl}{h:H}{W:World}(hs:Sim β h W){x:A}{r κ:Nat}(hx:β x=some (r,κ)):Sim β (h.put x .dead) W:=by
 refine⟨fun z b2 e=>?_,hs.fresh,fun z y r' κ1 κ2 b1 b2 e1 e2 g1 g2 a1 a2=>?_,hs.bound,⟨hs.high.1,fun z r' κ' b e1 e2 e3=>by
   rw[H.get_put] at e2
   by_cases c:z=x
   ·simp only[c,if_true,Option.some.injEq] at e2;subst e2;cases e3
   ·simp only[c,if_false] at e2;exact hs.high.2 z r' κ' b e1 e2 e3⟩⟩
 ·rw[H.get_put] at e
  by_cases c:z=x
  ·simp only[c,if_true,Option.some.injEq] at e;subst e
   refine⟨r,κ,by rw[c];exact hx,?_⟩
   have:=hs.bound _ _ _ hx
   show W.heap[r]?≠none
   rw[Array.getElem?_eq_getElem this];simp
  ·simp only[c,if_false] at e
   exact hs.live z b2 e
 ·rw[H.get_put] at g1 g2
  by_cases c1:z=x
  ·simp only[c1,if_true,Option.some.injEq] at g1;subst g1;cases a1
  ·by_cases c2:y=x
   ·simp only[c2,if_true,Option.some.injEq] at g2;subst g2;cases a2
   ·simp only[c1,c2,if_false] at g1 g2
    exact hs.inj _ _ _ _ _ _ _ e1 e2 g1 g2 a1 a2
theorem Sim.set{β:Pl}{h:H}{W W':World}(hs:Sim β h W){x:A}{b b':Blk}{r κ:Nat}(hx:β x=some (r,κ))(hg:h.get x=some b)(ha:b.own=true)
  (hsz:W'.heap.size=W.heap.size) (ho:∀ r',r'≠r->W'.heap[r']?=W.heap[r']?) (hb:BR β b' W'.heap[r]? κ)
  (hl:∀ lp:Loop,W.heap[r]?=some (.loop lp)->∃ lp':Loop,W'.heap[r]?=some (.loop lp')/\lp'.defers=lp.defers) (hq:Quiet W W') (n:A) :
  Sim β (h.put x b') W'/\Step n β W β W':=by
 refine⟨⟨?_,?_,?_,?_,⟨by rw[hsz];exact hs.high.1,fun z r' κ' b2 e1 e2 e3=>by
   rw[H.get_put] at e2
   by_cases c:z=x
   ·rw[c,hx] at e1;cases e1;exact hs.high.2 x r κ b hx hg ha
   ·simp only[c,if_false] at e2;exact hs.high.2 z r' κ' b2 e1 e2 e3⟩⟩,⟨Ext.refl β,fun _ _ e=>.inl e,fun x r κ e=>.inl ⟨x,κ,e⟩,Nat.le_of_eq hsz.symm,?_,?_,hq,fun r' hr'=>ho r' fun q=>by have:=hs.high.2 x r κ b hx hg ha;omega⟩⟩
 ·intro z b2 e
  rw[H.get_put] at e
  by_cases c:z=x
  ·simp only[c,if_true,Option.some.injEq] at e;subst e
   exact⟨r,κ,by rw[c];exact hx,hb⟩
  ·simp only[c,if_false] at e
   obtain⟨r',κ',e1,e2⟩:=hs.live z b2 e
   refine⟨r',κ',e1,?_⟩
   by_cases hd:b2.alive=true
   ·have:r'≠r:=fun q=>c (hs.inj x z r' κ κ' b b2 (by rw[q];exact hx) e1 hg e ha hd).symm
    rw[ho r' this];exact e2
   ·cases b2 with
    |dead=>
     have hlt:=hs.bound _ _ _ e1
     show W'.heap[r']?≠none
     rw[Array.getElem?_eq_getElem (by omega)];simp
    |_=>exact absurd rfl hd
 ·intro z p e;exact hs.fresh z p e
 ·intro z y r' κ1 κ2 b1 b2 e1 e2 g1 g2 a1 a2
  rw[H.get_put] at g1 g2
  by_cases c1:z=x<;>by_cases c2:y=x
  ·rw[c1,c2]
  ·simp only[c1,c2,if_true,if_false] at g1 g2
   have:=hs.inj x y r' κ1 κ2 b b2 (by rw[<-c1];exact e1) e2 hg g2 ha a2
   rw[c1,this]
  ·simp only[c1,c2,if_true,if_false] at g1 g2
   have:=hs.inj z x r' κ1 κ2 b1 b e1 (by rw[<-c2];exact e2) g1 hg a1 (Blk.own_alive ha)
   rw[c2,this]
  ·simp only[c1,c2,if_false] at g1 g2
   exact hs.inj _ _ _ _ _ _ _ e1 e2 g1 g2 a1 a2
 ·intro z r' κ' e;rw[hsz];exact hs.bound _ _ _ e
 ·intro r' _ hn
  exact ho r' fun q=>hn x κ (by rw[q];exact hx)
 ·intro r' lp e
  by_cases c:r'=r
  ·subst c;exact hl lp e
  ·exact⟨lp,by rw[ho r' c];exact e,rfl⟩
end
end Go.Abs
namespace Go.Abs
open Go
noncomputable section
def Gl(β:Pl):Prop:=∀ g,g<nGlobals->∃ κ,β (A.of g)=some (g,κ)
structure FR(β:Pl)(a:Fr)(tmps:Array Value):Prop where
 size:tmps.size=a.n
 le:a.n<=512
 reg:∀ t v,t<a.n->a.at? t=some v->VR β v (tmps.getD t undef)
 gl:Gl β
theorem FR.mono{β β':Pl}{a:Fr}{tmps:Array Value}(h:FR β a tmps)(e:Ext β β'):FR β' a tmps:=
 ⟨h.size,h.le,fun t v ht hv=>VR.mono e _ _ (h.reg t v ht hv),fun g hg=>let ⟨κ,x⟩:=h.gl g hg;⟨κ,e _ _ x⟩⟩
theorem getD_set(tmps:Array Value)(t u:Nat)(x:Value)(ht:t<tmps.size):(tmps.setIfInBounds t x).getD u undef=if u=t then x else tmps.getD u undef:=by
 simp only[Array.getD_eq_getD_getElem?,Array.getElem?_setIfInBounds]
 by_cases h:u=t
 ·subst h;simp[ht]
 ·have:¬ t=u:=fun e=>h e.symm
  simp[h,this]
theorem FR.put{β:Pl}{a:Fr}{tmps:Array Value}(h:FR β a tmps){t:Nat}{v:AV}{x:Value}(ht:t<a.n)(hx:VR β v x):FR β (a.put t v) (tmps.setIfInBounds t x):=by
 refine⟨by simpa[Fr.put] using h.size,h.le,fun u w hu hw=>?_,h.gl⟩
 have hu:u<a.n:=hu
 rw[Fr.at_put h.le ht hu] at hw
 rw[getD_set _ _ _ _ (by rw[h.size];exact ht)]
 by_cases c:u=t
 ·simp only[c,if_true,Option.some.injEq] at hw ⊢;subst hw;exact hx
 ·simp only[c,if_false] at hw ⊢;exact h.reg u w hu hw
theorem ofV_sound{v:Value}{a:AV}(h:ofV v=some a)(β:Pl):VR β a v/\a.one=true:=by
 unfold ofV at h
 split at h<;>first|(cases h;done)|(cases h;simp[VR,AV.one])
theorem ofVs_sound:∀ {vs:List Value} {l:List AV},ofVs vs=some l->∀ β,VRs β l vs/\l.all AV.one=true
 |[],l,h,β=>by cases h;exact⟨VRs.nil.2 rfl,rfl⟩
 |v::vs,l,h,β=>by
  unfold ofVs at h
  split at h
  ·cases h
  ·rename_i a ha
   split at h
   ·cases h
   ·rename_i m hm
    cases h
    obtain⟨h1,h2⟩:=ofV_sound ha β
    obtain⟨h3,h4⟩:=ofVs_sound hm β
    exact⟨VRs.cons'.2 ⟨h1,h3⟩,by simp only[List.all_cons,h2,h4,Bool.and_self]⟩
theorem evVal_true{o:Option AV}{a:Fr}{k:AV->Bool}(h:evVal o a k=true):∃ v,o=some v/\k v=true:=by
 cases o with
 |none=>cases h
 |some v=>exact⟨v,rfl,h⟩
theorem Zai{a:Fr}{x:Operand}{k:AV->Bool}(h:evK a x k=true):∃ v,k v=true/\∀ (β:Pl) (act:Act),FR β a act.tmps->VR β v (act.eval x):=by
 cases x with
 |tmp t=>
  obtain⟨v,ht,hv,hk⟩:=Fr.get_true (show a.get t k=true from h)
  exact⟨v,hk,fun β act hf=>hf.reg t v ht hv⟩
 |const c=>
  obtain⟨v,hv,hk⟩:=evVal_true (show evVal (ofV c) a k=true from h)
  exact⟨v,hk,fun β act _=>(ofV_sound hv β).1⟩
 |global g=>
  obtain⟨v,hv,hk⟩:=evVal_true (show evVal (match Nat.blt g nGlobals with|true=>some (.ptr (A.of g) 0)|false=>none) a k=true from h)
  split at hv
  ·rename_i hg
   rw[blt_nat] at hg
   cases hv
   refine⟨_,hk,fun β act hf=>?_⟩
   obtain⟨κ,e⟩:=hf.gl g (by simpa using hg)
   simp only[VR];exact⟨g,κ,e,rfl⟩
  ·cases hv
 |func f=>
  obtain⟨v,hv,hk⟩:=evVal_true (show evVal (some (.fn f [] [])) a k=true from h)
  cases hv
  refine⟨_,hk,fun β act _=>?_⟩
  simp only[VR];exact⟨[],[],rfl,VRs.nil.2 rfl,VRs.nil.2 rfl⟩
theorem evsK_true{a:Fr}:∀ {l:List Operand} {k:List AV->Bool},evsK a l k=true->∃ vs,k vs=true/\∀ (β:Pl) (act:Act),FR β a act.tmps->VRs β vs (l.map act.eval)
 |[],k,h=>⟨[],h,fun β act _=>VRs.nil.2 rfl⟩
 |x::l,k,h=>by
  have h:evK a x (fun v=>evsK a l fun l=>k (v::l))=true:=h
  obtain⟨v,h1,hv⟩:=Zai h
  obtain⟨vs,h2,hvs⟩:=evsK_true h1
  exact⟨v::vs,h2,fun β act hf=>VRs.cons'.2 ⟨hv β act hf,hvs β act hf⟩⟩
def OR(β:Pl)(v:Option AV)(x:Option Value):Prop:=match v,x with
 |none,none=>True
 |some v,some x=>VR β v x
 |_,_=>False
theorem optK_true{a:Fr}{x:Option Operand}{k:Option AV->Bool}(h:optK a x k=true):∃ v,k v=true/\∀ (β:Pl) (act:Act),FR β a act.tmps->OR β v (x.map act.eval):=by
 cases x with
 |none=>exact⟨none,h,fun _ _ _=>trivial⟩
 |some x=>
  obtain⟨v,h1,hv⟩:=Zai (show evK a x (fun v=>k (some v))=true from h)
  exact⟨some v,h1,fun β act hf=>hv β act hf⟩
end
end Go.Abs
namespace Go.Abs
open Go
noncomputable section
variable {P:Program}
def Res(P:Program)(o:Oper)(act:Act)(W:World)(x:Value)(W':World):Prop:=
 (execOp act.eval o).run P W=.ok (.value x) W'\/((execOp act.eval o).run P W=.ok .skip W'/\x=undef)
def OkV(P:Program)(o:Oper)(a:Fr)(h:H)(kv:KV):Prop:=
 ∃ v h',kv v h'=true/\h.next.toNat<=h'.next.toNat/\∀ (β:Pl) (W:World) (act:Act),Sim β h W->FR β a act.tmps ->
  ∃ β' x W',Res P o act W x W'/\VR β' v x/\Sim β' h' W'/\Step h.next β W β' W'
def OkP(P:Program)(o:Oper)(a:Fr)(h:H)(kv:KV):Prop:=
 ∃ v,kv v h=true/\∀ (β:Pl) (W:World) (act:Act),Sim β h W->FR β a act.tmps->∃ x,(execOp act.eval o).run P W=.ok (.value x) W/\VR β v x
theorem OkP.ok{o:Oper}{a:Fr}{h:H}{kv:KV}(e:OkP P o a h kv):OkV P o a h kv:=by
 obtain⟨v,hk,e⟩:=e
 refine⟨v,h,hk,Nat.le_refl _,fun β W act hs hf=>?_⟩
 obtain⟨x,h1,h2⟩:=e β W act hs hf
 exact⟨β,x,W,.inl h1,h2,hs,Step.refl _ _ _⟩
section
variable {o:Oper} {a:Fr} {h:H} {kv:KV} {kc:KC} {ky:KY}
theorem oMove_ok{x:Operand}(ho:o.op=.move x\/o.op=.assign x)(e:oMove x a h kv kc ky=true):OkP P o a h kv:=by
 obtain⟨v,hk,hv⟩:=Zai (show evK a x (fun v=>kv v h)=true from e)
 refine⟨v,hk,fun β W act hs hf=>⟨act.eval x,?_,hv β act hf⟩⟩
 rcases ho with ho|ho <;>(generalize Act.eval act=ρ at *;simp[execOp,ho,go_sem])
theorem oPick_ok{c x y:Operand}(ho:o.op=.pick c x y)(e:oPick c x y a h kv kc ky=true):OkP P o a h kv:=by
 obtain⟨b,hk,hb⟩:=Zai (show evK a c _=true from e)
 split at hk
 ·obtain⟨v,hk,hv⟩:=Zai hk
  refine⟨v,hk,fun β W act hs hf=>⟨act.eval x,?_,hv β act hf⟩⟩
  have:=hb β act hf
  simp only[VR] at this
  generalize Act.eval act=ρ at *;simp[execOp,ho,this,asBool,go_sem]
 ·obtain⟨v,hk,hv⟩:=Zai hk
  refine⟨v,hk,fun β W act hs hf=>⟨act.eval y,?_,hv β act hf⟩⟩
  have:=hb β act hf
  simp only[VR] at this
  generalize Act.eval act=ρ at *;simp[execOp,ho,this,asBool,go_sem]
 ·cases hk
theorem oExtract_ok{x:Operand}{i:Nat}(ho:o.op=.extract x i)(e:oExtract x i a h kv kc ky=true):OkP P o a h kv:=by
 obtain⟨b,hk,hb⟩:=Zai (show evK a x _=true from e)
 split at hk
 ·rename_i l
  obtain⟨v,hi,hk⟩:=nthK_true hk
  refine⟨v,hk,fun β W act hs hf=>?_⟩
  have:=hb β act hf
  simp only[VR] at this
  obtain⟨vs,hx,hvs⟩:=this
  obtain⟨u,hu,hr⟩:=hvs.get hi
  exact⟨u,by generalize Act.eval act=ρ at *;simp[execOp,ho,hx,Instr.extract,hu,go_sem],hr⟩
 ·cases hk
theorem oNilCheck_ok{x:Operand}(ho:o.op=.nilCheck x)(e:oNilCheck x a h kv kc ky=true):OkP P o a h kv:=by
 obtain⟨v,hk,hv⟩:=Zai (show evK a x _=true from e)
 split at hk
 ·cases hk
 ·cases hk
 ·cases hk
 ·rename_i n1 n2 n3
  refine⟨v,hk,fun β W act hs hf=>⟨act.eval x,?_,hv β act hf⟩⟩
  have:=hv β act hf
  generalize Act.eval act=ρ at *
  cases v<;>first|(exact absurd rfl n1)|(exact absurd rfl n2)|(exact absurd rfl n3)|skip
  all_goals simp only[VR] at this
  all_goals first
   |(simp[execOp,ho,this,go_sem];done)
   |(obtain⟨_,hx⟩:=this;simp[execOp,ho,hx,go_sem];done)
   |(obtain⟨_,_,hx⟩:=this;simp[execOp,ho,hx,go_sem];done)
   |(obtain⟨_,_,_,hx⟩:=this;simp[execOp,ho,hx,go_sem];done)
   |(obtain⟨_,hx,_⟩:=this;simp[execOp,ho,hx,go_sem];done)
   |(obtain⟨_,_,hx,_⟩:=this;simp[execOp,ho,hx,go_sem];done)
   |(obtain⟨_,_,_,_,_,_,hx⟩:=this;simp[execOp,ho,hx,go_sem];done)
   |(obtain⟨_,_,_,_,_,hx⟩:=this;simp[execOp,ho,hx,go_sem];done)
theorem wrapK_eq(k:IntKind)(n:Int)(c:Int->Bool):wrapK k n c=c (k.wrap n):=by
 unfold wrapK
 split
 ·rename_i m
  split
  ·rename_i hb
   rw[blt_nat] at hb
   have hb:m<limK k:=by simpa using hb
   rw[Zaw]
   congr 1
   have hz:(Int.ofNat m)=(m:Int):=rfl
   rw[hz]
   symm
   cases k<;>simp only[limK] at hb
   ·exact IntWalk.i8_in _ (by omega)
   ·exact IntWalk.i16_in _ (by omega)
   ·exact IntWalk.i32_in _ (by omega)
   ·exact IntWalk.i64_in _ (by omega)
   ·exact IntWalk.u8_in _ (by omega)
   ·exact IntWalk.u16_in _ (by omega)
   ·exact IntWalk.u32_in _ (by omega)
   ·exact IntWalk.u64_in _ (by omega)
  ·rw[forceI_eq]
 ·rename_i m
  split
  ·rename_i hb
   rw[blt_nat] at hb
   have hb:m<128:=by simpa using hb
   rw[Zaw]
   have hw:IntKind.i64.wrap (Int.negSucc m)=Int.negSucc m:=IntWalk.i64_in _ (by rw[Int.negSucc_eq];omega)
   rw[hw]
  ·rw[forceI_eq]
theorem oNeg_ok{x:Operand}{t:TypeId}(ho:o.op=.unOp .neg t x)(e:oNeg x a h kv kc ky=true):OkP P o a h kv:=by
 obtain⟨v,hk,hv⟩:=Zai (show evK a x _=true from e)
 split at hk
 ·rename_i j n
  rw[wrapK_eq] at hk
  refine⟨_,hk,fun β W act hs hf=>⟨.int j (j.wrap (0 - n)),?_,by simp[VR]⟩⟩
  have:=hv β act hf
  simp only[VR] at this
  generalize Act.eval act=ρ at *;simp[execOp,ho,this,Op.unary,Op.intArith,go_sem]
 ·cases hk
theorem oNot_ok{x:Operand}{t:TypeId}(ho:o.op=.unOp .not t x)(e:oNot x a h kv kc ky=true):OkP P o a h kv:=by
 obtain⟨v,hk,hv⟩:=Zai (show evK a x _=true from e)
 split at hk
 ·refine⟨_,hk,fun β W act hs hf=>⟨.bool false,?_,by simp[VR]⟩⟩
  have:=hv β act hf
  simp only[VR] at this
  generalize Act.eval act=ρ at *;simp[execOp,ho,this,Op.unary,go_sem]
 ·refine⟨_,hk,fun β W act hs hf=>⟨.bool true,?_,by simp[VR]⟩⟩
  have:=hv β act hf
  simp only[VR] at this
  generalize Act.eval act=ρ at *;simp[execOp,ho,this,Op.unary,go_sem]
 ·cases hk
theorem oIface_ok{x:Operand}{t:TypeId}(ho:o.op=.makeInterface t x)(ht:∃ d,P.underlying t=some d/\∀ m,d≠.interface m)(e:oIface t x a h kv kc ky=true):OkP P o a h kv:=by
 obtain⟨v,hk,hv⟩:=Zai (show evK a x _=true from e)
 refine⟨_,hk,fun β W act hs hf=>⟨.iface t (act.eval x),?_,by simp only[VR];exact⟨_,rfl,hv β act hf⟩⟩⟩
 obtain⟨d,hd,hn⟩:=ht
 have:(underlying t).run P W=.ok d W:=by simp[underlying,hd,go_sem]
 cases d<;>first|(exact absurd rfl (hn _))|(generalize Act.eval act=ρ at *;simp[execOp,ho,Instr.makeInterface,this,go_sem])
theorem oFunc_ok{f:FuncId}{first caps:Array Operand}(ho:o.op=.makeFunc (.func f) first caps)(e:oFunc f first.toList caps.toList a h kv kc ky=true):OkP P o a h kv:=by
 obtain⟨m,hk,hm⟩:=evsK_true (show evsK a first.toList _=true from e)
 obtain⟨l,hk,hl⟩:=evsK_true hk
 refine⟨_,hk,fun β W act hs hf=>⟨.func (.func f) (first.map act.eval) (caps.map act.eval),?_,?_⟩⟩
 ·generalize Act.eval act=ρ at *;simp[execOp,ho,Instr.makeFunc,go_sem]
 ·simp only[VR]
  exact⟨(first.map act.eval).toList,(caps.map act.eval).toList,rfl,by rw[Array.toList_map];exact hm β act hf,by rw[Array.toList_map];exact hl β act hf⟩
end
end
end Go.Abs
namespace Go.Abs
open Go
noncomputable section
variable {P:Program}
theorem Zag{t:TypeId}{d:TypeDesc}(W:World)(h:P.underlying t=some d):(underlying t).run P W=.ok d W:=by simp[underlying,h,go_sem]
theorem run_size{t:TypeId}{n:Nat}(W:World)(h:sizeOfT P t=some n):(sizeOf t).run P W=.ok n W:=by
 unfold sizeOfT at h
 split at h
 ·cases h
 ·rename_i i hi;cases h;simp[sizeOf,typeInfo,hi,go_sem]
theorem size_info{t:TypeId}{n:Nat}(h:sizeOfT P t=some n):(P.info? t).map (·.size)=some n:=by
 unfold sizeOfT at h
 split at h
 ·cases h
 ·rename_i i hi;cases h;simp[hi]
theorem run_agg{t:TypeId}{b:Bool}(W:World)(h:aggOf P t=some b):(isAgg t).run P W=.ok b W:=by
 unfold aggOf at h
 split at h
 ·cases h
 ·rename_i e;cases h;simp[isAgg,Zag W e,go_sem]
 ·rename_i e;cases h;simp[isAgg,Zag W e,go_sem]
 ·rename_i d n1 n2 e
  cases h
  simp only[isAgg,Sem.run_bind,Zag W e,Result.andThen_ok]
  cases d<;>first|(exact(n1 _ rfl).elim)|(exact(n2 _ _ rfl).elim)|rfl
theorem agg_row{t:TypeId}(h:aggOf P t=some true):∃ d,P.underlying t=some d/\d.isRow=true:=by
 unfold aggOf at h
 split at h
 ·cases h
 ·rename_i e;exact⟨_,e,rfl⟩
 ·rename_i e;exact⟨_,e,rfl⟩
 ·cases h
theorem addr_add(r off n:Nat):(⟨r,off,none⟩:Addr).add n=⟨r,off+n,none⟩:=Addr.add_mid r off n
theorem cell_of{W:World}{r:Nat}{c:Array Value}{t:TypeId}{fr:Nat×Nat}(h:W.heap[r]?=some (.cells c t fr))(off:Nat):W.cell? ⟨r,off,none⟩=c[off]?:=by
 simp[World.cell?,h]
theorem frozen_of{W:World}{r:Nat}{c:Array Value}{t:TypeId}{fr:Nat×Nat}(h:W.heap[r]?=some (.cells c t fr))(off:Nat):W.frozen? ⟨r,off,none⟩=(decide (fr.1<=off)&&decide (off<fr.2)):=by
 simp[World.frozen?,h]
theorem VR.oneCell{β:Pl}{a:AV}{v:Value}(h:VR β a v)(ho:a.one=true):v.oneCell'=true:=by
 cases a<;>simp only[VR] at h<;>first
  |(cases ho;done)
  |(subst h;rfl)
  |(obtain⟨_,h⟩:=h;subst h;rfl)
  |(obtain⟨_,h,_⟩:=h;subst h;rfl)
  |(obtain⟨_,_,h⟩:=h;subst h;rfl)
  |(obtain⟨_,_,_,h⟩:=h;subst h;rfl)
  |(obtain⟨_,_,h,_⟩:=h;subst h;rfl)
  |(obtain⟨_,_,_,_,_,_,h⟩:=h;subst h;rfl)
  |(obtain⟨_,_,_,_,_,h⟩:=h;subst h;rfl)
theorem VRs.oneCell{β:Pl}:∀ {l:List AV} {vs:List Value},VRs β l vs->l.all AV.one=true->∀ v∈vs,v.oneCell'=true
 |[],vs,h,_,v,hv=>by rw[VRs.nil] at h;subst h;cases hv
 |a::l,vs,h,ho,v,hv=>by
  obtain⟨u,ws,rfl,h1,h2⟩:=VRs.cons.1 h
  simp only[List.all_cons,Bool.and_eq_true] at ho
  rcases List.mem_cons.1 hv with e|e
  ·subst e;exact h1.oneCell ho.1
  ·exact h2.oneCell ho.2 v e
theorem row_range{β:Pl}{W:World}{r κ:Nat}{l:List AV}{k:Kind}(h:BR β (.cells l k) W.heap[r]? κ)(off n:Nat)(hl:off+n<=l.length) :
  ∃ vs:List Value,vs.length=n/\VRs β ((l.drop off).take n) vs/\W.rangeAt r off vs:=by
 obtain⟨c,t,fr,h1,h2,h3,h4,h5,_⟩:=h
 refine⟨((c.toList.take l.length).drop off).take n,?_,(h4.drop off).take n,?_⟩
 ·simp;omega
 ·intro j v hv
  rw[cell_of h1]
  rw[List.getElem?_take] at hv
  split at hv
  ·rw[List.getElem?_drop,List.getElem?_take] at hv
   split at hv
   ·simpa using hv
   ·cases hv
  ·cases hv
section
variable {o:Oper} {a:Fr} {h:H} {kv:KV} {kc:KC} {ky:KY}
theorem oLoadAgg_ok{t:TypeId}{n:Nat}{x:Operand}(ho:o.op=.load t x)(hn:sizeOfT P t=some n)(ht:aggOf P t=some true)(e:oLoadAgg n x a h kv kc ky=true):OkP P o a h kv:=by
 obtain⟨v,hk,hv⟩:=Zai (show evK a x _=true from e)
 split at hk
 ·rename_i b off
  obtain⟨bl,hb,hk⟩:=Zat (show getK h b _=true from hk)
  split at hk
  ·rename_i l kd
   obtain⟨hd,hk⟩:=dropK_true hk
   obtain⟨hn',hk⟩:=takeK_true hk
   refine⟨_,hk,fun β W act hs hf=>?_⟩
   have hx:=hv β act hf
   simp only[VR] at hx
   obtain⟨r,κ,hβ,hx⟩:=hx
   obtain⟨r',κ',hβ',hbr⟩:=hs.live b _ hb
   rw[hβ] at hβ';cases hβ'
   obtain⟨d,hu,hrow⟩:=agg_row ht
   obtain⟨vs,hlen,hvs,hrng⟩:=row_range hbr off n (by rw[List.length_drop] at hn';omega)
   refine⟨.agg vs.toArray,?_,?_⟩
   ·have hL:=run_loadVar_mid (P:=P) W r off t vs d hrng hu hrow (by rw[size_info hn,hlen])
    generalize Act.eval act=ρ at *
    simp only[execOp,ho,hx,Instr.loadAt,Instr.sureAddr,Sem.run_bind,Sem.run_pure,Result.andThen_ok,hL]
   ·simp only[VR]
    refine⟨vs,rfl,hvs,?_⟩
    obtain⟨c,t',fr,_,_,_,_,h5,_⟩:=hbr
    rw[List.all_eq_true] at h5 ⊢
    exact fun z hz=>h5 z (List.mem_of_mem_drop (List.mem_of_mem_take hz))
  ·cases hk
 ·cases hk
theorem oLoad1_ok{t:TypeId}{x:Operand}(ho:o.op=.load t x)(ht:aggOf P t=some false)(e:oLoad1 x a h kv kc ky=true):OkP P o a h kv:=by
 obtain⟨v,hk,hv⟩:=Zai (show evK a x _=true from e)
 split at hk
 ·rename_i b off
  obtain⟨bl,hb,hk⟩:=Zat (show getK h b _=true from hk)
  split at hk
  ·rename_i l kd
   obtain⟨u,hu,hk⟩:=nthK_true hk
   refine⟨_,hk,fun β W act hs hf=>?_⟩
   have hx:=hv β act hf
   simp only[VR] at hx
   obtain⟨r,κ,hβ,hx⟩:=hx
   obtain⟨r',κ',hβ',hbr⟩:=hs.live b _ hb
   rw[hβ] at hβ';cases hβ'
   obtain⟨c,t',fr,h1,h2,h3,h4,h5,_⟩:=hbr
   obtain⟨z,hz,hzr⟩:=h4.get hu
   have hlt:off<l.length:=by
    rcases Nat.lt_or_ge off l.length with q|q
    ·exact q
    ·rw[List.getElem?_eq_none q] at hu;cases hu
   rw[List.getElem?_take,if_pos hlt] at hz
   have hc:W.cell? ⟨r,off,none⟩=some z:=by rw[cell_of h1];simpa using hz
   refine⟨z,?_,hzr⟩
   have hA:=run_agg W ht
   generalize Act.eval act=ρ at *
   simp only[execOp,ho,hx,Instr.loadAt,Instr.sureAddr,Sem.run_bind,Sem.run_pure,Result.andThen_ok,loadVar,hA,Bool.false_eq_true,if_false,run_load,hc]
  ·cases hk
 ·cases hk
theorem oLoad_ok{t:TypeId}{x:Operand}(ho:o.op=.load t x)(e:oLoad P t x a h kv kc ky=true):OkP P o a h kv:=by
 cases hA:aggOf P t with
 |none=>simp only[oLoad,hA] at e;cases e
 |some b=>
  cases b with
  |false=>simp only[oLoad,hA] at e;exact oLoad1_ok ho hA e
  |true=>
   cases hn:sizeOfT P t with
   |none=>simp only[oLoad,hA,hn] at e;cases e
   |some n=>simp only[oLoad,hA,hn] at e;exact oLoadAgg_ok ho hn hA e
theorem oFieldAt_ok{s f:Nat}{x:Operand}{fs:Array Field}{fd:Field}{m:Nat}(ho:o.op=.fieldAddr s x f)(hs:P.underlying s=some (.struct fs))(hf:fs[f]?=some fd)
  (hm:sizeOfT P fd.type=some (m+1)) (e:oFieldAt fd.offset x a h kv kc ky=true):OkP P o a h kv:=by
 obtain⟨v,hk,hv⟩:=Zai (show evK a x _=true from e)
 split at hk
 ·rename_i b off
  rw[Zaw] at hk
  refine⟨_,hk,fun β W act hsim hfr=>?_⟩
  have hx:=hv β act hfr
  simp only[VR] at hx
  obtain⟨r,κ,hβ,hx⟩:=hx
  refine⟨.pointer (some ⟨r,off+fd.offset,none⟩),?_,by simp only[VR];exact⟨r,κ,hβ,rfl⟩⟩
  have h1:=Zag W hs
  have h2:=run_size W hm
  generalize Act.eval act=ρ at *
  simp only[execOp,ho,hx,Instr.fieldAt,Sem.run_bind,h1,Result.andThen_ok,hf,Instr.sureAddr,Sem.run_pure,fieldPlace,h2,addr_add]
  simp
 ·cases hk
theorem oFieldAddr_ok{s f:Nat}{x:Operand}(ho:o.op=.fieldAddr s x f)(e:oFieldAddr P s x f a h kv kc ky=true):OkP P o a h kv:=by
 cases hs:P.underlying s with
 |none=>simp only[oFieldAddr,hs] at e;cases e
 |some d=>
  cases d with
  |struct fs=>
   cases hf:fs[f]? with
   |none=>simp only[oFieldAddr,hs,hf] at e;cases e
   |some fd=>
    cases hm:sizeOfT P fd.type with
    |none=>simp only[oFieldAddr,hs,hf,hm] at e;cases e
    |some m=>
     cases m with
     |zero=>simp only[oFieldAddr,hs,hf,hm] at e;cases e
     |succ m=>simp only[oFieldAddr,hs,hf,hm] at e;exact oFieldAt_ok ho hs hf hm e
  |_=>simp only[oFieldAddr,hs] at e;cases e
theorem natK_true{v:AV}{k:Nat->Bool}(e:natK v k=true):∃ j n,v=.int j (Int.ofNat n)/\k n=true:=by
 unfold natK at e
 split at e
 ·rename_i j n;exact⟨j,n,rfl,e⟩
 ·cases e
theorem oElemS_ok{t et n:Nat}{x i:Operand}(ho:o.op=.indexAddr t x i)(ht:P.underlying t=some (.slice et))(hn:sizeOfT P et=some n)(e:oElemS n x i a h kv kc ky=true):OkP P o a h kv:=by
 obtain⟨v,hk0,hv⟩:=Zai (show evK a x _=true from e)
 obtain⟨w,hk1,hw⟩:=Zai hk0
 obtain⟨j,m,hwj,hk⟩:=natK_true hk1
 clear hk1 hk0 e
 subst hwj
 have key:∀ b off len,(match Nat.blt m len with|true=>forceN (off+m*n) fun off=>kv (.ptr b off) h|false=>false)=true ->
   (∀ (β:Pl) (act:Act),FR β a act.tmps->∃ r κ cap,β b=some (r,κ)/\act.eval x=.slice (some ⟨r,off,none⟩) len cap)->OkP P o a h kv:=by
  intro b off len hk hx
  split at hk
  ·rename_i hb
   rw[blt_nat] at hb
   have hb:m<len:=by simpa using hb
   rw[Zaw] at hk
   refine⟨_,hk,fun β W act hsim hfr=>?_⟩
   obtain⟨r,κ,cap,hβ,hx⟩:=hx β act hfr
   have hi:=hw β act hfr
   simp only[VR] at hi
   refine⟨.pointer (some ⟨r,off+m*n,none⟩),?_,by simp only[VR];exact⟨r,κ,hβ,rfl⟩⟩
   have h1:=Zag W ht
   have h2:=run_size W hn
   generalize Act.eval act=ρ at *
   have hz:(Int.ofNat m)=(m:Int):=rfl
   simp only[execOp,ho,hx,hi,Instr.indexAt,asIntOf,Sem.run_bind,Sem.run_pure,h1,Result.andThen_ok,h2]
   have c1:(0:Int)<=Int.ofNat m/\Int.ofNat m<(len:Int):=by rw[hz];omega
   simp[c1,h2,addr_add,Sem.run_bind,go_sem,hb]
  ·cases hk
 split at hk
 ·rename_i b off len cap
  refine key b off len hk fun β act hfr=>?_
  have:=hv β act hfr
  simp only[VR] at this
  obtain⟨r,κ,h1,h2⟩:=this
  exact⟨r,κ,_,h1,h2⟩
 ·rename_i b off len sz
  refine key b off len hk fun β act hfr=>?_
  have:=hv β act hfr
  simp only[VR] at this
  obtain⟨r,κ,cap,h1,_,_,h2⟩:=this
  exact⟨r,κ,_,h1,h2⟩
 ·cases hk
theorem oElemA_ok{t et n len:Nat}{x i:Operand}(ho:o.op=.indexAddr t x i)(ht:P.underlying t=some (.array len et))(hn:sizeOfT P et=some n)(e:oElemA n len x i a h kv kc ky=true):OkP P o a h kv:=by
 obtain⟨v,hk0,hv⟩:=Zai (show evK a x _=true from e)
 obtain⟨w,hk1,hw⟩:=Zai hk0
 obtain⟨j,m,hwj,hk⟩:=natK_true hk1
 clear hk1 hk0 e
 subst hwj
 split at hk
 ·rename_i b off
  split at hk
  ·rename_i hb
   rw[blt_nat] at hb
   have hb:m<len:=by simpa using hb
   rw[Zaw] at hk
   refine⟨_,hk,fun β W act hsim hfr=>?_⟩
   have hx:=hv β act hfr
   simp only[VR] at hx
   obtain⟨r,κ,hβ,hx⟩:=hx
   have hi:=hw β act hfr
   simp only[VR] at hi
   refine⟨.pointer (some ⟨r,off+m*n,none⟩),?_,by simp only[VR];exact⟨r,κ,hβ,rfl⟩⟩
   have h1:=Zag W ht
   have h2:=run_size W hn
   generalize Act.eval act=ρ at *
   have hz:(Int.ofNat m)=(m:Int):=rfl
   simp only[execOp,ho,hx,hi,Instr.indexAt,asIntOf,Instr.sureAddr,Sem.run_bind,Sem.run_pure,h1,Result.andThen_ok,h2]
   have c1:(0:Int)<=Int.ofNat m/\Int.ofNat m<(len:Int):=by rw[hz];omega
   simp[c1,h2,addr_add,Sem.run_bind,go_sem,hb]
  ·cases hk
 ·cases hk
theorem oIndexAddr_ok{t:Nat}{x i:Operand}(ho:o.op=.indexAddr t x i)(e:oIndexAddr P t x i a h kv kc ky=true):OkP P o a h kv:=by
 cases ht:P.underlying t with
 |none=>simp only[oIndexAddr,ht] at e;cases e
 |some d=>
  cases d with
  |slice et=>
   cases hn:sizeOfT P et with
   |none=>simp only[oIndexAddr,ht,hn] at e;cases e
   |some n=>simp only[oIndexAddr,ht,hn] at e;exact oElemS_ok ho ht hn e
  |array len et=>
   cases hn:sizeOfT P et with
   |none=>simp only[oIndexAddr,ht,hn] at e;cases e
   |some n=>simp only[oIndexAddr,ht,hn] at e;exact oElemA_ok ho ht hn e
  |_=>simp only[oIndexAddr,ht] at e;cases e
end
end
end Go.Abs
namespace Go.Abs
open Go
noncomputable section
variable {P:Program}
theorem cellsK_true{v:AV}{k:List AV->Bool}(e:v.cellsK k=true):∃ l,k l=true/\∀ (β:Pl) (x:Value),VR β v x->VRs β l x.cells.toList/\l.all AV.one=true:=by
 cases v with
 |agg l=>
  refine⟨l,e,fun β x hx=>?_⟩
  simp only[VR] at hx
  obtain⟨vs,rfl,h1,h2⟩:=hx
  exact⟨by simpa[Value.cells] using h1,h2⟩
 |tup l=>cases e
 |_=>
  refine⟨[_],e,fun β x hx=>⟨?_,rfl⟩⟩
  have h1:=hx.oneCell rfl
  have:x.cells.toList=[x]:=by cases x<;>first|rfl|cases h1
  rw[this]
  exact VRs.cons'.2 ⟨hx,VRs.nil.2 rfl⟩
theorem VRs.take_all{β:Pl}{l:List AV}{vs:List Value}(h:VRs β l vs):vs.take l.length=vs:=by
 rw[List.take_of_length_le];rw[h.length];exact Nat.le_refl _
theorem Sim.row{β:Pl}{h:H}{W:World}(hs:Sim β h W){l:List AV}{c:Array Value}(hl:VRs β l c.toList)(h1:l.all AV.one=true)(t:TypeId){y:A}(hy:y.toNat=h.next.toNat+1) :
  Sim (β.new h.next W.heap.size c.size) (h.new (.cells l (.whole t)) y) (W.alloc (.cells c t))/\Step h.next β W (β.new h.next W.heap.size c.size) (W.alloc (.cells c t)):=by
 refine hs.new hy ⟨c,t,(0,0),rfl,rfl,?_,?_,h1,rfl,?_,fun i _ hi=>?_⟩
 ·have:=hl.length;simp at this;omega
 ·rw[hl.take_all];exact VRs.mono (hs.ext_new _ _) _ _ hl
 ·have:=hl.length;simp at this;exact this.symm
 ·have:=hi.2;simp at this
theorem new_ptr{β:Pl}{h:H}{r κ:Nat}:VR (β.new h.next r κ) (.ptr h.next 0) (.pointer (some ⟨r,0,none⟩)):=by
 simp only[VR];exact⟨r,κ,by simp[Pl.new],rfl⟩
theorem new_lt{y x:A}(h:y.toNat=x.toNat+1):x.toNat<=y.toNat:=by omega
section
variable {o:Oper} {a:Fr} {h:H} {kv:KV} {kc:KC} {ky:KY}
theorem zerosOf_some{t:Nat}{l:List AV}(e:zerosOf P t=some l):∃ i z,P.info? t=some i/\i.zero=some z/\ofVs z.cells.toList=some l:=by
 cases hi:P.info? t with
 |none=>simp[zerosOf,hi] at e
 |some i=>
  cases hz:i.zero with
  |none=>simp[zerosOf,hi,hz] at e
  |some z=>exact⟨i,z,rfl,hz,by simpa[zerosOf,hi,hz] using e⟩
theorem oAlloc_ok{t:TypeId}(ho:o.op=.alloc t)(e:oAlloc t (zerosOf P t) a h kv kc ky=true):OkV P o a h kv:=by
 cases hz:zerosOf P t with
 |none=>simp only[oAlloc,hz] at e;cases e
 |some l=>
  simp only[oAlloc,hz] at e
  obtain⟨i,z,hi,hz1,hl⟩:=zerosOf_some hz
  obtain⟨y,hy,hk⟩:=newK_true e
  refine⟨_,_,hk,new_lt hy,fun β W act hs hf=>?_⟩
  obtain⟨h1,h2⟩:=ofVs_sound hl β
  obtain⟨s1,s2⟩:=hs.row h1 h2 t hy
  refine⟨_,_,_,.inl ?_,new_ptr,s1,s2⟩
  simp only[execOp,ho,Instr.alloc,zeroValue,typeInfo,newVar,newRow,Sem.run_bind,run_program,hi,hz1,Result.andThen_ok,run_newObj,Sem.run_pure,World.alloc_eq]
theorem oBox_ok{t:TypeId}{x:Operand}(ho:o.op=.box t x)(e:oBox t x a h kv kc ky=true):OkV P o a h kv:=by
 obtain⟨v,hk,hv⟩:=Zai (show evK a x _=true from e)
 obtain⟨l,hk,hl⟩:=cellsK_true hk
 obtain⟨y,hy,hk⟩:=newK_true hk
 refine⟨_,_,hk,new_lt hy,fun β W act hs hf=>?_⟩
 obtain⟨h1,h2⟩:=hl β _ (hv β act hf)
 obtain⟨s1,s2⟩:=hs.row h1 h2 t hy
 refine⟨_,_,_,.inl ?_,new_ptr,s1,s2⟩
 generalize Act.eval act=ρ at *
 simp only[execOp,ho,Instr.box,newVar,newRow,Sem.run_bind,run_newObj,Sem.run_pure,Result.andThen_ok,World.alloc_eq]
theorem setCells_heap(r:Nat):∀ (vs:List Value) (off:Nat) (W:World) (c:Array Value) (t:TypeId) (fr:Nat×Nat),W.heap[r]?=some (.cells c t fr)->off+vs.length<=c.size ->
  ∃ c':Array Value,(W.setCells r off vs).heap[r]?=some (.cells c' t fr)/\c'.toList=c.toList.take off++(vs++c.toList.drop (off+vs.length))/\c'.size=c.size
 |[],off,W,c,t,fr,hc,_=>⟨c,hc,by simp,rfl⟩
 |v::vs,off,W,c,t,fr,hc,hl=>by
  have hr:r<W.heap.size:=by
   rcases Nat.lt_or_ge r W.heap.size with q|q
   ·exact q
   ·rw[Array.getElem?_eq_none q] at hc;cases hc
  have h1:(W.setCell ⟨r,off,none⟩ v).heap[r]?=some (.cells (c.setIfInBounds off v) t fr):=by
   simp[World.setCell,Array.getElem?_modify,hc]
  obtain⟨c',e1,e2,e3⟩:=setCells_heap r vs (off+1) _ _ t fr h1 (by simp at hl ⊢;omega)
  refine⟨c',e1,?_,by simpa using e3⟩
  rw[e2]
  simp only[Array.toList_setIfInBounds,List.length_cons]
  have hoff:off<c.toList.length:=by simp at hl ⊢;omega
  have t1:(c.toList.set off v).take (off+1)=c.toList.take off++[v]:=by
   have q:(c.toList.take off).length=off:=by rw[List.length_take];omega
   rw[List.take_set,List.take_succ_eq_append_getElem hoff,List.set_append_right _ _ (by omega),q,Nat.sub_self];rfl
  have t2:(c.toList.set off v).drop (off+1+vs.length)=c.toList.drop (off+(vs.length+1)):=by
   rw[List.drop_set_of_lt (by omega)];congr 1;omega
  rw[t1,t2];simp
theorem setCells_size(W:World)(r off:Nat)(vs:List Value):(W.setCells r off vs).heap.size=W.heap.size:=by
 induction vs generalizing W off with
 |nil=>rfl
 |cons v vs ih=>simp[World.setCells,ih]
theorem setCells_quiet(W:World)(r off:Nat)(vs:List Value):Quiet W (W.setCells r off vs):=by
 induction vs generalizing W off with
 |nil=>exact Quiet.refl _
 |cons v vs ih=>exact Quiet.trans (W':=W.setCell ⟨r,off,none⟩ v) ⟨rfl,rfl,rfl⟩ (ih _ _)
theorem setCells_other(W:World)(r off:Nat)(vs:List Value)(r':Nat)(hne:r'≠r):(W.setCells r off vs).heap[r']?=W.heap[r']?:=by
 rcases Nat.lt_or_ge r' W.heap.size with q|q
 ·exact World.heap_setCells_other W r off vs q hne
 ·rw[Array.getElem?_eq_none q,Array.getElem?_eq_none (by rw[setCells_size];exact q)]
theorem Sim.store{β:Pl}{h:H}{W:World}(hs:Sim β h W){b:A}{r κ:Nat}{l:List AV}{k:Kind}(hβ:β b=some (r,κ))(hg:h.get b=some (.cells l k))(hk:k≠.fixed)
  {off:Nat} {m:List AV} {vs:List Value} (hm:VRs β m vs) (h1:m.all AV.one=true) (hl:off+m.length<=l.length) (n:A) :
  (storeCells ⟨r,off,none⟩ vs).run P W=.ok () (W.setCells r off vs) /\
  Sim β (h.put b (.cells (l.take off++(m++l.drop (off+m.length))) k)) (W.setCells r off vs)/\Step n β W β (W.setCells r off vs):=by
 obtain⟨r',κ',hβ',hbr⟩:=hs.live b _ hg
 rw[hβ] at hβ';cases hβ'
 obtain⟨c,t,fr,e1,e2,e3,e4,e5,e6⟩:=hbr
 have hlen:=hm.length
 have hfr:∀ i,i<c.size->¬ (fr.1<=i/\i<fr.2):=by
  cases k with
  |whole=>exact e6.2.2
  |tail=>exact e6.2
  |fixed=>exact absurd rfl hk
 obtain⟨c',d1,d2,d3⟩:=setCells_heap r vs off W c t fr e1 (by omega)
 refine⟨?_,?_⟩
 ·have:=run_storeCells_cells (P:=P) r off vs 0 W (fun j hj=>by rw[cell_of e1];simp;omega) (fun j hj=>by
   rw[frozen_of e1]
   have:=hfr (off+0+j) (by omega)
   cases q:(decide (fr.1<=off+0+j)&&decide (off+0+j<fr.2)) with
   |false=>rfl
   |true=>exact absurd (by simpa using q) this) (fun v hv=>hm.oneCell h1 v hv)
  simpa using this
 ·refine hs.set hβ hg (Blk.own_cells hk) (setCells_size _ _ _ _) (fun r' hne=>setCells_other _ _ _ _ _ hne) ?_ (fun lp q=>by rw[e1] at q;cases q) (setCells_quiet _ _ _ _) n
  refine⟨c',t,fr,d1,by omega,?_,?_,?_,?_⟩
  ·simp;omega
  ·rw[d2]
   have l1:(l.take off++(m++l.drop (off+m.length))).length=l.length:=by simp;omega
   rw[l1]
   have hsplit:(c.toList.take off++(vs++c.toList.drop (off+vs.length))).take l.length=(c.toList.take l.length).take off++(vs++(c.toList.take l.length).drop (off+vs.length)):=by
    rw[List.take_append,List.take_append,List.take_take,List.take_take,List.drop_take]
    have a1:min l.length off=off:=by omega
    have a2:min off l.length=off:=by omega
    have a3:(c.toList.take off).length=off:=by simp;omega
    have a4:(l.length - off) - vs.length=l.length - (off+vs.length):=by omega
    rw[a1,a2,a3,a4,List.take_of_length_le (by omega:vs.length<=l.length - off)]
   rw[hsplit,<-hlen]
   exact(e4.take off).append (hm.append (e4.drop _))
  ·simp only[List.all_append,Bool.and_eq_true]
   rw[List.all_eq_true] at e5
   exact⟨List.all_eq_true.2 fun z hz=>e5 z (List.mem_of_mem_take hz),h1,List.all_eq_true.2 fun z hz=>e5 z (List.mem_of_mem_drop hz)⟩
  ·cases k with
   |whole=>exact⟨e6.1,by simp;have:=e6.2.1;omega,fun i hi=>e6.2.2 i (by omega)⟩
   |tail=>exact⟨e6.1,fun i hi=>e6.2 i (by omega)⟩
   |fixed=>exact absurd rfl hk
theorem oStoreN_ok{t:TypeId}{n:Nat}{x y:Operand}(ho:o.op=.store t x y)(hn:sizeOfT P t=some n)(e:oStoreN n x y a h kv kc ky=true):OkV P o a h kv:=by
 obtain⟨u,hk0,hu⟩:=Zai (show evK a x _=true from e)
 clear e
 split at hk0
 ·rename_i b off
  obtain⟨v,hk1,hv⟩:=Zai hk0
  obtain⟨bl,hb,hk2⟩:=Zat (show getK h b _=true from hk1)
  clear hk0 hk1
  split at hk2
  ·rename_i l kd
   have key:kd≠.fixed->v.cellsK (fun vs=>lenK vs fun m=>match Nat.beq m n with|true=>putK l off vs fun l=>setK h b (.cells l kd) fun h=>kv undefA h|false=>false)=true->OkV P o a h kv:=by
    intro hfix hk3
    obtain⟨m,hk4,hm⟩:=cellsK_true hk3
    rw[lenK_eq] at hk4
    split at hk4
    ·rename_i hbq
     rw[beq_nat] at hbq
     have hbq:m.length=n:=by simpa using hbq
     obtain⟨hle,hk5⟩:=putK_true hk4
     rw[setK_eq] at hk5
     refine⟨_,_,hk5,Nat.le_refl _,fun β W act hs hf=>?_⟩
     obtain⟨h1,h2⟩:=hm β _ (hv β act hf)
     have hx:=hu β act hf
     simp only[VR] at hx
     obtain⟨r,κ,hβ,hx⟩:=hx
     obtain⟨s0,s1,s2⟩:=hs.store (P:=P) hβ hb hfix h1 h2 hle h.next
     refine⟨β,undef,_,.inr ⟨?_,rfl⟩,by simp only[undefA,VR];exact⟨[],rfl,VRs.nil.2 rfl⟩,s1,s2⟩
     have hz:=run_size W hn
     have hc:(act.eval y).cells.size=n:=by have:=h1.length;simp at this;omega
     generalize Act.eval act=ρ at *
     simp only[execOp,ho,hx,Instr.storeAt,Instr.sureAddr,storeVar,Sem.run_bind,Sem.run_pure,Result.andThen_ok,hz,hc,ne_eq,not_true_eq_false,if_false,s0]
    ·cases hk4
   cases kd with
   |whole=>exact key (by simp) hk2
   |tail=>exact key (by simp) hk2
   |fixed=>cases hk2
  ·cases hk2
 ·cases hk0
theorem oStore_ok{t:TypeId}{x y:Operand}(ho:o.op=.store t x y)(e:oStore P t x y a h kv kc ky=true):OkV P o a h kv:=by
 cases hn:sizeOfT P t with
 |none=>simp only[oStore,hn] at e;cases e
 |some n=>simp only[oStore,hn] at e;exact oStoreN_ok ho hn e
theorem oMakeMap_ok{t:TypeId}(ho:o.op=.makeMap t none)(e:oMakeMap a h kv kc ky=true):OkV P o a h kv:=by
 obtain⟨y,hy,hk⟩:=newK_true (show newK h (.map []) _=true from e)
 refine⟨_,_,hk,new_lt hy,fun β W act hs hf=>?_⟩
 obtain⟨s1,s2⟩:=hs.new (b:=.map []) (o:=.map #[] 0) (κ:=0) hy ⟨#[],0,rfl,VRs.nil.2 rfl,VRs.nil.2 rfl⟩
 refine⟨_,.map (some W.heap.size),_,.inl ?_,by simp only[VR];exact⟨W.heap.size,0,by simp[Pl.new],rfl⟩,s1,s2⟩
 simp only[execOp,ho,Instr.makeMap,Option.map_none,Sem.run_bind,run_newObj,Sem.run_pure,Result.andThen_ok,World.alloc_eq]
end
end
end Go.Abs
