/- a part of the proof of TopLines. -/
import Derived.Test.YtmladikgbmcmcaaGreatDoorK61
import Derived.Test.YtmladikgbmcmcaaGreatDoorK60
import Derived.Test.YtmladikgbmcmcaaGreatDoorK71
import Derived.Test.YtmladikgbmcmcaaGreatDoorK25
set_option linter.all false
namespace Go.Proofs.YtmladikgbmcmcaaGreatDoor
open Go.RowKit Go.Shelf Go.Dia Go.Maps
noncomputable section
abbrev uB:ByteArray:=⟨#[97,32,226,134,144,32,32,226,141,179,51,32,32,226,139,132,32,43,47,97]⟩
abbrev fB:ByteArray:=⟨#[97,226,134,144,226,141,179,51,32,226,139,132,32,43,47,97]⟩
theorem docS_0:docS text0=dS0:=by kernel_rfl
theorem docS_u:docS uB=dSU:=by kernel_rfl
theorem docS_f:docS fB=dSU:=by kernel_rfl
end
end Go.Proofs.YtmladikgbmcmcaaGreatDoor
namespace Go.Proofs.YtmladikgbmcmcaaGreatDoor
open Go.RowKit Go.Shelf Go.Dia Go.Maps
noncomputable section
open Abs (AV H Hd HOK VR VRs Sim Pl Step CallR natsEq eq3)
def cellsAt(h:H)(x:Abs.A):List AV:=match Abs.get5 h.mem x with|some (.cells l _)=>l|_=>[]
theorem cells_sem{β:Pl}{h:H}{W:World}(hs:Sim β h W)(hg:Abs.Gl β)(g:Nat)(hlt:g<19){x:Abs.A}(hx:x=Abs.A.of g)(hl:cellsAt h x≠[]) :
  ∃ c t fr,W.heap[g]?=some (.cells c t fr)/\VRs β (cellsAt h x) (c.toList.take (cellsAt h x).length):=by
 cases e:Abs.get5 h.mem x with
 |none=>simp[cellsAt,e] at hl
 |some b=>
  cases b with
  |cells l k=>
   obtain⟨r,κ,h1,h2⟩:=hs.live x _ (show h.get x=some _ from e)
   obtain⟨κ',h3⟩:=hg g hlt
   rw[hx,h3] at h1;cases h1
   obtain⟨c,t,fr,q1,q2,q3,q4,_⟩:=h2
   have hc:cellsAt h x=l:=by simp[cellsAt,e]
   rw[hc]
   exact⟨c,t,fr,q1,q4⟩
  |_=>simp[cellsAt,e] at hl
theorem cell_sem{β:Pl}{h:H}{W:World}(hs:Sim β h W)(hg:Abs.Gl β)(g:Nat)(hlt:g<19){x:Abs.A}(hx:x=Abs.A.of g){i:Nat}{a:AV}(hi:(cellsAt h x)[i]?=some a):∃ v,W.cell? ⟨g,i,none⟩=some v/\VR β a v:=by
 obtain⟨c,t,fr,q1,q2⟩:=cells_sem hs hg g hlt hx (fun e=>by rw[e] at hi;cases hi)
 obtain⟨v,v1,v2⟩:=q2.get hi
 rw[List.getElem?_take,if_pos (List.getElem?_eq_some_iff.1 hi).1] at v1
 exact⟨v,by rw[Abs.cell_of q1];simpa using v1,v2⟩
def sameI:List AV->List AV->Bool
 |[],[]=>true
 |.int j a::l,.int k b::m=>match Abs.kindEq j k with
  |true=>(match Abs.ieq a b with|true=>sameI l m|false=>false)
  |false=>false
 |_,_=>false
theorem sameI_eq:∀ (l m:List AV),sameI l m=true->l=m
 |[],[],_=>rfl
 |.int j a::l,.int k b::m,e=>by
  unfold sameI at e
  split at e
  ·rename_i h1
   split at e
   ·rename_i h2
    rw[Abs.ieq_eq] at h2
    rw[Abs.kindEq_true h1,of_decide_eq_true h2,sameI_eq l m e]
   ·cases e
  ·cases e
 |[],b::m,e=>by simp[sameI] at e
 |a::l,[],e=>by cases a<;>simp[sameI] at e
 |a::l,b::m,e=>by
  cases a<;>cases b<;>first|(simp[sameI] at e;done)|skip
  rename_i j a k b
  unfold sameI at e
  split at e
  ·rename_i h1
   split at e
   ·rename_i h2
    rw[Abs.ieq_eq] at h2
    rw[Abs.kindEq_true h1,of_decide_eq_true h2,sameI_eq l m e]
   ·cases e
  ·cases e
def firstI:List Int:=[240,240,240,240,240,240,240,240,240,240,240,240,240,240,240,240,240,240,240,240,240,240,240,240,240,240,240,240,240,240,240,240,240,240,240,240,240,240,240,240,240,240,240,240,240,240,240,240,240,240,240,240,240,240,240,240,240,240,240,240,240,240,240,240,240,240,240,240,240,240,240,240,240,240,240,240,240,240,240,240,240,240,240,240,240,240,240,240,240,240,240,240,240,240,240,240,240,240,240,240,240,240,240,240,240,240,240,240,240,240,240,240,240,240,240,240,240,240,240,240,240,240,240,240,240,240,240,240,241,241,241,241,241,241,241,241,241,241,241,241,241,241,241,241,241,241,241,241,241,241,241,241,241,241,241,241,241,241,241,241,241,241,241,241,241,241,241,241,241,241,241,241,241,241,241,241,241,241,241,241,241,241,241,241,241,241,241,241,241,241,241,241,241,241,2,2,2,2,2,2,2,2,2,2,2,2,2,2,2,2,2,2,2,2,2,2,2,2,2,2,2,2,2,2,19,3,3,3,3,3,3,3,3,3,3,3,3,35,3,3,52,4,4,4,68,241,241,241,241,241,241,241,241,241,241,241]
def accI:List Int:=[128,191,160,191,128,159,144,191,128,143,0,0,0,0,0,0,0,0,0,0,0,0,0,0,0,0,0,0,0,0,0,0]
def firstL:List AV:=firstI.map (.int .u8 ·)
def accL:List AV:=accI.map (.int .u8 ·)
theorem firstI_ok:∀ c,c<256->firstI[c]?=some (Lib.firstT c:Int):=by decide +kernel
theorem accI_ok:∀ i,i<16->accI[2*i]?=some (Lib.accLo i:Int)/\accI[2*i+1]?=some (Lib.accHi i:Int):=by decide +kernel
def p2:Abs.A:=⟨.c,.a,.a,.a,.a⟩
def p4:Abs.A:=⟨.e,.a,.a,.a,.a⟩
def p5:Abs.A:=⟨.f,.a,.a,.a,.a⟩
def p6:Abs.A:=⟨.g,.a,.a,.a,.a⟩
def p8:Abs.A:=⟨.a,.b,.a,.a,.a⟩
def p9:Abs.A:=⟨.b,.b,.a,.a,.a⟩
def p10:Abs.A:=⟨.c,.b,.a,.a,.a⟩
def p18:Abs.A:=⟨.c,.c,.a,.a,.a⟩
def isUni(l:List AV):Bool:=match l with|[.uni]=>true|_=>false
def isErr(t:Nat)(l:List AV):Bool:=match l with|[.err u]=>Nat.beq u t|_=>false
def isTyp(l:List AV):Bool:=match l with|[.ifc t (.agg [.ptr x off])]=>eq3 (Nat.beq t 348) (Abs.A.eqb x p18) (Nat.beq off 124)|_=>false
def and2(a b:Bool):Bool:=match a with|true=>b|false=>false
theorem and2_true{a b:Bool}(h:and2 a b=true):a=true/\b=true:=by cases a<;>cases b<;>simp_all [and2]
def envB(h:H):Bool:=and2 (isUni (cellsAt h p8)) (and2 (sameI (cellsAt h p9) firstL) (sameI (cellsAt h p10) accL))
def envGB(h:H):Bool:=and2 (isErr 578 (cellsAt h p6)) (and2 (isErr 578 (cellsAt h p2)) (and2 (isErr 578 (cellsAt h p5)) (isTyp (cellsAt h p4))))
theorem env_of{β:Pl}{h:H}{W:World}(hs:Sim β h W)(hg:Abs.Gl β)(e:envB h=true):Env W:=by
 obtain⟨e1,e2⟩:=and2_true e
 obtain⟨e2,e3⟩:=and2_true e2
 have e2:=sameI_eq _ _ e2
 have e3:=sameI_eq _ _ e3
 refine⟨⟨fun c hc=>?_,fun i hi=>?_⟩,?_⟩
 ·obtain⟨v,v1,v2⟩:=cell_sem hs hg 9 (by decide) (x:=p9) rfl (i:=c) (a:=.int .u8 (Lib.firstT c:Int)) (by rw[e2];unfold firstL;rw[List.getElem?_map,firstI_ok c hc];rfl)
  simp only[VR] at v2;subst v2;exact v1
 ·obtain⟨a1,a2⟩:=accI_ok i hi
  obtain⟨v,v1,v2⟩:=cell_sem hs hg 10 (by decide) (x:=p10) rfl (i:=2*i) (a:=.int .u8 (Lib.accLo i:Int)) (by rw[e3];unfold accL;rw[List.getElem?_map,a1];rfl)
  obtain⟨u,u1,u2⟩:=cell_sem hs hg 10 (by decide) (x:=p10) rfl (i:=2*i+1) (a:=.int .u8 (Lib.accHi i:Int)) (by rw[e3];unfold accL;rw[List.getElem?_map,a2];rfl)
  simp only[VR] at v2 u2;subst v2;subst u2;exact⟨v1,u1⟩
 ·unfold isUni at e1
  split at e1
  ·rename_i q
   obtain⟨v,v1,v2⟩:=cell_sem hs hg 8 (by decide) (x:=p8) rfl (i:=0) (a:=.uni) (by rw[q];rfl)
   simp only[VR] at v2;obtain⟨m,rfl⟩:=v2
   exact⟨m,v1⟩
  ·cases e1
theorem err_of{β:Pl}{h:H}{W:World}(hs:Sim β h W)(hg:Abs.Gl β){g t:Nat}(hlt:g<19){x:Abs.A}(hx:x=Abs.A.of g)(e:isErr t (cellsAt h x)=true):∃ a:Addr,W.cell? ⟨g,0,none⟩=some (.iface t (.pointer (some a))):=by
 unfold isErr at e
 split at e
 ·rename_i u q
  obtain⟨v,v1,v2⟩:=cell_sem hs hg g hlt hx (i:=0) (a:=.err u) (by rw[q];rfl)
  simp only[VR] at v2
  obtain⟨b,rfl⟩:=v2
  have:=of_beq e
  subst this
  exact⟨b,v1⟩
 ·cases e
theorem envG_of{β:Pl}{h:H}{W:World}(hs:Sim β h W)(hg:Abs.Gl β)(e:envGB h=true):EnvG W:=by
 obtain⟨e1,e2⟩:=and2_true e
 obtain⟨e2,e3⟩:=and2_true e2
 obtain⟨e3,e4⟩:=and2_true e3
 refine⟨?_,err_of hs hg (by decide) rfl e1,err_of hs hg (by decide) rfl e2,err_of hs hg (by decide) rfl e3,Nat.le_trans (by decide) hs.high.1⟩
 unfold isTyp at e4
 split at e4
 ·rename_i t x off q
  rw[eq3_and,Bool.and_eq_true,Bool.and_eq_true] at e4
  obtain⟨⟨f1,f2⟩,f3⟩:=e4
  rw[Abs.A.eqb_eq] at f2
  have f1:=of_beq f1
  have f3:=of_beq f3
  have f2:=of_decide_eq_true f2
  subst f1;subst f2;subst f3
  obtain⟨v,v1,v2⟩:=cell_sem hs hg 4 (by decide) (x:=p4) rfl (i:=0) (a:=.ifc 348 (.agg [.ptr p18 124])) (by rw[q];rfl)
  simp only[VR] at v2
  obtain⟨y,rfl,vs,rfl,v3,_⟩:=v2
  obtain⟨y1,r1,rfl,g1,v3⟩:=VRs.cons.1 v3
  rw[VRs.nil] at v3;subst v3
  simp only[VR] at g1
  obtain⟨r,κ,h1,rfl⟩:=g1
  obtain⟨κ',h2⟩:=hg 18 (by decide)
  rw[show p18=Abs.A.of 18 from rfl,h2] at h1;cases h1
  exact v1
 ·cases e4
def tabF:List (List Nat×Nat×List Nat×List Nat):=[
 ([226,134,144,226,141,179],8,[226,134,144],[226,134,144]),
 ([226,134,144,32,32,226,141,179,51,32,32,226,139,132,32,43,47,97],8,[226,134,144],[226,134,144]),
 ([226,134,144,32,40,226,141,179,51,41,32,226,139,132,32,43,47,97],8,[226,134,144],[226,134,144]),
 ([226,134,144],8,[226,134,144],[226,134,144]),
 ([226,139,132,32,43,47,97],8,[226,139,132],[226,139,132]),
 ([226,141,179,51,32,32,226,139,132,32,43,47,97],6,[226,141,179],[226,141,179]),
 ([226,141,179,51,41,32,226,139,132,32,43,47,97],6,[226,141,179],[226,141,179]),
 ([226,141,179],6,[226,141,179],[226,141,179]),
 ([32,226,134,144,32,32,226,141,179,51,32,32,226,139,132,32,43,47,97],1,[32],[]),
 ([32,226,134,144,32,40,226,141,179,51,41,32,226,139,132,32,43,47,97],1,[32],[]),
 ([32,226,139,132,32,43,47,97],1,[32],[]),
 ([32,32,226,139,132,32,43,47,97],1,[32,32],[]),
 ([32,32,226,141,179,51,32,32,226,139,132,32,43,47,97],1,[32,32],[]),
 ([32,40,226,141,179,51,41,32,226,139,132,32,43,47,97],1,[32],[]),
 ([32,43,47,97],1,[32],[]),
 ([40,226,141,179,51,41,32,226,139,132,32,43,47,97],8,[40],[40]),
 ([41,32,226,139,132,32,43,47,97],8,[41],[41]),
 ([43,47,97],6,[43],[43]),
 ([47,97],7,[47],[47]),
 ([51,32,32,226,139,132,32,43,47,97],3,[51],[51]),
 ([51,41,32,226,139,132,32,43,47,97],3,[51],[51]),
 ([97,226,134,144],5,[97],[]),
 ([97,32,226,134,144,32,32,226,141,179,51,32,32,226,139,132,32,43,47,97],5,[97],[]),
 ([97,32,226,134,144,32,40,226,141,179,51,41,32,226,139,132,32,43,47,97],5,[97],[]),
 ([97],5,[97],[])]
def findF(s:List Nat):List (List Nat×Nat×List Nat×List Nat)->Option (Nat×List Nat×List Nat)
 |[]=>none
 |(t,r)::l=>match natsEq s t with|true=>some r|false=>findF s l
theorem findF_some:∀ {l:List (List Nat×Nat×List Nat×List Nat)} {s:List Nat} {r:Nat×List Nat×List Nat},findF s l=some r->(s,r)∈l
 |[],s,r,e=>by cases e
 |(t,q)::l,s,r,e=>by
  unfold findF at e
  split at e
  ·rename_i h
   rw[Abs.natsEq_eq] at h
   have:=of_decide_eq_true h
   subst this
   cases e
   exact List.mem_cons_self
  ·exact List.mem_cons_of_mem _ (findF_some e)
def tokOK(e:List Nat×Nat×List Nat×List Nat):Prop:=lexTok (Abs.ofNats e.1)=((e.2.1:Int),Abs.ofNats e.2.2.1,Abs.ofNats e.2.2.2)/\0<(Abs.ofNats e.1).size/\(Abs.ofNats e.1).size<=100000/\(Abs.ofNats e.2.2.1).data.toList.map UInt8.toNat=e.2.2.1/\(Abs.ofNats e.2.2.2).data.toList.map UInt8.toNat=e.2.2.2
theorem tabF_ok:∀ e∈tabF,tokOK e:=by
 intro e he
 simp only[tabF,List.mem_cons,List.not_mem_nil,or_false] at he
 rcases he with rfl|rfl|rfl|rfl|rfl|rfl|rfl|rfl|rfl|rfl|rfl|rfl|rfl|rfl|rfl|rfl|rfl|rfl|rfl|rfl|rfl|rfl|rfl|rfl|rfl
 all_goals exact⟨by kernel_rfl,by decide,by decide,by kernel_rfl,by kernel_rfl⟩
def oFirst:Hd:=fun l h=>match l with
 |[.str s]=>match s with
  |[]=>some (.tup [.agg [.int .i64 (.ofNat 0),.str [],.str []],.bool false],h)
  |s=>match envB h with
   |true=>match findF s tabF with
    |some (k,t,g)=>some (.tup [.agg [.int .i64 (.ofNat k),.str t,.str g],.bool true],h)
    |none=>none
   |false=>none
 |_=>none
theorem str_VR'{β:Pl}{s:List Nat}{b:ByteArray}(h:b.data.toList.map UInt8.toNat=s):VR β (.str s) (.string b):=by simp only[VR];exact⟨b,rfl,h⟩
theorem tok_VR{β:Pl}{k:Nat}{t g:List Nat}{x y:ByteArray}{b:Bool}(h1:x.data.toList.map UInt8.toNat=t)(h2:y.data.toList.map UInt8.toNat=g) :
  VR β (.tup [.agg [.int .i64 (.ofNat k),.str t,.str g],.bool b]) (.tuple #[.agg #[.int .i64 (k:Int),.string x,.string y],.bool b]):=by
 simp only[VR]
 refine⟨[_,_],rfl,VRs.cons'.2 ⟨?_,VRs.cons'.2 ⟨by simp only[VR],VRs.nil.2 rfl⟩⟩⟩
 simp only[VR]
 exact⟨[_,_,_],rfl,VRs.cons'.2 ⟨by simp only[VR];rfl,VRs.cons'.2 ⟨str_VR' h1,VRs.cons'.2 ⟨str_VR' h2,VRs.nil.2 rfl⟩⟩⟩,rfl⟩
theorem oFirst_ok:HOK Tryz.prog 214 oFirst:=by
 intro l h v h' e β W args hs hv hg
 unfold oFirst at e
 split at e
 ·rename_i s
  obtain⟨u,rfl,h1⟩:=Abs.one' hv
  obtain⟨rfl,h2⟩:=Abs.str_VR_iff h1
  split at e
  ·simp only[Option.some.injEq,Prod.mk.injEq] at e
   obtain⟨rfl,rfl⟩:=e
   exact Abs.orc_below Tryz.func214 (by kernel_rfl) rfl hs (tok_VR rfl rfl) (lexFirst_nil W)
  ·split at e
   ·rename_i he
    split at e
    ·rename_i k t g hf
     simp only[Option.some.injEq,Prod.mk.injEq] at e
     obtain⟨rfl,rfl⟩:=e
     obtain⟨t1,t2,t3,t4,t5⟩:=tabF_ok _ (findF_some hf)
     have hc:=lexFirst_any W (Abs.ofNats s) t2 t3 (env_of hs hg he)
     rw[t1] at hc
     exact Abs.orc_below Tryz.func214 (by kernel_rfl) rfl hs (tok_VR t4 t5) hc
    ·cases e
   ·cases e
 ·cases e
end
end Go.Proofs.YtmladikgbmcmcaaGreatDoor
namespace Go.Proofs.YtmladikgbmcmcaaGreatDoor
open Go.RowKit Go.Shelf Go.Dia Go.Maps
noncomputable section
open Abs (AV H Hd HOK VR VRs Sim Pl Step CallR natsEq eq3)
def t0L:List Nat:=[97,32,226,134,144,32,40,226,141,179,51,41,32,226,139,132,32,43,47,97]
def tUL:List Nat:=[97,32,226,134,144,32,32,226,141,179,51,32,32,226,139,132,32,43,47,97]
theorem t0L_ok:Abs.ofNats t0L=text0:=by kernel_rfl
theorem tUL_ok:Abs.ofNats tUL=uB:=by kernel_rfl
theorem means0_any(w:World)(he:Env w)(hE:EnvG w)(h19:19<=w.heap.size):Calls Tryz.prog 22 #[.string text0] w fun e w'=>e=.returned (.string meansB)/\Below w.heap.size w w':=
 means_any w text0 meansB (by decide) he hE fun W v hb hv=>by
  rw[docS_0] at hv
  exact show0_any h19 hb.size hv
theorem meansU_any(w:World)(he:Env w)(hE:EnvG w)(h19:19<=w.heap.size):Calls Tryz.prog 22 #[.string uB] w fun e w'=>e=.returned (.string meansB)/\Below w.heap.size w w':=
 means_any w uB meansB (by decide) he hE fun W v hb hv=>by
  rw[docS_u] at hv
  exact showU_any h19 hb.size hv
def oMeans:Hd:=fun l h=>match l with
 |[.str s]=>match and2 (envB h) (envGB h) with
  |true=>match natsEq s t0L with
   |true=>some (.str meansL,h)
   |false=>match natsEq s tUL with
    |true=>some (.str meansL,h)
    |false=>none
  |false=>none
 |_=>none
theorem oMeans_ok:HOK Tryz.prog 22 oMeans:=by
 intro l h v h' e β W args hs hv hg
 unfold oMeans at e
 split at e
 ·rename_i s
  obtain⟨u,rfl,h1⟩:=Abs.one' hv
  obtain⟨rfl,h2⟩:=Abs.str_VR_iff h1
  split at e
  ·rename_i he
   obtain⟨he,hE⟩:=and2_true he
   have he:=env_of hs hg he
   have hE:=envG_of hs hg hE
   have hm:VR β (.str meansL) (.string meansB):=str_VR' (by kernel_rfl)
   split at e
   ·rename_i q
    rw[Abs.natsEq_eq] at q
    have q:=of_decide_eq_true q
    subst q
    simp only[Option.some.injEq,Prod.mk.injEq] at e
    obtain⟨rfl,rfl⟩:=e
    rw[t0L_ok]
    exact Abs.orc_below Tryz.func22 (by kernel_rfl) rfl hs hm (means0_any W he hE hs.high.1)
   ·split at e
    ·rename_i q
     rw[Abs.natsEq_eq] at q
     have q:=of_decide_eq_true q
     subst q
     simp only[Option.some.injEq,Prod.mk.injEq] at e
     obtain⟨rfl,rfl⟩:=e
     rw[tUL_ok]
     exact Abs.orc_below Tryz.func22 (by kernel_rfl) rfl hs hm (meansU_any W he hE hs.high.1)
    ·cases e
  ·cases e
 ·cases e
def layH(l:List Abs.Blk)(n:Nat)(h:H)(k:H->Option (AV×H)):Option (AV×H):=match l with
 |[]=>k h
 |b::l=>match h with|⟨x,m⟩=>Abs.set5 (some b) m x fun m=>layH l (n+1) ⟨Abs.A.of (n+1),m⟩ k
theorem layH_eq:∀ (l:List Abs.Blk) (n:Nat) (h:H) (k:H->Option (AV×H)),layH l n h k=k (Abs.buildH l n h)
 |[],_,_,_=>rfl
 |b::l,n,⟨x,m⟩,k=>by
  show Abs.set5 (some b) m x (fun m=>layH l (n+1) ⟨Abs.A.of (n+1),m⟩ k)=_
  rw[Abs.set5_eq]
  exact layH_eq l (n+1) _ k
theorem A_of_toNat(x:Abs.A):Abs.A.of x.toNat=x:=by
 apply Abs.A.inj
 rw[Abs.A.of_toNat]
 obtain⟨p,q,r,s,t⟩:=x
 unfold Abs.A.toNat
 have hd:∀ z:Abs.D,z.toNat<8:=by intro z;cases z<;>decide
 have:=hd p;have:=hd q;have:=hd r;have:=hd s;have:=hd t
 simp only
 omega
def oLay(S:List Stm)(h:H):Option (AV×H):=match Nat.blt (h.next.toNat+1000) 32767 with
 |true=>layH (absB (stmsD S) h.next.toNat).2 h.next.toNat h fun h'=>some (.tup [(absB (stmsD S) h.next.toNat).1,.bool true],h')
 |false=>none
def oStmts:Hd:=fun l h=>match l with
 |[.str s]=>match and2 (envB h) (envGB h) with
  |true=>match natsEq s t0L with
   |true=>oLay dS0 h
   |false=>match natsEq s tUL with
    |true=>oLay dSU h
    |false=>none
  |false=>none
 |_=>none
theorem oLay_ok{s:ByteArray}(hsz:s.size<=300){S:List Stm}(hS:docS s=S)(hl:(stmsD S).lits=true)(hr:(stmsD S).rows<1000){h h':H}{v:AV}(e:oLay S h=some (v,h')){β:Pl}{W:World}(hs:Sim β h W)(he:Env W)(hE:EnvG W) :
  CallR Tryz.prog 52 #[.string s] W fun x W'=>∃ β',h.next.toNat<=h'.next.toNat/\Sim β' h' W'/\VR β' v x/\Step h.next β W β' W':=by
 unfold oLay at e
 split at e
 ·rename_i hn
  rw[Abs.blt_nat] at hn
  have hn:=of_decide_eq_true hn
  rw[layH_eq] at e
  simp only[Option.some.injEq,Prod.mk.injEq] at e
  obtain⟨rfl,rfl⟩:=e
  refine Abs.callR_of Tryz.func52 (by kernel_rfl) rfl ((stmts_any W s hsz he hE).mono ?_)
  rintro e w' ⟨x,rfl,h1,hb⟩
  rw[hS] at h1
  obtain⟨s1,s2⟩:=hs.below hb h.next
  have hd:Deep W.heap.size w' β h h.next.toNat:=⟨s1,(A_of_toNat _).symm,fun x r κ b e1 _ _=>hs.bound x r κ e1⟩
  obtain⟨β',d1,d2,d3,_⟩:=absD_ok (stmsD S) x β h h.next.toNat hd hl (by omega) h1
  obtain⟨a1,a2,a3,a4⟩:=absB_eq (stmsD S) h.next.toNat h (A_of_toNat _).symm (by omega)
  rw[a2] at d3
  rw[a3] at d1
  refine⟨_,rfl,β',?_,d1.sim,?_,?_⟩
  ·rw[d1.next,of_toNat (by omega)];omega
  ·simp only[VR]
   exact⟨[_,_],rfl,VRs.cons'.2 ⟨d3,VRs.cons'.2 ⟨by simp only[VR],VRs.nil.2 rfl⟩⟩⟩
  ·exact⟨d2.ext,d2.newn,fun x r κ q=>by
    rcases d2.img x r κ q with q|q
    ·exact .inl ⟨x,κ,q⟩
    ·exact .inr q,s2.size,s2.kept,s2.loops,s2.q,s2.glob⟩
 ·cases e
theorem rows_small:(stmsD dS0).rows<1000/\(stmsD dSU).rows<1000:=by constructor<;>decide +kernel
theorem oStmts_ok:HOK Tryz.prog 52 oStmts:=by
 intro l h v h' e β W args hs hv hg
 unfold oStmts at e
 split at e
 ·rename_i s
  obtain⟨u,rfl,h1⟩:=Abs.one' hv
  obtain⟨rfl,h2⟩:=Abs.str_VR_iff h1
  split at e
  ·rename_i he
   obtain⟨he,hE⟩:=and2_true he
   have he:=env_of hs hg he
   have hE:=envG_of hs hg hE
   split at e
   ·rename_i q
    rw[Abs.natsEq_eq] at q
    have q:=of_decide_eq_true q
    subst q
    rw[t0L_ok]
    exact oLay_ok (by decide) docS_0 lits_0.1 rows_small.1 e hs he hE
   ·split at e
    ·rename_i q
     rw[Abs.natsEq_eq] at q
     have q:=of_decide_eq_true q
     subst q
     rw[tUL_ok]
     exact oLay_ok (by decide) docS_u lits_U.1 rows_small.2 e hs he hE
    ·cases e
  ·cases e
 ·cases e
def orc2(f:Nat):Hd:=match Nat.beq f 214 with
 |true=>oFirst
 |false=>match Nat.beq f 22 with
  |true=>oMeans
  |false=>match Nat.beq f 52 with
   |true=>oStmts
   |false=>orc1 f
theorem orc2_ok(f:Nat):HOK Tryz.prog f (orc2 f):=by
 unfold orc2
 split
 ·rename_i q;rw[of_beq q];exact oFirst_ok
 ·split
  ·rename_i q;rw[of_beq q];exact oMeans_ok
  ·split
   ·rename_i q;rw[of_beq q];exact oStmts_ok
   ·exact orc1_ok f
def Z2:Abs.E:=⟨Tryz.prog,orc2⟩
theorem Z2_ok:Abs.ZOK Z2:=⟨fun f l h v h' e β W args hs hv hg=>orc2_ok f l h v h' e β W args hs hv hg,noGo,by kernel_rfl⟩
theorem piece_flat{gl:List Abs.Blk}{Z:Abs.E}(hZ:Abs.ZOK Z){n f:Nat}{xs:List AV}{ys:List Value}{k:AV->H->Bool}
  (hk:mkH gl emp (fun h=>Abs.funcOf Z f (Abs.exec Z n) xs h k)=true) (hx:∀ β,VRs β xs ys) {W:World} (hG:GOK gl W) :
  Calls Z.P f ys.toArray W fun e w'=>∃ x a h' β',e=.returned x/\k a h'=true/\VR β' a x/\Below W.heap.size W w':=by
 obtain⟨d1,d2,d3⟩:=deep0 (N:=W.heap.size) hG
 have e:=mkH_true _ 0 emp _ rfl (by rw[hG.1];omega) hk
 rw[emp_eq] at e
 have h2:=Abs.funcOf_ok hZ (Abs.exec_ok hZ n) e d1.sim (hx _) d2
 refine(callsIn_wide.1 h2.2).mono ?_
 rintro e w' ⟨x,rfl,a,h',β',g1,g2,g3,g4,g5⟩
 exact⟨x,a,h',β',rfl,g1,g4,step_below g5 (Nat.le_refl _) fun y r κ q=>.inl (d3 y r κ q)⟩
end
end Go.Proofs.YtmladikgbmcmcaaGreatDoor
