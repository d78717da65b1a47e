/- a part of the proof of TopLines. -/
import Derived.Test.YtmladikgbmcmcaaGreatDoorProg
import Derived.RangeFuncBox
import Derived.RangeFuncNested
import Derived.RangeFuncLeaves
import Derived.Shelf.Abstract
import Derived.WalkKit
import Derived.OwnWalkIn
import Derived.TacticsInMore
import Derived.LoopNIn
import Derived.LoopIn
import Derived.Maps.AppendAt
import Derived.Outline
import Derived.WalkMore
import Derived.Sort.QuietIn
import Derived.Maps.OwnSet
import Derived.Maps.Range
import Derived.Deep.RegionHeld3
import Derived.Deep.RegionLaw
import Derived.Deep.AppendLies
import Derived.StillTail
import Derived.Tactics
import Derived.Tactics2
import Derived.Defers
import Derived.Laws.Pointers
import Derived.Laws.LoneSync
import Derived.RegionTactic
import Derived.RegionCalls
import Derived.ChangeAlike
import Derived.Laws.NewBlocks
set_option maxHeartbeats 4000000
set_option maxRecDepth 100000
set_option linter.all false
namespace Go.Dia
open Go.RowKit Go.Shelf
section
variable {F:Fence} {n:Nat} {P:Program} {Q:Exit→Act→World→Prop} {a:Act} {w:World} {b:Frame} {k:List Item} {cs:List Frame}
theorem stepR_scope{c:Code}:step P (lone (b.atR a (.code (.scope c)::k)) cs w)=.next (lone (b.atR a (.code c :: .inScope c::k)) cs w):=
 step_lone_go (by simp[stepG,stepG.exec,Frame.atR])
theorem stepR_inScope{c:Code}:step P (lone (b.atR a (.inScope c::k)) cs w)=.next (lone (b.atR a k) cs w):=
 step_lone_go (by simp[stepG,stepG.exec,Frame.atR])
theorem Zau{c:Code}(h:c.wpIn F n P (Exit.noGoto Q) a w):(Code.scope c).wpIn F n P Q a w:=by
 intro b k cs hro hb hr
 have h0:(lone (b.atR a (.code (.scope c)::k)) cs w).fenced P F:=fenced_calm hb hr rfl
 obtain⟨e,a₁,w₁,hq,harr⟩:=h b (.inScope c::k) cs hro hb hr
 cases e with
 |normal=>exact⟨.normal,a₁,w₁,hq,.head h0 stepR_scope (StepsIn.trans harr (.one (fenced_calm hb hr rfl) stepR_inScope))⟩
 |exit id=>
  have hx:exitTo id (.inScope c::k)=exitTo id k:=by simp[exitTo]
  exact⟨.exit id,a₁,w₁,hq,fun k' hk=>.head h0 stepR_scope (harr.1 k' (by rw[hx];exact hk)),
   fun hr' hk=>let ⟨k₁,h1,h2⟩:=harr.2 hr' (by rw[hx];exact hk);⟨k₁,h1,.head h0 stepR_scope h2⟩⟩
 |goto l=>exact hq.elim
 |ret=>exact⟨_,a₁,w₁,hq,.of_steps (.one h0 stepR_scope) harr⟩
 |panic ch=>exact⟨_,a₁,w₁,hq,.of_steps (.one h0 stepR_scope) harr⟩
 |outgrown=>exact⟨_,a₁,w₁,hq,.of_steps (.one h0 stepR_scope) harr⟩
end
theorem hid{p:Prop}(h:p):Hid p:=h
def Blk(W:World)(B:Nat)(t:TypeId)(cs:Array Value):Prop:=W.heap[B]?=some (.cells cs t (0,0))
section
variable {W W':World} {B:Nat} {t:TypeId} {cs:Array Value}
theorem Blk.lt(h:Blk W B t cs):B<W.heap.size:=(Array.getElem?_eq_some_iff.1 h).1
theorem Blk.cell(h:Blk W B t cs)(j:Nat):W.cell? ⟨B,j,none⟩=cs[j]?:=by simp[World.cell?,show W.heap[B]?=_ from h]
theorem Blk.frozen(h:Blk W B t cs)(j:Nat):W.frozen? ⟨B,j,none⟩=false:=by simp[World.frozen?,show W.heap[B]?=_ from h]
theorem Blk.new(W:World)(t:TypeId)(cs:Array Value):Blk (W.alloc (.cells cs t)) W.heap.size t cs:=World.alloc_heap_new W _
theorem Blk.kept{row:Option Nat}(h:Blk W B t cs)(hg:W.grownBy W' row)(hne:some B≠row):Blk W' B t cs:=(hg.block B h.lt hne).trans h
theorem Blk.alloc(h:Blk W B t cs)(o:Obj):Blk (W.alloc o) B t cs:=h.kept (World.grownBy_alloc W o none) (by simp)
theorem Blk.below{n:Nat}(h:Blk W B t cs)(hb:Below n W W')(hn:B<n):Blk W' B t cs:=(hb.block B hn).trans h
theorem Blk.other{B' j:Nat}(h:Blk W B t cs)(hne:B≠B')(u:Value):Blk (W.setCell ⟨B',j,none⟩ u) B t cs:=(Below.heap_setCell W _ u B hne).trans h
theorem Blk.set(h:Blk W B t cs)(j:Nat)(u:Value):Blk (W.setCell ⟨B,j,none⟩ u) B t (cs.setIfInBounds j u):=by
 obtain⟨hlt,hk⟩:=Array.getElem?_eq_some_iff.1 h
 show(W.heap.modify B _)[B]?=_
 rw[Array.getElem?_eq_getElem (by rw[Array.size_modify];exact hlt),Array.getElem_modify_self,hk]
 rfl
end
theorem Below.grow{w w':World}(h:Below w.heap.size w w')(row:Option Nat):w.grownBy w' row:=⟨h.os,h.tape,h.output,h.size,fun k hk _=>h.block k hk⟩
theorem grownBy.below{w w':World}(h:w.grownBy w' none):Below w.heap.size w w':=⟨h.os,h.tape,h.output,h.size,fun k hk=>h.block k hk (by simp)⟩
theorem grownBy.trans{a b c:World}{row:Option Nat}(h:a.grownBy b row)(k:b.grownBy c row):a.grownBy c row:=
 ⟨k.os.trans h.os,k.tape.trans h.tape,k.output.trans h.output,Nat.le_trans h.size k.size,fun i hi hr=>(k.block i (Nat.lt_of_lt_of_le hi h.size) hr).trans (h.block i hi hr)⟩
theorem Zaf(w:World)(cs:Array Value)(t:TypeId):∀ j u,cs.toList[j]?=some u->(w.alloc (.cells cs t)).cell? ((⟨w.heap.size,0,none⟩:Addr).add j)=some u:=by
 intro j u hj
 have hadd:(⟨w.heap.size,0,none⟩:Addr).add j=⟨w.heap.size,j,none⟩:=by unfold Addr.add;split<;>simp_all
 rw[hadd,(Blk.new w t cs).cell j]
 simpa using hj
theorem inR{F:Fence}{n l:Nat}{P:Program}{f:FuncId}{args:Array Value}{w:World}{R:Ending->World->Prop}(h:CallsIn F n P f args w R):CallsIn (F.inRound l) n P f args w R:=CallsIn.inRound l h
def noDefer(ops:Array Oper):Bool:=ops.all fun o=>match o.op with|.defer _=>false|_=>true
section
variable {F:Fence} {n l:Nat} {P:Program} {ops:Array Oper} {Q:Exit→Act→World→Prop} {md:Region.Mode}
theorem semAt_round{o:Oper}{ρ:Operand->Value}(hro:F.round=none)(h:∀ c,o.op≠.defer c):o.semAt (F.inRound l).round ρ=o.semAt F.round ρ:=by
 rw[hro,Oper.semAt_eq _ _ _ h,Oper.semAt_eq _ _ _ h]
theorem wpOpIn_round{i:Nat}{K K':Act->World->Prop}{a:Act}{w:World}(hro:F.round=none)(hd:noDefer ops=true)(hk:∀ a w,K a w->K' a w)
  (h:wpOpIn F n P ops Q i K a w):wpOpIn (F.inRound l) n P ops Q i K' a w:=by
 have h:=wpOpIn_mono hk h
 unfold wpOpIn at *
 cases ho:ops[i]? with
 |none=>simp only[ho] at h ⊢;exact h
 |some o=>
  have hnd:∀ c,o.op≠.defer c:=by
   intro c hc
   unfold noDefer at hd
   rw[Array.all_eq_true] at hd
   obtain⟨hlt,hg⟩:=Array.getElem?_eq_some_iff.1 ho
   have:=hd i hlt
   rw[hg,hc] at this
   simp at this
  simp only[ho] at h ⊢
  split
  ·rename_i hw
   simp only[hw,if_true] at h
   unfold Oper.wpIn at *
   rw[semAt_round hro hnd]
   exact h
  ·rename_i hw
   simp only[hw] at h
   exact h
theorem wpAnyIn_round(hro:F.round=none)(hd:noDefer ops=true):∀ (fuel:Nat) (listed:Array Bool) (a:Act) (w:World),wpAnyIn F n P md ops Q fuel listed a w->wpAnyIn (F.inRound l) n P md ops Q fuel listed a w
 |0,_,_,_,h=>h
 |fuel+1,_,_,_,h=>⟨h.1,fun i hi=>wpOpIn_round hro hd (fun a' w' h'=>wpAnyIn_round hro hd fuel _ a' w' h') (h.2 i hi)⟩
theorem Zay{id:Nat}{a:Act}{w:World}{ol:List Oper}(hro:F.round=none)(hd:noDefer ol.toArray=true)(hm:P.follows .mixedOrders=true)(hB:Region.lexB .any ol.toArray=true)
  (h:wpQuietIn F n P ol.toArray (fun w'=>∃ n,w'=w.drewN n) (fun a'=>∀ w',(∃ n,w'=w.drewN n)->Q .normal a' w') ol a):(Code.region id ol.toArray true).wpIn (F.inRound l) n P Q a w:=by
 have hB':=hB
 simp only[Region.lexB,Bool.and_eq_true] at hB
 refine wpIn_region_any hm (wpAnyIn_round hro hd _ _ _ _ (wpAnyIn_of_quiet (C:=fun w'=>∃ n,w'=w.drewN n) (Q:=fun a'=>∀ w',(∃ n,w'=w.drewN n)->Q .normal a' w') hro (fun _ w' hw' h=>h w' hw') _ _ _ _ ⟨1,rfl⟩ ?_))
 have:=wpAnyQIn_lex (F:=F) (n:=n) (C:=fun w'=>∃ n,w'=w.drewN n) (md:=.any) hB.1 ol 0 (Array.replicate ol.toArray.size false) a (by simp) (by simpa using hB.2) h
 simpa using this
end
end Go.Dia
namespace Go.Proofs.YtmladikgbmcmcaaGreatDoor
open Go.RowKit Go.Shelf Go.Dia
abbrev Gl:=ByteArray×ByteArray×Int
def glCells(l:List Gl):List Value:=l.flatMap fun x=>[.string x.1,.string x.2.1,.int .i64 x.2.2]
theorem glCells_length(l:List Gl):(glCells l).length=l.length*3:=by
 induction l with
 |nil=>rfl
 |cons x l ih=>simp only[glCells,List.flatMap_cons,List.length_append,List.length_cons,List.length_nil] at ih ⊢;omega
theorem glCells_append(a b:List Gl):glCells (a++b)=glCells a++glCells b:=by simp[glCells]
theorem infoGl:(Tryz.prog.info? 489).map (fun i=>(i.zero,i.size,i.bytes))=some (some (.agg #[.string ⟨#[]⟩,.string ⟨#[]⟩,.int .i64 0]),3,40):=by kernel_rfl
def plainL(c:Int)(l:List ByteArray):List Gl:=l.map fun s=>(s,⟨#[]⟩,c)
theorem plain_any(w:World)(c:Int)(b cap:Nat)(l:List ByteArray)(hl:l.length<=100)(hb:b<w.heap.size)(hc:∀ j (h:j<l.length),w.cell? ⟨b,j,none⟩=some (.string l[j])) :
  Calls Tryz.prog 399 #[.int .i64 c,.slice (some ⟨b,0,none⟩) l.length cap] w fun e W'=>∃ v,e=.returned v/\W'.ownsRow w.heap.size 489 3 v l.length (glCells (plainL c l))/\Below w.heap.size w W':=by
 obtain⟨i0,hi,hz0,hz1,hz2⟩:=info_parts infoGl
 have HC:=hid hc
 clear hc
 go_enter Tryz.func399,Tryz.ntmps399
 go_wp2
 go_loopw [5,10] (fun v i wr=>∃ k:Nat,k<=l.length/\i=.int .i64 k/\wr.ownsRow w.heap.size 489 3 v k (glCells (plainL c (l.take k)))/\Below w.heap.size w wr) (fun _ i _=>l.length - (intOf i).toNat)
 case atStart=>exact⟨0,Nat.zero_le _,rfl,World.ownsRow_nil _ _ _ _,Below.refl _ _⟩
 case round=>
  obtain⟨k,hk,rfl,hv,hbl⟩:=hrel
  by_cases h1:k<l.length
  ·have cA:=(hbl.cell (p:=⟨b,k,none⟩) hb).trans (HC.out k h1)
   obtain⟨s,hs⟩:∃ s,l[k]=s:=⟨_,rfl⟩
   have HS:Hid (glCells (plainL c (l.take (k+1)))=glCells (plainL c (l.take k))++[.string s,.string ⟨#[]⟩,.int .i64 c]):=hid (by rw[List.take_succ_eq_append_getElem h1,hs];simp[plainL,glCells])
   rw[hs] at cA
   clear hs
   have hws:=hbl.size
   go_wp2_with (at_builtin;refine wpList_append_own _ rfl _ _ 482 rfl w.heap.size 489 i0 (.agg #[.string ⟨#[]⟩,.string ⟨#[]⟩,.int .i64 0]) 3 40 Tryz.underlying482 hi hz0 hz1 hz2 rfl (by decide) _ _ _ rfl (hv.alloc _) ⟨wr.heap.size,0,none⟩ 1 1 [.string s,.string ⟨#[]⟩,.int .i64 c] rfl rfl (Zaf _ _ _) (by simp[Value.oneCell']) (by unfold maxLen;omega) (by omega) (by simp;omega) ?_;intro v' w1 hown' hgrow _)
   have hb1:=((Below.refl w.heap.size wr).alloc hws (.cells #[.string s,.string ⟨#[]⟩,.int .i64 c] 489)).grown hgrow (by simp;omega) (fun k hk=>(hv.lt k hk).1)
   go_roundw
   case rel=>exact⟨k+1,by omega,by go_num,by rw[HS.out];exact hown',hbl.trans hb1⟩
   case measure=>simp[intOf];omega
  ·obtain rfl:k=l.length:=by omega
   go_wp2
   go_ret
   exact⟨_,rfl,by rw[List.take_length] at hv;exact hv,hbl⟩
end Go.Proofs.YtmladikgbmcmcaaGreatDoor
namespace Go.Proofs.YtmladikgbmcmcaaGreatDoor
open Go.RowKit Go.Shelf Go.Dia Go.Maps
def glV(g:Gl):Value:=.agg #[.string g.1,.string g.2.1,.int .i64 g.2.2]
def glElem:Value->Option (DataW Gl×List MemPlace)
 |.agg cs=>(match cs.toList with|[.string a,.string b,.int .i64 c]=>some (.held (a,b,c),[])|_=>none)
 |_=>none
theorem glElem_mk(g:Gl):glElem (glV g)=some (.held g,[]):=rfl
theorem glElem_inv{v:Value}{z:DataW Gl×List MemPlace}(h:glElem v=some z):∃ g,v=glV g/\z=(.held g,[]):=by
 unfold glElem at h
 split at h
 ·rename_i cs
  split at h
  ·rename_i a b c he
   refine⟨(a,b,c),?_,by simpa using h.symm⟩
   unfold glV
   rw[show cs=#[.string a,.string b,.int .i64 c] from by rw[<-he]]
  ·cases h
 ·cases h
def zeroG:Gl:=(⟨#[]⟩,⟨#[]⟩,0)
def mapR:List Gl->DataW Gl
 |[]=>.map []
 |g::r=>(mapR r).put (.string g.1.data.toList) (.held g)
def atR:List Gl->ByteArray->Gl
 |[],_=>zeroG
 |g::r,k=>if g.1=k then g else atR r k
theorem mapR_isMap:∀ r,IsMap (mapR r)
 |[]=>⟨_,rfl⟩
 |g::r=>by
  obtain⟨es,h⟩:=mapR_isMap r
  unfold mapR;rw[h]
  exact⟨_,rfl⟩
theorem bytes_list{a b:ByteArray}(h:a.data.toList=b.data.toList):a=b:=by
 cases a;cases b;simp at h;rw[h]
theorem mapR_at(k:ByteArray):∀ r,(mapR r).atKey (.string k.data.toList) (.held zeroG)=.held (atR r k)
 |[]=>rfl
 |g::r=>by
  unfold mapR atR
  split
  ·rename_i h;subst h
   exact atKey_put_same (k:=.string g.1.data.toList) (mapR_isMap r) trivial _ _
  ·rename_i h
   rw[atKey_put_other (by intro e;apply h;exact(bytes_list (by simpa using e)).symm)]
   exact mapR_at k r
theorem law9:Keyed Tryz.prog 9:=string_keyed Tryz.underlying9
def Tab(w0 W:World)(b:Nat)(d s:Int)(L:List Gl)(v:Value)(B:Nat):Prop:=
 Blk W b 485 #[.int .u32 d,.int .i32 s,.int .u32 0,v,.map (some B)]/\W.ownsRow w0.heap.size 489 3 v L.length (glCells L)/\W.ownsMap Tryz.prog 9 glElem B L.length (mapR L.reverse)/\w0.heap.size<=B/\b<w0.heap.size/\w0.grownBy W (some b)
theorem _root_.Go.Dia.Blk.drew{W:World}{B:Nat}{t:TypeId}{cs:Array Value}(h:Blk W B t cs):Blk W.drew B t cs:=h
theorem _root_.Go.World.ownsMap.ne_row{W:World}{P:Program}{k:TypeId}{R:Value->Option (DataW Gl×List MemPlace)}{B n:Nat}{D:DataW Gl}{base size n':Nat}{e:TypeId}{v:Value}{xs:List Value}
  (h:W.ownsMap P k R B n D) (ho:W.ownsRow base e size v n' xs):v.ownBlock≠some B:=fun e=>by
 obtain⟨es,clock,hb,_⟩:=h
 rcases ho.2 with ⟨rfl,_⟩|⟨g,cap,cur,rfl,_,hg,_⟩
 ·cases e
 ·obtain rfl:g=B:=by simpa[Value.ownBlock] using e
  rw[hb] at hg;cases hg
theorem Zaj(w:World)(b i:Nat)(v:Value):w.grownBy (w.setCell ⟨b,i,none⟩ v) (some b):=
 ⟨rfl,rfl,rfl,by simp,fun k _ hk=>Below.heap_setCell w ⟨b,i,none⟩ v k (fun e=>hk (by rw[e]))⟩
theorem grown_drew{w w':World}{row:Option Nat}(h:w.grownBy w' row):w.grownBy w'.drew row:=⟨h.os,h.tape,h.output,h.size,h.block⟩
theorem add_any(w0 w:World)(b g cap B:Nat)(d s:Int)(L l:List Gl)(v:Value)(hL:L.length+l.length<=1000)(hw0:w0.heap.size<=w.heap.size)(hT:Tab w0 w b d s L v B)(hg:g<w.heap.size)(hgb:w0.heap.size<=g)(hgv:v.ownBlock≠some g)(hgB:g≠B)
  (hc:∀ j (h:j<l.length),w.cell? ⟨g,j*3,none⟩=some (.string l[j].1)/\w.cell? ⟨g,j*3+1,none⟩=some (.string l[j].2.1)/\w.cell? ⟨g,j*3+2,none⟩=some (.int .i64 l[j].2.2)/\l[j].1.size<=maxLen) :
  Calls Tryz.prog 398 #[.pointer (some ⟨b,0,none⟩),.slice (some ⟨g,0,none⟩) l.length cap] w fun e W'=>e=.returned (.tuple #[])/\∃ v',Tab w0 W' b d s (L++l) v' B/\W'.heap.size ≥ w.heap.size:=by
 obtain⟨i0,hi,hz0,hz1,hz2⟩:=info_parts infoGl
 have HC:=hid hc
 clear hc
 obtain⟨nn,hnn⟩:∃ nn,l.length=nn:=⟨_,rfl⟩
 rw[hnn]
 have HN:Hid (l.length=nn):=hid hnn
 have hn1:nn<=l.length:=by omega
 have hn2:l.length<=nn:=by omega
 clear hnn
 go_enter Tryz.func398,Tryz.ntmps398
 go_wp2
 go_loopw [8] (fun i wr=>∃ k v',k<=l.length/\i=.int .i64 k/\Tab w0 wr b d s (L++l.take k) v' B/\v'.ownBlock≠some g/\w.heap.size<=wr.heap.size/\(∀ j (h:j<l.length),wr.cell? ⟨g,j*3,none⟩=some (.string l[j].1)/\wr.cell? ⟨g,j*3+1,none⟩=some (.string l[j].2.1)/\wr.cell? ⟨g,j*3+2,none⟩=some (.int .i64 l[j].2.2)/\l[j].1.size<=maxLen)) (fun i _=>nn - (intOf i).toNat)
 case atStart=>exact⟨0,v,Nat.zero_le _,rfl,by simpa using hT,hgv,Nat.le_refl _,HC.out⟩
 case round=>
  obtain⟨k,v',hk,rfl,hT',hgv',hws,hcr⟩:=hrel
  by_cases h1:k<l.length
  ·obtain⟨cA,cB,cC,hsz⟩:=hcr k h1
   obtain⟨x,hx⟩:∃ x,l[k]=x:=⟨_,rfl⟩
   have HS:Hid (L++l.take (k+1)=(L++l.take k)++[x]):=hid (by rw[List.take_succ_eq_append_getElem h1,hx,List.append_assoc])
   rw[hx] at cA cB cC hsz
   clear hx
   obtain⟨xa,xb,xc⟩:=x
   simp only at cA cB cC hsz
   obtain⟨M,hM⟩:∃ M,L++l.take k=M:=⟨_,rfl⟩
   rw[hM] at hT' HS
   have HM:Hid (M.length=L.length+k):=hid (by rw[<-hM];simp;omega)
   clear hM
   obtain⟨hb,ho,hm,hB0,hb0,hgr⟩:=hT'
   have HR:=hid hcr
   clear hcr
   have hblt:=hb.lt
   have HGM:=hid hgr
   clear hgr
   have hkn:(k:Int)<(nn:Int):=by omega
   go_wp2
   have wfar:∀ w1:World,((wr.alloc (.cells #[.string xa,.string xb,.int .i64 xc] 489)).alloc (.cells #[.string xa,.string xb,.int .i64 xc] 489)).drew.grownBy w1 v'.ownBlock->Blk w1 b 485 #[.int .u32 d,.int .i32 s,.int .u32 0,v',.map (some B)]/\Blk w1 wr.heap.size 489 #[.string xa,.string xb,.int .i64 xc]/\w1.ownsMap Tryz.prog 9 glElem B M.length (mapR M.reverse)/\w0.grownBy w1 (some b)/\wr.heap.size+2<=w1.heap.size/\wr.grownBy w1 v'.ownBlock:=fun w1 hg=>by
    have hne:some b≠v'.ownBlock:=fun e=>by have:=(ho.lt b e.symm).1;omega
    have hnw:some wr.heap.size≠v'.ownBlock:=fun e=>by have:=(ho.lt _ e.symm).2;omega
    have hnB:some B≠v'.ownBlock:=fun e=>hm.ne_row ho e.symm
    have hgg:wr.grownBy w1 v'.ownBlock:=(grown_drew ((World.grownBy_alloc wr (.cells #[.string xa,.string xb,.int .i64 xc] 489) _).trans (World.grownBy_alloc _ (.cells #[.string xa,.string xb,.int .i64 xc] 489) _))).trans hg
    refine⟨Blk.kept (Blk.drew ((hb.alloc _).alloc _)) hg hne,Blk.kept (Blk.drew ((Blk.new wr 489 #[.string xa,.string xb,.int .i64 xc]).alloc _)) hg hnw,((hm.alloc _).alloc _).drew.kept hg hnB,HGM.out.andThen hgg fun j hj=>.inl (ho.lt j hj).1,by have:=hg.size;simpa using this,hgg⟩
   have wfar:=hid wfar
   have O2:((wr.alloc (.cells #[.string xa,.string xb,.int .i64 xc] 489)).alloc (.cells #[.string xa,.string xb,.int .i64 xc] 489)).drew.ownsRow w0.heap.size 489 3 v' M.length (glCells M):=(ho.alloc _).alloc _
   have N2:∀ j u,[Value.string xa,.string xb,.int .i64 xc][j]?=some u->((wr.alloc (.cells #[.string xa,.string xb,.int .i64 xc] 489)).alloc (.cells #[.string xa,.string xb,.int .i64 xc] 489)).drew.cell? ((⟨wr.heap.size+1,0,none⟩:Addr).add j)=some u:=by
    have h:=Zaf (wr.alloc (.cells #[.string xa,.string xb,.int .i64 xc] 489)) #[.string xa,.string xb,.int .i64 xc] 489
    rw[show(wr.alloc (.cells #[.string xa,.string xb,.int .i64 xc] 489)).heap.size=wr.heap.size+1 by simp] at h
    exact h
   have c3:(wr.alloc (.cells #[.string xa,.string xb,.int .i64 xc] 489)).drew.cell? ⟨b,3,none⟩=some v':=(hb.alloc _).cell 3
   have c3':((wr.alloc (.cells #[.string xa,.string xb,.int .i64 xc] 489)).alloc (.cells #[.string xa,.string xb,.int .i64 xc] 489)).drew.cell? ⟨b,3,none⟩=some v':=((hb.alloc _).alloc _).cell 3
   have F:=hid (And.intro hB0 hb0)
   have HLT:=hid hblt
   clear hb ho hm hB0 hb0
   go_region_law (first|(refine step_append_lies _ rfl _ _ 482 rfl w0.heap.size 489 i0 (.agg #[.string ⟨#[]⟩,.string ⟨#[]⟩,.int .i64 0]) 3 40 Tryz.underlying482 hi hz0 hz1 hz2 rfl (by decide) _ _ _ rfl O2 ⟨_,0,none⟩ 1 1 [.string xa,.string xb,.int .i64 xc] rfl rfl N2 (by simp[Value.oneCell']) (by decide) (by unfold maxLen;have:=HM.out;omega) (by have:=HM.out;omega) (by simp;omega) _ rfl ?_;intro g' cap' w1 hown' hgrow hat0 hlt';have hat:v'.ownBlock=some g'\/g'=((wr.alloc (.cells #[.string xa,.string xb,.int .i64 xc] 489)).alloc (.cells #[.string xa,.string xb,.int .i64 xc] 489)).drew.heap.size:=hat0;clear hat0;obtain⟨B2,G2,M2,gr2,sz2,gg2⟩:=wfar.out w1 hgrow;have e3:=B2.cell 3;have z3:=B2.frozen 3))
   all_goals go_wp2
   all_goals
    have B3:Blk (w1.setCell ⟨b,3,none⟩ (.slice (some ⟨g',0,none⟩) (M.length+1) cap')) b 485 #[.int .u32 d,.int .i32 s,.int .u32 0,.slice (some ⟨g',0,none⟩) (M.length+1) cap',.map (some B)]:=B2.set 3 _
    have hbw:wr.heap.size≠b:=Nat.ne_of_gt HLT.out
    have G3:Blk (w1.setCell ⟨b,3,none⟩ (.slice (some ⟨g',0,none⟩) (M.length+1) cap')) wr.heap.size 489 #[.string xa,.string xb,.int .i64 xc]:=G2.other hbw _
    have hBb:B≠b:=by have:=F.out.1;have:=F.out.2;omega
    have M3:(w1.setCell ⟨b,3,none⟩ (.slice (some ⟨g',0,none⟩) (M.length+1) cap')).ownsMap Tryz.prog 9 glElem B M.length (mapR M.reverse):=M2.setCell hBb _
    obtain⟨w3,hrun,M4,g4⟩:=M3.drew.update law9 Tryz.underlying483 (by unfold maxLen;have:=HM.out;omega) (Go.WideMaps.keyOf_string_mk Tryz.underlying9 hsz) (glElem_mk (xa,xb,xc))
    have k4:(w1.setCell ⟨b,3,none⟩ (.slice (some ⟨g',0,none⟩) (M.length+1) cap')).drew.cell? ⟨b,4,none⟩=some (.map (some B)):=B3.cell 4
    have k0:(w1.setCell ⟨b,3,none⟩ (.slice (some ⟨g',0,none⟩) (M.length+1) cap')).drew.cell? ⟨wr.heap.size,0,none⟩=some (.string xa):=G3.cell 0
    have k1:(w1.setCell ⟨b,3,none⟩ (.slice (some ⟨g',0,none⟩) (M.length+1) cap')).drew.cell? ⟨wr.heap.size,1,none⟩=some (.string xb):=G3.cell 1
    have k2:(w1.setCell ⟨b,3,none⟩ (.slice (some ⟨g',0,none⟩) (M.length+1) cap')).drew.cell? ⟨wr.heap.size,2,none⟩=some (.int .i64 xc):=G3.cell 2
    unfold glV at hrun
    simp only at hrun
    have FF:=hid (And.intro B3 (And.intro M2 (And.intro M4 (And.intro g4 (And.intro gr2 gg2)))))
    clear B3 G3 M3 M4 g4 gr2 gg2 B2 G2 M2
    go_region
    all_goals
     go_wp2
     obtain⟨B3,M2,M4,g4,gr2,gg2⟩:=FF.out
     obtain⟨hB0,hb0⟩:=F.out
     have hBb:B≠b:=by omega
     have hgb':g≠b:=by omega
     have gs:=Zaj w1 b 3 (.slice (some ⟨g',0,none⟩) (M.length+1) cap')
     have gd:(w1.setCell ⟨b,3,none⟩ (.slice (some ⟨g',0,none⟩) (M.length+1) cap')).grownBy w3 (some B):=⟨g4.os,g4.tape,g4.output,g4.size,g4.block⟩
     have hgw:w0.heap.size<=g':=(hown'.lt g' rfl).1
     have hne:Value.ownBlock (.slice (some ⟨g',0,none⟩) (M.length+1) cap')≠some B:=M2.ne_row hown'
     have hnb:Value.ownBlock (.slice (some ⟨g',0,none⟩) (M.length+1) cap')≠some b:=by simp[Value.ownBlock];omega
     have S1:=gg2.size
     have S2:=gs.size
     have S3:=gd.size
     refine⟨⟨k+1,.slice (some ⟨g',0,none⟩) (M.length+1) cap',by omega,by go_num,?_,?_,by omega,?_⟩,by simp[intOf];omega⟩
     ·rw[HS.out]
      refine⟨B3.kept gd (by simp;omega),?_,?_,hB0,hb0,(gr2.trans gs).andThen gd (fun j hj=>by cases hj;exact .inl hB0)⟩
      ·rw[glCells_append,List.length_append]
       exact(hown'.kept gs (.inr hnb)).kept gd (.inr hne)
      ·rw[List.length_append,List.reverse_append]
       exact M4
     ·intro e
      have e:g'=g:=by simpa[Value.ownBlock] using e
      rcases hat with hat|hat
      ·exact hgv' (by rw[hat,e])
      ·simp at hat
       omega
     ·intro j hj
      have hk1:∀ i,w3.cell? ⟨g,i,none⟩=wr.cell? ⟨g,i,none⟩:=fun i=>by
       rw[gd.cell_far ⟨g,i,none⟩ (by show g<_;omega) (by simp[hgB]),gs.cell_far ⟨g,i,none⟩ (by show g<_;omega) (by simp;omega),gg2.cell_far ⟨g,i,none⟩ (by show g<_;omega) (Ne.symm hgv')]
      rw[hk1,hk1,hk1]
      exact HR.out j hj
  ·obtain rfl:k=l.length:=by omega
   have j1:¬ ((l.length:Int)<(nn:Int)):=by omega
   go_wp2
   go_end0
   exact⟨rfl,⟨v',by simpa using hT'⟩,hws⟩
end Go.Proofs.YtmladikgbmcmcaaGreatDoor
namespace Go.Proofs.YtmladikgbmcmcaaGreatDoor
open Go.RowKit Go.Shelf Go.Dia
def typedL(c:Int)(l:List (ByteArray×ByteArray)):List Gl:=l.map fun s=>(s.1,s.2,c)
theorem typed_any(w:World)(c:Int)(b cap:Nat)(l:List (ByteArray×ByteArray))(hl:l.length<=100)(hb:b<w.heap.size)(hc:∀ j (h:j<l.length),w.cell? ⟨b,j*2,none⟩=some (.string l[j].1)/\w.cell? ⟨b,j*2+1,none⟩=some (.string l[j].2)) :
  Calls Tryz.prog 400 #[.int .i64 c,.slice (some ⟨b,0,none⟩) (l.length*2) cap] w fun e W'=>∃ v,e=.returned v/\W'.ownsRow w.heap.size 489 3 v l.length (glCells (typedL c l))/\Below w.heap.size w W':=by
 obtain⟨i0,hi,hz0,hz1,hz2⟩:=info_parts infoGl
 have HC:=hid hc
 clear hc
 obtain⟨nn,hnn⟩:∃ nn,l.length*2=nn:=⟨_,rfl⟩
 rw[hnn]
 have HN:Hid (l.length*2=nn):=hid hnn
 have hn1:nn<=l.length*2:=by omega
 have hn2:l.length*2<=nn:=by omega
 clear hnn
 go_enter Tryz.func400,Tryz.ntmps400
 go_wp2
 go_loopw [5,6] (fun v i wr=>∃ k:Nat,k<=l.length/\i=.int .i64 (((k*2:Nat)):Int)/\wr.ownsRow w.heap.size 489 3 v k (glCells (typedL c (l.take k)))/\Below w.heap.size w wr) (fun _ i _=>nn - (intOf i).toNat)
 case atStart=>exact⟨0,Nat.zero_le _,rfl,World.ownsRow_nil _ _ _ _,Below.refl _ _⟩
 case round=>
  obtain⟨k,hk,rfl,hv,hbl⟩:=hrel
  by_cases h1:k<l.length
  ·obtain⟨cA0,cB0⟩:=HC.out k h1
   have cA:wr.drew.cell? ⟨b,k*2,none⟩=_:=(hbl.cell (p:=⟨b,k*2,none⟩) hb).trans cA0
   have cB:wr.drew.cell? ⟨b,k*2+1,none⟩=_:=(hbl.cell (p:=⟨b,k*2+1,none⟩) hb).trans cB0
   obtain⟨s,hs⟩:∃ s,l[k].1=s:=⟨_,rfl⟩
   obtain⟨t,ht⟩:∃ t,l[k].2=t:=⟨_,rfl⟩
   have HS:Hid (glCells (typedL c (l.take (k+1)))=glCells (typedL c (l.take k))++[.string s,.string t,.int .i64 c]):=hid (by unfold typedL glCells;rw[List.take_succ_eq_append_getElem h1,List.map_append,List.flatMap_append];simp only[List.map_cons,List.map_nil,List.flatMap_cons,List.flatMap_nil,hs,ht,List.append_nil])
   rw[hs] at cA
   rw[ht] at cB
   clear hs ht cA0 cB0
   have hws:=hbl.size
   have hlt1:k*2<nn:=by omega
   have hlt2:k*2+1<nn:=by omega
   have B0:Below w.heap.size wr (wr.alloc (.cells #[.string s,.string t,.int .i64 c] 489)).drew:=((Below.refl _ _).alloc hws _).drew
   have hvd:(wr.alloc (.cells #[.string s,.string t,.int .i64 c] 489)).drew.ownsRow w.heap.size 489 3 u5 k (glCells (typedL c (l.take k))):=hv.alloc _
   have dA:wr.cell? ⟨b,k*2,none⟩=some (.string s):=cA
   have dB:wr.cell? ⟨b,k*2+1,none⟩=some (.string t):=cB
   have gA:=(B0.cell (p:=⟨b,k*2,none⟩) hb).trans dA
   have gB:=(B0.cell (p:=⟨b,k*2+1,none⟩) hb).trans dB
   have wfar:∀ W1:World,(wr.alloc (.cells #[.string s,.string t,.int .i64 c] 489)).drew.grownBy W1 u5.ownBlock->Below w.heap.size wr W1:=fun W1 hg=>B0.grown hg (Nat.le_trans hws B0.size) (fun k hk=>(hvd.lt k hk).1)
   have wfar:=hid wfar
   have j0:(0:Int)<=(k:Int)*2:=by omega
   have j1:(k:Int)*2<(nn:Int):=by omega
   have j2:(0:Int)<=(k:Int)*2+1:=by omega
   have j3:(k:Int)*2+1<(nn:Int):=by omega
   have j4:IntKind.i64.wrap ((k:Int)*2+1)=(k:Int)*2+1:=IntWalk.i64_in _ (by omega)
   have i1:((k:Int)*2).toNat=k*2:=by omega
   have i2:((k:Int)*2+1).toNat=k*2+1:=by omega
   go_wp2
   go_region_held3 (fun w'=>w'.cell? ⟨b,k*2,none⟩=some (.string s)/\w'.cell? ⟨b,k*2+1,none⟩=some (.string t)) (go_keep) (first|(refine step_append_lies _ rfl _ _ 482 rfl w.heap.size 489 i0 (.agg #[.string ⟨#[]⟩,.string ⟨#[]⟩,.int .i64 0]) 3 40 Tryz.underlying482 hi hz0 hz1 hz2 rfl (by decide) _ _ _ rfl hvd ⟨_,0,none⟩ 1 1 [.string s,.string t,.int .i64 c] rfl rfl (Zaf _ _ _) (by simp[Value.oneCell']) (by decide) (by unfold maxLen;omega) (by omega) (by simp;omega) _ rfl ?_;intro g' cap' w1 hown' hgrow hat hlt';have hB1:=wfar.out w1 hgrow;have eA:=(hB1.cell (p:=⟨b,k*2,none⟩) hb).trans dA;have eB:=(hB1.cell (p:=⟨b,k*2+1,none⟩) hb).trans dB))
   go_wp2
   go_roundw
   case rel=>exact⟨k+1,by omega,by go_num,by rw[HS.out];exact hown',hbl.trans hB1⟩
   case measure=>simp[intOf];omega
  ·obtain rfl:k=l.length:=by omega
   have j1:¬ ((l.length:Int)*2+1<(nn:Int)):=by omega
   go_wp2
   go_ret
   exact⟨_,rfl,by rw[List.take_length] at hv;exact hv,hbl⟩
end Go.Proofs.YtmladikgbmcmcaaGreatDoor
namespace Go.Proofs.YtmladikgbmcmcaaGreatDoor
theorem disable(w:World):(callFunc 426 #[]).run Tryz.prog w=.ok (.value (.tuple #[])) w:=run_call_mark0 Tryz.func426 (by kernel_rfl) (by kernel_rfl) (by kernel_rfl) .disable (by kernel_rfl) w
theorem enable(w:World):(callFunc 428 #[]).run Tryz.prog w=.ok (.value (.tuple #[])) w:=run_call_mark0 Tryz.func428 (by kernel_rfl) (by kernel_rfl) (by kernel_rfl) .enable (by kernel_rfl) w
theorem acquire(a:Addr)(w:World):(callFunc 429 #[.pointer (some a)]).run Tryz.prog w=.ok (.value (.tuple #[])) w:=run_call_marked Tryz.func429 (by kernel_rfl) (by kernel_rfl) (by kernel_rfl) .acquire (by kernel_rfl) a w
theorem releaseMerge(a:Addr)(w:World):(callFunc 431 #[.pointer (some a)]).run Tryz.prog w=.ok (.value (.tuple #[])) w:=run_call_marked Tryz.func431 (by kernel_rfl) (by kernel_rfl) (by kernel_rfl) .releaseMerge (by kernel_rfl) a w
theorem store_deferred(a:Addr)(x:Value)(u:FrameMode)(w:World)(hc:w.cell? a=some x)(hz:w.frozen? a=false) :
  CallsD Tryz.prog 421 #[.pointer (some a),.bool true] u w fun e u' w'=>u'=u/\(e=.returned (.tuple #[])/\w'=w.drew.setCell a (.int .u32 1)):=by
 have hc':w.drew.cell? a=some x:=by go_simp
 have hz':w.drew.frozen? a=false:=by go_simp
 have hst:=run_call_store (P:=Tryz.prog) Tryz.func424 (by kernel_rfl) (by kernel_rfl) (by kernel_rfl) (by kernel_rfl) (k:=.u32) (y:=1) hc' hz'
 go_enter_d Tryz.func421,Tryz.ntmps421
 go_wp2
 go_region_calls
 all_goals(go_end0;exact⟨rfl,rfl⟩)
theorem unlock_deferred(a:Addr)(u:FrameMode)(w:World)(hc:w.cell? a=some (.int .i32 1))(hz:w.frozen? a=false) :
  CallsD Tryz.prog 420 #[.pointer (some a)] u w fun e u' w'=>u'=u/\(e=.returned (.tuple #[])/\w'=w.setCell a (.int .i32 0)):=by
 have hd:=disable
 have he:=enable
 have hr:=releaseMerge
 have hadd:=run_call_add (P:=Tryz.prog) Tryz.func432 (by kernel_rfl) (by kernel_rfl) (by kernel_rfl) .i32 (by kernel_rfl) (y:=-1) (s:=0) hc hz (by simp[go_sem];rfl)
 have hcv:=run_convert_to_unsafe (P:=Tryz.prog) (src:=591) (dst:=275) Tryz.underlying591 Tryz.underlying275 (by kernel_rfl) hc
 go_enter_d Tryz.func420,Tryz.ntmps420
 go_wp2
 go_end0
 go_wp2
 go_end0
 exact⟨rfl,rfl⟩
theorem lock_free(a:Addr)(w:World)(hc:w.cell? a=some (.int .i32 0))(hz:w.frozen? a=false) :
  Calls Tryz.prog 419 #[.pointer (some a)] w fun e w'=>e=.returned (.tuple #[])/\w'=w.setCell a (.int .i32 1):=by
 have hd:=disable
 have he:=enable
 have ha:=acquire
 have hcas:=run_call_cas_hit (P:=Tryz.prog) Tryz.func427 (by kernel_rfl) (by kernel_rfl) (by kernel_rfl) .i32 (by kernel_rfl) (y:=1) hc hz
 have hc':(w.setCell a (.int .i32 1)).cell? a=some (.int .i32 1):=World.cell?_setCell_same w a _ hc
 have hcv:=run_convert_to_unsafe (P:=Tryz.prog) (src:=591) (dst:=275) Tryz.underlying591 Tryz.underlying275 (by kernel_rfl) hc'
 go_enter Tryz.func419,Tryz.ntmps419
 go_wp2
 first|go_end0|(simp only[Exit.inBlock,Exit.then];refine bodyPost_ret (results_none rfl _ _ _) rfl ?_)|refine bodyPost_ret (results_none rfl _ _ _) rfl ?_
 go_wp2
 go_end0
 exact⟨rfl,rfl⟩
end Go.Proofs.YtmladikgbmcmcaaGreatDoor
namespace Go.Proofs.YtmladikgbmcmcaaGreatDoor
open Go.RowKit Go.Dia
theorem slow_any(b:Nat)(cap:Array Value)(w:World)
  (h0:w.cell? ⟨b,0,none⟩=some (.int .u32 0)) (h1:w.cell? ⟨b,1,none⟩=some (.int .i32 0))
  (f1:w.frozen? ⟨b,1,none⟩=false) (R:World->Prop)
  (hf:Calls Tryz.prog 397 cap (w.setCell ⟨b,1,none⟩ (.int .i32 1)) fun e w'=>e=.returned (.tuple #[])/\R w'/\w'.cell? ⟨b,0,none⟩=some (.int .u32 0)/\w'.cell? ⟨b,1,none⟩=some (.int .i32 1)/\w'.frozen? ⟨b,0,none⟩=false/\w'.frozen? ⟨b,1,none⟩=false) :
  Calls Tryz.prog 414 #[.pointer (some ⟨b,0,none⟩),.func (.func 397) #[] cap] w fun e w'=>e=.returned (.tuple #[])/\∃ w1,R w1/\w'=(w1.drew.setCell ⟨b,0,none⟩ (.int .u32 1)).setCell ⟨b,1,none⟩ (.int .i32 0):=by
 have hl:=run_call_load (P:=Tryz.prog) Tryz.func418 (by kernel_rfl) (by kernel_rfl) (by kernel_rfl) .u32 (by kernel_rfl) (w:=w.setCell ⟨b,1,none⟩ (.int .i32 1)) (a:=⟨b,0,none⟩) (x:=0) ((World.cell?_setCell_other _ ⟨b,1,none⟩ ⟨b,0,none⟩ _ (by simp)).trans h0)
 have hnot:∀ (x:Bool) (w:World),(Op.unary .not (.bool x)).run Tryz.prog w=.ok (.bool (!x)) w:=fun _ _=>rfl
 go_enter_defers Tryz.func414,Tryz.ntmps414
 go_wp2_with (first|(go_at_call 419;refine(lock_free ⟨b,1,none⟩ _ (by go_simp) (by go_simp)).mono ?_;rintro e w' ⟨rfl,rfl⟩)|(go_at_call 413;go_in)|(go_at_call 397;refine hf.mono ?_;rintro e w1 ⟨rfl,hR,k0,k1,z0,z1⟩))
 refine leaves_cons (f:=421) (args:=#[.pointer (some ⟨b,0,none⟩),.bool true]) (by simp) (by simp[go_sem]) ?_
 refine(store_deferred ⟨b,0,none⟩ (.int .u32 0) .returning _ k0 z0).mono ?_
 rintro e u' w'' ⟨rfl,rfl,rfl⟩
 refine leaves_cons (f:=420) (args:=#[.pointer (some ⟨b,1,none⟩)]) (by simp[settle]) (by simp[go_sem]) ?_
 refine(unlock_deferred ⟨b,1,none⟩ _ _ ?_ (by simp[z1])).mono ?_
 ·refine(World.cell?_setCell_other _ ⟨b,0,none⟩ ⟨b,1,none⟩ _ (by simp)).trans ?_
  rw[World.cell?_drew]
  exact k1
 rintro e u' w'' ⟨rfl,rfl,rfl⟩
 simp[Leaves,settle,results,Tryz.results414]
 exact⟨w1,hR,rfl⟩
theorem do_first(b:Nat)(cap:Array Value)(w:World)
  (h0:w.cell? ⟨b,0,none⟩=some (.int .u32 0)) (h1:w.cell? ⟨b,1,none⟩=some (.int .i32 0))
  (f1:w.frozen? ⟨b,1,none⟩=false) (R:World->Prop)
  (hf:Calls Tryz.prog 397 cap (w.setCell ⟨b,1,none⟩ (.int .i32 1)) fun e w'=>e=.returned (.tuple #[])/\R w'/\w'.cell? ⟨b,0,none⟩=some (.int .u32 0)/\w'.cell? ⟨b,1,none⟩=some (.int .i32 1)/\w'.frozen? ⟨b,0,none⟩=false/\w'.frozen? ⟨b,1,none⟩=false) :
  Calls Tryz.prog 396 #[.pointer (some ⟨b,0,none⟩),.func (.func 397) #[] cap] w fun e w'=>e=.returned (.tuple #[])/\∃ w1,R w1/\w'=(w1.drew.setCell ⟨b,0,none⟩ (.int .u32 1)).setCell ⟨b,1,none⟩ (.int .i32 0):=by
 have hl:=run_call_load (P:=Tryz.prog) Tryz.func418 (by kernel_rfl) (by kernel_rfl) (by kernel_rfl) .u32 (by kernel_rfl) h0
 have hnot:∀ (x:Bool) (w:World),(Op.unary .not (.bool x)).run Tryz.prog w=.ok (.bool (!x)) w:=fun _ _=>rfl
 go_enter Tryz.func396,Tryz.ntmps396
 go_wp2_with (first|(go_at_call 414;refine(slow_any b cap _ h0 h1 f1 R hf).mono ?_;rintro e w' ⟨rfl,hR⟩)|(go_at_call 413;go_in))
 go_end0
 exact⟨rfl,hR⟩
theorem do_done(a:Addr)(d:Int)(hd:¬ d=0)(fv:Value)(w:World)(h0:w.cell? a=some (.int .u32 d)) :
  Calls Tryz.prog 396 #[.pointer (some a),fv] w fun e w'=>e=.returned (.tuple #[])/\w'=w:=by
 have hl:=run_call_load (P:=Tryz.prog) Tryz.func418 (by kernel_rfl) (by kernel_rfl) (by kernel_rfl) .u32 (by kernel_rfl) h0
 have hnot:∀ (x:Bool) (w:World),(Op.unary .not (.bool x)).run Tryz.prog w=.ok (.bool (!x)) w:=fun _ _=>rfl
 have hd':(d != 0)=true:=by simp[hd]
 go_enter Tryz.func396,Tryz.ntmps396
 go_wp2
 go_end0
 exact⟨rfl,rfl⟩
end Go.Proofs.YtmladikgbmcmcaaGreatDoor
