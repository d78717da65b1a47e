/- a part of the proof of TopLines. -/
import Derived.Test.YtmladikgbmcmcaaGreatDoorK38
import Derived.Test.YtmladikgbmcmcaaGreatDoorK25
import Derived.Test.YtmladikgbmcmcaaGreatDoorK35
import Derived.Deep.DeepCutAuto
import Derived.Deep.CutRange
set_option maxHeartbeats 4000000
set_option maxRecDepth 100000
set_option linter.all false
namespace Go.Proofs.YtmladikgbmcmcaaGreatDoor
open Go.RowKit Go.Shelf Go.Dia Go.Maps
theorem EnvG.low{W W':World}{N:Nat}(h:EnvG W)(hb:Below N W W')(hN:18<=N):EnvG W':=by
 have c:∀ g,g<18->W'.cell? ⟨g,0,none⟩=W.cell? ⟨g,0,none⟩:=fun g hg=>hb.cell (p:=⟨g,0,none⟩) (Nat.lt_of_lt_of_le hg hN)
 obtain⟨h1,⟨b2,h2⟩,⟨b3,h3⟩,⟨b4,h4⟩,h5⟩:=h
 exact⟨(c _ (by decide)).trans h1,⟨b2,(c _ (by decide)).trans h2⟩,⟨b3,(c _ (by decide)).trans h3⟩,⟨b4,(c _ (by decide)).trans h4⟩,Nat.le_trans h5 hb.size⟩
def bdOf(t:List Nd):Bd:=(bindsP t).getD (⟨#[]⟩,false)
theorem bindV_of(t:List Nd):bindV (bindsP t)=.agg #[.string (bdOf t).1,.bool (bdOf t).2]:=by
 unfold bdOf;cases bindsP t<;>rfl
theorem bd_list(t:List Nd):(bindsP t).toList=if(bindsP t).isSome=true then[bdOf t] else[]:=by
 unfold bdOf;cases bindsP t<;>rfl
theorem groups_len(l:List Tok):(groupsP l).1.length<=l.length+1:=by
 have hp:=plainT_le l
 unfold groupsP
 split
 ·simp
 ·split
  ·have:=splitT_len (plainT l) dsepB
   simp only;omega
  ·simp
theorem binds_none(w:World)(v:Value)(h:Rd w (treeD []) v):Calls Tryz.prog 15 #[v] w fun e w'=>e=.returned (.tuple #[.agg #[.string ⟨#[]⟩,.bool false],.bool false])/\Below w.heap.size w w':=by
 have HB0:=hid (Zab w (.cells #[.string ⟨#[]⟩,.bool false] 45))
 have KR:Hid (∀ W,Below w.heap.size w W->Calls Tryz.prog 38 #[v] W fun e w'=>e=.returned (.bool false)/\Below W.heap.size W w'):=hid fun W hW=>right_any W [] v (Rd.keep hW _ _ h) (fun n hn=>by simp at hn)
 have HRB:=hid (Blk.new w 45 #[.string ⟨#[]⟩,.bool false])
 obtain⟨A,c,e0,_,_⟩:=Zan h
 simp only[List.length_nil] at e0
 subst e0
 clear h
 go_enter Tryz.func15,Tryz.ntmps15
 go_wp2_with (go_at_call 38;(with_reducible refine(KR.out _ HB0.out).mono ?_);rintro e w1 ⟨rfl,b1⟩;have HB1:=hid (Zaa HB0.out (Nat.le_refl _) b1);have HRB2:=hid (Blk.below HRB.out b1 HRB.out.lt);have f0:=HRB2.out.frozen 0;have f1:=HRB2.out.frozen 1;have r0:=HRB2.out.cell 0;have r1:=HRB2.out.cell 1;clear b1)
 have hz:=(HRB2.out.set 0 (.string ⟨#[]⟩)).set 1 (.bool false)
 have q0:=hz.cell 0
 have q1:=hz.cell 1
 refine bodyPost_ret (v:=.tuple #[.agg #[.string ⟨#[]⟩,.bool false],.bool false]) ?_ rfl ?_
 ·simp at q0 q1
  simp[results,Tryz.results15,go_sem,q0,q1]
 ·refine⟨rfl,?_⟩
  exact(HB1.out.setCell (p:=⟨w.heap.size,0,none⟩) (Nat.le_refl _) _).setCell (p:=⟨w.heap.size,1,none⟩) (Nat.le_refl _) _
theorem binds_all(w:World)(t:List Nd)(v:Value)(h:Rd w (treeD t) v)(hr:t=[]\/rightP t=true):Calls Tryz.prog 15 #[v] w fun e w'=>e=.returned (.tuple #[.agg #[.string (bdOf t).1,.bool (bdOf t).2],.bool (bindsP t).isSome])/\Below w.heap.size w w':=by
 rcases hr with rfl|hr
 ·have e:bdOf []=(⟨#[]⟩,false):=by unfold bdOf;rw[binds_nil];rfl
  rw[e,binds_nil]
  exact binds_none w v h
 ·rw[<-bindV_of]
  exact binds_any w t v h hr
def OwnE(w0 wr:World)(ov:Value)(ow:List Bd):Prop:=(∃ A,ov=.slice A ow.length ow.length/\Rd w0 (envD ow) ov)\/wr.ownsRow w0.heap.size 45 2 ov ow.length (envCells ow)
theorem OwnE.row{w0 wr:World}{ov:Value}{ow:List Bd}(h:OwnE w0 wr ov ow)(hb:Below w0.heap.size w0 wr):EnvRow wr w0.heap.size ov ow:=by
 rcases h with ⟨A,h1,h2⟩|h
 ·exact .inl ⟨A,h1,Rd.keep hb _ _ h2⟩
 ·exact .inr h
theorem OwnE.kept{w0 wr wr':World}{ov:Value}{ow:List Bd}(h:OwnE w0 wr ov ow)(hk:∀ b cs,w0.heap.size<=b->ov.ownBlock=some b->Blk wr b 45 cs->Blk wr' b 45 cs):OwnE w0 wr' ov ow:=by
 rcases h with h|h
 ·exact .inl h
 ·exact .inr (own_blk h fun g cs hg hb=>hk g cs (h.lt g hg).1 hg hb)
structure PInv(w0 wr:World)(rb xb:Nat)(tv ev sv mv ov pv:Value)(ps:List (List Tok))(st:List Stm)(ow mk:List Bd):Prop where
 below:Below w0.heap.size w0 wr
 ne:rb≠xb
 xge:w0.heap.size<=xb
 rblk:Blk wr rb 95 #[.slice none 0 0,.slice none 0 0,.slice none 0 0,.slice none 0 0]
 xblk:Blk wr xb 95 #[tv,sv,ev,mv]
 parts:Rd wr (partsD ps) pv
 stms:OwnS wr w0.heap.size sv st
 make:wr.ownsRow w0.heap.size 45 2 mv mk.length (envCells mk)
 own:OwnE w0 wr ov ow
 apart:∀ g,w0.heap.size<=g->ov.ownBlock=some g->mv.ownBlock≠some g
theorem EnvRow.blt{W:World}{N:Nat}{ov:Value}{ow:List Bd}(h:EnvRow W N ov ow):∀ g,ov.ownBlock=some g->g<W.heap.size:=by
 intro g e
 rcases h with ⟨A,rfl,hr⟩|h
 ·unfold envD Rd at hr
  rcases hr with ⟨e4,_⟩|⟨b,off,n',c',e4,_,⟨cs,h3⟩,_⟩
  ·rw[e4] at e;cases e
  ·rw[e4] at e
   have e5:b=g:=by simpa[Value.ownBlock] using e
   subst e5
   exact h3.lt
 ·exact(h.lt g e).2
theorem partsD_free0(s:TypeId)(h0:32≠s)(h:73≠s)(ps:List (List Tok)):(partsD ps).free s=true:=by
 unfold partsD D.free
 rw[partsD_free s h ps,Bool.and_true]
 simpa using h0
section
variable {w0 W W':World} {rb xb:Nat} {tv ev sv mv ov pv:Value} {ps:List (List Tok)} {st:List Stm} {ow mk:List Bd}
theorem PInv.keep(h:PInv w0 W rb xb tv ev sv mv ov pv ps st ow mk)(hb:Below W.heap.size W W'):PInv w0 W' rb xb tv ev sv mv ov pv ps st ow mk where
 below:=Zaa h.below (Nat.le_refl _) hb
 ne:=h.ne
 xge:=h.xge
 rblk:=Blk.below h.rblk hb h.rblk.lt
 xblk:=Blk.below h.xblk hb h.xblk.lt
 parts:=Rd.keep hb _ _ h.parts
 stms:=h.stms.keep hb
 make:=Zam h.make hb
 own:=h.own.kept fun b cs _ _ hbl=>Blk.below hbl hb hbl.lt
 apart:=h.apart
theorem PInv.grow_own(h:PInv w0 W rb xb tv ev sv mv ov pv ps st ow mk){g n cap:Nat}{ow':List Bd}(hn:ow'.length=n)(q1:W'.ownsRow w0.heap.size 45 2 (.slice (some ⟨g,0,none⟩) n cap) n (envCells ow'))(q2:Grew W w0.heap.size ov g W'):PInv w0 W' rb xb tv ev sv mv (.slice (some ⟨g,0,none⟩) n cap) pv ps st ow' mk where
 below:=h.below.trans q2.below
 ne:=h.ne
 xge:=h.xge
 rblk:=q2.kept _ _ _ h.rblk (by decide)
 xblk:=q2.kept _ _ _ h.xblk (by decide)
 parts:=Rd.kept q2.kept _ _ (partsD_free0 _ (by decide) (by decide) ps) h.parts
 stms:=h.stms.kept (by decide) (by decide) (by decide) (by decide) q2.kept
 make:=q2.row h.make h.apart
 own:=.inr (by rw[hn];exact q1)
 apart:=fun g' hg e=>by
  have e2:g=g':=by simpa[Value.ownBlock] using e
  subst e2
  rcases q2.at_ with ⟨q3,q4⟩|q3
  ·exact h.apart _ q4 q3
  ·intro e3
   have:=(h.make.lt _ e3).2
   omega
theorem PInv.grow_make(h:PInv w0 W rb xb tv ev sv mv ov pv ps st ow mk){g n cap:Nat}{mk':List Bd}(hn:mk'.length=n)(q1:W'.ownsRow w0.heap.size 45 2 (.slice (some ⟨g,0,none⟩) n cap) n (envCells mk'))(q2:Grew W w0.heap.size mv g W'):PInv w0 (W'.setCell ⟨xb,3,none⟩ (.slice (some ⟨g,0,none⟩) n cap)) rb xb tv ev sv (.slice (some ⟨g,0,none⟩) n cap) ov pv ps st ow mk':=by
 have hx:=q2.kept _ _ _ h.xblk (by decide)
 have hks:=Zas hx (j:=3) (.slice (some ⟨g,0,none⟩) n cap)
 refine⟨(h.below.trans q2.below).setCell (p:=⟨xb,3,none⟩) h.xge _,h.ne,h.xge,(q2.kept _ _ _ h.rblk (by decide)).other h.ne _,by have:=hx.set 3 (.slice (some ⟨g,0,none⟩) n cap);simpa using this,Rd.kept hks _ _ (partsD_free0 _ (by decide) (by decide) ps) (Rd.kept q2.kept _ _ (partsD_free0 _ (by decide) (by decide) ps) h.parts),(h.stms.kept (by decide) (by decide) (by decide) (by decide) q2.kept).kept (by decide) (by decide) (by decide) (by decide) hks,?_,?_,?_⟩
 ·rw[hn];exact own_blk q1 fun b cs _ hb=>hks b _ cs hb (by decide)
 ·refine(h.own.kept (wr':=W') fun b cs hN e hb=>q2.other b _ cs hb fun _ e2=>h.apart b hN e e2).kept fun b cs _ _ hb=>hks b _ cs hb (by decide)
 ·intro g' hg e e3
  have e2:g=g':=by simpa[Value.ownBlock] using e3
  subst e2
  rcases q2.at_ with ⟨q3,q4⟩|q3
  ·exact h.apart _ q4 e q3
  ·rcases h.own with ⟨A,rfl,hr⟩|ho
   ·unfold envD Rd at hr
    rcases hr with ⟨e4,_⟩|⟨b,off,n',c',e4,_,⟨cs,h3⟩,_⟩
    ·rw[e4] at e;cases e
    ·rw[e4] at e
     have e5:b=g:=by simpa[Value.ownBlock] using e
     have:=h3.lt
     omega
   ·have:=(ho.lt _ e).2
    omega
theorem PInv.grow_stms(h:PInv w0 W rb xb tv ev sv mv ov pv ps st ow mk){xs news:List Value}{s:Stm}{n:Nat}{B:Option Addr}{cap:Nat}(hn:st.length=n)(h1:W.ownsRow w0.heap.size 35 4 sv n xs)(h2:RdV W (st.flatMap stmD) xs)(h3:RdV W (stmD s) news)(q1:W'.ownsRow w0.heap.size 35 4 (.slice B (n+1) cap) (n+1) (xs++news))(q2:W.grownBy W' sv.ownBlock)(hW:w0.heap.size<=W.heap.size):PInv w0 (W'.setCell ⟨xb,1,none⟩ (.slice B (n+1) cap)) rb xb tv ev (.slice B (n+1) cap) mv ov pv ps (st++[s]) ow mk:=by
 have hk:=Zaz h1 q2
 have hx:=hk _ _ _ h.xblk (by decide)
 have hks:=Zas hx (j:=1) (.slice B (n+1) cap)
 refine⟨((h.below.grown q2 hW fun k hk=>(h1.lt k hk).1)).setCell (p:=⟨xb,1,none⟩) h.xge _,h.ne,h.xge,(hk _ _ _ h.rblk (by decide)).other h.ne _,by have:=hx.set 1 (.slice B (n+1) cap);simpa using this,Rd.kept hks _ _ (partsD_free0 _ (by decide) (by decide) ps) (Rd.kept hk _ _ (partsD_free0 _ (by decide) (by decide) ps) h.parts),⟨xs++news,?_,?_⟩,?_,?_,h.apart⟩
 ·rw[List.length_append,hn];exact own_blk q1 fun b cs _ hb=>hks b _ cs hb (by decide)
 ·have e:(st++[s]).flatMap stmD=st.flatMap stmD++stmD s:=by rw[List.flatMap_append];simp
  have e2:D.freeL 35 (stmD s)=true:=by
   have:=Zba 35 (by decide) (by decide) (by decide) [s]
   simpa using this
  have e3:D.freeL 95 (stmD s)=true:=by
   have:=Zba 95 (by decide) (by decide) (by decide) [s]
   simpa using this
  rw[e]
  refine RdV.append (RdV.kept hks _ _ (Zba _ (by decide) (by decide) (by decide) st) (RdV.kept hk _ _ (Zba _ (by decide) (by decide) (by decide) st) h2)) (RdV.kept hks _ _ e3 (RdV.kept hk _ _ e2 h3))
 ·exact own_blk h.make fun b cs _ hb=>hks b _ cs (hk b _ cs hb (by decide)) (by decide)
 ·exact h.own.kept fun b cs _ _ hb=>hks b _ cs (hk b _ cs hb (by decide)) (by decide)
end
end Go.Proofs.YtmladikgbmcmcaaGreatDoor
namespace Go.Proofs.YtmladikgbmcmcaaGreatDoor
open Go.RowKit Go.Shelf Go.Dia Go.Maps
theorem partsS_cons(n e:Int)(p:List Tok)(ps:List (List Tok))(own:List Bd):partsS n e (p::ps) own=((n,p,(partR e p own).1,(partR e p own).2)::(partsS n e ps (own++(bindsP (partR e p own).1).toList)).1,(bindsP (partR e p own).1).toList++(partsS n e ps (own++(bindsP (partR e p own).1).toList)).2):=rfl
theorem add64_int(w:World)(g j:Nat)(n m:Int)(h:w.cell? ⟨g,j,none⟩=some (.int .i64 n))(hf:w.frozen? ⟨g,j,none⟩=false):Calls Tryz.prog 108 #[.pointer (some ⟨g,j,none⟩),.int .i64 m] w fun e w'=>∃ r u,e=.returned (.int .i64 r)/\w'=w.setCell ⟨g,j,none⟩ (.int .i64 u):=by
 obtain⟨r,hr⟩:∃ r,(Op.intArith .add .i64 n m).run Tryz.prog w=.ok (.int .i64 r) w:=⟨_,by simp[go_sem];rfl⟩
 have hadd:=run_call_add (P:=Tryz.prog) Tryz.func166 (by kernel_rfl) (by kernel_rfl) (by kernel_rfl) .i64 (by kernel_rfl) (x:=n) (y:=m) (s:=r) h hf hr
 clear hr
 go_enter Tryz.func108,Tryz.ntmps108
 go_wp2
 go_ret
 exact⟨r,r,rfl,rfl⟩
theorem groups_sub(l:List Tok):∀ p∈(groupsP l).1,p.length<=l.length/\∀ x∈p,x∈l:=by
 have hp:=plainT_le l
 have hs:∀ x∈plainT l,x∈l:=fun x hx=>(List.mem_filter.1 hx).1
 unfold groupsP
 split
 ·intro p h;simp at h
 ·split
  ·intro p h
   obtain⟨q1,q2⟩:=splitT_sub (plainT l) dsepB p h
   exact⟨Nat.le_trans q1 hp,fun x hx=>hs x (q2 x hx)⟩
  ·intro p h
   simp only[List.mem_singleton] at h
   subst h
   exact⟨hp,hs⟩
theorem dparse_any(w:World)(db:Nat)(lx lv:Value)(cnt n:Int)(env:List Bd)(l:List Tok)(tv ev:Value)(hd:Blk w db 64 #[lx,lv,.int .i64 cnt])(ht:Rd w (tokD l) tv)(hv:Rd w (envD env) ev)(hl:l.length<=1000)(hel:env.length<=92000)(hS:Small l)(hE:EnvG w) :
  Calls Tryz.prog 58 #[.pointer (some ⟨db,0,none⟩),.int .i64 n,tv,ev] w fun e w'=>∃ sv mv,e=.returned (.agg #[tv,sv,ev,mv])/\Rd w' (stmsD (lineP n l env).2.1) sv/\Rd w' (envD (lineP n l env).2.2.2) mv/\(∃ cnt',Blk w' db 64 #[lx,lv,.int .i64 cnt'])/\(∀ b t cs,Blk w b t cs->t≠64->Blk w' b t cs)/\Below db w w':=by
 have KG:=hid fun(W:World) (hW:Below w.heap.size w W)=>groups_any W l tv (Rd.keep hW _ _ ht) (by omega) (hE.keep hW)
 obtain⟨i0,hi,hz0,hz1,hz2⟩:=info_parts infoStm
 have HD:=hid hd
 have HV:=hid hv
 have HE:=hid hE
 obtain⟨A,c,rfl,hc⟩:=Zah ht
 obtain⟨EA,ec,rfl,hec⟩:=env_slice hv
 obtain⟨G,hG⟩:∃ G,groupsP l=G:=⟨_,rfl⟩
 have HG:=hid hG
 rw[hG] at KG
 obtain⟨ps,e⟩:=G
 simp only at KG
 clear hd ht hv hE hG
 obtain⟨el,hel2⟩:∃ el,env.length=el:=⟨_,rfl⟩
 have HEL:=hid hel2
 rw[hel2] at hel hec
 rw[hel2]
 obtain⟨ll,hll⟩:∃ ll,l.length=ll:=⟨_,rfl⟩
 have HLL:=hid hll
 rw[hll] at KG hl hc
 rw[hll]
 have hb0:=(Zab w (.cells #[.slice none 0 0,.slice none 0 0,.slice none 0 0,.slice none 0 0] 95)).alloc (Zab w (.cells #[.slice none 0 0,.slice none 0 0,.slice none 0 0,.slice none 0 0] 95)).size (.cells #[.slice A ll c,.slice none 0 0,.slice EA el ec,.slice none 0 0] 95)
 have HB0:=hid hb0
 have HR0:=hid (Blk.alloc (Blk.new w 95 #[.slice none 0 0,.slice none 0 0,.slice none 0 0,.slice none 0 0]) (.cells #[.slice A ll c,.slice none 0 0,.slice EA el ec,.slice none 0 0] 95))
 have HX0:=hid (Blk.new (w.alloc (.cells #[.slice none 0 0,.slice none 0 0,.slice none 0 0,.slice none 0 0] 95)) 95 #[.slice A ll c,.slice none 0 0,.slice EA el ec,.slice none 0 0])
 rw[World.size_alloc] at HX0
 obtain⟨np,hnp⟩:∃ np,ps.length=np:=⟨_,rfl⟩
 have HNP:=hid hnp
 have HPV:=hid fun(W:World) (v:Value) (h:Rd W (partsD ps) v)=>show ∃ PA pc,v=.slice PA np pc/\np<=pc from by
  obtain⟨PA,pc,e,hp⟩:=parts_val h
  rw[hnp] at e hp
  exact⟨PA,pc,e,hp⟩
 have hnpl:np<=1001:=by
  have h1:=hnp
  have h2:=groups_len l
  rw[HG.out] at h2
  rw[HLL.out] at h2
  simp only at h2
  omega
 have HSM:=hid (show ∀ p∈ps,p.length<=1000/\Small p from fun p hp=>by
  have h1:=groups_sub l
  rw[HG.out] at h1
  obtain⟨q1,q2⟩:=h1 p hp
  rw[HLL.out] at q1
  exact⟨by omega,hS.sub q2⟩)
 clear hb0 hnp
 go_enter Tryz.func58,Tryz.ntmps58
 go_wp2_with (go_at_call 115;(with_reducible refine(KG.out _ HB0.out).mono ?_);rintro e w1 ⟨v',rfl,r1,b1⟩;obtain⟨PA,pc,rfl,hpc⟩:=HPV.out _ _ r1;have HP1:=hid r1;have HB1:=hid (Zaa HB0.out (Nat.le_refl _) b1);have HR1:=hid (Blk.below HR0.out b1 HR0.out.lt);have HX1:=hid (Blk.below HX0.out b1 HX0.out.lt);clear b1 r1)
 have hec1:(el:Int)<=(ec:Int):=by omega
 have hec0:(0:Int)<=(el:Int):=by omega
 go_wp2
 obtain⟨xb,hxb⟩:∃ xb,w.heap.size+1=xb:=⟨_,rfl⟩
 rw[hxb] at HX1 ⊢
 have hxbn:w.heap.size+1=xb:=hxb
 clear hxb
 go_loopg [12,34] np (fun gk ov i wr=>∃ (k:Nat) (st:List Stm) (mk:List Bd) (sv mv:Value),k+gk=np/\i=.int .i64 k/\mk.length<=k/\PInv w wr w.heap.size xb (.slice A ll c) (.slice EA el ec) sv mv ov (.slice PA np pc) ps st (env++mk) mk/\st.length=k/\partsS n e ps env=(st++(partsS n e (ps.drop k) (env++mk)).1,mk++(partsS n e (ps.drop k) (env++mk)).2))
 case atStart=>
  refine⟨0,[],[],.slice none 0 0,.slice none 0 0,by omega,rfl,Nat.le_refl _,⟨HB1.out,by omega,by omega,HR1.out,HX1.out,HP1.out,⟨[],World.ownsRow_nil _ _ _ _,trivial⟩,World.ownsRow_nil _ _ _ _,?_,fun g _ _ h=>by cases h⟩,rfl,?_⟩
  ·rw[List.append_nil]
   exact .inl ⟨EA,by rw[HEL.out],by have:=env_resliced HV.out;rw[HEL.out] at this;exact this⟩
  ·rw[List.append_nil];rfl
 case round=>
  obtain⟨k,st,mk,sv,mv,hkg,rfl,hmk,hI,hst,hpp⟩:=hrel
  have HI:=hid hI
  have HPP:=hid hpp
  have HST:=hid hst
  obtain⟨SA,sc,e2,_⟩:=stms_val hI.stms.rd
  rw[hst] at e2
  subst e2
  obtain⟨ml,hml⟩:∃ ml,mk.length=ml:=⟨_,rfl⟩
  have HML:=hid hml
  obtain⟨MA,mc,e3,_⟩:=Zae hI.make
  rw[hml] at e3 hmk
  subst e3
  have HER:=hid (hI.own.row hI.below)
  obtain⟨on,hon⟩:∃ on,(env++mk).length=on:=⟨_,rfl⟩
  have HON:=hid hon
  have honl:on<=93100:=by rw[<-hon,List.length_append,HEL.out,HML.out];omega
  obtain⟨OA,oc,e4,hoc⟩:=env_slice HER.out.rd
  rw[hon] at e4 hoc
  subst e4
  have hws:=hI.below.size
  clear hI hpp hst hml hon
  by_cases hkn:k<np
  ·have hkps:k<ps.length:=by rw[HNP.out];exact hkn
   obtain⟨b,off,rfl,u,hcu,hru⟩:=parts_get HI.out.parts k hkps
   have HSM2:=hid (HSM.out _ (List.getElem_mem hkps))
   have HDR:=hid (List.drop_eq_getElem_cons hkps)
   obtain⟨A2,c2,rfl,_⟩:=Zah hru
   have HPP2:=hid (And.intro HPP.out HDR.out)
   clear HPP HDR
   generalize ps[k]=pk at *
   obtain⟨pl,hpl2⟩:∃ pl,pk.length=pl:=⟨_,rfl⟩
   rw[hpl2] at hcu hru
   have HRU:=hid hru
   have j1:(0:Int)<=(k:Int):=by omega
   have j2:(k:Int)<(np:Int):=by omega
   obtain⟨R,hR⟩:∃ R,partR e pk (env++mk)=R:=⟨_,rfl⟩
   have HR:=hid hR
   have hb9:=Zab wr (.cells #[.int .i64 n,.slice A2 pl c2,.slice none 0 0,.int .i64 e] 35)
   have HB9:=hid hb9
   have HS9:=hid (Blk.new wr 35 #[.int .i64 n,.slice A2 pl c2,.slice none 0 0,.int .i64 e])
   have KS:=hid (Statement_any (wr.alloc (.cells #[.int .i64 n,.slice A2 pl c2,.slice none 0 0,.int .i64 e] 35)) (env++mk) false (.slice OA on oc) (Rd.keep hb9 _ _ HER.out.rd) (by rw[HON.out];omega) pk (.slice A2 pl c2) (Rd.keep hb9 _ _ hru) (by have:=HSM2.out.1;omega) HSM2.out.2 (HE.out.keep (Zaa HI.out.below (Nat.le_refl _) hb9)))
   have HTV:=hid fun(W:World) (v:Value) (h1:Rd W (treeD R.1) v)=>show ∃ TA tn tc,v=.slice TA tn tc from by
    obtain⟨TA,tc,e,_⟩:=Zan h1
    exact⟨TA,_,tc,e⟩
   clear hb9 hru hpl2
   go_upto_if 43 with fail
   go_cut [34] from 34 to 75 (fun s34 wx=>s34=.int .i64 k/\∃ TA tn tc,Blk wx wr.heap.size 35 #[.int .i64 n,.slice A2 pl c2,.slice TA tn tc,.int .i64 R.2]/\Rd wx (treeD R.1) (.slice TA tn tc)/\(R.1=[]\/rightP R.1=true)/\Below wr.heap.size wr wx)
   case first=>
    by_cases he:e=0
    ·subst he
     have KS:Hid (Calls Tryz.prog 13 #[.slice A2 pl c2,.slice OA on oc,.bool false] (wr.alloc (.cells #[.int .i64 n,.slice A2 pl c2,.slice none 0 0,.int .i64 0] 35)) (PostP (wr.alloc (.cells #[.int .i64 n,.slice A2 pl c2,.slice none 0 0,.int .i64 0] 35)) R)):=hid (by
      have h1:=HR.out
      unfold partR at h1
      rw[if_pos rfl] at h1
      rw[<-h1];exact KS.out)
     go_wp2_with (go_at_call 13;(with_reducible refine KS.out.mono ?_);rintro e0 w2 ⟨v',rfl,r1,r2,b2⟩;obtain⟨TA,tn,tc,rfl⟩:=HTV.out _ _ r1;have HS2:=hid (Blk.below HS9.out b2 HS9.out.lt);have HR2:=hid (And.intro r1 (And.intro r2 (Zaa HB9.out (Nat.le_refl _) b2)));have z2:=HS2.out.frozen 2;have z3:=HS2.out.frozen 3;have k2:=HS2.out.cell 2;have k3:=HS2.out.cell 3;clear r1 r2 b2)
     go_meet
     case rel=>
      refine⟨rfl,TA,tn,tc,?_,?_,HR2.out.2.1,(HR2.out.2.2.setCell (p:=⟨wr.heap.size,2,none⟩) (Nat.le_refl _) _).setCell (p:=⟨wr.heap.size,3,none⟩) (Nat.le_refl _) _⟩
      ·have:=(HS2.out.set 2 (.slice TA tn tc)).set 3 (.int .i64 R.2)
       simpa using this
      ·have hk1:=Zas HS2.out (j:=2) (.slice TA tn tc)
       have hk2:=Zas (HS2.out.set 2 (.slice TA tn tc)) (j:=3) (.int .i64 R.2)
       exact Rd.kept hk2 _ _ (Za4 _ (by decide) (by decide) _) (Rd.kept hk1 _ _ (Za4 _ (by decide) (by decide) _) HR2.out.1)
    ·have heb:(e==0)=false:=by simpa using he
     have hR2:R=([],e):=by
      have h1:=HR.out
      unfold partR at h1
      rw[if_neg he] at h1
      exact h1.symm
     go_wp2
     go_meet
     case rel=>
      rw[hR2]
      exact⟨rfl,none,0,0,HS9.out,.inl ⟨rfl,rfl⟩,.inl rfl,HB9.out⟩
   case rest=>
    obtain⟨rfl,TA,tn,tc,hs1,hs2,hs3,hs4⟩:=hcut
    have HIc:=hid (HI.out.keep hs4)
    have HSc:=hid (And.intro hs1 (And.intro hs2 (Rd.keep hs4 _ _ HRU.out)))
    have KB:=hid (binds_all wc R.1 _ hs2 hs3)
    have k2:=hs1.cell 2
    obtain⟨nm,fl,hbd⟩:∃ nm fl,bdOf R.1=(nm,fl):=⟨_,_,rfl⟩
    have HBL:=hid (bd_list R.1)
    rw[hbd] at KB HBL
    obtain⟨ok,hok⟩:∃ ok,(bindsP R.1).isSome=ok:=⟨_,rfl⟩
    rw[hok] at KB HBL
    obtain⟨bl,hbl⟩:∃ bl,(bindsP R.1).toList=bl:=⟨_,rfl⟩
    have HBL2:=hid hbl
    rw[hbl] at HBL
    clear hbd hok hbl hs1 hs2 hs3
    go_upto_if 58 with (go_at_call 15;(with_reducible refine KB.out.mono ?_);rintro e0 w5 ⟨rfl,b5⟩;have HB5:=hid (Zaa b5 (Nat.le_refl _) (Zab w5 (.cells #[.string nm,.bool fl] 45)));have HBd:=hid (Blk.new w5 45 #[.string nm,.bool fl]);have hs5:=b5.size;clear b5)
    have HI5:=hid (HIc.out.keep HB5.out)
    have HS5:=hid (And.intro (Blk.below HSc.out.1 HB5.out HSc.out.1.lt) (And.intro (Rd.keep HB5.out _ _ HSc.out.2.1) (Rd.keep HB5.out _ _ HSc.out.2.2)))
    have hs4s:=hs4.size
    clear hs4
    go_cut [12,34] from 34 to 75 (fun s12 s34 wy=>s34=.int .i64 k/\∃ mv',PInv w wy w.heap.size xb (.slice A ll c) (.slice EA el ec) (.slice SA k sc) mv' s12 (.slice (some ⟨b,off,none⟩) np pc) ps st (env++(mk++bl)) (mk++bl)/\Blk wy wr.heap.size 35 #[.int .i64 n,.slice A2 pl c2,.slice TA tn tc,.int .i64 R.2]/\Rd wy (treeD R.1) (.slice TA tn tc)/\Rd wy (tokD pk) (.slice A2 pl c2))
    case first=>
     cases ok
     ·rw[if_neg (by simp)] at HBL
      go_wp2
      go_meet
      case rel=>
       rw[HBL.out,List.append_nil]
       exact⟨rfl,_,HI5.out,HS5.out.1,HS5.out.2.1,HS5.out.2.2⟩
     ·rw[if_pos rfl] at HBL
      have y0:=HBd.out.cell 0
      have y1:=HBd.out.cell 1
      have hW5:=HI5.out.below.size
      have HOB:=hid (HI5.out.own.row HI5.out.below)
      generalize hw8:w5.alloc (.cells #[.string nm,.bool fl] 45)=W8 at *
      have hw5s:w5.heap.size<W8.heap.size:=by rw[<-hw8,World.size_alloc];omega
      have hbw:=Zab W8 (.cells #[.string nm,.bool fl] 45)
      have HIa:=hid (HI5.out.keep hbw)
      have HSa:=hid (And.intro (Blk.below HS5.out.1 hbw HS5.out.1.lt) (And.intro (Rd.keep hbw _ _ HS5.out.2.1) (Rd.keep hbw _ _ HS5.out.2.2)))
      have HBa:=hid (Blk.below HBd.out hbw HBd.out.lt)
      have HOa:=hid (HOB.out.keep hbw)
      have hov:=hid (show ∀ g,(Value.slice OA on oc).ownBlock=some g->g<wr.heap.size from HER.out.blt)
      have hmv:=hid (show ∀ g,(Value.slice MA ml mc).ownBlock=some g->g<wr.heap.size from fun g e=>(HI.out.make.lt g e).2)
      clear hbw
      go_wp2_with (first|(at_builtin;refine wpList_append_bd rfl _ _ rfl w.heap.size (.slice OA on oc) (env++mk) on HON.out rfl HOa.out ⟨_,0,none⟩ nm fl rfl (Zaf _ _ _) (by omega) (by simp;omega) ?_;intro g1 cap1 w12 q1 q2;have HIb:=hid (HIa.out.grow_own (ow':=(env++mk)++[(nm,fl)]) (by rw[List.length_append,HON.out];rfl) q1 q2);have HBb:=hid (q2.other _ _ _ HBa.out (fun _ e=>by have:=hov.out _ e;omega));have HSb:=hid (And.intro (q2.kept _ _ _ HSa.out.1 (by decide)) (And.intro (Rd.kept q2.kept _ _ (Za4 _ (by decide) (by decide) _) HSa.out.2.1) (Rd.kept q2.kept _ _ (Zao _ _ (by decide)) HSa.out.2.2)));have y0:=HBb.out.cell 0;have y1:=HBb.out.cell 1;have x3:=HIb.out.xblk.cell 3;have hs12:=HIb.out.below.size;clear q1 q2)|(at_builtin;refine wpList_append_bd rfl _ _ rfl w.heap.size (.slice MA ml mc) mk ml HML.out rfl (.inr (Zam HIb.out.make (Zab w12 (.cells #[.string nm,.bool fl] 45)))) ⟨_,0,none⟩ nm fl rfl (Zaf _ _ _) (by omega) (by simp;omega) ?_;intro g2 cap2 w14 q1 q2;have hX:=hid (q2.kept _ _ _ (Blk.below HIb.out.xblk (Zab w12 (.cells #[.string nm,.bool fl] 45)) HIb.out.xblk.lt) (by decide));have x3:=hX.out.cell 3;have z3:=hX.out.frozen 3;have HId:=hid ((HIb.out.keep (Zab w12 (.cells #[.string nm,.bool fl] 45))).grow_make (mk':=mk++[(nm,fl)]) (by rw[List.length_append,HML.out];rfl) q1 q2);have hks:=Zas hX.out (j:=3) (.slice (some ⟨g2,0,none⟩) (ml+1) cap2);have HSd:=hid (And.intro (hks _ _ _ (q2.kept _ _ _ (Blk.below HSb.out.1 (Zab w12 (.cells #[.string nm,.bool fl] 45)) HSb.out.1.lt) (by decide)) (by decide)) (And.intro (Rd.kept hks _ _ (Za4 _ (by decide) (by decide) _) (Rd.kept q2.kept _ _ (Za4 _ (by decide) (by decide) _) (Rd.keep (Zab w12 (.cells #[.string nm,.bool fl] 45)) _ _ HSb.out.2.1))) (Rd.kept hks _ _ (Zao _ _ (by decide)) (Rd.kept q2.kept _ _ (Zao _ _ (by decide)) (Rd.keep (Zab w12 (.cells #[.string nm,.bool fl] 45)) _ _ HSb.out.2.2)))));clear q1 q2 hks))
      go_meet
      case rel=>
       rw[HBL.out]
       refine⟨rfl,.slice (some ⟨g2,0,none⟩) (ml+1) cap2,?_,HSd.out.1,HSd.out.2.1,HSd.out.2.2⟩
       rw[<-List.append_assoc]
       exact HId.out
    case rest=>
     obtain⟨rfl,mv',hI2,hs5a,hs5b,hs5c⟩:=hcut
     have HIe:=hid hI2
     have HSe:=hid (And.intro hs5a (And.intro hs5b hs5c))
     have x1:=hI2.xblk.cell 1
     have s0:=hs5a.cell 0
     have s1:=hs5a.cell 1
     have s2:=hs5a.cell 2
     have s3:=hs5a.cell 3
     obtain⟨sxs,so1,so2⟩:=hI2.stms
     rw[HST.out] at so1
     have HSO:=hid (And.intro so1 so2)
     have hwes:=hI2.below.size
     clear hI2 hs5a hs5b hs5c so1 so2
     go_wp2_with (at_builtin;refine wpList_append_own _ rfl _ _ 28 rfl w.heap.size 35 i0 (.agg #[.int .i64 0,.slice none 0 0,.slice none 0 0,.int .i64 0]) 4 64 Tryz.underlying28 hi hz0 hz1 hz2 rfl (by decide) _ _ _ rfl (HSO.out.1.alloc _) ⟨_,0,none⟩ 1 1 [.int .i64 n,.slice A2 pl c2,.slice TA tn tc,.int .i64 R.2] rfl rfl (Zaf _ _ _) (by simp[Value.oneCell']) (by unfold maxLen;omega) (by omega) (by simp;omega) ?_;intro v' w15 hown' hgrow _;obtain⟨NA,nc,rfl,_⟩:=Zae hown';have hX:=hid ((Zaz (HSO.out.1.alloc (.cells #[.int .i64 n,.slice A2 pl c2,.slice TA tn tc,.int .i64 R.2] 35)) hgrow) _ _ _ (Blk.below HIe.out.xblk (Zab wc (.cells #[.int .i64 n,.slice A2 pl c2,.slice TA tn tc,.int .i64 R.2] 35)) HIe.out.xblk.lt) (by decide));have x1:=hX.out.cell 1;have z1:=hX.out.frozen 1;have HG2:=hid (And.intro hown' hgrow);clear hown' hgrow)
     have hwc:=HIe.out.keep (Zab wc (.cells #[.int .i64 n,.slice A2 pl c2,.slice TA tn tc,.int .i64 R.2] 35))
     have HIf:=hid (hwc.grow_stms (s:=(n,pk,R.1,R.2)) HST.out (HSO.out.1.alloc _) (RdV.keep (Zab wc _) _ _ HSO.out.2) (show RdV _ _ [.int .i64 n,.slice A2 pl c2,.slice TA tn tc,.int .i64 R.2] from⟨by unfold Rd;rfl,Rd.keep (Zab wc _) _ _ HSe.out.2.2,Rd.keep (Zab wc _) _ _ HSe.out.2.1,by unfold Rd;rfl,trivial⟩) HG2.out.1 HG2.out.2 (by simp;omega))
     clear hwc
     go_roundg (gk - 1)
     case measure=>omega
     case rel=>
      refine⟨k+1,st++[(n,pk,R.1,R.2)],mk++bl,_,_,by omega,rfl,?_,HIf.out,by rw[List.length_append,HST.out];rfl,?_⟩
      ·rw[List.length_append,HML.out,HBL.out];split<;>simp<;>omega
      ·rw[HPP2.out.1,HPP2.out.2]
       rw[partsS_cons,HR.out,HBL2.out]
       simp[List.append_assoc]
  ·obtain rfl:k=np:=by omega
   have HFIN:=hid (show partsS n e ps env=(st,mk) from by
    rw[HPP.out,List.drop_eq_nil_of_le (by rw[HNP.out];exact Nat.le_refl _)]
    unfold partsS;simp)
   have HD2:=hid (Blk.below HD.out HI.out.below HD.out.lt)
   have hdlt:=HD.out.lt
   have KA:=hid (add64_int wr db 2 cnt k (HD2.out.cell 2) (HD2.out.frozen 2))
   have hne1:xb≠db:=by omega
   have hne2:w.heap.size≠db:=by omega
   have HFR:=hid (And.intro HI.out.stms.rd (rd_env HI.out.make))
   clear HPP HER
   go_wp2_with (go_at_call 108;(with_reducible refine KA.out.mono ?_);rintro e0 w7 ⟨r,u,rfl,rfl⟩;have HX7:=hid (HI.out.xblk.other hne1 (j:=2) (.int .i64 u));have HR7:=hid (HI.out.rblk.other hne2 (j:=2) (.int .i64 u));have HD7:=hid (HD2.out.set 2 (.int .i64 u));have x0:=HX7.out.cell 0;have x1:=HX7.out.cell 1;have x2:=HX7.out.cell 2;have x3:=HX7.out.cell 3;have z0:=HR7.out.frozen 0;have z1:=HR7.out.frozen 1;have z2:=HR7.out.frozen 2;have z3:=HR7.out.frozen 3;have y0:=HR7.out.cell 0;have y1:=HR7.out.cell 1;have y2:=HR7.out.cell 2;have y3:=HR7.out.cell 3)
   have B0:=HR7.out
   have B1:=B0.set 0 (.slice A ll c)
   have B2:=B1.set 1 (.slice SA k sc)
   have B3:=B2.set 2 (.slice EA el ec)
   have B4:Blk (((((wr.setCell ⟨db,2,none⟩ (.int .i64 u)).setCell ⟨w.heap.size,0,none⟩ (.slice A ll c)).setCell ⟨w.heap.size,1,none⟩ (.slice SA k sc)).setCell ⟨w.heap.size,2,none⟩ (.slice EA el ec)).setCell ⟨w.heap.size,3,none⟩ (.slice MA ml mc)) w.heap.size 95 #[.slice A ll c,.slice SA k sc,.slice EA el ec,.slice MA ml mc]:=B3.set 3 (.slice MA ml mc)
   have hk0:=Zas HD2.out (j:=2) (.int .i64 u)
   have hk1:=Zas B0 (j:=0) (.slice A ll c)
   have hk2:=Zas B1 (j:=1) (.slice SA k sc)
   have hk3:=Zas B2 (j:=2) (.slice EA el ec)
   have hk4:=Zas B3 (j:=3) (.slice MA ml mc)
   refine bodyPost_ret (results_cell_row rfl _ _ w.heap.size 95 #[.slice A ll c,.slice SA k sc,.slice EA el ec,.slice MA ml mc] (0,0) _ rfl B4 Tryz.underlying95 rfl (by kernel_rfl)) rfl ?_
   have e1:(lineP n l env).2.1=st:=by unfold lineP;rw[HG.out,HFIN.out]
   have e2:(lineP n l env).2.2.2=mk:=by unfold lineP;rw[HG.out,HFIN.out]
   refine⟨.slice SA k sc,.slice MA ml mc,rfl,?_,?_,⟨u,?_⟩,?_,?_⟩
   ·rw[e1]
    have fr:∀ s,35≠s->73≠s->77≠s->3≠s->(stmsD st).free s=true:=fun s a b c d=>stmsD_free s a b c d st
    exact Rd.kept hk4 _ _ (fr _ (by decide) (by decide) (by decide) (by decide)) (Rd.kept hk3 _ _ (fr _ (by decide) (by decide) (by decide) (by decide)) (Rd.kept hk2 _ _ (fr _ (by decide) (by decide) (by decide) (by decide)) (Rd.kept hk1 _ _ (fr _ (by decide) (by decide) (by decide) (by decide)) (Rd.kept hk0 _ _ (fr _ (by decide) (by decide) (by decide) (by decide)) HFR.out.1))))
   ·rw[e2]
    exact Rd.kept hk4 _ _ (Za3 _ (by decide) mk) (Rd.kept hk3 _ _ (Za3 _ (by decide) mk) (Rd.kept hk2 _ _ (Za3 _ (by decide) mk) (Rd.kept hk1 _ _ (Za3 _ (by decide) mk) (Rd.kept hk0 _ _ (Za3 _ (by decide) mk) HFR.out.2))))
   ·exact hk4 _ _ _ (hk3 _ _ _ (hk2 _ _ _ (hk1 _ _ _ HD7.out (by decide)) (by decide)) (by decide)) (by decide)
   ·intro q t cs hq ht
    have hql:=hq.lt
    have hqd:q≠db:=fun e=>by subst e;have:=hq.symm.trans HD.out;simp at this;exact ht this.2
    exact((((( Blk.below hq HI.out.below hql).other hqd _).other (by omega) _).other (by omega) _).other (by omega) _).other (by omega) _
   ·exact(((((HI.out.below.mono (Nat.le_of_lt hdlt)).setCell (p:=⟨db,2,none⟩) (Nat.le_refl _) _).setCell (p:=⟨w.heap.size,0,none⟩) (Nat.le_of_lt hdlt) _).setCell (p:=⟨w.heap.size,1,none⟩) (Nat.le_of_lt hdlt) _).setCell (p:=⟨w.heap.size,2,none⟩) (Nat.le_of_lt hdlt) _).setCell (p:=⟨w.heap.size,3,none⟩) (Nat.le_of_lt hdlt) _
theorem step_append_zero{P:Program}{w:World}{ops:Array Oper}{o:Oper}{a:Act}{K:Act->World->Prop}{Q:Exit->Act->World->Prop}{E:Prop}(hgd:o.guard=none)(s x:Operand)(t:TypeId)
  (ho:o.op=.call { callee:=.builtin .append,args:=#[s,x],argTypes:=#[t,t] }) (e:TypeId) (i:TypeInfo) (ht:P.underlying t=some (.slice e)) (hi:P.info? e=some i)
  (A B:Option Addr) (n c k:Nat) (hs:a.eval s=.slice A n c) (hnc:n<=c) (hx:a.eval x=.slice B 0 k) (h:K (a.put o.dst (.slice A n c)) w) :
  if Region.wanted o (yielded ops a.tmps)=true then Oper.wp P o a w K Q else E:=by
 have hw:Region.wanted o (yielded ops a.tmps)=true:=by simp[Region.wanted,hgd]
 rw[if_pos hw]
 have hsrc:Go.Src P i.size t (.slice B 0 k) 0 [] w:=by
  cases B with
  |none=>exact Go.Src.ofNil w ht k
  |some ad=>exact Go.Src.ofSlice w ht ad 0 k [] (by simp) (fun j u h=>by simp at h) (fun u h=>by simp at h)
 have hr:=Go.run_append_nothing w t t o.type e i ht hi A n c hnc (.slice B 0 k) hsrc
 unfold Oper.wp execOp
 simp only[ho,resolve,invoke,builtin,Sem.run_bind,Sem.run_pure,Result.andThen_ok,List.map_toArray,List.map_cons,List.map_nil,hs,hx,hr]
 exact h
theorem findG_mem(s:ByteArray):∀ (l:List Gl) (g:Gl) (a:ByteArray),findG s l=some (g,a)->g∈l
 |[],g,a,h=>by cases h
 |x::l,g,a,h=>by
  unfold findG at h
  split at h
  ·cases h;exact List.mem_cons_self
  ·exact List.mem_cons_of_mem _ (findG_mem s l g a h)
theorem allG_short:∀ x∈allG,x.1.size<=100:=by decide
theorem firstG_short(s:ByteArray):(firstG s).1.1.size<=100:=by
 unfold firstG
 cases h:findG s allG with
 |none=>decide
 |some p=>
  obtain⟨g,a⟩:=p
  exact allG_short g (findG_mem s _ g a h)
theorem trimLeftB_le(c:UInt8)(l:List UInt8):(Lib.trimLeftB l c).length<=l.length:=(List.dropWhile_suffix _).length_le
theorem digB_le(s:ByteArray)(m n:Nat):(digB s m n).size<=s.size+s.size:=by
 unfold digB
 rw[ByteArray.size_append]
 have h1:=trimLeftB_le 48 (s.extract m (m+n - 1)).data.toList
 have h2:(s.extract m (m+n - 1)).data.toList.length=(s.extract m (m+n - 1)).size:=Array.length_toList
 have h3:(s.extract m (m+n - 1)).size<=s.size:=by rw[ByteArray.size_extract];omega
 have h4:(s.extract (m+n - 1) (m+n)).size<=s.size:=by rw[ByteArray.size_extract];omega
 have h5:(⟨(Lib.trimLeftB (s.extract m (m+n - 1)).data.toList 48).toArray⟩:ByteArray).size=(Lib.trimLeftB (s.extract m (m+n - 1)).data.toList 48).length:=List.size_toArray
 omega
theorem numB_le(s:ByteArray)(m n:Nat):(numB s m n).size<=s.size+s.size+2:=by
 have h:=digB_le s m n
 unfold numB
 split
 ·rw[ByteArray.size_append]
  have:minusB.size=2:=rfl
  omega
 ·omega
theorem lexTok_short(s:ByteArray):(lexTok s).2.2.size<=s.size+s.size+100:=by
 have hb:∀ t∈lexAll s (firstG s).1 (firstG s).2.size,t.2.2.size<=s.size+s.size+100:=by
  intro t ht
  have hg:=firstG_short s
  have h0:noB.size=0:=rfl
  have hz:zeroT.2.2.size=0:=rfl
  unfold lexAll at ht
  simp only[List.mem_cons,List.not_mem_nil,or_false] at ht
  rcases ht with rfl|rfl|rfl|rfl|rfl|rfl|rfl
  ·unfold lexBlank;split <;>(try simp only)<;>omega
  ·unfold lexRemark;split <;>(try simp only)<;>omega
  ·unfold lexText;split <;>(try simp only)<;>omega
  ·unfold lexNumber lexNum
   have:=numB_le s (minusOf (firstG s).1 (firstG s).2.size) (span pDigit (s.extract (minusOf (firstG s).1 (firstG s).2.size) s.size))
   split
   ·omega
   ·split <;>(try simp only)<;>omega
  ·unfold lexName;split
   ·omega
   ·split <;>(try simp only)<;>omega
  ·unfold lexSign;split <;>(try simp only)<;>omega
  ·unfold lexOther;show noB.size<=_;omega
 unfold lexTok
 rcases firstTok_mem (lexAll s (firstG s).1 (firstG s).2.size) with h|h
 ·rw[h];show zeroT.2.2.size<=_;exact Nat.zero_le _
 ·exact hb _ h
theorem lexLine_small(s:ByteArray)(hs:s.size<=100000):Small (lexLine s):=by
 intro x hx
 obtain⟨k,hk,rfl⟩:=List.getElem_of_mem hx
 obtain⟨h1,h2⟩:=(lineF_spec s.size s (Nat.le_refl _)).2 k hk
 have h3:=lexTok_short (restS s k)
 have h4:=restS_le s k
 show(lineF s.size s)[k].2.2.size<=_
 rw[h2]
 omega
end Go.Proofs.YtmladikgbmcmcaaGreatDoor
